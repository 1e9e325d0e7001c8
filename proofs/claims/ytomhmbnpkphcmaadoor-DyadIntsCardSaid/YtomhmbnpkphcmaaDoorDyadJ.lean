/- Walks of layer 3: Sub, Cmp. -/
import Derived.Test.YtomhmbnpkphcmaaDoorDyadI
namespace Go.Proofs.YtomhmbnpkphcmaaDoor
set_option linter.unusedVariables false
open Go.RowKit

def subD (n1 : Nat) (a : D) (n2 : Nat) (b : D) : D × Int := addD n1 a n2 ⟨!b.s, b.n, b.e⟩

set_option maxRecDepth 100000 in
set_option maxHeartbeats 2000000 in
theorem DSub_any (s1 s2 : Bool) (A1 A2 : Option Addr) (N n1 c1 M n2 c2 : Nat) (e1 e2 : Int) (w : World) (hv : Rd 64 w (.slice A1 n1 c1) N n1) (hu : Rd 64 w (.slice A2 n2 c2) M n2) (hG : Gl w) :
    Calls Tryd.prog 19 #[.agg #[.bool s1, .slice A1 n1 c1, .int .i64 e1], .agg #[.bool s2, .slice A2 n2 c2, .int .i64 e2]] w fun e' w' =>
      ∃ x, e' = .returned (.tuple #[x, .int .i64 (subD n1 ⟨s1, N, e1⟩ n2 ⟨s2, M, e2⟩).2]) ∧ DV w.heap.size w' x (subD n1 ⟨s1, N, e1⟩ n2 ⟨s2, M, e2⟩).1 ∧ Below w.heap.size w w' := by
  obtain ⟨W, hW⟩ : ∃ W, W = (((w.alloc (Obj.cells #[Value.bool s1, Value.slice A1 n1 c1, Value.int IntKind.i64 e1] 26)).alloc (Obj.cells #[Value.bool (!s2), Value.slice A2 n2 c2, Value.int IntKind.i64 e2] 26)).alloc
    (Obj.cells #[Value.bool false, Value.slice none 0 0, Value.int IntKind.i64 0] 26)) := ⟨_, rfl⟩
  have hB : Below w.heap.size w W := by rw [hW]; exact below3 ..
  have b2 : Box3 W (w.heap.size + 1 + 1) (.bool false) (.slice none 0 0) (.int .i64 0) := by rw [hW]; exact Box3.new2 ..
  have hWs : W.heap.size = w.heap.size + 3 := by rw [hW]; simp
  have E : Hid (subD n1 ⟨s1, N, e1⟩ n2 ⟨s2, M, e2⟩ = addD n1 ⟨s1, N, e1⟩ n2 ⟨!s2, M, e2⟩) := rfl
  go_enter Tryd.func19, Tryd.ntmps19
  go_wp2_with fail
  rw [← hW]
  refine (DAdd_any s1 (!s2) A1 A2 N n1 c1 M n2 c2 e1 e2 W (hv.below hB) (hu.below hB) (hG.below hB)).mono ?_
  rintro e' w1 ⟨x1, rfl, hV, hb1⟩
  clear hW
  obtain ⟨k3, k4, k5, f1, _⟩ := (b2.keep hb1).cells
  have hBW1 := keep_belowB hB hb1 (Nat.le_refl _)
  generalize addD n1 ⟨s1, N, e1⟩ n2 ⟨!s2, M, e2⟩ = r at *
  obtain ⟨A6, c6, rfl, hV'⟩ := id hV
  have hz5 : w.heap.size + 1 + 1 < W.heap.size := by omega
  clear b2 hB hv hu hG hWs
  go_wp2
  refine bodyPost_ret (v := .tuple #[.agg #[.bool r.1.s, .slice A6 (nd 64 r.1.n) c6, .int .i64 r.1.e], .int .i64 r.2]) (by simp [results, Tryd.results19, go_sem, k3, k4, k5]) rfl ?_
  rw [E.out]
  exact ⟨_, rfl, (hV.setBox hz5 _ _ _).mono (by omega), below_box hBW1 (by omega) _ _ _⟩

def cmpD (n1 : Nat) (a : D) (n2 : Nat) (b : D) : Int × Int :=
  if twoD n1 a.e n2 b.e = 0 then (sgD (sumD (oddD a) ⟨!(oddD b).s, (oddD b).n, (oddD b).e⟩).s (sumD (oddD a) ⟨!(oddD b).s, (oddD b).n, (oddD b).e⟩).n, 0) else (0, twoD n1 a.e n2 b.e)

set_option maxRecDepth 100000 in
set_option maxHeartbeats 2000000 in
theorem DCmp_any (s1 s2 : Bool) (A1 A2 : Option Addr) (N n1 c1 M n2 c2 : Nat) (e1 e2 : Int) (w : World) (hv : Rd 64 w (.slice A1 n1 c1) N n1) (hu : Rd 64 w (.slice A2 n2 c2) M n2) (hG : Gl w) :
    Calls Tryd.prog 18 #[.agg #[.bool s1, .slice A1 n1 c1, .int .i64 e1], .agg #[.bool s2, .slice A2 n2 c2, .int .i64 e2]] w fun e' w' =>
      e' = .returned (.tuple #[.int .i64 (cmpD n1 ⟨s1, N, e1⟩ n2 ⟨s2, M, e2⟩).1, .int .i64 (cmpD n1 ⟨s1, N, e1⟩ n2 ⟨s2, M, e2⟩).2]) ∧ Below w.heap.size w w' := by
  have hl1 := hv.len
  have hl2 := hu.len
  obtain ⟨W, hW⟩ : ∃ W, W = ((w.alloc (Obj.cells #[Value.bool s1, Value.slice A1 n1 c1, Value.int IntKind.i64 e1] 26)).alloc (Obj.cells #[Value.bool s2, Value.slice A2 n2 c2, Value.int IntKind.i64 e2] 26)) := ⟨_, rfl⟩
  have hB : Below w.heap.size w W := by rw [hW]; exact below2 ..
  have b0 : Box3 W w.heap.size (.bool s1) (.slice A1 n1 c1) (.int .i64 e1) := by rw [hW]; exact (Box3.new ..).alloc _
  have b1 : Box3 W (w.heap.size + 1) (.bool s2) (.slice A2 n2 c2) (.int .i64 e2) := by rw [hW]; exact Box3.new1 ..
  have hWs : W.heap.size = w.heap.size + 2 := by rw [hW]; simp
  by_cases hr : twoD n1 e1 n2 e2 = 0
  · obtain ⟨hr1, hr2⟩ := twoD_zero hr
    have hb1' := refD_zero hr1
    have hb2' := refD_zero hr2
    have ho1 := oddD_arg (s := s1) hv.lt hr1
    have ho2 := oddD_arg (s := s2) hu.lt hr2
    have E : Hid (cmpD n1 ⟨s1, N, e1⟩ n2 ⟨s2, M, e2⟩ = (sgD (sumD (oddD ⟨s1, N, e1⟩) ⟨!(oddD ⟨s2, M, e2⟩).s, (oddD ⟨s2, M, e2⟩).n, (oddD ⟨s2, M, e2⟩).e⟩).s (sumD (oddD ⟨s1, N, e1⟩) ⟨!(oddD ⟨s2, M, e2⟩).s, (oddD ⟨s2, M, e2⟩).n, (oddD ⟨s2, M, e2⟩).e⟩).n, 0)) := by show _ = _; unfold cmpD; rw [if_pos hr]
    go_enter Tryd.func18, Tryd.ntmps18
    go_wp2_with fail
    rw [← hW]
    refine (two_any s1 s2 A1 A2 n1 n2 c1 c2 e1 e2 W hl1 hl2).mono ?_
    rintro e' w1 ⟨rfl, hbw⟩
    rw [hr]
    clear hr hW hr1 hr2
    obtain ⟨k0, k1, k2, f0, _⟩ := (b0.keep hbw).cells
    obtain ⟨k3, k4, k5, f1, _⟩ := (b1.keep hbw).cells
    have hBW1 := keep_belowB hB hbw (Nat.le_refl _)
    have b0w := b0.keep hbw
    have hG1 := hG.below hBW1
    have hv1 := hv.below hBW1
    have hu1 := hu.below hBW1
    have hz1 : w.heap.size + 2 ≤ w1.heap.size := by have := hbw.size; omega
    clear hv hu hG b0 b1 hB hWs hbw
    have he1' : -1000000000000 ≤ e1 ∧ e1 ≤ 1000000000000 := by omega
    have he2' : -1000000000000 ≤ e2 ∧ e2 ≤ 1000000000000 := by omega
    obtain ⟨o1, ho1e⟩ : ∃ o, o = oddD ⟨s1, N, e1⟩ := ⟨_, rfl⟩
    obtain ⟨o2, ho2e⟩ : ∃ o, o = oddD ⟨s2, M, e2⟩ := ⟨_, rfl⟩
    rw [← ho1e] at ho1 E
    rw [← ho2e] at ho2 E
    have g1 : -100000000000 ≤ o1.e ∧ o1.e ≤ 100000000000 := by omega
    have g2 : -100000000000 ≤ o2.e ∧ o2.e ≤ 100000000000 := by omega
    have g3 : nd 64 o1.n ≤ 100000000000 := by omega
    have g4 : nd 64 o2.n ≤ 100000000000 := by omega
    have Ho1 := Lib.hid ho1e
    have Ho2 := Lib.hid ho2e
    clear ho1e ho2e hb1' hb2' ho1 ho2 hl1 hl2
    have hsz : w.heap.size ≤ w1.heap.size := by omega
    go_wp2_with fail
    refine (odd_any s2 (.slice A2 n2 c2) M n2 e2 _ hu1 hG1 he2').mono ?_
    rintro e w2 ⟨x2, rfl, hV2, hx1⟩
    rw [← Ho2.out] at hV2
    obtain ⟨A4, c4, rfl, hc4, hcm4, hR4, hF4⟩ := id hV2
    have hB2 := keep_belowB hBW1 hx1 (Nat.le_refl _)
    obtain ⟨k0', k1', k2', f0', _⟩ := (b0w.keep hx1).cells
    have hz2 := hx1.size
    obtain ⟨W3, hW3⟩ : ∃ W3, W3 = w2.alloc (Obj.cells #[Value.bool !o2.s, Value.slice A4 (nd 64 o2.n) c4, Value.int IntKind.i64 o2.e] 26) := ⟨_, rfl⟩
    have hx2 : Below w2.heap.size w2 W3 := by rw [hW3]; exact below1 ..
    have hB3 := keep_belowB hB2 hx2 (Nat.le_refl _)
    obtain ⟨p0, p1, p2, p3, _⟩ := ((b0w.keep hx1).keep hx2).cells
    have by3 : Box3 W3 w2.heap.size (.bool !o2.s) (.slice A4 (nd 64 o2.n) c4) (.int .i64 o2.e) := by rw [hW3]; exact Box3.new ..
    obtain ⟨p4, p5, p6, p7, _⟩ := by3.cells
    have hz3 := hx2.size
    have hv3 := (hv1.below hx1).below hx2
    have hG3 := hG1.below (keep_below hx1 hx2)
    have hR4' := hR4.below hx2
    have hF4' := hF4.below hx2
    go_wp2_with fail
    rw [← hW3]
    clear hW3
    go_region_held3 (fun w' => w'.cell? ⟨w.heap.size, 0, none⟩ = some (.bool s1) ∧ w'.cell? ⟨w.heap.size, 1, none⟩ = some (.slice A1 n1 c1) ∧ w'.cell? ⟨w.heap.size, 2, none⟩ = some (.int .i64 e1) ∧
        w'.cell? ⟨w2.heap.size, 0, none⟩ = some (.bool !o2.s) ∧ w'.cell? ⟨w2.heap.size, 1, none⟩ = some (.slice A4 (nd 64 o2.n) c4) ∧ w'.cell? ⟨w2.heap.size, 2, none⟩ = some (.int .i64 o2.e) ∧ Below w.heap.size w w')
      (first | exact ⟨p0, p1, p2, p4, p5, p6, hB3.drew⟩ | exact ⟨keep_cell hx3 p0, keep_cell hx3 p1, keep_cell hx3 p2, keep_cell hx3 p4, keep_cell hx3 p5, keep_cell hx3 p6, keep_belowB hB3.drew hx3 (Nat.le_refl _)⟩ | ((try go_split_ands); refine ⟨keep_cell hx5 ?_, keep_cell hx5 ?_, keep_cell hx5 ?_, keep_cell hx5 ?_, keep_cell hx5 ?_, keep_cell hx5 ?_, keep_belowB ?_ hx5 (Nat.le_refl _)⟩ <;> assumption) | ((try go_split_ands); refine ⟨keep_cell hx4 ?_, keep_cell hx4 ?_, keep_cell hx4 ?_, keep_cell hx4 ?_, keep_cell hx4 ?_, keep_cell hx4 ?_, keep_belowB ?_ hx4 (Nat.le_refl _)⟩ <;> assumption))
      (first | (go_at_call 36; (with_reducible refine (odd_any s1 (.slice A1 n1 c1) N n1 e1 _ ?_ ?_ he1').mono ?_); exact hv3.drew; exact hG3.below (Below.refl _ _).drew; rintro e w4 ⟨x2, rfl, hV4, hx3⟩; rw [← Ho1.out] at hV4; obtain ⟨A3, c3, rfl, hc3, hcm3, hR3, hF3⟩ := id hV4; have hG4 := (hG3.below (Below.refl _ _).drew).below hx3; have hR5 := (hR4'.drew).below hx3; have hF5 := (hF4'.drew).below hx3; have hz4 := hx3.size) | (go_at_call 35; (with_reducible refine (sum_any w.heap.size o1.s (!o2.s) A3 A4 c3 c4 o1.n o2.n o1.e o2.e _ hG4 hR3 hR5 ?_ ?_ ?_ g1 g2 g3 g4).mono ?_); refine hF3.mono ?_; simp; omega; refine hF5.mono ?_; omega; simp at hz4; omega; rintro e w5 ⟨x4, rfl, hV5, hx4⟩; obtain ⟨A5, c5, rfl, hc5, hcm5, hR6, hF6⟩ := id hV5) | (go_at_call 20; (with_reducible refine (Sign_any (sumD o1 ⟨!o2.s, o2.n, o2.e⟩).s A5 (sumD o1 ⟨!o2.s, o2.n, o2.e⟩).n _ c5 (sumD o1 ⟨!o2.s, o2.n, o2.e⟩).e _ hR6).mono ?_); rintro e w6 ⟨rfl, hx5⟩))
    go_wp2
    go_ret2
    refine ⟨by rw [E.out]; rfl, keep_belowB (keep_belowB (keep_belowB hB3.drew hx3 (Nat.le_refl _)) hx4 (Nat.le_refl _)) hx5 (Nat.le_refl _)⟩
  · have E : Hid (cmpD n1 ⟨s1, N, e1⟩ n2 ⟨s2, M, e2⟩ = (0, twoD n1 e1 n2 e2)) := by show _ = _; unfold cmpD; rw [if_neg hr]
    have hne : (twoD n1 e1 n2 e2 != 0) = true := by simpa using hr
    go_enter Tryd.func18, Tryd.ntmps18
    go_wp2_with fail
    rw [← hW]
    refine (two_any s1 s2 A1 A2 n1 n2 c1 c2 e1 e2 W hl1 hl2).mono ?_
    rintro e1' w1 ⟨rfl, hbw⟩
    generalize twoD n1 e1 n2 e2 = rr at *
    clear hr hW
    have hBW1 := keep_belowB hB hbw (Nat.le_refl _)
    go_wp2
    go_ret2
    exact ⟨by rw [E.out]; rfl, hBW1⟩

end Go.Proofs.YtomhmbnpkphcmaaDoor
