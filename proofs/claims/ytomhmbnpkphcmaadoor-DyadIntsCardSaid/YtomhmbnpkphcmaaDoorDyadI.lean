/- Walks of layer 3: Add, Sub. -/
import Derived.Test.YtomhmbnpkphcmaaDoorDyadH
namespace Go.Proofs.YtomhmbnpkphcmaaDoor
set_option linter.unusedVariables false
open Go.RowKit

/-- what Add answers -/
def addD (n1 : Nat) (a : D) (n2 : Nat) (b : D) : D × Int := if twoD n1 a.e n2 b.e = 0 then ansD (sumD (oddD a) (oddD b)) else (D.zero, twoD n1 a.e n2 b.e)

theorem twoD_zero {n1 n2 : Nat} {e1 e2 : Int} (h : twoD n1 e1 n2 e2 = 0) : refD n1 e1 = 0 ∧ refD n2 e2 = 0 := by
  unfold twoD at h; split at h
  · rename_i h1; exact ⟨h1, h⟩
  · rename_i h1; exact absurd h h1

/-- bounds of a canonical number that came of an argument -/
theorem oddD_arg {s : Bool} {N n : Nat} {e : Int} (hN : N < 2 ^ (64 * n)) (hr : refD n e = 0) :
    (oddD ⟨s, N, e⟩).n < 2 ^ (64 * n) ∧ -40000 ≤ (oddD ⟨s, N, e⟩).e ∧ (oddD ⟨s, N, e⟩).e ≤ 105536 ∧ nd 64 (oddD ⟨s, N, e⟩).n ≤ 1024 := by
  have hb := refD_zero hr
  have h1 := oddD_le ⟨s, N, e⟩
  have h2 : (oddD ⟨s, N, e⟩).n < 2 ^ (64 * n) := Nat.lt_of_le_of_lt h1 hN
  refine ⟨h2, ?_⟩
  have h3 := oddD_e ⟨s, N, e⟩ (64 * n) hN (-40000) 105536 hb.2.1 (by show e + _ ≤ _; omega) (by omega) (by omega)
  exact ⟨h3.1, h3.2, Nat.le_trans (nd_le 64 _ n (by decide) h2) hb.1⟩

set_option maxRecDepth 100000 in
set_option maxHeartbeats 2000000 in
theorem DAdd_any (s1 s2 : Bool) (A1 A2 : Option Addr) (N n1 c1 M n2 c2 : Nat) (e1 e2 : Int) (w : World) (hv : Rd 64 w (.slice A1 n1 c1) N n1) (hu : Rd 64 w (.slice A2 n2 c2) M n2) (hG : Gl w) :
    Calls Tryd.prog 22 #[.agg #[.bool s1, .slice A1 n1 c1, .int .i64 e1], .agg #[.bool s2, .slice A2 n2 c2, .int .i64 e2]] w fun e' w' =>
      ∃ x, e' = .returned (.tuple #[x, .int .i64 (addD n1 ⟨s1, N, e1⟩ n2 ⟨s2, M, e2⟩).2]) ∧ DV w.heap.size w' x (addD n1 ⟨s1, N, e1⟩ n2 ⟨s2, M, e2⟩).1 ∧ Below w.heap.size w w' := by
  have hl1 := hv.len
  have hl2 := hu.len
  obtain ⟨W, hW⟩ : ∃ W, W = (((w.alloc (Obj.cells #[Value.bool s1, Value.slice A1 n1 c1, Value.int IntKind.i64 e1] 26)).alloc (Obj.cells #[Value.bool s2, Value.slice A2 n2 c2, Value.int IntKind.i64 e2] 26)).alloc
    (Obj.cells #[Value.bool false, Value.slice none 0 0, Value.int IntKind.i64 0] 26)) := ⟨_, rfl⟩
  have hB : Below w.heap.size w W := by rw [hW]; exact below3 ..
  have b0 : Box3 W w.heap.size (.bool s1) (.slice A1 n1 c1) (.int .i64 e1) := by rw [hW]; exact ((Box3.new ..).alloc _).alloc _
  have b1 : Box3 W (w.heap.size + 1) (.bool s2) (.slice A2 n2 c2) (.int .i64 e2) := by rw [hW]; exact (Box3.new1 ..).alloc _
  have b2 : Box3 W (w.heap.size + 1 + 1) (.bool false) (.slice none 0 0) (.int .i64 0) := by rw [hW]; exact Box3.new2 ..
  have hWs : W.heap.size = w.heap.size + 3 := by rw [hW]; simp
  by_cases hr : twoD n1 e1 n2 e2 = 0
  · obtain ⟨hr1, hr2⟩ := twoD_zero hr
    have hb1' := refD_zero hr1
    have hb2' := refD_zero hr2
    have ho1 := oddD_arg (s := s1) hv.lt hr1
    have ho2 := oddD_arg (s := s2) hu.lt hr2
    have hse := sumD_e (oddD ⟨s1, N, e1⟩) (oddD ⟨s2, M, e2⟩) (64 * n1 + 64 * n2) 105536 (Nat.lt_of_lt_of_le ho1.1 (Nat.pow_le_pow_right (by decide) (by omega))) (Nat.lt_of_lt_of_le ho2.1 (Nat.pow_le_pow_right (by decide) (by omega))) (by omega) (by omega) (by omega)
    have E : Hid (addD n1 ⟨s1, N, e1⟩ n2 ⟨s2, M, e2⟩ = ansD (sumD (oddD ⟨s1, N, e1⟩) (oddD ⟨s2, M, e2⟩))) := by show _ = _; unfold addD; rw [if_pos hr]
    go_enter Tryd.func22, Tryd.ntmps22
    go_wp2_with fail
    rw [← hW]
    refine (two_any s1 s2 A1 A2 n1 n2 c1 c2 e1 e2 W hl1 hl2).mono ?_
    rintro e' w1 ⟨rfl, hbw⟩
    rw [hr]
    clear hr hW hr1 hr2
    obtain ⟨k0, k1, k2, f0, _⟩ := (b0.keep hbw).cells
    obtain ⟨k3, k4, k5, f1, _⟩ := (b1.keep hbw).cells
    have hBW1 := keep_belowB hB hbw (Nat.le_refl _)
    have b2w := b2.keep hbw
    have hG1 := hG.below hBW1
    have hv1 := hv.below hBW1
    have hu1 := hu.below hBW1
    have hz1 : w.heap.size + 3 ≤ w1.heap.size := by have := hbw.size; omega
    have hle2 : w.heap.size ≤ w.heap.size + 1 + 1 := by omega
    clear hv hu hG b0 b1 b2 hB hWs hbw
    have he1' : -1000000000000 ≤ e1 ∧ e1 ≤ 1000000000000 := by omega
    have he2' : -1000000000000 ≤ e2 ∧ e2 ≤ 1000000000000 := by omega
    obtain ⟨o1, ho1e⟩ : ∃ o, o = oddD ⟨s1, N, e1⟩ := ⟨_, rfl⟩
    obtain ⟨o2, ho2e⟩ : ∃ o, o = oddD ⟨s2, M, e2⟩ := ⟨_, rfl⟩
    rw [← ho1e] at ho1 hse E
    rw [← ho2e] at ho2 hse E
    have g1 : -100000000000 ≤ o1.e ∧ o1.e ≤ 100000000000 := by omega
    have g2 : -100000000000 ≤ o2.e ∧ o2.e ≤ 100000000000 := by omega
    have g3 : nd 64 o1.n ≤ 100000000000 := by omega
    have g4 : nd 64 o2.n ≤ 100000000000 := by omega
    have g5 : -1000000000000 ≤ (sumD o1 o2).e ∧ (sumD o1 o2).e ≤ 1000000000000 := by omega
    have Ho1 := Lib.hid ho1e
    have Ho2 := Lib.hid ho2e
    clear ho1e ho2e hb1' hb2' ho1 ho2 hse hl1 hl2
    have hsz : w.heap.size ≤ w1.heap.size := by omega
    go_wp2_with fail
    go_region_held3 (fun w' => w'.cell? ⟨w.heap.size, 0, none⟩ = some (.bool s1) ∧ w'.cell? ⟨w.heap.size, 1, none⟩ = some (.slice A1 n1 c1) ∧ w'.cell? ⟨w.heap.size, 2, none⟩ = some (.int .i64 e1) ∧
        w'.cell? ⟨w.heap.size + 1, 0, none⟩ = some (.bool s2) ∧ w'.cell? ⟨w.heap.size + 1, 1, none⟩ = some (.slice A2 n2 c2) ∧ w'.cell? ⟨w.heap.size + 1, 2, none⟩ = some (.int .i64 e2) ∧ Below w.heap.size w w')
      (first | exact ⟨k0, k1, k2, k3, k4, k5, hBW1.drew⟩ | exact ⟨keep_cell hx1 k0, keep_cell hx1 k1, keep_cell hx1 k2, keep_cell hx1 k3, keep_cell hx1 k4, keep_cell hx1 k5, keep_belowB hBW1.drew hx1 (Nat.le_refl _)⟩ | ((try go_split_ands); refine ⟨keep_cell hx4 ?_, keep_cell hx4 ?_, keep_cell hx4 ?_, keep_cell hx4 ?_, keep_cell hx4 ?_, keep_cell hx4 ?_, keep_belowB ?_ hx4 (Nat.le_refl _)⟩ <;> assumption) | ((try go_split_ands); refine ⟨keep_cell hx3 ?_, keep_cell hx3 ?_, keep_cell hx3 ?_, keep_cell hx3 ?_, keep_cell hx3 ?_, keep_cell hx3 ?_, keep_belowB ?_ hx3 (Nat.le_refl _)⟩ <;> assumption) | ((try go_split_ands); refine ⟨keep_cell hx2 ?_, keep_cell hx2 ?_, keep_cell hx2 ?_, keep_cell hx2 ?_, keep_cell hx2 ?_, keep_cell hx2 ?_, keep_belowB ?_ hx2 (Nat.le_refl _)⟩ <;> assumption) | ((try go_split_ands); refine ⟨cell_box_other (by omega) ?_, cell_box_other (by omega) ?_, cell_box_other (by omega) ?_, cell_box_other (by omega) ?_, cell_box_other (by omega) ?_, cell_box_other (by omega) ?_, below_box ?_ hle2 _ _ _⟩ <;> assumption))
      (first | (go_at_call 36; (with_reducible refine (odd_any s1 (.slice A1 n1 c1) N n1 e1 _ ?_ ?_ he1').mono ?_); exact hv1.drew; exact hG1.below (Below.refl _ _).drew; rintro e w2 ⟨x2, rfl, hV2, hx1⟩; rw [← Ho1.out] at hV2; obtain ⟨A3, c3, rfl, hc3, hcm3, hR3, hF3⟩ := id hV2; have hu2 := (hu1.drew).below hx1; have hG2 := (hG1.below (Below.refl _ _).drew).below hx1; have b2x := (b2w.keep (Below.refl _ _).drew).keep hx1; have hz2 := hx1.size) | (go_at_call 36; (with_reducible refine (odd_any s2 (.slice A2 n2 c2) M n2 e2 _ hu2 hG2 he2').mono ?_); rintro e w3 ⟨x3, rfl, hV3, hx2⟩; rw [← Ho2.out] at hV3; obtain ⟨A4, c4, rfl, hc4, hcm4, hR4, hF4⟩ := id hV3; have hz3 := hx2.size) | (go_at_call 35; (with_reducible refine (sum_any w.heap.size o1.s o2.s A3 A4 c3 c4 o1.n o2.n o1.e o2.e _ (hG2.below hx2) (hR3.below hx2) hR4 ((hF3.mono hsz).below hx2) ?_ ?_ g1 g2 g3 g4).mono ?_); refine hF4.mono ?_; simp at hz2; omega; simp at hz2; omega; rintro e w4 ⟨x4, rfl, hV4, hx3⟩; obtain ⟨A5, c5, rfl, hc5, hcm5, hR5, hF5⟩ := id hV4; have hz4 := hx3.size) | (go_at_call 37; (with_reducible refine (answer_any (sumD o1 o2).s (.slice A5 (nd 64 (sumD o1 o2).n) c5) (sumD o1 o2).n _ (sumD o1 o2).e _ hR5 ((hG2.below hx2).below hx3) g5).mono ?_); rintro e w5 ⟨x5, rfl, hV5, hx4⟩; obtain ⟨A6, c6, rfl, hc6, hcm6, hR6, hF6⟩ := id hV5; obtain ⟨q1, q2, q3, q4, q5⟩ := (((b2x.keep hx2).keep hx3).keep hx4).cells))
    go_wp2
    have E2 : Hid (addD n1 ⟨s1, N, e1⟩ n2 ⟨s2, M, e2⟩ = ansD ⟨(sumD o1 o2).s, (sumD o1 o2).n, (sumD o1 o2).e⟩) := E.out
    generalize ansD ⟨(sumD o1 o2).s, (sumD o1 o2).n, (sumD o1 o2).e⟩ = r at *
    have hz4 := hx3.size
    simp at hz2 hz3 hz4
    have hz5 : w.heap.size + 1 + 1 < w4.heap.size := by omega
    refine bodyPost_ret (v := .tuple #[.agg #[.bool r.1.s, .slice A6 (nd 64 r.1.n) c6, .int .i64 r.1.e], .int .i64 r.2]) (by simp [results, Tryd.results22, go_sem, q1, q2, q3]) rfl ?_
    rw [E2.out]
    exact ⟨_, rfl, (hV5.setBox hz5 _ _ _).mono (by omega), below_box (keep_belowB (keep_belowB (keep_belowB (keep_belowB hBW1.drew hx1 (Nat.le_refl _)) hx2 (Nat.le_refl _)) hx3 (Nat.le_refl _)) hx4 (Nat.le_refl _)) hle2 _ _ _⟩
  · have E : Hid (addD n1 ⟨s1, N, e1⟩ n2 ⟨s2, M, e2⟩ = (D.zero, twoD n1 e1 n2 e2)) := by show _ = _; unfold addD; rw [if_neg hr]
    have hne : (twoD n1 e1 n2 e2 != 0) = true := by simpa using hr
    go_enter Tryd.func22, Tryd.ntmps22
    go_wp2_with fail
    rw [← hW]
    refine (two_any s1 s2 A1 A2 n1 n2 c1 c2 e1 e2 W hl1 hl2).mono ?_
    rintro e1' w1 ⟨rfl, hbw⟩
    generalize twoD n1 e1 n2 e2 = rr at *
    clear hr hW
    obtain ⟨k3, k4, k5, f1, _⟩ := (b2.keep hbw).cells
    have hBW1 := keep_belowB hB hbw (Nat.le_refl _)
    clear b0 b1 b2 hB hWs hbw
    go_wp2
    refine bodyPost_ret (v := .tuple #[.agg #[.bool false, .slice none 0 0, .int .i64 0], .int .i64 rr]) (by simp [results, Tryd.results22, go_sem, k3, k4, k5]) rfl ?_
    rw [E.out]
    exact ⟨_, rfl, DV.zero, below_box hBW1 (by omega) _ _ _⟩

end Go.Proofs.YtomhmbnpkphcmaaDoor
