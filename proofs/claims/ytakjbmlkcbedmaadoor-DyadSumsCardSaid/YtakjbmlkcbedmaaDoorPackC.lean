/- Packed by program: DyadH DyadI DyadJ Band Words Inv DyadK DyadL LawP LawQ LawA LawB LawR. -/
import Derived.Test.YtakjbmlkcbedmaaDoorPackB
import Derived.Laws.AppendOwnNone
import Derived.Test.YtakjbmlkcbedmaaDoorPackA
import Derived.Deep.RegionHeld3
import Derived.Deep.CutBlock
import Derived.Outline
/- Walks of layer 3: Scale. -/
namespace Go.Proofs.YtakjbmlkcbedmaaDoor
set_option linter.unusedVariables false
open Go.RowKit

/-- n, brought between the bounds beyond which nothing is in range -/
def clampD (n : Int) : Int := max (-422144) (min n 422144)

def scaleD (len : Nat) (d : D) (n : Int) : D × Int := if refD len d.e = 0 then (if (oddD d).n = 0 then (oddD d, 0) else ansD ⟨(oddD d).s, (oddD d).n, (oddD d).e + clampD n⟩) else (D.zero, refD len d.e)

set_option maxRecDepth 100000 in
set_option maxHeartbeats 2000000 in
theorem Scale_any (s : Bool) (A : Option Addr) (N n c : Nat) (e k : Int) (w : World) (hv : Rd 64 w (.slice A n c) N n) (hG : Gl w) (hk : -9223372036854775808 ≤ k ∧ k ≤ 9223372036854775807) :
    Calls Tryd.prog 49 #[.agg #[.bool s, .slice A n c, .int .i64 e], .int .i64 k] w fun e' w' => ∃ x, e' = .returned (.tuple #[x, .int .i64 (scaleD n ⟨s, N, e⟩ k).2]) ∧ DV w.heap.size w' x (scaleD n ⟨s, N, e⟩ k).1 ∧ Below w.heap.size w w' := by
  have hlen := hv.len
  have hB := below2 w (Obj.cells #[Value.bool s, Value.slice A n c, Value.int IntKind.i64 e] 26) (Obj.cells #[Value.bool false, Value.slice none 0 0, Value.int IntKind.i64 0] 26)
  by_cases hr : refD n e = 0
  · have hb := refD_zero hr
    have hoe := oddD_e ⟨s, N, e⟩ (64 * n) hv.lt (-40000) (40000 + 64 * 1024) hb.2.1 (by show e + _ ≤ _; omega) (by omega) (by omega)
    have E : Hid (scaleD n ⟨s, N, e⟩ k = if (oddD ⟨s, N, e⟩).n = 0 then (oddD ⟨s, N, e⟩, 0) else ansD ⟨(oddD ⟨s, N, e⟩).s, (oddD ⟨s, N, e⟩).n, (oddD ⟨s, N, e⟩).e + clampD k⟩) := by show _ = _; unfold scaleD; rw [if_pos hr]
    go_enter Tryd.func49, Tryd.ntmps49
    go_wp2_with fail
    refine (refuses_any s A n c e _ hlen).mono ?_
    rintro e1 w1 ⟨rfl, hb1⟩
    rw [hr]
    clear hr
    obtain ⟨⟨k0, k1, k2⟩, ⟨k3, k4, k5⟩, f0, f1⟩ := two_boxes hb1
    have b2 := (Box3.new1 w (Obj.cells #[Value.bool s, Value.slice A n c, Value.int IntKind.i64 e] 26) (Value.bool false) (Value.slice none 0 0) (Value.int IntKind.i64 0) 26).keep hb1
    have b1 := ((Box3.new w (Value.bool s) (Value.slice A n c) (Value.int IntKind.i64 e) 26).alloc (Obj.cells #[Value.bool false, Value.slice none 0 0, Value.int IntKind.i64 0] 26)).keep hb1
    have hB1 := keep_belowB hB hb1 (Nat.le_refl _)
    have hz := hb1.size
    simp at hz
    go_wp2_with fail
    refine (odd_any s (.slice A n c) N n e w1 (hv.below hB1) (hG.below hB1) (by omega)).mono ?_
    rintro e2 w2 ⟨x2, rfl, hV, hb2⟩
    have hB2 := keep_belowB hB1 hb2 (Nat.le_refl _)
    generalize oddD ⟨s, N, e⟩ = o at *
    obtain ⟨A2, c2, rfl, hc2, hcm2, hR2, hF2⟩ := id hV
    obtain ⟨q0, q1, q2, g0, _⟩ := (b1.keep hb2).cells
    have b2' := b2.keep hb2
    obtain ⟨q3, q4, q5, g1, _⟩ := b2'.cells
    have hz2 := hb2.size
    by_cases hN : o.n = 0
    · have E2 := E.out
      rw [if_pos hN] at E2
      have E3 := Lib.hid E2
      have hn0 : nd 64 o.n = 0 := by rw [hN, nd_zero]
      rw [hn0]
      clear E2 E hN
      go_wp2
      refine bodyPost_ret (v := .tuple #[.agg #[.bool o.s, .slice A2 0 c2, .int .i64 o.e], .int .i64 0]) (by simp [results, Tryd.results49, go_sem, q3, q4, q5]) rfl ?_
      rw [E3.out]
      rw [hn0] at hV
      exact ⟨_, rfl, ((hV.setBox (by omega) _ _ _).setBox (by omega) _ _ _).mono (by omega), below_box (below_box hB2 (Nat.le_refl _) _ _ _) (Nat.le_succ _) _ _ _⟩
    · have E2 := E.out
      rw [if_neg hN] at E2
      have E3 := Lib.hid E2
      have hp := nd_pos 64 o.n hN
      have hzz : (((nd 64 o.n : Nat) : Int) == 0) = false := by rw [beq_eq_false_iff_ne]; omega
      clear E2 E hN
      have hB3 := ((below_box hB2 (Nat.le_refl _) (.bool o.s) (.slice A2 (nd 64 o.n) c2) (.int .i64 o.e)).setCell (p := ⟨w.heap.size, 2, none⟩) (Nat.le_refl _) (.int .i64 (o.e + clampD k)))
      have hV3 := (hV.setBox (g := w.heap.size) (by omega) (.bool o.s) (.slice A2 (nd 64 o.n) c2) (.int .i64 o.e)).setCell (p := ⟨w.heap.size, 2, none⟩) (by show w.heap.size < _; omega) (.int .i64 (o.e + clampD k))
      have b2'' := (((b2'.setOther (p := ⟨w.heap.size, 0, none⟩) (by simp) (.bool o.s)).setOther (p := ⟨w.heap.size, 1, none⟩) (by simp) (.slice A2 (nd 64 o.n) c2)).setOther (p := ⟨w.heap.size, 2, none⟩) (by simp) (.int .i64 o.e)).setOther (p := ⟨w.heap.size, 2, none⟩) (by simp) (.int .i64 (o.e + clampD k))
      unfold clampD at hB3 hV3 b2'' E3
      have b1a := (b1.keep hb2).setAll (.bool o.s) (.slice A2 (nd 64 o.n) c2) (.int .i64 o.e)
      obtain ⟨p0, p1, p2, p3, _⟩ := b1a.cells
      obtain ⟨p4, p5, p6, p7, _⟩ := (b1a.set2 (.int .i64 (o.e + max (-422144) (min k 422144)))).cells
      obtain ⟨A3, c3, he3, hc3, hcm3, hR3, hF3⟩ := id hV3
      obtain ⟨rfl, rfl⟩ : A2 = A3 ∧ c2 = c3 := by injection he3 with he3; simpa using he3
      have hw1 : -9223372036854775808 ≤ o.e + max (-422144) (min k 422144) ∧ o.e + max (-422144) (min k 422144) ≤ 9223372036854775807 := by omega
      have hw2 : -1000000000000 ≤ o.e + max (-422144) (min k 422144) ∧ o.e + max (-422144) (min k 422144) ≤ 1000000000000 := by omega
      have hz3 : w.heap.size + 1 < w2.heap.size := by omega
      have HG := Lib.hid (hG.below hB3)
      have HB3 := Lib.hid hB3
      have HR3 := Lib.hid hR3
      clear he3 hoe hb hV hV3 hb1 hb2 b1 b2 b2' b1a hR2 hF2 hR3 hF3 hB hB1 hB2 hB3 hv hG k0 k1 k2 k3 k4 k5 f0 f1 hz hz2 hp
      go_wp2_with fail
      refine (answer_any o.s (.slice A2 (nd 64 o.n) c2) o.n _ (o.e + max (-422144) (min k 422144)) _ HR3.out HG.out hw2).mono ?_
      rintro e3 w3 ⟨x3, rfl, hV4, hb3⟩
      have hB4 := keep_belowB HB3.out hb3 (Nat.le_refl _)
      obtain ⟨q3', q4', q5', g1', _⟩ := (b2''.keep hb3).cells
      generalize ansD ⟨o.s, o.n, o.e + max (-422144) (min k 422144)⟩ = r at *
      obtain ⟨A4, c4, rfl, hV4'⟩ := id hV4
      go_wp2
      refine bodyPost_ret (v := .tuple #[.agg #[.bool r.1.s, .slice A4 (nd 64 r.1.n) c4, .int .i64 r.1.e], .int .i64 r.2]) (by simp [results, Tryd.results49, go_sem, q3', q4', q5']) rfl ?_
      rw [E3.out]
      exact ⟨_, rfl, (hV4.setBox (by simp; omega) _ _ _).mono (by simp; omega), below_box hB4 (Nat.le_succ _) _ _ _⟩
  · have E : Hid (scaleD n ⟨s, N, e⟩ k = (D.zero, refD n e)) := by show _ = _; unfold scaleD; rw [if_neg hr]
    have hne : (refD n e != 0) = true := by simpa using hr
    go_enter Tryd.func49, Tryd.ntmps49
    go_wp2_with fail
    refine (refuses_any s A n c e _ hlen).mono ?_
    rintro e1 w1 ⟨rfl, hb1⟩
    generalize refD n e = rr at *
    clear hr
    obtain ⟨⟨k0, k1, k2⟩, ⟨k3, k4, k5⟩, f0, f1⟩ := two_boxes hb1
    have hB1 := keep_belowB hB hb1 (Nat.le_refl _)
    go_wp2
    refine bodyPost_ret (v := .tuple #[.agg #[.bool false, .slice none 0 0, .int .i64 0], .int .i64 rr]) (by simp [results, Tryd.results49, go_sem, k3, k4, k5]) rfl ?_
    rw [E.out]
    exact ⟨_, rfl, DV.zero, below_box hB1 (Nat.le_succ _) _ _ _⟩

end Go.Proofs.YtakjbmlkcbedmaaDoor

/- Walks of layer 3: Add, Sub. -/
namespace Go.Proofs.YtakjbmlkcbedmaaDoor
set_option linter.unusedVariables false
open Go.RowKit

/-- what Add answers -/
def addD (n1 : Nat) (a : D) (n2 : Nat) (b : D) : D × Int := if twoD n1 a.e n2 b.e = 0 then ansD (sumD (oddD a) (oddD b)) else (D.zero, twoD n1 a.e n2 b.e)

theorem twoD_zero {n1 n2 : Nat} {e1 e2 : Int} (h : twoD n1 e1 n2 e2 = 0) : refD n1 e1 = 0 ∧ refD n2 e2 = 0 := by
  unfold twoD at h; split at h
  · rename_i h1; exact ⟨h1, h⟩
  · rename_i h1; exact absurd h h1

/-- bounds of a canonical number that came of an argument -/
theorem oddD_arg {s : Bool} {N n : Nat} {e : Int} (hN : N < 2 ^ (64 * n)) (hr : refD n e = 0) :
    (oddD ⟨s, N, e⟩).n < 2 ^ (64 * n) ∧ -40000 ≤ (oddD ⟨s, N, e⟩).e ∧ (oddD ⟨s, N, e⟩).e ≤ 105536 ∧ nd 64 (oddD ⟨s, N, e⟩).n ≤ 1024 := by
  have hb := refD_zero hr
  have h1 := oddD_le ⟨s, N, e⟩
  have h2 : (oddD ⟨s, N, e⟩).n < 2 ^ (64 * n) := Nat.lt_of_le_of_lt h1 hN
  refine ⟨h2, ?_⟩
  have h3 := oddD_e ⟨s, N, e⟩ (64 * n) hN (-40000) 105536 hb.2.1 (by show e + _ ≤ _; omega) (by omega) (by omega)
  exact ⟨h3.1, h3.2, Nat.le_trans (nd_le 64 _ n (by decide) h2) hb.1⟩

set_option maxRecDepth 100000 in
set_option maxHeartbeats 2000000 in
theorem DAdd_any (s1 s2 : Bool) (A1 A2 : Option Addr) (N n1 c1 M n2 c2 : Nat) (e1 e2 : Int) (w : World) (hv : Rd 64 w (.slice A1 n1 c1) N n1) (hu : Rd 64 w (.slice A2 n2 c2) M n2) (hG : Gl w) :
    Calls Tryd.prog 14 #[.agg #[.bool s1, .slice A1 n1 c1, .int .i64 e1], .agg #[.bool s2, .slice A2 n2 c2, .int .i64 e2]] w fun e' w' =>
      ∃ x, e' = .returned (.tuple #[x, .int .i64 (addD n1 ⟨s1, N, e1⟩ n2 ⟨s2, M, e2⟩).2]) ∧ DV w.heap.size w' x (addD n1 ⟨s1, N, e1⟩ n2 ⟨s2, M, e2⟩).1 ∧ Below w.heap.size w w' := by
  have hl1 := hv.len
  have hl2 := hu.len
  obtain ⟨W, hW⟩ : ∃ W, W = (((w.alloc (Obj.cells #[Value.bool s1, Value.slice A1 n1 c1, Value.int IntKind.i64 e1] 26)).alloc (Obj.cells #[Value.bool s2, Value.slice A2 n2 c2, Value.int IntKind.i64 e2] 26)).alloc
    (Obj.cells #[Value.bool false, Value.slice none 0 0, Value.int IntKind.i64 0] 26)) := ⟨_, rfl⟩
  have hB : Below w.heap.size w W := by rw [hW]; exact below3 ..
  have b0 : Box3 W w.heap.size (.bool s1) (.slice A1 n1 c1) (.int .i64 e1) := by rw [hW]; exact ((Box3.new ..).alloc _).alloc _
  have b1 : Box3 W (w.heap.size + 1) (.bool s2) (.slice A2 n2 c2) (.int .i64 e2) := by rw [hW]; exact (Box3.new1 ..).alloc _
  have b2 : Box3 W (w.heap.size + 1 + 1) (.bool false) (.slice none 0 0) (.int .i64 0) := by rw [hW]; exact Box3.new2 ..
  have hWs : W.heap.size = w.heap.size + 3 := by rw [hW]; simp
  by_cases hr : twoD n1 e1 n2 e2 = 0
  · obtain ⟨hr1, hr2⟩ := twoD_zero hr
    have hb1' := refD_zero hr1
    have hb2' := refD_zero hr2
    have ho1 := oddD_arg (s := s1) hv.lt hr1
    have ho2 := oddD_arg (s := s2) hu.lt hr2
    have hse := sumD_e (oddD ⟨s1, N, e1⟩) (oddD ⟨s2, M, e2⟩) (64 * n1 + 64 * n2) 105536 (Nat.lt_of_lt_of_le ho1.1 (Nat.pow_le_pow_right (by decide) (by omega))) (Nat.lt_of_lt_of_le ho2.1 (Nat.pow_le_pow_right (by decide) (by omega))) (by omega) (by omega) (by omega)
    have E : Hid (addD n1 ⟨s1, N, e1⟩ n2 ⟨s2, M, e2⟩ = ansD (sumD (oddD ⟨s1, N, e1⟩) (oddD ⟨s2, M, e2⟩))) := by show _ = _; unfold addD; rw [if_pos hr]
    go_enter Tryd.func14, Tryd.ntmps14
    go_wp2_with fail
    rw [← hW]
    refine (two_any s1 s2 A1 A2 n1 n2 c1 c2 e1 e2 W hl1 hl2).mono ?_
    rintro e' w1 ⟨rfl, hbw⟩
    rw [hr]
    clear hr hW hr1 hr2
    obtain ⟨k0, k1, k2, f0, _⟩ := (b0.keep hbw).cells
    obtain ⟨k3, k4, k5, f1, _⟩ := (b1.keep hbw).cells
    have hBW1 := keep_belowB hB hbw (Nat.le_refl _)
    have b2w := b2.keep hbw
    have hG1 := hG.below hBW1
    have hv1 := hv.below hBW1
    have hu1 := hu.below hBW1
    have hz1 : w.heap.size + 3 ≤ w1.heap.size := by have := hbw.size; omega
    have hle2 : w.heap.size ≤ w.heap.size + 1 + 1 := by omega
    clear hv hu hG b0 b1 b2 hB hWs hbw
    have he1' : -1000000000000 ≤ e1 ∧ e1 ≤ 1000000000000 := by omega
    have he2' : -1000000000000 ≤ e2 ∧ e2 ≤ 1000000000000 := by omega
    obtain ⟨o1, ho1e⟩ : ∃ o, o = oddD ⟨s1, N, e1⟩ := ⟨_, rfl⟩
    obtain ⟨o2, ho2e⟩ : ∃ o, o = oddD ⟨s2, M, e2⟩ := ⟨_, rfl⟩
    rw [← ho1e] at ho1 hse E
    rw [← ho2e] at ho2 hse E
    have g1 : -100000000000 ≤ o1.e ∧ o1.e ≤ 100000000000 := by omega
    have g2 : -100000000000 ≤ o2.e ∧ o2.e ≤ 100000000000 := by omega
    have g3 : nd 64 o1.n ≤ 100000000000 := by omega
    have g4 : nd 64 o2.n ≤ 100000000000 := by omega
    have g5 : -1000000000000 ≤ (sumD o1 o2).e ∧ (sumD o1 o2).e ≤ 1000000000000 := by omega
    have Ho1 := Lib.hid ho1e
    have Ho2 := Lib.hid ho2e
    clear ho1e ho2e hb1' hb2' ho1 ho2 hse hl1 hl2
    have hsz : w.heap.size ≤ w1.heap.size := by omega
    go_wp2_with fail
    go_region_held3 (fun w' => w'.cell? ⟨w.heap.size, 0, none⟩ = some (.bool s1) ∧ w'.cell? ⟨w.heap.size, 1, none⟩ = some (.slice A1 n1 c1) ∧ w'.cell? ⟨w.heap.size, 2, none⟩ = some (.int .i64 e1) ∧
        w'.cell? ⟨w.heap.size + 1, 0, none⟩ = some (.bool s2) ∧ w'.cell? ⟨w.heap.size + 1, 1, none⟩ = some (.slice A2 n2 c2) ∧ w'.cell? ⟨w.heap.size + 1, 2, none⟩ = some (.int .i64 e2) ∧ Below w.heap.size w w')
      (first | exact ⟨k0, k1, k2, k3, k4, k5, hBW1.drew⟩ | exact ⟨keep_cell hx1 k0, keep_cell hx1 k1, keep_cell hx1 k2, keep_cell hx1 k3, keep_cell hx1 k4, keep_cell hx1 k5, keep_belowB hBW1.drew hx1 (Nat.le_refl _)⟩ | ((try go_split_ands); refine ⟨keep_cell hx4 ?_, keep_cell hx4 ?_, keep_cell hx4 ?_, keep_cell hx4 ?_, keep_cell hx4 ?_, keep_cell hx4 ?_, keep_belowB ?_ hx4 (Nat.le_refl _)⟩ <;> assumption) | ((try go_split_ands); refine ⟨keep_cell hx3 ?_, keep_cell hx3 ?_, keep_cell hx3 ?_, keep_cell hx3 ?_, keep_cell hx3 ?_, keep_cell hx3 ?_, keep_belowB ?_ hx3 (Nat.le_refl _)⟩ <;> assumption) | ((try go_split_ands); refine ⟨keep_cell hx2 ?_, keep_cell hx2 ?_, keep_cell hx2 ?_, keep_cell hx2 ?_, keep_cell hx2 ?_, keep_cell hx2 ?_, keep_belowB ?_ hx2 (Nat.le_refl _)⟩ <;> assumption) | ((try go_split_ands); refine ⟨cell_box_other (by omega) ?_, cell_box_other (by omega) ?_, cell_box_other (by omega) ?_, cell_box_other (by omega) ?_, cell_box_other (by omega) ?_, cell_box_other (by omega) ?_, below_box ?_ hle2 _ _ _⟩ <;> assumption))
      (first | (go_at_call 24; (with_reducible refine (odd_any s1 (.slice A1 n1 c1) N n1 e1 _ ?_ ?_ he1').mono ?_); exact hv1.drew; exact hG1.below (Below.refl _ _).drew; rintro e w2 ⟨x2, rfl, hV2, hx1⟩; rw [← Ho1.out] at hV2; obtain ⟨A3, c3, rfl, hc3, hcm3, hR3, hF3⟩ := id hV2; have hu2 := (hu1.drew).below hx1; have hG2 := (hG1.below (Below.refl _ _).drew).below hx1; have b2x := (b2w.keep (Below.refl _ _).drew).keep hx1; have hz2 := hx1.size) | (go_at_call 24; (with_reducible refine (odd_any s2 (.slice A2 n2 c2) M n2 e2 _ hu2 hG2 he2').mono ?_); rintro e w3 ⟨x3, rfl, hV3, hx2⟩; rw [← Ho2.out] at hV3; obtain ⟨A4, c4, rfl, hc4, hcm4, hR4, hF4⟩ := id hV3; have hz3 := hx2.size) | (go_at_call 23; (with_reducible refine (sum_any w.heap.size o1.s o2.s A3 A4 c3 c4 o1.n o2.n o1.e o2.e _ (hG2.below hx2) (hR3.below hx2) hR4 ((hF3.mono hsz).below hx2) ?_ ?_ g1 g2 g3 g4).mono ?_); refine hF4.mono ?_; simp at hz2; omega; simp at hz2; omega; rintro e w4 ⟨x4, rfl, hV4, hx3⟩; obtain ⟨A5, c5, rfl, hc5, hcm5, hR5, hF5⟩ := id hV4; have hz4 := hx3.size) | (go_at_call 25; (with_reducible refine (answer_any (sumD o1 o2).s (.slice A5 (nd 64 (sumD o1 o2).n) c5) (sumD o1 o2).n _ (sumD o1 o2).e _ hR5 ((hG2.below hx2).below hx3) g5).mono ?_); rintro e w5 ⟨x5, rfl, hV5, hx4⟩; obtain ⟨A6, c6, rfl, hc6, hcm6, hR6, hF6⟩ := id hV5; obtain ⟨q1, q2, q3, q4, q5⟩ := (((b2x.keep hx2).keep hx3).keep hx4).cells))
    go_wp2
    have E2 : Hid (addD n1 ⟨s1, N, e1⟩ n2 ⟨s2, M, e2⟩ = ansD ⟨(sumD o1 o2).s, (sumD o1 o2).n, (sumD o1 o2).e⟩) := E.out
    generalize ansD ⟨(sumD o1 o2).s, (sumD o1 o2).n, (sumD o1 o2).e⟩ = r at *
    have hz4 := hx3.size
    simp at hz2 hz3 hz4
    have hz5 : w.heap.size + 1 + 1 < w4.heap.size := by omega
    refine bodyPost_ret (v := .tuple #[.agg #[.bool r.1.s, .slice A6 (nd 64 r.1.n) c6, .int .i64 r.1.e], .int .i64 r.2]) (by simp [results, Tryd.results14, go_sem, q1, q2, q3]) rfl ?_
    rw [E2.out]
    exact ⟨_, rfl, (hV5.setBox hz5 _ _ _).mono (by omega), below_box (keep_belowB (keep_belowB (keep_belowB (keep_belowB hBW1.drew hx1 (Nat.le_refl _)) hx2 (Nat.le_refl _)) hx3 (Nat.le_refl _)) hx4 (Nat.le_refl _)) hle2 _ _ _⟩
  · have E : Hid (addD n1 ⟨s1, N, e1⟩ n2 ⟨s2, M, e2⟩ = (D.zero, twoD n1 e1 n2 e2)) := by show _ = _; unfold addD; rw [if_neg hr]
    have hne : (twoD n1 e1 n2 e2 != 0) = true := by simpa using hr
    go_enter Tryd.func14, Tryd.ntmps14
    go_wp2_with fail
    rw [← hW]
    refine (two_any s1 s2 A1 A2 n1 n2 c1 c2 e1 e2 W hl1 hl2).mono ?_
    rintro e1' w1 ⟨rfl, hbw⟩
    generalize twoD n1 e1 n2 e2 = rr at *
    clear hr hW
    obtain ⟨k3, k4, k5, f1, _⟩ := (b2.keep hbw).cells
    have hBW1 := keep_belowB hB hbw (Nat.le_refl _)
    clear b0 b1 b2 hB hWs hbw
    go_wp2
    refine bodyPost_ret (v := .tuple #[.agg #[.bool false, .slice none 0 0, .int .i64 0], .int .i64 rr]) (by simp [results, Tryd.results14, go_sem, k3, k4, k5]) rfl ?_
    rw [E.out]
    exact ⟨_, rfl, DV.zero, below_box hBW1 (by omega) _ _ _⟩

end Go.Proofs.YtakjbmlkcbedmaaDoor

/- Walks of layer 3: Sub, Cmp. -/
namespace Go.Proofs.YtakjbmlkcbedmaaDoor
set_option linter.unusedVariables false
open Go.RowKit

def subD (n1 : Nat) (a : D) (n2 : Nat) (b : D) : D × Int := addD n1 a n2 ⟨!b.s, b.n, b.e⟩

set_option maxRecDepth 100000 in
set_option maxHeartbeats 2000000 in
theorem DSub_any (s1 s2 : Bool) (A1 A2 : Option Addr) (N n1 c1 M n2 c2 : Nat) (e1 e2 : Int) (w : World) (hv : Rd 64 w (.slice A1 n1 c1) N n1) (hu : Rd 64 w (.slice A2 n2 c2) M n2) (hG : Gl w) :
    Calls Tryd.prog 45 #[.agg #[.bool s1, .slice A1 n1 c1, .int .i64 e1], .agg #[.bool s2, .slice A2 n2 c2, .int .i64 e2]] w fun e' w' =>
      ∃ x, e' = .returned (.tuple #[x, .int .i64 (subD n1 ⟨s1, N, e1⟩ n2 ⟨s2, M, e2⟩).2]) ∧ DV w.heap.size w' x (subD n1 ⟨s1, N, e1⟩ n2 ⟨s2, M, e2⟩).1 ∧ Below w.heap.size w w' := by
  obtain ⟨W, hW⟩ : ∃ W, W = (((w.alloc (Obj.cells #[Value.bool s1, Value.slice A1 n1 c1, Value.int IntKind.i64 e1] 26)).alloc (Obj.cells #[Value.bool (!s2), Value.slice A2 n2 c2, Value.int IntKind.i64 e2] 26)).alloc
    (Obj.cells #[Value.bool false, Value.slice none 0 0, Value.int IntKind.i64 0] 26)) := ⟨_, rfl⟩
  have hB : Below w.heap.size w W := by rw [hW]; exact below3 ..
  have b2 : Box3 W (w.heap.size + 1 + 1) (.bool false) (.slice none 0 0) (.int .i64 0) := by rw [hW]; exact Box3.new2 ..
  have hWs : W.heap.size = w.heap.size + 3 := by rw [hW]; simp
  have E : Hid (subD n1 ⟨s1, N, e1⟩ n2 ⟨s2, M, e2⟩ = addD n1 ⟨s1, N, e1⟩ n2 ⟨!s2, M, e2⟩) := rfl
  go_enter Tryd.func45, Tryd.ntmps45
  go_wp2_with fail
  rw [← hW]
  refine (DAdd_any s1 (!s2) A1 A2 N n1 c1 M n2 c2 e1 e2 W (hv.below hB) (hu.below hB) (hG.below hB)).mono ?_
  rintro e' w1 ⟨x1, rfl, hV, hb1⟩
  clear hW
  obtain ⟨k3, k4, k5, f1, _⟩ := (b2.keep hb1).cells
  have hBW1 := keep_belowB hB hb1 (Nat.le_refl _)
  generalize addD n1 ⟨s1, N, e1⟩ n2 ⟨!s2, M, e2⟩ = r at *
  obtain ⟨A6, c6, rfl, hV'⟩ := id hV
  have hz5 : w.heap.size + 1 + 1 < W.heap.size := by omega
  clear b2 hB hv hu hG hWs
  go_wp2
  refine bodyPost_ret (v := .tuple #[.agg #[.bool r.1.s, .slice A6 (nd 64 r.1.n) c6, .int .i64 r.1.e], .int .i64 r.2]) (by simp [results, Tryd.results45, go_sem, k3, k4, k5]) rfl ?_
  rw [E.out]
  exact ⟨_, rfl, (hV.setBox hz5 _ _ _).mono (by omega), below_box hBW1 (by omega) _ _ _⟩

def cmpD (n1 : Nat) (a : D) (n2 : Nat) (b : D) : Int × Int :=
  if twoD n1 a.e n2 b.e = 0 then (sgD (sumD (oddD a) ⟨!(oddD b).s, (oddD b).n, (oddD b).e⟩).s (sumD (oddD a) ⟨!(oddD b).s, (oddD b).n, (oddD b).e⟩).n, 0) else (0, twoD n1 a.e n2 b.e)

set_option maxRecDepth 100000 in
set_option maxHeartbeats 2000000 in
theorem DCmp_any (s1 s2 : Bool) (A1 A2 : Option Addr) (N n1 c1 M n2 c2 : Nat) (e1 e2 : Int) (w : World) (hv : Rd 64 w (.slice A1 n1 c1) N n1) (hu : Rd 64 w (.slice A2 n2 c2) M n2) (hG : Gl w) :
    Calls Tryd.prog 15 #[.agg #[.bool s1, .slice A1 n1 c1, .int .i64 e1], .agg #[.bool s2, .slice A2 n2 c2, .int .i64 e2]] w fun e' w' =>
      e' = .returned (.tuple #[.int .i64 (cmpD n1 ⟨s1, N, e1⟩ n2 ⟨s2, M, e2⟩).1, .int .i64 (cmpD n1 ⟨s1, N, e1⟩ n2 ⟨s2, M, e2⟩).2]) ∧ Below w.heap.size w w' := by
  have hl1 := hv.len
  have hl2 := hu.len
  obtain ⟨W, hW⟩ : ∃ W, W = ((w.alloc (Obj.cells #[Value.bool s1, Value.slice A1 n1 c1, Value.int IntKind.i64 e1] 26)).alloc (Obj.cells #[Value.bool s2, Value.slice A2 n2 c2, Value.int IntKind.i64 e2] 26)) := ⟨_, rfl⟩
  have hB : Below w.heap.size w W := by rw [hW]; exact below2 ..
  have b0 : Box3 W w.heap.size (.bool s1) (.slice A1 n1 c1) (.int .i64 e1) := by rw [hW]; exact (Box3.new ..).alloc _
  have b1 : Box3 W (w.heap.size + 1) (.bool s2) (.slice A2 n2 c2) (.int .i64 e2) := by rw [hW]; exact Box3.new1 ..
  have hWs : W.heap.size = w.heap.size + 2 := by rw [hW]; simp
  by_cases hr : twoD n1 e1 n2 e2 = 0
  · obtain ⟨hr1, hr2⟩ := twoD_zero hr
    have hb1' := refD_zero hr1
    have hb2' := refD_zero hr2
    have ho1 := oddD_arg (s := s1) hv.lt hr1
    have ho2 := oddD_arg (s := s2) hu.lt hr2
    have E : Hid (cmpD n1 ⟨s1, N, e1⟩ n2 ⟨s2, M, e2⟩ = (sgD (sumD (oddD ⟨s1, N, e1⟩) ⟨!(oddD ⟨s2, M, e2⟩).s, (oddD ⟨s2, M, e2⟩).n, (oddD ⟨s2, M, e2⟩).e⟩).s (sumD (oddD ⟨s1, N, e1⟩) ⟨!(oddD ⟨s2, M, e2⟩).s, (oddD ⟨s2, M, e2⟩).n, (oddD ⟨s2, M, e2⟩).e⟩).n, 0)) := by show _ = _; unfold cmpD; rw [if_pos hr]
    go_enter Tryd.func15, Tryd.ntmps15
    go_wp2_with fail
    rw [← hW]
    refine (two_any s1 s2 A1 A2 n1 n2 c1 c2 e1 e2 W hl1 hl2).mono ?_
    rintro e' w1 ⟨rfl, hbw⟩
    rw [hr]
    clear hr hW hr1 hr2
    obtain ⟨k0, k1, k2, f0, _⟩ := (b0.keep hbw).cells
    obtain ⟨k3, k4, k5, f1, _⟩ := (b1.keep hbw).cells
    have hBW1 := keep_belowB hB hbw (Nat.le_refl _)
    have b0w := b0.keep hbw
    have hG1 := hG.below hBW1
    have hv1 := hv.below hBW1
    have hu1 := hu.below hBW1
    have hz1 : w.heap.size + 2 ≤ w1.heap.size := by have := hbw.size; omega
    clear hv hu hG b0 b1 hB hWs hbw
    have he1' : -1000000000000 ≤ e1 ∧ e1 ≤ 1000000000000 := by omega
    have he2' : -1000000000000 ≤ e2 ∧ e2 ≤ 1000000000000 := by omega
    obtain ⟨o1, ho1e⟩ : ∃ o, o = oddD ⟨s1, N, e1⟩ := ⟨_, rfl⟩
    obtain ⟨o2, ho2e⟩ : ∃ o, o = oddD ⟨s2, M, e2⟩ := ⟨_, rfl⟩
    rw [← ho1e] at ho1 E
    rw [← ho2e] at ho2 E
    have g1 : -100000000000 ≤ o1.e ∧ o1.e ≤ 100000000000 := by omega
    have g2 : -100000000000 ≤ o2.e ∧ o2.e ≤ 100000000000 := by omega
    have g3 : nd 64 o1.n ≤ 100000000000 := by omega
    have g4 : nd 64 o2.n ≤ 100000000000 := by omega
    have Ho1 := Lib.hid ho1e
    have Ho2 := Lib.hid ho2e
    clear ho1e ho2e hb1' hb2' ho1 ho2 hl1 hl2
    have hsz : w.heap.size ≤ w1.heap.size := by omega
    go_wp2_with fail
    refine (odd_any s2 (.slice A2 n2 c2) M n2 e2 _ hu1 hG1 he2').mono ?_
    rintro e w2 ⟨x2, rfl, hV2, hx1⟩
    rw [← Ho2.out] at hV2
    obtain ⟨A4, c4, rfl, hc4, hcm4, hR4, hF4⟩ := id hV2
    have hB2 := keep_belowB hBW1 hx1 (Nat.le_refl _)
    obtain ⟨k0', k1', k2', f0', _⟩ := (b0w.keep hx1).cells
    have hz2 := hx1.size
    obtain ⟨W3, hW3⟩ : ∃ W3, W3 = w2.alloc (Obj.cells #[Value.bool !o2.s, Value.slice A4 (nd 64 o2.n) c4, Value.int IntKind.i64 o2.e] 26) := ⟨_, rfl⟩
    have hx2 : Below w2.heap.size w2 W3 := by rw [hW3]; exact below1 ..
    have hB3 := keep_belowB hB2 hx2 (Nat.le_refl _)
    obtain ⟨p0, p1, p2, p3, _⟩ := ((b0w.keep hx1).keep hx2).cells
    have by3 : Box3 W3 w2.heap.size (.bool !o2.s) (.slice A4 (nd 64 o2.n) c4) (.int .i64 o2.e) := by rw [hW3]; exact Box3.new ..
    obtain ⟨p4, p5, p6, p7, _⟩ := by3.cells
    have hz3 := hx2.size
    have hv3 := (hv1.below hx1).below hx2
    have hG3 := hG1.below (keep_below hx1 hx2)
    have hR4' := hR4.below hx2
    have hF4' := hF4.below hx2
    go_wp2_with fail
    rw [← hW3]
    clear hW3
    go_region_held3 (fun w' => w'.cell? ⟨w.heap.size, 0, none⟩ = some (.bool s1) ∧ w'.cell? ⟨w.heap.size, 1, none⟩ = some (.slice A1 n1 c1) ∧ w'.cell? ⟨w.heap.size, 2, none⟩ = some (.int .i64 e1) ∧
        w'.cell? ⟨w2.heap.size, 0, none⟩ = some (.bool !o2.s) ∧ w'.cell? ⟨w2.heap.size, 1, none⟩ = some (.slice A4 (nd 64 o2.n) c4) ∧ w'.cell? ⟨w2.heap.size, 2, none⟩ = some (.int .i64 o2.e) ∧ Below w.heap.size w w')
      (first | exact ⟨p0, p1, p2, p4, p5, p6, hB3.drew⟩ | exact ⟨keep_cell hx3 p0, keep_cell hx3 p1, keep_cell hx3 p2, keep_cell hx3 p4, keep_cell hx3 p5, keep_cell hx3 p6, keep_belowB hB3.drew hx3 (Nat.le_refl _)⟩ | ((try go_split_ands); refine ⟨keep_cell hx5 ?_, keep_cell hx5 ?_, keep_cell hx5 ?_, keep_cell hx5 ?_, keep_cell hx5 ?_, keep_cell hx5 ?_, keep_belowB ?_ hx5 (Nat.le_refl _)⟩ <;> assumption) | ((try go_split_ands); refine ⟨keep_cell hx4 ?_, keep_cell hx4 ?_, keep_cell hx4 ?_, keep_cell hx4 ?_, keep_cell hx4 ?_, keep_cell hx4 ?_, keep_belowB ?_ hx4 (Nat.le_refl _)⟩ <;> assumption))
      (first | (go_at_call 24; (with_reducible refine (odd_any s1 (.slice A1 n1 c1) N n1 e1 _ ?_ ?_ he1').mono ?_); exact hv3.drew; exact hG3.below (Below.refl _ _).drew; rintro e w4 ⟨x2, rfl, hV4, hx3⟩; rw [← Ho1.out] at hV4; obtain ⟨A3, c3, rfl, hc3, hcm3, hR3, hF3⟩ := id hV4; have hG4 := (hG3.below (Below.refl _ _).drew).below hx3; have hR5 := (hR4'.drew).below hx3; have hF5 := (hF4'.drew).below hx3; have hz4 := hx3.size) | (go_at_call 23; (with_reducible refine (sum_any w.heap.size o1.s (!o2.s) A3 A4 c3 c4 o1.n o2.n o1.e o2.e _ hG4 hR3 hR5 ?_ ?_ ?_ g1 g2 g3 g4).mono ?_); refine hF3.mono ?_; simp; omega; refine hF5.mono ?_; omega; simp at hz4; omega; rintro e w5 ⟨x4, rfl, hV5, hx4⟩; obtain ⟨A5, c5, rfl, hc5, hcm5, hR6, hF6⟩ := id hV5) | (go_at_call 16; (with_reducible refine (Sign_any (sumD o1 ⟨!o2.s, o2.n, o2.e⟩).s A5 (sumD o1 ⟨!o2.s, o2.n, o2.e⟩).n _ c5 (sumD o1 ⟨!o2.s, o2.n, o2.e⟩).e _ hR6).mono ?_); rintro e w6 ⟨rfl, hx5⟩))
    go_wp2
    go_ret2
    refine ⟨by rw [E.out]; rfl, keep_belowB (keep_belowB (keep_belowB hB3.drew hx3 (Nat.le_refl _)) hx4 (Nat.le_refl _)) hx5 (Nat.le_refl _)⟩
  · have E : Hid (cmpD n1 ⟨s1, N, e1⟩ n2 ⟨s2, M, e2⟩ = (0, twoD n1 e1 n2 e2)) := by show _ = _; unfold cmpD; rw [if_neg hr]
    have hne : (twoD n1 e1 n2 e2 != 0) = true := by simpa using hr
    go_enter Tryd.func15, Tryd.ntmps15
    go_wp2_with fail
    rw [← hW]
    refine (two_any s1 s2 A1 A2 n1 n2 c1 c2 e1 e2 W hl1 hl2).mono ?_
    rintro e1' w1 ⟨rfl, hbw⟩
    generalize twoD n1 e1 n2 e2 = rr at *
    clear hr hW
    have hBW1 := keep_belowB hB hbw (Nat.le_refl _)
    go_wp2
    go_ret2
    exact ⟨by rw [E.out]; rfl, hBW1⟩

end Go.Proofs.YtakjbmlkcbedmaaDoor

/- What stays of a band of memory: for orders that are drawn: boxes laid early or late, calls between. -/
namespace Go.Proofs.YtakjbmlkcbedmaaDoor
set_option linter.unusedVariables false
open Go.RowKit

/-- the blocks from B up to E are as they were -/
def Band (B E : Nat) (w w' : World) : Prop := E ≤ w'.heap.size ∧ ∀ k, B ≤ k → k < E → w'.heap[k]? = w.heap[k]?

theorem Band.refl (B : Nat) (w : World) : Band B w.heap.size w w := ⟨Nat.le_refl _, fun _ _ _ => rfl⟩
theorem Band.set {B E : Nat} {w w' : World} (h : Band B E w w') {g : Nat} (hg : g < B ∨ E ≤ g) (j : Nat) (v : Value) : Band B E w (w'.setCell ⟨g, j, none⟩ v) :=
  ⟨by have := h.1; simpa using this, fun k h1 h2 => (Below.heap_setCell w' ⟨g, j, none⟩ v k (by show k ≠ g; omega)).trans (h.2 k h1 h2)⟩
theorem Band.alloc {B E : Nat} {w w' : World} (h : Band B E w w') (o : Obj) : Band B E w (w'.alloc o) :=
  ⟨by have := h.1; simp; omega, fun k h1 h2 => ((below1 w' o).block k (by have := h.1; omega)).trans (h.2 k h1 h2)⟩
theorem Band.below {B E : Nat} {w w' w'' : World} (h : Band B E w w') (hb : Below w'.heap.size w' w'') : Band B E w w'' :=
  ⟨Nat.le_trans h.1 hb.size, fun k h1 h2 => (hb.block k (by have := h.1; omega)).trans (h.2 k h1 h2)⟩
theorem Band.drew {B E : Nat} {w w' : World} (h : Band B E w w') (n : Nat) : Band B E w (w'.drewN n) := ⟨h.1, h.2⟩

theorem DV.band {B : Nat} {w w' : World} {x : Value} {d : D} (h : DV B w x d) (hb : Band B w.heap.size w w') : DV B w' x d := by
  obtain ⟨A, c, rfl, h1, h2, h3, h4⟩ := h
  obtain ⟨A', n', c', e, hn', h5⟩ := h4
  injection e with ea en ec
  subst ea en ec
  rcases h5 with h5 | ⟨b, arr, e', hB, hh, hc⟩
  · subst h5
    have hz : nd 64 d.n = 0 := by omega
    refine ⟨A, 0, rfl, h1, h2, ?_, ⟨A, _, 0, rfl, hn', Or.inl rfl⟩⟩
    obtain ⟨A2, c2, e2, g1, g2, g3, g4⟩ := h3
    exact ⟨A2, c2, e2, g1, g2, g3, fun h => by omega⟩
  · have hlt := lt_size_of_some hh
    have hk := hb.2 b hB hlt
    refine ⟨A, c, rfl, h1, h2, ?_, ⟨A, _, c, rfl, hn', Or.inr ⟨b, arr, e', hB, hk.trans hh, hc⟩⟩⟩
    obtain ⟨A2, c2, e2, g1, g2, g3, g4⟩ := h3
    refine ⟨A2, c2, e2, g1, g2, g3, fun hn => ?_⟩
    obtain ⟨b2, o2, e3, hlt2, hc2⟩ := g4 hn
    injection e2 with e2a e2b e2c
    have hbb : b2 = b := by
      rw [e2a.symm, e'] at e3
      injection e3 with e3
      injection e3 with e3
      exact e3.symm
    subst hbb
    refine ⟨b2, o2, e3, by have := hb.1; omega, fun j hj => ?_⟩
    have hcell := hc2 j hj
    unfold World.cell? at hcell ⊢
    rw [hk]
    exact hcell

/-- a box in a band -/
theorem Box3.band {B : Nat} {w w' : World} {g : Nat} {a b c : Value} (h : Box3 w g a b c) (hb : Band B w.heap.size w w') (hg : B ≤ g) : Box3 w' g a b c := by
  obtain ⟨t, h⟩ := h
  exact ⟨t, (hb.2 g hg (lt_size_of_some h)).trans h⟩

end Go.Proofs.YtakjbmlkcbedmaaDoor

/- A row of words of the call's own, that append makes and grows. -/
namespace Go.Proofs.YtakjbmlkcbedmaaDoor
set_option linter.unusedVariables false
open Go.RowKit

/-- N's digits, M's behind them -/
theorem dg_cat (k N M n j : Nat) (hN : N < 2 ^ (k * n)) : dg k (N + M * 2 ^ (k * n)) j = if j < n then dg k N j else dg k M (j - n) := by
  split
  · rename_i h
    refine dg_of_mod k _ _ j n ?_ h
    rw [Nat.add_mul_mod_self_right]
  · rename_i h
    have h1 : dg k (N + M * 2 ^ (k * n)) j = dg k (M * 2 ^ (k * n)) j := by
      refine dg_of_div k _ _ j n ?_ (by omega)
      rw [Nat.add_mul_div_right _ _ (pow_pos2 _), Nat.mul_div_cancel _ (pow_pos2 _), Nat.div_eq_of_lt hN, Nat.zero_add]
    rw [h1]
    have h2 := dg_shift k M n (j - n)
    rwa [show n + (j - n) = j from by omega] at h2

theorem cat_lt (k N M n m : Nat) (hN : N < 2 ^ (k * n)) (hM : M < 2 ^ (k * m)) : N + M * 2 ^ (k * n) < 2 ^ (k * (n + m)) := by
  rw [Nat.mul_add, Nat.pow_add]
  have : N + M * 2 ^ (k * n) < (M + 1) * 2 ^ (k * n) := by rw [Nat.add_mul, Nat.one_mul]; omega
  have h2 := Nat.mul_le_mul_right (2 ^ (k * n)) (show M + 1 ≤ 2 ^ (k * m) from hM)
  rw [Nat.mul_comm (2 ^ (k * n))]
  omega

/-- the words of N -/
def wds (k N n : Nat) : List Value := (List.range n).map fun j => Value.int .u64 (dg k N j)

theorem wds_get {k N n j : Nat} (hj : j < n) : (wds k N n)[j]? = some (.int .u64 (dg k N j)) := by unfold wds; simp [hj]
theorem wds_len {k N n : Nat} : (wds k N n).length = n := by unfold wds; simp
theorem wds_some {k N n j : Nat} {u : Value} (h : (wds k N n)[j]? = some u) : j < n ∧ u = .int .u64 (dg k N j) := by
  have hj : j < n := by
    rcases Nat.lt_or_ge j n with h' | h'
    · exact h'
    · rw [List.getElem?_eq_none (by rw [wds_len]; exact h')] at h; cases h
  rw [wds_get hj] at h
  injection h with h
  exact ⟨hj, h.symm⟩
theorem wds_cat (k N M n m : Nat) (hN : N < 2 ^ (k * n)) : wds k N n ++ wds k M m = wds k (N + M * 2 ^ (k * n)) (n + m) := by
  refine List.ext_getElem (by simp [wds_len]) fun i h1 h2 => ?_
  have hi : i < n + m := by simpa [wds_len] using h2
  have : (wds k N n ++ wds k M m)[i]? = (wds k (N + M * 2 ^ (k * n)) (n + m))[i]? := by
    rw [wds_get hi, dg_cat k N M n i hN]
    by_cases h : i < n
    · rw [List.getElem?_append_left (by rw [wds_len]; exact h), wds_get h, if_pos h]
    · rw [List.getElem?_append_right (by rw [wds_len]; omega), wds_len, wds_get (by omega), if_neg h]
  rw [List.getElem?_eq_getElem h1, List.getElem?_eq_getElem h2] at this
  injection this

/-- v is a row of the call's own (from block B on): n words that read as N; spare room, as much as the tape said. -/
def Row (k B : Nat) (w : World) (v : Value) (N n : Nat) : Prop := w.ownsRow B 42 1 v n (wds k N n) ∧ N < 2 ^ (k * n)

section
variable {k B : Nat} {w w' : World} {v : Value} {N n : Nat}

theorem Row.form (h : Row k B w v N n) : ∃ A c, v = .slice A n c ∧ n ≤ c ∧ (A = none ∧ c = 0 ∨ ∃ g cur, A = some ⟨g, 0, none⟩ ∧ B ≤ g ∧ w.heap[g]? = some (Obj.cells cur 42 (0, 0)) ∧ cur.size = c ∧ ∀ j, j < n → cur[j]? = some (.int .u64 (dg k N j))) := by
  rcases h.1.2 with ⟨rfl, rfl⟩ | ⟨g, cap, cur, rfl, hb, hg, hn, hm, hs, ht⟩
  · exact ⟨none, 0, rfl, Nat.le_refl _, Or.inl ⟨rfl, rfl⟩⟩
  · refine ⟨_, cap, rfl, hn, Or.inr ⟨g, cur, rfl, hb, hg, by omega, fun j hj => ?_⟩⟩
    have h2 := wds_get (k := k) (N := N) hj
    rw [← ht, List.getElem?_take] at h2
    split at h2
    · simpa using h2
    · cases h2

theorem Row.rd (h : Row k B w v N n) (hn : n ≤ 35184372088832) : Rd k w v N n := by
  obtain ⟨A, c, rfl, hc, hA⟩ := h.form
  refine ⟨A, c, rfl, hc, hn, h.2, fun h0 => ?_⟩
  rcases hA with ⟨_, rfl⟩ | ⟨g, cur, rfl, hb, hg, hs, hd⟩
  · omega
  · refine ⟨g, 0, rfl, lt_size_of_some hg, fun j hj => ?_⟩
    unfold World.cell?
    simp only [hg, Nat.zero_add]
    exact hd j hj

theorem Row.fr (h : Row k B w v N n) : Fr B w v := by
  obtain ⟨A, c, rfl, hc, hA⟩ := h.form
  refine ⟨A, n, c, rfl, hc, ?_⟩
  rcases hA with ⟨_, rfl⟩ | ⟨g, cur, rfl, hb, hg, hs, hd⟩
  · exact Or.inl rfl
  · exact Or.inr ⟨g, cur, rfl, hb, hg, by omega⟩

theorem Row.heap (h : Row k B w v N n) (hb : ∀ (g : Nat) (cur : Array Value), w.heap[g]? = some (Obj.cells cur 42 (0, 0)) → w'.heap[g]? = w.heap[g]?) : Row k B w' v N n := by
  refine ⟨⟨h.1.1, ?_⟩, h.2⟩
  rcases h.1.2 with h1 | ⟨g, cap, cur, rfl, hb', hg, rest⟩
  · exact Or.inl h1
  · exact Or.inr ⟨g, cap, cur, rfl, hb', (hb g cur hg).trans hg, rest⟩

theorem Row.below (h : Row k B w v N n) (hb : Below w.heap.size w w') : Row k B w' v N n := h.heap fun g cur hg => hb.block g (lt_size_of_some hg)

theorem Row.alloc (h : Row k B w v N n) (o : Obj) : Row k B (w.alloc o) v N n := h.below ((Below.refl _ _).alloc (Nat.le_refl _) o)

theorem Row.mono {B' : Nat} (h : Row k B w v N n) (hB : B' ≤ B) : Row k B' w v N n := by
  refine ⟨⟨h.1.1, ?_⟩, h.2⟩
  rcases h.1.2 with h1 | ⟨g, cap, cur, rfl, hb, rest⟩
  · exact Or.inl h1
  · exact Or.inr ⟨g, cap, cur, rfl, Nat.le_trans hB hb, rest⟩

theorem Row.nil : Row k B w (.slice none 0 0) 0 0 := ⟨World.ownsRow_nil w B _ 1, by simp⟩

/-- '[]uint64{}' -/
theorem Row.empty (hB : B ≤ w.heap.size) : Row k B (w.alloc (Obj.cells #[] 42)) (.slice (some ⟨w.heap.size, 0, none⟩) 0 0) 0 0 :=
  ⟨⟨rfl, Or.inr ⟨w.heap.size, 0, #[], rfl, hB, heap_alloc_at w _, Nat.le_refl _, Nat.zero_le _, rfl, rfl⟩⟩, by simp⟩

/-- 'make([]uint64, 0, c)' -/
theorem Row.make0 (hB : B ≤ w.heap.size) (c : Nat) (hc : c ≤ maxLen) : Row k B (w.alloc (Obj.cells (madeCells #[.int .u64 0] c) 42)) (.slice (some ⟨w.heap.size, 0, none⟩) 0 c) 0 0 :=
  ⟨⟨rfl, Or.inr ⟨w.heap.size, c, _, rfl, hB, heap_alloc_at w _, Nat.zero_le _, hc, by rw [size_madeCells]; simp, rfl⟩⟩, by simp⟩

theorem Row.own (h : Row k B w v N n) : ∀ g, v.ownBlock = some g → B ≤ g := fun g hg => (h.1.lt g hg).1

/-- behind an append to this row: what lies below B stays -/
theorem Row.grown {a w2 : World} (h : Row k B w v N n) (hg : w.grownBy w2 v.ownBlock) (hb : Below B a w) (hB : B ≤ w.heap.size) : Below B a w2 := hb.grown hg hB h.own

end

set_option maxRecDepth 100000 in
set_option maxHeartbeats 1000000 in
/-- 'append(v, x...)': words -/
theorem wp_append_words {o : Oper} {a : Act} {w : World} {K : Act → World → Prop} {Q : Exit → Act → World → Prop} (s x : Operand) (ho : o.op = .call { callee := .builtin .append, args := #[s, x], argTypes := #[24, 24] })
    {k B : Nat} {v : Value} {N n : Nat} (hs : a.eval s = v) (hown : Row k B w v N n) {A : Option Addr} {m c M : Nat} (hx : a.eval x = .slice A m c) (hsrc : Rd k w (.slice A m c) M m) (hA : A = none → c = 0)
    (hle : n + m ≤ 17592186044416) (hB : B ≤ w.heap.size)
    (h : ∀ v' w', Row k B w' v' (N + M * 2 ^ (k * n)) (n + m) → w.grownBy w' v.ownBlock → K (a.put o.dst v') w') : o.wp Tryd.prog a w K Q := by
  obtain ⟨i0, hi, hz0, hz1, hz2⟩ := info_parts info_word
  cases hA' : A with
  | none =>
    subst hA'
    obtain rfl := hA rfl
    obtain ⟨_, h2, _, _⟩ := hsrc.at_
    obtain rfl : m = 0 := by omega
    have hM : M = 0 := hsrc.zero_of
    subst hM
    have hrun := run_append_owned_none (P := Tryd.prog) (w := w) B 24 o.type 42 i0 1 Tryd.underlying24 hi v n _ hown.1
    unfold Oper.wp
    simp [execOp, ho, resolve, invoke, builtin, hs, hx, hrun, Result.andThen]
    have := h v w (by simpa using hown) ⟨rfl, rfl, rfl, Nat.le_refl _, fun _ _ _ => rfl⟩
    exact this
  | some ad =>
    subst hA'
    obtain ⟨_, h2, _, hr⟩ := hsrc.at_
    refine wp_append_own w s x 24 ho B 42 i0 (.int .u64 0) 1 8 Tryd.underlying24 hi hz0 hz1 hz2 rfl (by decide) v n _ hs hown.1 ad m c (wds k M m) hx (by rw [wds_len]; omega) ?_ ?_ (by simp only [maxLen]; omega) (by omega) hB ?_
    · intro j u hj
      obtain ⟨hj', rfl⟩ := wds_some hj
      obtain ⟨b, o', e, hb, hc⟩ := hr (by omega)
      injection e with e
      subst e
      have := hc j hj'
      unfold Addr.add
      split
      · rename_i h0; subst h0; simpa using this
      · simpa using this
    · intro u hu
      unfold wds at hu
      simp at hu
      obtain ⟨j, _, rfl⟩ := hu
      rfl
    · intro v' w' h3 h4 _
      refine h v' w' ⟨?_, cat_lt k N M n m hown.2 hsrc.lt⟩ h4
      rw [wds_cat k N M n m hown.2] at h3
      exact h3

end Go.Proofs.YtakjbmlkcbedmaaDoor

/- A region that draws its order, by an invariant instead of by its orders. -/
namespace Go.Proofs.YtakjbmlkcbedmaaDoor
set_option linter.unusedVariables false
open Go.RowKit

section
variable {P : Program} {ops : Array Oper} {Q : Exit → Act → World → Prop} {md : Region.Mode}

theorem count_set_true {l : Array Bool} {i : Nat} (h : l.getD i true = false) : (l.setIfInBounds i true).toList.count false + 1 = l.toList.count false := by
  have hi : i < l.size := by
    rcases Nat.lt_or_ge i l.size with h' | h'
    · exact h'
    · simp [Array.getElem?_eq_none h'] at h
  have hl : l[i] = false := by simpa [hi] using h
  have hm : false ∈ l.toList := by rw [← hl]; simp
  have hp : 0 < l.toList.count false := List.count_pos_iff.2 hm
  rw [Array.toList_setIfInBounds, List.count_set (by simpa using hi)]
  simp [hl]
  have : 0 < Array.count false l := by simpa [← Array.count_toList] using hp
  omega

/-- whatever order is drawn: an invariant of what has come up, of the frame and of the world -/
theorem wpAny_inv (I : Array Bool → Act → World → Prop)
    (hstep : ∀ listed a w, I listed a w → ∀ i o, ops[i]? = some o → listed.getD i true = false → (∀ e ∈ o.after, Region.binds md e = true → listed.getD e.on false = true) →
      ∀ K' : Act → World → Prop, Shut (∀ a w, I (listed.setIfInBounds i true) a w → K' a w) → if Region.wanted o (yielded ops a.tmps) = true then Oper.wp P o a w K' Q else K' (a.put o.dst undef) w)
    (hend : ∀ listed a w, I listed a w → Region.ready md ops listed = [] → Q .normal a w) :
    ∀ fuel listed a w, listed.toList.count false ≤ fuel → I listed a w → wpAny P md ops Q fuel listed a w := by
  intro fuel
  induction fuel with
  | zero =>
    intro listed a w hc hI
    have hr : Region.ready md ops listed = [] := by
      rw [List.eq_nil_iff_forall_not_mem]
      intro i hi
      have := count_set_true (mem_ready.1 hi).1
      omega
    exact ⟨hr, hend _ _ _ hI hr⟩
  | succ fuel ih =>
    intro listed a w hc hI
    refine ⟨hend _ _ _ hI, fun i hi => ?_⟩
    obtain ⟨h0, o, ho, hall⟩ := mem_ready.1 hi
    refine wpOp_step ho (fun K' hK => ?_)
    refine hstep listed a w hI i o ho h0 hall K' (fun a' w' hI' => hK a' w' (ih _ _ _ ?_ hI'))
    have := count_set_true h0
    omega

theorem wp_region_inv {id : Nat} {a : Act} {w : World} (hm : P.follows .mixedOrders = true) (I : Array Bool → Act → World → Prop) (h0 : I (Array.replicate ops.size false) a w.drew)
    (hstep : ∀ listed a w, I listed a w → ∀ i o, ops[i]? = some o → listed.getD i true = false → (∀ e ∈ o.after, Region.binds .any e = true → listed.getD e.on false = true) →
      ∀ K' : Act → World → Prop, Shut (∀ a w, I (listed.setIfInBounds i true) a w → K' a w) → if Region.wanted o (yielded ops a.tmps) = true then Oper.wp P o a w K' Q else K' (a.put o.dst undef) w)
    (hend : ∀ listed a w, I listed a w → Region.ready .any ops listed = [] → Q .normal a w) : (Code.region id ops true).wp P Q a w :=
  wp_region_any hm (wpAny_inv I hstep hend _ _ _ _ (by simp) h0)

end

theorem below_alloc' {W w : World} (h : Below W.heap.size W w) (o : Obj) : Below W.heap.size W (w.alloc o) := h.alloc h.size o

theorem below_set' {W w : World} (h : Below W.heap.size W w) {g : Nat} (hg : W.heap.size ≤ g) (j : Nat) (v : Value) : Below W.heap.size W (w.setCell ⟨g, j, none⟩ v) := h.setCell hg v

/-- the blocks of words are as they were -/
def Wd (w w' : World) : Prop := w.heap.size ≤ w'.heap.size ∧ ∀ (b : Nat) (arr : Array Value), w.heap[b]? = some (Obj.cells arr 42 (0, 0)) → w'.heap[b]? = w.heap[b]?

theorem DV.wd {B : Nat} {w w' : World} {x : Value} {d : D} (h : DV B w x d) (hb : Wd w w') : DV B w' x d := by
  obtain ⟨A, c, rfl, h1, h2, h3, h4⟩ := h
  obtain ⟨A', n', c', e, hn', h5⟩ := h4
  injection e with ea en ec
  subst ea en ec
  rcases h5 with h5 | ⟨b, arr, e', hB, hh, hc⟩
  · subst h5
    have hz : nd 64 d.n = 0 := by omega
    refine ⟨A, 0, rfl, h1, h2, ?_, ⟨A, _, 0, rfl, hn', Or.inl rfl⟩⟩
    obtain ⟨A2, c2, e2, g1, g2, g3, g4⟩ := h3
    exact ⟨A2, c2, e2, g1, g2, g3, fun h => by omega⟩
  · have hlt := lt_size_of_some hh
    have hk := hb.2 b _ hh
    refine ⟨A, c, rfl, h1, h2, ?_, ⟨A, _, c, rfl, hn', Or.inr ⟨b, arr, e', hB, hk.trans hh, hc⟩⟩⟩
    obtain ⟨A2, c2, e2, g1, g2, g3, g4⟩ := h3
    refine ⟨A2, c2, e2, g1, g2, g3, fun hn => ?_⟩
    obtain ⟨b2, o2, e3, hlt2, hc2⟩ := g4 hn
    injection e2 with e2a e2b e2c
    have hbb : b2 = b := by
      rw [e2a.symm, e'] at e3
      injection e3 with e3
      injection e3 with e3
      exact e3.symm
    subst hbb
    refine ⟨b2, o2, e3, by have := hb.1; omega, fun j hj => ?_⟩
    have hcell := hc2 j hj
    unfold World.cell? at hcell ⊢
    rw [hk]
    exact hcell

/-- block g is the three cells of a Dyad -/
def BoxD (w : World) (g : Nat) (a b c : Value) : Prop := w.heap[g]? = some (Obj.cells #[a, b, c] 26 (0, 0))

section
variable {w w' : World} {g g' : Nat} {a b c x y z : Value}
theorem BoxD.lt (h : BoxD w g a b c) : g < w.heap.size := lt_size_of_some h
theorem BoxD.box3 (h : BoxD w g a b c) : Box3 w g a b c := ⟨_, h⟩
theorem BoxD.below (h : BoxD w g a b c) (hb : Below w.heap.size w w') : BoxD w' g a b c := (hb.block g h.lt).trans h
theorem BoxD.drew (h : BoxD w g a b c) : BoxD w.drew g a b c := h
theorem BoxD.new (w : World) (a b c : Value) : BoxD (w.alloc (.cells #[a, b, c] 26)) w.heap.size a b c := heap_alloc_at w _
theorem BoxD.other (h : BoxD w g a b c) (hne : g' ≠ g) : BoxD (((w.setCell ⟨g', 0, none⟩ x).setCell ⟨g', 1, none⟩ y).setCell ⟨g', 2, none⟩ z) g a b c :=
  (Below.heap_setCell _ ⟨g', 2, none⟩ z g (Ne.symm hne)).trans ((Below.heap_setCell _ ⟨g', 1, none⟩ y g (Ne.symm hne)).trans ((Below.heap_setCell w ⟨g', 0, none⟩ x g (Ne.symm hne)).trans h))
theorem BoxD.setAll (h : BoxD w g a b c) : BoxD (((w.setCell ⟨g, 0, none⟩ x).setCell ⟨g, 1, none⟩ y).setCell ⟨g, 2, none⟩ z) g x y z := by
  unfold BoxD at *
  simp [World.setCell, Array.getElem?_modify, h]
theorem BoxD.wd (h : BoxD w g a b c) : Wd w (((w.setCell ⟨g, 0, none⟩ x).setCell ⟨g, 1, none⟩ y).setCell ⟨g, 2, none⟩ z) := by
  refine ⟨by simp, fun k arr hk => ?_⟩
  have hne : k ≠ g := by
    rintro rfl
    rw [h] at hk
    injection hk with hk
    injection hk with h1 h2 h3
    exact absurd h2 (by decide)
  exact (Below.heap_setCell _ ⟨g, 2, none⟩ z k hne).trans ((Below.heap_setCell _ ⟨g, 1, none⟩ y k hne).trans (Below.heap_setCell w ⟨g, 0, none⟩ x k hne))
end

/-- one side of 'x, y := f(..), g(..)': the call's answer v, the variable's box p; what has come up -/
def SideD (B : Nat) (o : D) (lc la ls : Bool) (v p : Value) (w : World) : Prop :=
  (lc = true → DV B w v o) ∧ (la = true → ∃ g a b c, p = .pointer (some ⟨g, 0, none⟩) ∧ B ≤ g ∧ BoxD w g a b c ∧ (ls = true → v = .agg #[a, b, c])) ∧ (ls = true → lc = true ∧ la = true)

section
variable {B : Nat} {o : D} {lc la ls : Bool} {v p : Value} {w w' : World}
theorem SideD.start (B : Nat) (o : D) (v p : Value) (w : World) : SideD B o false false false v p w := ⟨nofun, nofun, nofun⟩
theorem SideD.below (h : SideD B o lc la ls v p w) (hb : Below w.heap.size w w') : SideD B o lc la ls v p w' := by
  obtain ⟨h1, h2, h3⟩ := h
  refine ⟨fun h => (h1 h).below hb, fun h => ?_, h3⟩
  obtain ⟨g, a, b, c, e, hB, hbox, hv⟩ := h2 h
  exact ⟨g, a, b, c, e, hB, hbox.below hb, hv⟩
theorem SideD.drew (h : SideD B o lc la ls v p w) : SideD B o lc la ls v p w.drew := h
theorem SideD.call (h : SideD B o false la ls v p w) (hb : Below w.heap.size w w') {v' : Value} (hv : DV B w' v' o) : SideD B o true la ls v' p w' := by
  obtain ⟨h1, h2, h3⟩ := h.below hb
  have hs : ls = false := by cases ls with | false => rfl | true => exact absurd (h3 rfl).1 (by decide)
  subst hs
  refine ⟨fun _ => hv, fun h => ?_, fun h => nomatch h⟩
  obtain ⟨g, a, b, c, e, hB, hbox, _⟩ := h2 h
  exact ⟨g, a, b, c, e, hB, hbox, fun h => nomatch h⟩
theorem SideD.make (h : SideD B o lc false ls v p w) (hw : B ≤ w.heap.size) (a b c : Value) : SideD B o lc true ls v (.pointer (some ⟨w.heap.size, 0, none⟩)) (w.alloc (.cells #[a, b, c] 26)) := by
  obtain ⟨h1, h2, h3⟩ := h.below (below1 w (.cells #[a, b, c] 26))
  have hs : ls = false := by cases ls with | false => rfl | true => exact absurd (h3 rfl).2 (by decide)
  subst hs
  exact ⟨h1, fun _ => ⟨_, a, b, c, rfl, hw, BoxD.new .., fun h => nomatch h⟩, fun h => nomatch h⟩
theorem SideD.ptr (h : SideD B o lc true ls v p w) : ∃ g a b c, p = .pointer (some ⟨g, 0, none⟩) ∧ B ≤ g ∧ BoxD w g a b c := by
  obtain ⟨g, a, b, c, e, hB, hbox, _⟩ := h.2.1 rfl
  exact ⟨g, a, b, c, e, hB, hbox⟩
theorem SideD.val (h : SideD B o true la ls v p w) : ∃ A c, v = .agg #[.bool o.s, .slice A (nd 64 o.n) c, .int .i64 o.e] := by
  obtain ⟨A, c, e, _⟩ := h.1 rfl
  exact ⟨A, c, e⟩
theorem SideD.done (h : SideD B o true true true v p w) : ∃ g A c, p = .pointer (some ⟨g, 0, none⟩) ∧ B ≤ g ∧ Box3 w g (.bool o.s) (.slice A (nd 64 o.n) c) (.int .i64 o.e) ∧ Rd 64 w (.slice A (nd 64 o.n) c) o.n (nd 64 o.n) ∧
    DV B w (.agg #[.bool o.s, .slice A (nd 64 o.n) c, .int .i64 o.e]) o := by
  obtain ⟨g, a, b, c, e, hB, hbox, hv⟩ := h.2.1 rfl
  obtain ⟨A, c', e', h1, h2, hR, hF⟩ := h.1 rfl
  have e2 := hv rfl
  rw [e'] at e2
  simp only [Value.agg.injEq, Array.mk.injEq, List.cons.injEq, and_true] at e2
  obtain ⟨rfl, rfl, rfl⟩ := e2
  exact ⟨g, A, c', e, hB, hbox.box3, hR, ⟨A, c', rfl, h1, h2, hR, hF⟩⟩
theorem SideD.store {g : Nat} {x y z : Value} (h : SideD B o true true ls (.agg #[x, y, z]) (.pointer (some ⟨g, 0, none⟩)) w) :
    SideD B o true true true (.agg #[x, y, z]) (.pointer (some ⟨g, 0, none⟩)) (((w.setCell ⟨g, 0, none⟩ x).setCell ⟨g, 1, none⟩ y).setCell ⟨g, 2, none⟩ z) := by
  obtain ⟨g', a, b, c, e, hB, hbox, _⟩ := h.2.1 rfl
  injection e with e; injection e with e; injection e with e; subst e
  exact ⟨fun _ => (h.1 rfl).wd hbox.wd, fun _ => ⟨g, x, y, z, rfl, hB, hbox.setAll, fun _ => rfl⟩, fun _ => ⟨rfl, rfl⟩⟩
theorem SideD.other {g : Nat} {a b c x y z : Value} (h : SideD B o lc la ls v p w) (hg : BoxD w g a b c) (hne : la = true → p ≠ .pointer (some ⟨g, 0, none⟩)) :
    SideD B o lc la ls v p (((w.setCell ⟨g, 0, none⟩ x).setCell ⟨g, 1, none⟩ y).setCell ⟨g, 2, none⟩ z) := by
  obtain ⟨h1, h2, h3⟩ := h
  refine ⟨fun h => (h1 h).wd hg.wd, fun h => ?_, h3⟩
  obtain ⟨g', a', b', c', e, hB, hbox, hv⟩ := h2 h
  exact ⟨g', a', b', c', e, hB, hbox.other (fun e' => hne h (by rw [e, e'])), hv⟩
end

theorem put_own (a : Act) (t : Tmp) : a.put (some t) (a.tmps.getD t undef) = a := by
  unfold Act.put
  cases a with
  | mk tmps defers =>
    simp only [Act.mk.injEq, and_true]
    apply Array.ext (by simp)
    intro i h1 h2
    rw [Array.getElem_setIfInBounds]
    split
    · rename_i e; subst e; simp [h2]
    · rfl

/-- the frame a, the slots ts holding vs -/
def putL (a : Act) : List Tmp → List Value → Act
  | t :: ts, v :: vs => putL (a.put (some t) v) ts vs
  | _, _ => a

theorem putL_own (a : Act) : ∀ ts : List Tmp, putL a ts (ts.map fun t => a.tmps.getD t undef) = a
  | [] => rfl
  | t :: ts => by
    show putL (a.put (some t) (a.tmps.getD t undef)) ts _ = a
    rw [put_own]
    exact putL_own a ts

def StepsFrom (F : Nat → Oper → Prop) : Nat → List Oper → Prop
  | _, [] => True
  | k, o :: l => F k o ∧ StepsFrom F (k + 1) l

theorem StepsFrom.get {F : Nat → Oper → Prop} : ∀ {l : List Oper} {k : Nat}, StepsFrom F k l → ∀ i o, l[i]? = some o → F (k + i) o
  | [], _, _, _, _, h => by simp at h
  | o' :: l, k, hs, 0, o, h => by
    simp at h
    subst h
    exact hs.1
  | o' :: l, k, hs, i + 1, o, h => by
    have := StepsFrom.get hs.2 i o (by simpa using h)
    rwa [show k + (i + 1) = k + 1 + i from by omega]

section
variable {P : Program} {Q : Exit → Act → World → Prop}

theorem step_wp {P : Program} {o : Oper} {a : Act} {w : World} {K : Act → World → Prop} {Q : Exit → Act → World → Prop} {ops : Array Oper} {tm : Array Value} {E : Prop} (hg : o.guard = none) (h : o.wp P a w K Q) :
    if Region.wanted o (yielded ops tm) = true then Oper.wp P o a w K Q else E := by
  rw [if_pos (by simp [Region.wanted, hg])]
  exact h

/-- one operation of the region keeps J -/
def StepJ (P : Program) (Q : Exit → Act → World → Prop) (ol : List Oper) (a : Act) (ts : List Tmp) (J : List Bool → List Value → World → Prop) (i : Nat) (o : Oper) : Prop :=
  ∀ listed vs w, J listed vs w → listed.getD i true = false → (∀ e ∈ o.after, Region.binds .any e = true → listed.getD e.on false = true) →
    ∀ K' : Act → World → Prop, Shut (∀ vs w, J (listed.set i true) vs w → K' (putL a ts vs) w) → if Region.wanted o (yielded ol.toArray (putL a ts vs).tmps) = true then Oper.wp P o (putL a ts vs) w K' Q else K' ((putL a ts vs).put o.dst undef) w

theorem wp_region_J {id : Nat} {ol : List Oper} {a : Act} {w : World} (ts : List Tmp) (J : List Bool → List Value → World → Prop) (hm : P.follows .mixedOrders = true)
    (h0 : ∀ vs, vs.length = ts.length → J (List.replicate ol.length false) vs w.drew)
    (hstep : StepsFrom (StepJ P Q ol a ts J) 0 ol)
    (hend : ∀ vs w, J (List.replicate ol.length true) vs w → Q .normal (putL a ts vs) w)
    (hlen : ∀ listed vs w, J listed vs w → listed.length = ol.length)
    (hall : ∀ listed vs w, J listed vs w → Region.ready .any ol.toArray listed.toArray = [] → listed = List.replicate ol.length true) : (Code.region id ol.toArray true).wp P Q a w := by
  refine wp_region_inv hm (fun listed a' w' => ∃ vs, a' = putL a ts vs ∧ J listed.toList vs w') ⟨_, (putL_own a ts).symm, ?_⟩ ?_ ?_
  · have := h0 (ts.map fun t => a.tmps.getD t undef) (by simp)
    simpa using this
  · rintro listed _ w' ⟨vs, rfl, hJ⟩ i o ho hl hall' K' hK
    have h := hstep.get i o (by simpa using ho) listed.toList vs w' hJ
    rw [Nat.zero_add] at h
    refine h (by simpa using hl) (fun e he hb => by simpa using hall' e he hb) K' (fun vs' w'' hJ' => hK _ w'' ⟨vs', rfl, by simpa using hJ'⟩)
  · rintro listed _ w' ⟨vs, rfl, hJ⟩ hr
    have h := hall _ _ _ hJ (by simpa using hr)
    rw [h] at hJ
    exact hend vs w' hJ

end

/-- an answer of two: an exact number and its error -/
def TupD (B : Nat) (q : D × Int) (v : Value) (w : World) : Prop := ∃ x, v = .tuple #[x, .int .i64 q.2] ∧ DV B w x q.1

theorem TupD.below {B : Nat} {q : D × Int} {v : Value} {w w' : World} (h : TupD B q v w) (hb : Below w.heap.size w w') : TupD B q v w' := by
  obtain ⟨x, e, h⟩ := h
  exact ⟨x, e, h.below hb⟩
theorem TupD.wd {B : Nat} {q : D × Int} {v : Value} {w w' : World} (h : TupD B q v w) (hb : Wd w w') : TupD B q v w' := by
  obtain ⟨x, e, h⟩ := h
  exact ⟨x, e, h.wd hb⟩

/-- box g holds the exact number d, an answer -/
def DVB (B : Nat) (g : Nat) (d : D) (w : World) : Prop := ∃ A c, BoxD w g (.bool d.s) (.slice A (nd 64 d.n) c) (.int .i64 d.e) ∧ DV B w (.agg #[.bool d.s, .slice A (nd 64 d.n) c, .int .i64 d.e]) d

theorem DVB.below {B g : Nat} {d : D} {w w' : World} (h : DVB B g d w) (hb : Below w.heap.size w w') : DVB B g d w' := by
  obtain ⟨A, c, h1, h2⟩ := h
  exact ⟨A, c, h1.below hb, h2.below hb⟩
theorem DVB.lt {B g : Nat} {d : D} {w : World} (h : DVB B g d w) : g < w.heap.size := by
  obtain ⟨A, c, h1, h2⟩ := h
  exact h1.lt
theorem DVB.mono {B B' g : Nat} {d : D} {w : World} (h : DVB B g d w) (hB : B' ≤ B) : DVB B' g d w := by
  obtain ⟨A, c, h1, h2⟩ := h
  exact ⟨A, c, h1, h2.mono hB⟩
/-- another box is written -/
theorem DVB.other {B g g' : Nat} {d : D} {w : World} {a b c x y z : Value} (h : DVB B g d w) (hg : BoxD w g' a b c) (hne : g' ≠ g) : DVB B g d (((w.setCell ⟨g', 0, none⟩ x).setCell ⟨g', 1, none⟩ y).setCell ⟨g', 2, none⟩ z) := by
  obtain ⟨A, c, h1, h2⟩ := h
  exact ⟨A, c, h1.other hne, h2.wd hg.wd⟩
/-- the box is written -/
theorem DVB.set {B g : Nat} {d : D} {w : World} {a b c : Value} {A : Option Addr} {m : Nat} (hg : BoxD w g a b c) (h : DV B w (.agg #[.bool d.s, .slice A (nd 64 d.n) m, .int .i64 d.e]) d) :
    DVB B g d (((w.setCell ⟨g, 0, none⟩ (.bool d.s)).setCell ⟨g, 1, none⟩ (.slice A (nd 64 d.n) m)).setCell ⟨g, 2, none⟩ (.int .i64 d.e)) := ⟨A, m, hg.setAll, h.wd hg.wd⟩
theorem DVB.box {B g : Nat} {d : D} {w : World} (h : DVB B g d w) : ∃ a b c, BoxD w g a b c := by
  obtain ⟨A, c, h1, _⟩ := h
  exact ⟨_, _, _, h1⟩
/-- a new box of an answer -/
theorem DVB.new {B : Nat} {d : D} {w : World} {A : Option Addr} {m : Nat} (h : DV B w (.agg #[.bool d.s, .slice A (nd 64 d.n) m, .int .i64 d.e]) d) :
    DVB B w.heap.size d (w.alloc (Obj.cells #[.bool d.s, .slice A (nd 64 d.n) m, .int .i64 d.e] 26)) := ⟨A, m, BoxD.new .., h.below (below1 _ _)⟩
/-- its cells, and the words -/
theorem DVB.open {B g : Nat} {d : D} {w : World} (h : DVB B g d w) : ∃ A c, (w.cell? ⟨g, 0, none⟩ = some (.bool d.s) ∧ w.cell? ⟨g, 1, none⟩ = some (.slice A (nd 64 d.n) c) ∧ w.cell? ⟨g, 2, none⟩ = some (.int .i64 d.e) ∧ (∀ j, w.frozen? ⟨g, j, none⟩ = false)) ∧
    Rd 64 w (.slice A (nd 64 d.n) c) d.n (nd 64 d.n) := by
  obtain ⟨A, c, h1, A2, c2, e, _, _, hR, _⟩ := h
  simp only [Value.agg.injEq, Array.mk.injEq, List.cons.injEq, and_true, Value.slice.injEq, true_and] at e
  obtain ⟨rfl, rfl⟩ := e
  obtain ⟨p0, p1, p2, p3, _⟩ := h1.box3.cells
  exact ⟨A, c, ⟨p0, p1, p2, p3⟩, hR⟩
theorem SideD.dvb {B : Nat} {o : D} {v p : Value} {w : World} (h : SideD B o true true true v p w) : ∃ g, p = .pointer (some ⟨g, 0, none⟩) ∧ B ≤ g ∧ DVB B g o w := by
  obtain ⟨g, a, b, c, e, hB, hbox, hv⟩ := h.2.1 rfl
  obtain ⟨A, c', e', h1, h2, hR, hF⟩ := h.1 rfl
  have e2 := hv rfl
  rw [e'] at e2
  simp only [Value.agg.injEq, Array.mk.injEq, List.cons.injEq, and_true] at e2
  obtain ⟨rfl, rfl, rfl⟩ := e2
  exact ⟨g, e, hB, A, c', hbox, ⟨A, c', rfl, h1, h2, hR, hF⟩⟩

/-- a fact of a value that calls and stores into other boxes leave -/
structure KeptP (P : Value → World → Prop) : Prop where
  below : ∀ {v : Value} {w w' : World}, P v w → Below w.heap.size w w' → P v w'
  wd : ∀ {v : Value} {w w' : World}, P v w → Wd w w' → P v w'

theorem Row.wd {k B : Nat} {w w' : World} {v : Value} {N n : Nat} (h : Row k B w v N n) (hb : Wd w w') : Row k B w' v N n := h.heap fun g cur hg => hb.2 g cur hg

/-- one side of a statement that makes a box and stores a value: SideD for any fact P of the value -/
def SideP (P : Value → World → Prop) (B : Nat) (lc la ls : Bool) (v p : Value) (w : World) : Prop :=
  (lc = true → P v w) ∧ (la = true → ∃ g a b c, p = .pointer (some ⟨g, 0, none⟩) ∧ B ≤ g ∧ BoxD w g a b c ∧ (ls = true → v = .agg #[a, b, c])) ∧ (ls = true → lc = true ∧ la = true)

section
variable {P : Value → World → Prop} {B : Nat} {lc la ls : Bool} {v p : Value} {w w' : World}
theorem SideP.start (P : Value → World → Prop) (B : Nat) (v p : Value) (w : World) : SideP P B false false false v p w := ⟨nofun, nofun, nofun⟩
theorem SideP.below (h : SideP P B lc la ls v p w) (hP : KeptP P) (hb : Below w.heap.size w w') : SideP P B lc la ls v p w' := by
  obtain ⟨h1, h2, h3⟩ := h
  refine ⟨fun h => hP.below (h1 h) hb, fun h => ?_, h3⟩
  obtain ⟨g, a, b, c, e, hB, hbox, hv⟩ := h2 h
  exact ⟨g, a, b, c, e, hB, hbox.below hb, hv⟩
theorem SideP.call (h : SideP P B false la ls v p w) (hP : KeptP P) (hb : Below w.heap.size w w') {v' : Value} (hv : P v' w') : SideP P B true la ls v' p w' := by
  obtain ⟨h1, h2, h3⟩ := h.below hP hb
  have hs : ls = false := by cases ls with | false => rfl | true => exact absurd (h3 rfl).1 (by decide)
  subst hs
  refine ⟨fun _ => hv, fun h => ?_, fun h => nomatch h⟩
  obtain ⟨g, a, b, c, e, hB, hbox, _⟩ := h2 h
  exact ⟨g, a, b, c, e, hB, hbox, fun h => nomatch h⟩
theorem SideP.make (h : SideP P B lc false ls v p w) (hP : KeptP P) (hw : B ≤ w.heap.size) (a b c : Value) : SideP P B lc true ls v (.pointer (some ⟨w.heap.size, 0, none⟩)) (w.alloc (.cells #[a, b, c] 26)) := by
  obtain ⟨h1, h2, h3⟩ := h.below hP (below1 w (.cells #[a, b, c] 26))
  have hs : ls = false := by cases ls with | false => rfl | true => exact absurd (h3 rfl).2 (by decide)
  subst hs
  exact ⟨h1, fun _ => ⟨_, a, b, c, rfl, hw, BoxD.new .., fun h => nomatch h⟩, fun h => nomatch h⟩
theorem SideP.ptr (h : SideP P B lc true ls v p w) : ∃ g a b c, p = .pointer (some ⟨g, 0, none⟩) ∧ B ≤ g ∧ BoxD w g a b c := by
  obtain ⟨g, a, b, c, e, hB, hbox, _⟩ := h.2.1 rfl
  exact ⟨g, a, b, c, e, hB, hbox⟩
theorem SideP.store {g : Nat} {x y z : Value} (h : SideP P B true true ls (.agg #[x, y, z]) (.pointer (some ⟨g, 0, none⟩)) w) (hP : KeptP P) :
    SideP P B true true true (.agg #[x, y, z]) (.pointer (some ⟨g, 0, none⟩)) (((w.setCell ⟨g, 0, none⟩ x).setCell ⟨g, 1, none⟩ y).setCell ⟨g, 2, none⟩ z) := by
  obtain ⟨g', a, b, c, e, hB, hbox, _⟩ := h.2.1 rfl
  injection e with e; injection e with e; injection e with e; subst e
  exact ⟨fun _ => hP.wd (h.1 rfl) hbox.wd, fun _ => ⟨g, x, y, z, rfl, hB, hbox.setAll, fun _ => rfl⟩, fun _ => ⟨rfl, rfl⟩⟩
theorem SideP.other {g : Nat} {a b c x y z : Value} (h : SideP P B lc la ls v p w) (hP : KeptP P) (hg : BoxD w g a b c) (hne : la = true → p ≠ .pointer (some ⟨g, 0, none⟩)) :
    SideP P B lc la ls v p (((w.setCell ⟨g, 0, none⟩ x).setCell ⟨g, 1, none⟩ y).setCell ⟨g, 2, none⟩ z) := by
  obtain ⟨h1, h2, h3⟩ := h
  refine ⟨fun h => hP.wd (h1 h) hg.wd, fun h => ?_, h3⟩
  obtain ⟨g', a', b', c', e, hB, hbox, hv⟩ := h2 h
  exact ⟨g', a', b', c', e, hB, hbox.other (fun e' => hne h (by rw [e, e'])), hv⟩
/-- a row of words grows while the value isn't there yet -/
theorem SideP.grown {k B' N n : Nat} {x : Value} (h : SideP P B false la ls v p w) (hr : Row k B' w x N n) (hg : w.grownBy w' x.ownBlock) : SideP P B false la ls v p w' := by
  obtain ⟨h1, h2, h3⟩ := h
  refine ⟨nofun, fun h => ?_, h3⟩
  obtain ⟨g, a, b, c, e, hB, hbox, hv⟩ := h2 h
  refine ⟨g, a, b, c, e, hB, (hg.block g hbox.lt ?_).trans hbox, hv⟩
  intro he
  obtain ⟨A, c', rfl, _, hA⟩ := hr.form
  rcases hA with ⟨rfl, _⟩ | ⟨g', cur, rfl, _, hh, _⟩
  · simp [Value.ownBlock] at he
  · simp [Value.ownBlock] at he
    subst he
    rw [hbox] at hh
    injection hh with hh
    injection hh with e1 e2 e3
    exact absurd e2 (by decide)
theorem SideP.done (h : SideP P B true true true v p w) : ∃ g a b c, p = .pointer (some ⟨g, 0, none⟩) ∧ B ≤ g ∧ BoxD w g a b c ∧ P (.agg #[a, b, c]) w := by
  obtain ⟨g, a, b, c, e, hB, hbox, hv⟩ := h.2.1 rfl
  have := h.1 rfl
  rw [hv rfl] at this
  exact ⟨g, a, b, c, e, hB, hbox, this⟩
end

/-- a struct of the sign s, a new row of the n words of N, the exponent e -/
def CopyP (s : Bool) (N n : Nat) (e : Int) (B : Nat) (v : Value) (w : World) : Prop := ∃ A c, v = .agg #[.bool s, .slice A n c, .int .i64 e] ∧ Row 64 B w (.slice A n c) N n
theorem CopyP.kept (s : Bool) (N n : Nat) (e : Int) (B : Nat) : KeptP (CopyP s N n e B) :=
  ⟨fun ⟨A, c, h, hr⟩ hb => ⟨A, c, h, hr.below hb⟩, fun ⟨A, c, h, hr⟩ hb => ⟨A, c, h, hr.wd hb⟩⟩

end Go.Proofs.YtakjbmlkcbedmaaDoor

/- Walks of layer 3: Mul. -/
namespace Go.Proofs.YtakjbmlkcbedmaaDoor
set_option linter.unusedVariables false
open Go.RowKit

def mulD (n1 : Nat) (a : D) (n2 : Nat) (b : D) : D × Int :=
  if twoD n1 a.e n2 b.e = 0 then
    (if (mulN (oddD a).n (oddD b).n).2 = 0 then ansD ⟨(oddD a).s != (oddD b).s, (mulN (oddD a).n (oddD b).n).1, (oddD a).e + (oddD b).e⟩ else (D.zero, (mulN (oddD a).n (oddD b).n).2))
  else (D.zero, twoD n1 a.e n2 b.e)

/-- what the statement 'x, y := odd(a), odd(b)' leaves -/
def MulCut (w1 w : World) (o1 o2 : D) (p q : Value) : Prop :=
  ∃ g7 g8 A3 c3 A4 c4, p = .pointer (some ⟨g7, 0, none⟩) ∧ q = .pointer (some ⟨g8, 0, none⟩) ∧ Box3 w g7 (.bool o1.s) (.slice A3 (nd 64 o1.n) c3) (.int .i64 o1.e) ∧ Box3 w g8 (.bool o2.s) (.slice A4 (nd 64 o2.n) c4) (.int .i64 o2.e) ∧
    Rd 64 w (.slice A3 (nd 64 o1.n) c3) o1.n (nd 64 o1.n) ∧ Rd 64 w (.slice A4 (nd 64 o2.n) c4) o2.n (nd 64 o2.n) ∧ w1.heap.size ≤ g7 ∧ w1.heap.size ≤ g8 ∧ Below w1.heap.size w1 w

set_option maxRecDepth 100000 in
set_option maxHeartbeats 2000000 in
theorem DMul_any (s1 s2 : Bool) (A1 A2 : Option Addr) (N n1 c1 M n2 c2 : Nat) (e1 e2 : Int) (w : World) (hv : Rd 64 w (.slice A1 n1 c1) N n1) (hu : Rd 64 w (.slice A2 n2 c2) M n2) (hG : Gl w) :
    Calls Tryd.prog 47 #[.agg #[.bool s1, .slice A1 n1 c1, .int .i64 e1], .agg #[.bool s2, .slice A2 n2 c2, .int .i64 e2]] w fun e' w' =>
      ∃ x, e' = .returned (.tuple #[x, .int .i64 (mulD n1 ⟨s1, N, e1⟩ n2 ⟨s2, M, e2⟩).2]) ∧ DV w.heap.size w' x (mulD n1 ⟨s1, N, e1⟩ n2 ⟨s2, M, e2⟩).1 ∧ Below w.heap.size w w' := by
  have hl1 := hv.len
  have hl2 := hu.len
  obtain ⟨W, hW⟩ : ∃ W, W = (((w.alloc (Obj.cells #[Value.bool s1, Value.slice A1 n1 c1, Value.int IntKind.i64 e1] 26)).alloc (Obj.cells #[Value.bool s2, Value.slice A2 n2 c2, Value.int IntKind.i64 e2] 26)).alloc
    (Obj.cells #[Value.bool false, Value.slice none 0 0, Value.int IntKind.i64 0] 26)) := ⟨_, rfl⟩
  have hB : Below w.heap.size w W := by rw [hW]; exact below3 ..
  have b0 : Box3 W w.heap.size (.bool s1) (.slice A1 n1 c1) (.int .i64 e1) := by rw [hW]; exact ((Box3.new ..).alloc _).alloc _
  have b1 : Box3 W (w.heap.size + 1) (.bool s2) (.slice A2 n2 c2) (.int .i64 e2) := by rw [hW]; exact (Box3.new1 ..).alloc _
  have b2 : Box3 W (w.heap.size + 1 + 1) (.bool false) (.slice none 0 0) (.int .i64 0) := by rw [hW]; exact Box3.new2 ..
  have hWs : W.heap.size = w.heap.size + 3 := by rw [hW]; simp
  by_cases hr : twoD n1 e1 n2 e2 = 0
  · obtain ⟨hr1, hr2⟩ := twoD_zero hr
    have hb1' := refD_zero hr1
    have hb2' := refD_zero hr2
    have ho1 := oddD_arg (s := s1) hv.lt hr1
    have ho2 := oddD_arg (s := s2) hu.lt hr2
    have E : Hid (mulD n1 ⟨s1, N, e1⟩ n2 ⟨s2, M, e2⟩ = if (mulN (oddD ⟨s1, N, e1⟩).n (oddD ⟨s2, M, e2⟩).n).2 = 0 then ansD ⟨(oddD ⟨s1, N, e1⟩).s != (oddD ⟨s2, M, e2⟩).s, (mulN (oddD ⟨s1, N, e1⟩).n (oddD ⟨s2, M, e2⟩).n).1, (oddD ⟨s1, N, e1⟩).e + (oddD ⟨s2, M, e2⟩).e⟩ else (D.zero, (mulN (oddD ⟨s1, N, e1⟩).n (oddD ⟨s2, M, e2⟩).n).2)) := by show _ = _; unfold mulD; rw [if_pos hr]
    go_enter Tryd.func47, Tryd.ntmps47
    go_wp2_with fail
    rw [← hW]
    refine (two_any s1 s2 A1 A2 n1 n2 c1 c2 e1 e2 W hl1 hl2).mono ?_
    rintro e' w1 ⟨rfl, hbw⟩
    rw [hr]
    clear hr hW hr1 hr2
    obtain ⟨k0, k1, k2, f0, _⟩ := (b0.keep hbw).cells
    obtain ⟨k3, k4, k5, f1, _⟩ := (b1.keep hbw).cells
    have hBW1 := keep_belowB hB hbw (Nat.le_refl _)
    have b2w := b2.keep hbw
    have hG1 := hG.below hBW1
    have hv1 := hv.below hBW1
    have hu1 := hu.below hBW1
    have hz1 : w.heap.size + 3 ≤ w1.heap.size := by have := hbw.size; omega
    have hle2 : w.heap.size ≤ w.heap.size + 1 + 1 := by omega
    clear hv hu hG b0 b1 b2 hB hWs hbw
    have he1a : -1000000000000 ≤ e1 := by omega
    have he1b : e1 ≤ 1000000000000 := by omega
    have he2a : -1000000000000 ≤ e2 := by omega
    have he2b : e2 ≤ 1000000000000 := by omega
    obtain ⟨o1, ho1e⟩ : ∃ o, o = oddD ⟨s1, N, e1⟩ := ⟨_, rfl⟩
    obtain ⟨o2, ho2e⟩ : ∃ o, o = oddD ⟨s2, M, e2⟩ := ⟨_, rfl⟩
    rw [← ho1e] at ho1 E
    rw [← ho2e] at ho2 E
    have g1 : -100000000000 ≤ o1.e ∧ o1.e ≤ 100000000000 := by omega
    have g2 : -100000000000 ≤ o2.e ∧ o2.e ≤ 100000000000 := by omega
    have Ho1 := Lib.hid ho1e
    have Ho2 := Lib.hid ho2e
    clear ho1e ho2e hb1' hb2' ho1 ho2 hl1 hl2
    have hsz : w.heap.size ≤ w1.heap.size := by omega
    go_upto_region 4 with (fail)
    go_cut [7, 8] (fun p q wx => MulCut w1 wx o1 o2 p q)
    case first =>
      refine wp_region_J [18, 19, 20, 21, 7, 8] (fun l vs wx => ∃ l0 l1 l2 l3 l4 l5 l6 l7 v18 v19 v20 v21 p7 p8, l = [l0, l1, l2, l3, l4, l5, l6, l7] ∧ vs = [v18, v19, v20, v21, p7, p8] ∧ Below w1.heap.size w1 wx ∧
        (l0 = true → v18 = .agg #[.bool s1, .slice A1 n1 c1, .int .i64 e1]) ∧ (l2 = true → v20 = .agg #[.bool s2, .slice A2 n2 c2, .int .i64 e2]) ∧ SideD w1.heap.size o1 l1 l4 l6 v19 p7 wx ∧ SideD w1.heap.size o2 l3 l5 l7 v21 p8 wx ∧ (l4 = true → l5 = true → p7 ≠ p8)) (by kernel_rfl) ?_ ?_ ?_ ?_ ?_
      · intro vs hvs
        obtain ⟨v0, v1, v2, v3, v4, v5, rfl⟩ : ∃ v0 v1 v2 v3 v4 v5, vs = [v0, v1, v2, v3, v4, v5] := by
          match vs, hvs with
          | [a, b, c, d, e, f], _ => exact ⟨a, b, c, d, e, f, rfl⟩
        exact ⟨false, false, false, false, false, false, false, false, v0, v1, v2, v3, v4, v5, rfl, rfl, (Below.refl _ _).drew, nofun, nofun, SideD.start .., SideD.start .., nofun⟩
      · refine ⟨?_, ?_, ?_, ?_, ?_, ?_, ?_, ?_, trivial⟩
        · rintro _ _ wx ⟨l0, l1, l2, l3, l4, l5, l6, l7, v18, v19, v20, v21, p7, p8, rfl, rfl, hB, h18, h20, hS1, hS2, hne⟩ hl hall K' hK
          have q0 := keep_cell hB k0
          have q1 := keep_cell hB k1
          have q2 := keep_cell hB k2
          clear k0 k1 k2 k3 k4 k5
          simp only [putL, Act.put, List.setIfInBounds_toArray, List.set_cons_zero, List.set_cons_succ]
          go_simp
          have hh := hK.out [.agg #[.bool s1, .slice A1 n1 c1, .int .i64 e1], v19, v20, v21, p7, p8] wx ⟨true, l1, l2, l3, l4, l5, l6, l7, _, v19, v20, v21, p7, p8, rfl, rfl, hB, fun _ => rfl, h20, hS1, hS2, hne⟩
          simp only [putL, Act.put, List.setIfInBounds_toArray, List.set_cons_zero, List.set_cons_succ] at hh
          exact hh
        · rintro _ _ wx ⟨l0, l1, l2, l3, l4, l5, l6, l7, v18, v19, v20, v21, p7, p8, rfl, rfl, hB, h18, h20, hS1, hS2, hne⟩ hl hall K' hK
          obtain rfl : l0 = true := hall ⟨0, .data⟩ (by simp) (by rfl)
          obtain rfl : l1 = false := by simpa using hl
          obtain rfl := h18 rfl
          clear k0 k1 k2 k3 k4 k5
          simp only [putL, Act.put, List.setIfInBounds_toArray, List.set_cons_zero, List.set_cons_succ]
          go_simp
          refine (odd_any s1 (.slice A1 n1 c1) N n1 e1 _ (hv1.below hB) (hG1.below hB) ⟨he1a, he1b⟩).mono ?_
          rintro e w2 ⟨x2, rfl, hV2, hx1⟩
          rw [← Ho1.out] at hV2
          go_simp
          have hh := hK.out [.agg #[.bool s1, .slice A1 n1 c1, .int .i64 e1], x2, v20, v21, p7, p8] w2 ⟨true, true, l2, l3, l4, l5, l6, l7, _, x2, v20, v21, p7, p8, rfl, rfl, keep_below hB hx1, fun _ => rfl, h20, hS1.call hx1 (hV2.mono hB.size), hS2.below hx1, hne⟩
          simp only [putL, Act.put, List.setIfInBounds_toArray, List.set_cons_zero, List.set_cons_succ] at hh
          exact hh
        · rintro _ _ wx ⟨l0, l1, l2, l3, l4, l5, l6, l7, v18, v19, v20, v21, p7, p8, rfl, rfl, hB, h18, h20, hS1, hS2, hne⟩ hl hall K' hK
          have q0 := keep_cell hB k3
          have q1 := keep_cell hB k4
          have q2 := keep_cell hB k5
          clear k0 k1 k2 k3 k4 k5
          simp only [putL, Act.put, List.setIfInBounds_toArray, List.set_cons_zero, List.set_cons_succ]
          go_simp
          have hh := hK.out [v18, v19, .agg #[.bool s2, .slice A2 n2 c2, .int .i64 e2], v21, p7, p8] wx ⟨l0, l1, true, l3, l4, l5, l6, l7, v18, v19, _, v21, p7, p8, rfl, rfl, hB, h18, fun _ => rfl, hS1, hS2, hne⟩
          simp only [putL, Act.put, List.setIfInBounds_toArray, List.set_cons_zero, List.set_cons_succ] at hh
          exact hh
        · rintro _ _ wx ⟨l0, l1, l2, l3, l4, l5, l6, l7, v18, v19, v20, v21, p7, p8, rfl, rfl, hB, h18, h20, hS1, hS2, hne⟩ hl hall K' hK
          obtain rfl : l2 = true := hall ⟨2, .data⟩ (by simp) (by rfl)
          obtain rfl : l3 = false := by simpa using hl
          obtain rfl := h20 rfl
          clear k0 k1 k2 k3 k4 k5
          simp only [putL, Act.put, List.setIfInBounds_toArray, List.set_cons_zero, List.set_cons_succ]
          go_simp
          refine (odd_any s2 (.slice A2 n2 c2) M n2 e2 _ (hu1.below hB) (hG1.below hB) ⟨he2a, he2b⟩).mono ?_
          rintro e w2 ⟨x2, rfl, hV2, hx1⟩
          rw [← Ho2.out] at hV2
          go_simp
          have hh := hK.out [v18, v19, .agg #[.bool s2, .slice A2 n2 c2, .int .i64 e2], x2, p7, p8] w2 ⟨l0, l1, true, true, l4, l5, l6, l7, v18, v19, _, x2, p7, p8, rfl, rfl, keep_below hB hx1, h18, fun _ => rfl, hS1.below hx1, hS2.call hx1 (hV2.mono hB.size), hne⟩
          simp only [putL, Act.put, List.setIfInBounds_toArray, List.set_cons_zero, List.set_cons_succ] at hh
          exact hh
        · rintro _ _ wx ⟨l0, l1, l2, l3, l4, l5, l6, l7, v18, v19, v20, v21, p7, p8, rfl, rfl, hB, h18, h20, hS1, hS2, hne⟩ hl hall K' hK
          obtain rfl : l4 = false := by simpa using hl
          clear k0 k1 k2 k3 k4 k5
          simp only [putL, Act.put, List.setIfInBounds_toArray, List.set_cons_zero, List.set_cons_succ]
          go_simp
          have hh := hK.out [v18, v19, v20, v21, .pointer (some ⟨wx.heap.size, 0, none⟩), p8] (wx.alloc (Obj.cells #[Value.bool false, Value.slice none 0 0, Value.int IntKind.i64 0] 26)) ⟨l0, l1, l2, l3, true, l5, l6, l7, v18, v19, v20, v21, _, p8, rfl, rfl, below_alloc' hB _, h18, h20, hS1.make hB.size _ _ _, hS2.below (below1 _ _), fun _ h => by subst h; obtain ⟨g, _, _, _, rfl, _, hb⟩ := hS2.ptr; have := hb.lt; intro e; injection e with e; injection e with e; injection e with e; omega⟩
          simp only [putL, Act.put, List.setIfInBounds_toArray, List.set_cons_zero, List.set_cons_succ] at hh
          exact hh
        · rintro _ _ wx ⟨l0, l1, l2, l3, l4, l5, l6, l7, v18, v19, v20, v21, p7, p8, rfl, rfl, hB, h18, h20, hS1, hS2, hne⟩ hl hall K' hK
          obtain rfl : l5 = false := by simpa using hl
          clear k0 k1 k2 k3 k4 k5
          simp only [putL, Act.put, List.setIfInBounds_toArray, List.set_cons_zero, List.set_cons_succ]
          go_simp
          have hh := hK.out [v18, v19, v20, v21, p7, .pointer (some ⟨wx.heap.size, 0, none⟩)] (wx.alloc (Obj.cells #[Value.bool false, Value.slice none 0 0, Value.int IntKind.i64 0] 26)) ⟨l0, l1, l2, l3, l4, true, l6, l7, v18, v19, v20, v21, p7, _, rfl, rfl, below_alloc' hB _, h18, h20, hS1.below (below1 _ _), hS2.make hB.size _ _ _, fun h _ => by subst h; obtain ⟨g, _, _, _, rfl, _, hb⟩ := hS1.ptr; have := hb.lt; intro e; injection e with e; injection e with e; injection e with e; omega⟩
          simp only [putL, Act.put, List.setIfInBounds_toArray, List.set_cons_zero, List.set_cons_succ] at hh
          exact hh
        · rintro _ _ wx ⟨l0, l1, l2, l3, l4, l5, l6, l7, v18, v19, v20, v21, p7, p8, rfl, rfl, hB, h18, h20, hS1, hS2, hne⟩ hl hall K' hK
          have h1 : l1 = true := hall ⟨1, .data⟩ (by simp) (by rfl)
          have h4 : l4 = true := hall ⟨4, .data⟩ (by simp) (by rfl)
          clear hall hl
          subst h1 h4
          simp only [putL, Act.put, List.setIfInBounds_toArray, List.set_cons_zero, List.set_cons_succ]
          obtain ⟨A3, c3, rfl⟩ := hS1.val
          obtain ⟨g, a, b, c, rfl, hg, hb⟩ := hS1.ptr
          obtain ⟨r0, r1, r2, r3, _⟩ := hb.box3.cells
          clear k0 k1 k2 k3 k4 k5
          go_simp
          have hh := hK.out [v18, .agg #[.bool o1.s, .slice A3 (nd 64 o1.n) c3, .int .i64 o1.e], v20, v21, .pointer (some ⟨g, 0, none⟩), p8] (((wx.setCell ⟨g, 0, none⟩ (.bool o1.s)).setCell ⟨g, 1, none⟩ (.slice A3 (nd 64 o1.n) c3)).setCell ⟨g, 2, none⟩ (.int .i64 o1.e)) ⟨l0, true, l2, l3, true, l5, true, l7, v18, _, v20, v21, _, p8, rfl, rfl, below_box hB hg _ _ _, h18, h20, hS1.store, hS2.other hb (fun h e => hne rfl h e.symm), hne⟩
          simp only [putL, Act.put, List.setIfInBounds_toArray, List.set_cons_zero, List.set_cons_succ] at hh
          exact hh
        · rintro _ _ wx ⟨l0, l1, l2, l3, l4, l5, l6, l7, v18, v19, v20, v21, p7, p8, rfl, rfl, hB, h18, h20, hS1, hS2, hne⟩ hl hall K' hK
          have h1 : l3 = true := hall ⟨3, .data⟩ (by simp) (by rfl)
          have h4 : l5 = true := hall ⟨5, .data⟩ (by simp) (by rfl)
          clear hall hl
          subst h1 h4
          simp only [putL, Act.put, List.setIfInBounds_toArray, List.set_cons_zero, List.set_cons_succ]
          obtain ⟨A3, c3, rfl⟩ := hS2.val
          obtain ⟨g, a, b, c, rfl, hg, hb⟩ := hS2.ptr
          obtain ⟨r0, r1, r2, r3, _⟩ := hb.box3.cells
          clear k0 k1 k2 k3 k4 k5
          go_simp
          have hh := hK.out [v18, v19, v20, .agg #[.bool o2.s, .slice A3 (nd 64 o2.n) c3, .int .i64 o2.e], p7, .pointer (some ⟨g, 0, none⟩)] (((wx.setCell ⟨g, 0, none⟩ (.bool o2.s)).setCell ⟨g, 1, none⟩ (.slice A3 (nd 64 o2.n) c3)).setCell ⟨g, 2, none⟩ (.int .i64 o2.e)) ⟨l0, l1, l2, true, l4, true, l6, true, v18, v19, v20, _, p7, _, rfl, rfl, below_box hB hg _ _ _, h18, h20, hS1.other hb (fun h e => hne h rfl e), hS2.store, hne⟩
          simp only [putL, Act.put, List.setIfInBounds_toArray, List.set_cons_zero, List.set_cons_succ] at hh
          exact hh
      · rintro vs wx ⟨l0, l1, l2, l3, l4, l5, l6, l7, v18, v19, v20, v21, p7, p8, hl, rfl, hB, h18, h20, hS1, hS2, hne⟩
        obtain ⟨rfl, rfl, rfl, rfl, rfl, rfl, rfl, rfl⟩ : true = l0 ∧ true = l1 ∧ true = l2 ∧ true = l3 ∧ true = l4 ∧ true = l5 ∧ true = l6 ∧ true = l7 := by simpa using hl
        simp only [putL, Act.put, List.setIfInBounds_toArray, List.set_cons_zero, List.set_cons_succ]
        go_wp2_with fail
        go_meet
        case rel =>
          obtain ⟨g7, A3, c3, rfl, hg7, hb7, hr7, _⟩ := hS1.done
          obtain ⟨g8, A4, c4, rfl, hg8, hb8, hr8, _⟩ := hS2.done
          exact ⟨g7, g8, A3, c3, A4, c4, rfl, rfl, hb7, hb8, hr7, hr8, hg7, hg8, hB⟩
      · rintro _ vs wx ⟨l0, l1, l2, l3, l4, l5, l6, l7, v18, v19, v20, v21, p7, p8, rfl, _⟩
        rfl
      · rintro _ vs wx ⟨l0, l1, l2, l3, l4, l5, l6, l7, v18, v19, v20, v21, p7, p8, rfl, -⟩
        revert l0 l1 l2 l3 l4 l5 l6 l7
        decide +kernel
    case rest =>
      obtain ⟨g7, g8, A3, c3, A4, c4, rfl, rfl, hb7, hb8, hR7, hR8, hg7, hg8, hBc⟩ := hcut
      obtain ⟨r0, r1, r2, _, _⟩ := hb7.cells
      obtain ⟨t0, t1, t2, _, _⟩ := hb8.cells
      have b2c := b2w.keep hBc
      have hBWc := keep_belowB hBW1 hBc (Nat.le_refl _)
      have hGc := hG1.below hBc
      clear b2w hBW1 hG1 hv1 hu1 Ho1 Ho2 k0 k1 k2 k3 k4 k5 f0 f1
      have hsc := hBc.size
      go_wp2_with fail
      refine (Mul_any _ _ o1.n _ o2.n _ wc hR7 hR8).mono ?_
      rintro e w5 ⟨v5, rfl, hR5, hF5, hx5⟩
      obtain ⟨r0, r1, r2, _, _⟩ := (hb7.keep hx5).cells
      obtain ⟨t0, t1, t2, _, _⟩ := (hb8.keep hx5).cells
      have b25 := b2c.keep hx5
      have hBW5 := keep_belowB hBWc hx5 (Nat.le_refl _)
      have hG5 := hGc.below hx5
      have hs5 := hx5.size
      clear hb7 hb8 b2c hBWc hGc hBc hx5 hR7 hR8
      have hE0 : (mulN o1.n o2.n).2 = 0 ∨ ((mulN o1.n o2.n).2 != 0) = true := by
        by_cases h : (mulN o1.n o2.n).2 = 0
        · exact Or.inl h
        · exact Or.inr (by simpa using h)
      rcases hE0 with hm | hm
      · have E2 : Hid (mulD n1 ⟨s1, N, e1⟩ n2 ⟨s2, M, e2⟩ = ansD ⟨o1.s != o2.s, (mulN o1.n o2.n).1, o1.e + o2.e⟩) := by show _ = _; rw [E.out, if_pos hm]
        rw [hm]
        generalize (mulN o1.n o2.n).1 = X at *
        have hw : IntKind.i64.wrap (o1.e + o2.e) = o1.e + o2.e := by rw [IntKind.wrap_i64]; omega
        obtain ⟨q1, q2, q3, q4, _⟩ := b25.cells
        clear q1 q2 q3 q4 hF5 E hm
        obtain ⟨A5, c5, rfl, -, -⟩ := hR5.form
        go_wp2_with fail
        refine (answer_any (o1.s != o2.s) (.slice A5 _ c5) X _ (o1.e + o2.e) w5 hR5 hG5 (by omega)).mono ?_
        rintro e w6 ⟨x6, rfl, hV6, hx6⟩
        obtain ⟨A6, c6, rfl, -⟩ := id hV6
        obtain ⟨q1, q2, q3, q4, _⟩ := (b25.keep hx6).cells
        have hBW6 := keep_belowB hBW5 hx6 (Nat.le_refl _)
        have hz5 : w.heap.size + 1 + 1 < w5.heap.size := by omega
        generalize ansD ⟨o1.s != o2.s, X, o1.e + o2.e⟩ = r at *
        clear b25 hBW5 hx6 hR5 hG5 r0 r1 r2 t0 t1 t2
        go_wp2
        refine bodyPost_ret (v := .tuple #[.agg #[.bool r.1.s, .slice A6 (nd 64 r.1.n) c6, .int .i64 r.1.e], .int .i64 r.2]) (by simp [results, Tryd.results47, go_sem, q1, q2, q3]) rfl ?_
        rw [E2.out]
        exact ⟨_, rfl, (hV6.setBox hz5 _ _ _).mono (by omega), below_box hBW6 hle2 _ _ _⟩
      · have E2 : Hid (mulD n1 ⟨s1, N, e1⟩ n2 ⟨s2, M, e2⟩ = (D.zero, (mulN o1.n o2.n).2)) := by show _ = _; rw [E.out, if_neg (by simpa using hm)]
        generalize (mulN o1.n o2.n).2 = rr at *
        obtain ⟨k3, k4, k5, f1, _⟩ := b25.cells
        clear b25 hR5 hG5 r0 r1 r2 t0 t1 t2 hF5 E
        go_wp2
        refine bodyPost_ret (v := .tuple #[.agg #[.bool false, .slice none 0 0, .int .i64 0], .int .i64 rr]) (by simp [results, Tryd.results47, go_sem, k3, k4, k5]) rfl ?_
        rw [E2.out]
        exact ⟨_, rfl, DV.zero, below_box hBW5 hle2 _ _ _⟩
  · have E : Hid (mulD n1 ⟨s1, N, e1⟩ n2 ⟨s2, M, e2⟩ = (D.zero, twoD n1 e1 n2 e2)) := by show _ = _; unfold mulD; rw [if_neg hr]
    have hne : (twoD n1 e1 n2 e2 != 0) = true := by simpa using hr
    go_enter Tryd.func47, Tryd.ntmps47
    go_wp2_with fail
    rw [← hW]
    refine (two_any s1 s2 A1 A2 n1 n2 c1 c2 e1 e2 W hl1 hl2).mono ?_
    rintro e1' w1 ⟨rfl, hbw⟩
    generalize twoD n1 e1 n2 e2 = rr at *
    clear hr hW
    obtain ⟨k3, k4, k5, f1, _⟩ := (b2.keep hbw).cells
    have hBW1 := keep_belowB hB hbw (Nat.le_refl _)
    clear b0 b1 b2 hB hWs hbw
    go_wp2
    refine bodyPost_ret (v := .tuple #[.agg #[.bool false, .slice none 0 0, .int .i64 0], .int .i64 rr]) (by simp [results, Tryd.results47, go_sem, k3, k4, k5]) rfl ?_
    rw [E.out]
    exact ⟨_, rfl, DV.zero, below_box hBW1 (by omega) _ _ _⟩

end Go.Proofs.YtakjbmlkcbedmaaDoor

/- Walks of layer 3: Floor. -/
namespace Go.Proofs.YtakjbmlkcbedmaaDoor
set_option linter.unusedVariables false
open Go.RowKit

/-- what Floor works out of a canonical number -/
def floorN (o : D) : D := if o.e < 0 then ⟨o.s, if o.s then o.n / 2 ^ (-o.e).toNat + 1 else o.n / 2 ^ (-o.e).toNat, 0⟩ else o

def floorD (n : Nat) (d : D) : D × Int := if refD n d.e = 0 then ansD (floorN (oddD d)) else (D.zero, refD n d.e)

set_option maxRecDepth 100000 in
set_option maxHeartbeats 2000000 in
theorem Floor_any (s : Bool) (A : Option Addr) (N n c : Nat) (e : Int) (w : World) (hv : Rd 64 w (.slice A n c) N n) (hG : Gl w) :
    Calls Tryd.prog 51 #[.agg #[.bool s, .slice A n c, .int .i64 e]] w fun e' w' => ∃ x, e' = .returned (.tuple #[x, .int .i64 (floorD n ⟨s, N, e⟩).2]) ∧ DV w.heap.size w' x (floorD n ⟨s, N, e⟩).1 ∧ Below w.heap.size w w' := by
  have hlen := hv.len
  have hB := below2 w (Obj.cells #[Value.bool s, Value.slice A n c, Value.int IntKind.i64 e] 26) (Obj.cells #[Value.bool false, Value.slice none 0 0, Value.int IntKind.i64 0] 26)
  by_cases hr : refD n e = 0
  · have hb := refD_zero hr
    have ho := oddD_arg (s := s) hv.lt hr
    have E : Hid (floorD n ⟨s, N, e⟩ = ansD (floorN (oddD ⟨s, N, e⟩))) := by show _ = _; unfold floorD; rw [if_pos hr]
    go_enter Tryd.func51, Tryd.ntmps51
    go_wp2_with fail
    refine (refuses_any s A n c e _ hlen).mono ?_
    rintro e1 w1 ⟨rfl, hb1⟩
    rw [hr]
    clear hr
    obtain ⟨⟨k0, k1, k2⟩, ⟨k3, k4, k5⟩, f0, f1⟩ := two_boxes hb1
    have b2 := (Box3.new1 w (Obj.cells #[Value.bool s, Value.slice A n c, Value.int IntKind.i64 e] 26) (Value.bool false) (Value.slice none 0 0) (Value.int IntKind.i64 0) 26).keep hb1
    have b1 := ((Box3.new w (Value.bool s) (Value.slice A n c) (Value.int IntKind.i64 e) 26).alloc (Obj.cells #[Value.bool false, Value.slice none 0 0, Value.int IntKind.i64 0] 26)).keep hb1
    have hB1 := keep_belowB hB hb1 (Nat.le_refl _)
    have hz := hb1.size
    simp at hz
    go_wp2_with fail
    refine (odd_any s (.slice A n c) N n e w1 (hv.below hB1) (hG.below hB1) (by omega)).mono ?_
    rintro e2 w2 ⟨x2, rfl, hV, hb2⟩
    have hB2 := keep_belowB hB1 hb2 (Nat.le_refl _)
    generalize oddD ⟨s, N, e⟩ = o at *
    obtain ⟨A2, c2, rfl, hc2, hcm2, hR2, hF2⟩ := id hV
    have hz2 := hb2.size
    -- behind the store of o
    obtain ⟨w3, hw3⟩ : ∃ w3, w3 = (((w2.setCell ⟨w.heap.size, 0, none⟩ (.bool o.s)).setCell ⟨w.heap.size, 1, none⟩ (.slice A2 (nd 64 o.n) c2)).setCell ⟨w.heap.size, 2, none⟩ (.int .i64 o.e)) := ⟨_, rfl⟩
    have a1 : Box3 w3 w.heap.size (.bool o.s) (.slice A2 (nd 64 o.n) c2) (.int .i64 o.e) := by rw [hw3]; exact (b1.keep hb2).setAll _ _ _
    have a2 : Box3 w3 (w.heap.size + 1) (.bool false) (.slice none 0 0) (.int .i64 0) := by rw [hw3]; exact (b2.keep hb2).otherAll (by omega) _ _ _
    have hB3 : Below w.heap.size w w3 := by rw [hw3]; exact below_box hB2 (Nat.le_refl _) _ _ _
    have hV3 : DV w1.heap.size w3 (.agg #[.bool o.s, .slice A2 (nd 64 o.n) c2, .int .i64 o.e]) o := by rw [hw3]; exact hV.setBox (by omega) _ _ _
    have hG3 := hG.below hB3
    have hsz3 : w3.heap.size = w2.heap.size := by rw [hw3]; simp [World.setCell]
    obtain ⟨_, _, he3, _, _, hR3, hF3⟩ := id hV3
    obtain ⟨rfl, rfl⟩ : A2 = _ ∧ c2 = _ := by injection he3 with he3; simpa using he3
    obtain ⟨q0, q1, q2, q3, _⟩ := (b1.keep hb2).cells
    obtain ⟨p0, p1, p2, p3, _⟩ := a1.cells
    have hz3 : w.heap.size + 1 < w3.heap.size := by omega
    by_cases hneg : o.e < 0
    · obtain ⟨t, ht⟩ : ∃ t : Nat, -o.e = (t : Int) := ⟨(-o.e).toNat, by omega⟩
      have htn : (-o.e).toNat = t := by omega
      have E2 : Hid (floorD n ⟨s, N, e⟩ = ansD ⟨o.s, if o.s then o.n / 2 ^ t + 1 else o.n / 2 ^ t, 0⟩) := by show _ = _; rw [E.out]; unfold floorN; rw [if_pos hneg, htn]
      have htl : t ≤ 9223372036854775807 := by omega
      have hd : decide (o.e < 0) = true := by simpa using hneg
      have hnd : nd 64 (o.n / 2 ^ t) ≤ 1024 := Nat.le_trans (nd_le 64 _ (nd 64 o.n) (by decide) (Nat.lt_of_le_of_lt (Nat.div_le_self _ _) (lt_nd 64 o.n (by decide)))) ho.2.2.2
      have HG := Lib.hid hG3
      have HB := Lib.hid hB3
      have HR := Lib.hid hR3
      have A1x := Lib.hid a1
      clear he3 ho hb hV hV3 hb1 hb2 b1 b2 a1 hR2 hF2 hR3 hF3 hB hB1 hB2 hB3 hv hG3 k0 k1 k2 k3 k4 k5 f0 f1 hz hz2 hsz3 hneg E htn
      go_wp2_with fail
      rw [← hw3]
      clear hw3 q0 q1 q2 q3
      go_wp2_with fail
      refine (Shr_any (.slice A2 (nd 64 o.n) c2) o.n _ t _ HR.out htl).mono ?_
      rintro e3 w4 ⟨v4, rfl, hR4, hF4, hb4⟩
      obtain ⟨A4, c4, rfl, hc4, hcm4⟩ := hR4.form
      have hB4 := keep_belowB HB.out hb4 (Nat.le_refl _)
      have d1 := A1x.out.keep hb4
      have d2 := a2.keep hb4
      obtain ⟨q0, q1, q2, q3, _⟩ := d1.cells
      have d1' := (d1.set1 (.slice A4 (nd 64 (o.n / 2 ^ t)) c4)).set2 (.int .i64 0)
      have d2' := (d2.setOther (p := ⟨w.heap.size, 1, none⟩) (by simp) (.slice A4 (nd 64 (o.n / 2 ^ t)) c4)).setOther (p := ⟨w.heap.size, 2, none⟩) (by simp) (.int .i64 0)
      have hz4 := hb4.size
      have hlt4 : w.heap.size < w3.heap.size := by omega
      have hR5 := (hR4.setCell_fr hF4 (p := ⟨w.heap.size, 1, none⟩) hlt4 (.slice A4 (nd 64 (o.n / 2 ^ t)) c4)).setCell_fr (hF4.setCell (p := ⟨w.heap.size, 1, none⟩) hlt4 (.slice A4 (nd 64 (o.n / 2 ^ t)) c4)) (p := ⟨w.heap.size, 2, none⟩) hlt4 (.int .i64 0)
      have hF5 := (hF4.setCell (p := ⟨w.heap.size, 1, none⟩) hlt4 (.slice A4 (nd 64 (o.n / 2 ^ t)) c4)).setCell (p := ⟨w.heap.size, 2, none⟩) hlt4 (.int .i64 0)
      have hB5 := (hB4.setCell (p := ⟨w.heap.size, 1, none⟩) (Nat.le_refl _) (.slice A4 (nd 64 (o.n / 2 ^ t)) c4)).setCell (p := ⟨w.heap.size, 2, none⟩) (Nat.le_refl _) (.int .i64 0)
      obtain ⟨w5, hw5⟩ : ∃ w5, w5 = (w4.setCell ⟨w.heap.size, 1, none⟩ (.slice A4 (nd 64 (o.n / 2 ^ t)) c4)).setCell ⟨w.heap.size, 2, none⟩ (.int .i64 0) := ⟨_, rfl⟩
      rw [← hw5] at d1' d2' hR5 hF5 hB5
      have hsz5 : w5.heap.size = w4.heap.size := by rw [hw5]; simp [World.setCell]
      have hG5 := hG.below hB5
      have hGx := hG
      generalize o.n / 2 ^ t = Q at *
      generalize o.s = os at *
      obtain ⟨r0, r1, r2, r3, _⟩ := d1'.cells
      clear p0 p1 p2 p3 d1 d2 hR4 hF4 hB4 hb4 HG HB HR A1x ht hd
      have hzz : w.heap.size + 1 < w5.heap.size := by omega
      cases os
      · have E3 : Hid (floorD n ⟨s, N, e⟩ = ansD ⟨false, Q, 0⟩) := E2.out
        go_wp2_with fail
        rw [← hw5]
        clear hw5 hG
        refine (answer_any false (.slice A4 (nd 64 Q) c4) Q _ 0 _ hR5 hG5 (by omega)).mono ?_
        rintro e3 w6 ⟨x3, rfl, hV6, hb6⟩
        have hB6 := keep_belowB hB5 hb6 (Nat.le_refl _)
        obtain ⟨q3', q4', q5', g1', _⟩ := (d2'.keep hb6).cells
        generalize ansD ⟨false, Q, 0⟩ = r at *
        obtain ⟨A6, c6, rfl, hV6'⟩ := id hV6
        clear E2 d1' d2' hR5 hF5 hB5 hG5
        go_wp2
        refine bodyPost_ret (v := .tuple #[.agg #[.bool r.1.s, .slice A6 (nd 64 r.1.n) c6, .int .i64 r.1.e], .int .i64 r.2]) (by simp [results, Tryd.results51, go_sem, q3', q4', q5']) rfl ?_
        rw [E3.out]
        exact ⟨_, rfl, (hV6.setBox (by omega) _ _ _).mono (by omega), below_box hB6 (Nat.le_succ _) _ _ _⟩
      · have E3 : Hid (floorD n ⟨s, N, e⟩ = ansD ⟨true, Q + 1, 0⟩) := E2.out
        go_wp2_with fail
        rw [← hw5]
        clear hw5 hG
        have h1 : Rd 64 (w5.alloc (.cells #[.int .u64 1] 42)) (.slice (some ⟨w4.heap.size, 0, none⟩) 1 1) 1 1 := by
          have h := Rd.one w5 1 (by omega)
          rw [show ((1 : Nat) : Int) = 1 from rfl, hsz5] at h
          exact h
        have hal := below1 w5 (.cells #[.int .u64 1] 42)
        have hRa := hR5.below hal
        refine (Add_any (.slice A4 (nd 64 Q) c4) (.slice (some ⟨w4.heap.size, 0, none⟩) 1 1) Q _ 1 1 _ hRa h1 (by omega) (by omega)).mono ?_
        rintro e3 w6 ⟨v6, rfl, hR6, hF6, hb6⟩
        obtain ⟨A6, c6, rfl, hc6, hcm6⟩ := hR6.form
        have hB6 := keep_belowB (keep_belowB hB5 hal (Nat.le_refl _)) hb6 (Nat.le_refl _)
        have m1 := (d1'.keep hal).keep hb6
        have m2 := (d2'.keep hal).keep hb6
        obtain ⟨q0, q1, q2, q3, _⟩ := m1.cells
        have m2' := m2.setOther (p := ⟨w.heap.size, 1, none⟩) (by simp) (.slice A6 (nd 64 (Q + 1)) c6)
        have m1' := m1.set1 (.slice A6 (nd 64 (Q + 1)) c6)
        obtain ⟨t0, t1, t2, t3, _⟩ := m1'.cells
        have hz6 := hb6.size
        simp at hz6
        have hR7 := hR6.setCell_fr hF6 (p := ⟨w.heap.size, 1, none⟩) (by simp; omega) (.slice A6 (nd 64 (Q + 1)) c6)
        have hB7 := hB6.setCell (p := ⟨w.heap.size, 1, none⟩) (Nat.le_refl _) (.slice A6 (nd 64 (Q + 1)) c6)
        have hG7 : Gl (w6.setCell ⟨w.heap.size, 1, none⟩ (.slice A6 (nd 64 (Q + 1)) c6)) := hGx.below hB7
        generalize Q + 1 = Q1 at *
        clear E2 d1' d2' m1 m2 m1' hR5 hF5 hB5 hG5 r0 r1 r2 r3 hR6 hF6 hB6 hb6 hal h1
        go_wp2_with fail
        refine (answer_any true (.slice A6 (nd 64 Q1) c6) Q1 _ 0 _ hR7 hG7 (by omega)).mono ?_
        rintro e3 w8 ⟨x3, rfl, hV8, hb8⟩
        have hB8 := keep_belowB hB7 hb8 (Nat.le_refl _)
        obtain ⟨q3', q4', q5', g1', _⟩ := (m2'.keep hb8).cells
        generalize ansD ⟨true, Q1, 0⟩ = r at *
        obtain ⟨A8, c8, rfl, hV8'⟩ := id hV8
        clear hR7 hG7 hB7 m2'
        go_wp2
        refine bodyPost_ret (v := .tuple #[.agg #[.bool r.1.s, .slice A8 (nd 64 r.1.n) c8, .int .i64 r.1.e], .int .i64 r.2]) (by simp [results, Tryd.results51, go_sem, q3', q4', q5']) rfl ?_
        rw [E3.out]
        exact ⟨_, rfl, (hV8.setBox (by simp [World.setCell]; omega) _ _ _).mono (by simp [World.setCell]; omega), below_box hB8 (Nat.le_succ _) _ _ _⟩
    · have E2 : Hid (floorD n ⟨s, N, e⟩ = ansD ⟨o.s, o.n, o.e⟩) := by show _ = _; rw [E.out]; unfold floorN; rw [if_neg hneg]
      have hd : decide (o.e < 0) = false := by simpa using hneg
      have hw2 : -1000000000000 ≤ o.e ∧ o.e ≤ 1000000000000 := by omega
      have HG := Lib.hid hG3
      have HB := Lib.hid hB3
      have HR := Lib.hid hR3
      clear he3 ho hb hV hV3 hb1 hb2 b1 b2 a1 hR2 hF2 hR3 hF3 hB hB1 hB2 hB3 hv hG hG3 k0 k1 k2 k3 k4 k5 f0 f1 hz hz2 hsz3 hneg E
      go_wp2_with fail
      rw [← hw3]
      clear hw3 q0 q1 q2 q3
      go_wp2_with fail
      refine (answer_any o.s (.slice A2 (nd 64 o.n) c2) o.n _ o.e _ HR.out HG.out hw2).mono ?_
      rintro e3 w4 ⟨x3, rfl, hV4, hb3⟩
      have hB4 := keep_belowB HB.out hb3 (Nat.le_refl _)
      obtain ⟨q3', q4', q5', g1', _⟩ := (a2.keep hb3).cells
      generalize ansD ⟨o.s, o.n, o.e⟩ = r at *
      obtain ⟨A4, c4, rfl, hV4'⟩ := id hV4
      go_wp2
      refine bodyPost_ret (v := .tuple #[.agg #[.bool r.1.s, .slice A4 (nd 64 r.1.n) c4, .int .i64 r.1.e], .int .i64 r.2]) (by simp [results, Tryd.results51, go_sem, q3', q4', q5']) rfl ?_
      rw [E2.out]
      exact ⟨_, rfl, (hV4.setBox (by omega) _ _ _).mono (by omega), below_box hB4 (Nat.le_succ _) _ _ _⟩
  · have E : Hid (floorD n ⟨s, N, e⟩ = (D.zero, refD n e)) := by show _ = _; unfold floorD; rw [if_neg hr]
    have hne : (refD n e != 0) = true := by simpa using hr
    go_enter Tryd.func51, Tryd.ntmps51
    go_wp2_with fail
    refine (refuses_any s A n c e _ hlen).mono ?_
    rintro e1 w1 ⟨rfl, hb1⟩
    generalize refD n e = rr at *
    clear hr
    obtain ⟨⟨k0, k1, k2⟩, ⟨k3, k4, k5⟩, f0, f1⟩ := two_boxes hb1
    have hB1 := keep_belowB hB hb1 (Nat.le_refl _)
    go_wp2
    refine bodyPost_ret (v := .tuple #[.agg #[.bool false, .slice none 0 0, .int .i64 0], .int .i64 rr]) (by simp [results, Tryd.results51, go_sem, k3, k4, k5]) rfl ?_
    rw [E.out]
    exact ⟨_, rfl, DV.zero, below_box hB1 (Nat.le_succ _) _ _ _⟩

end Go.Proofs.YtakjbmlkcbedmaaDoor

/- The plain laws of exact numbers: what the calls answer, in units of 2^L. -/
namespace Go.Proofs.YtakjbmlkcbedmaaDoor
set_option linter.unusedVariables false

/-- an answer without an error: canonical, within the limits, of that value -/
def Res (r : D × Int) (L x : Int) : Prop := r.2 = 0 → (r.1.can ∧ nd 64 r.1.n ≤ 1024 ∧ -40000 ≤ r.1.e ∧ r.1.e ≤ 40000 ∧ r.1.i L = x)

theorem ansD_res (d : D) (L : Int) (h : L ≤ d.e) : Res (ansD d) L (d.i L) := by
  intro h0
  unfold ansD at *
  split at h0
  · simp at h0
  · rename_i h1
    rw [if_neg h1]
    split at h0
    · simp at h0
    · rename_i h2
      rw [if_neg h2]
      refine ⟨oddD_can d, ?_, ?_, ?_, i_odd d L h⟩
      · show nd 64 (oddD d).n ≤ 1024; omega
      · show -40000 ≤ (oddD d).e; omega
      · show (oddD d).e ≤ 40000; omega

theorem res_ref {r : D × Int} {L x : Int} (h : Res r L x) (h0 : r.2 = 0) : refD (nd 64 r.1.n) r.1.e = 0 := by
  obtain ⟨_, h1, h2, h3, _⟩ := h h0
  unfold refD
  rw [if_neg (by omega), if_neg (by omega)]

theorem addD_res (n1 n2 : Nat) (a b : D) (L : Int) (hL : L ≤ -40000) : Res (addD n1 a n2 b) L (a.i L + b.i L) := by
  intro h0
  unfold addD at *
  split at h0
  · rename_i h
    obtain ⟨h1, h2⟩ := twoD_zero h
    have g1 := refD_zero h1
    have g2 := refD_zero h2
    rw [if_pos h]
    have l1 := oddD_low a L (by omega) (by omega)
    have l2 := oddD_low b L (by omega) (by omega)
    have h3 := ansD_res (sumD (oddD a) (oddD b)) L (sumD_low _ _ L l1 l2 (by omega)) h0
    rw [i_sum _ _ L l1 l2, i_odd a L (by omega), i_odd b L (by omega)] at h3
    exact h3
  · rename_i h
    exact absurd h0 h

theorem subD_res (n1 n2 : Nat) (a b : D) (L : Int) (hL : L ≤ -40000) : Res (subD n1 a n2 b) L (a.i L - b.i L) := by
  have h := addD_res n1 n2 a ⟨!b.s, b.n, b.e⟩ L hL
  rw [D.i_neg] at h
  exact h

theorem negD_res (n : Nat) (a : D) (L : Int) (hL : L ≤ -40000) : Res (negD n a) L (- a.i L) := by
  intro h0
  unfold negD at *
  split at h0
  · rename_i h
    have g := refD_zero h
    rw [if_pos h]
    have h3 := ansD_res ⟨!a.s, a.n, a.e⟩ L (by show L ≤ a.e; omega) h0
    rw [D.i_neg] at h3
    exact h3
  · rename_i h
    exact absurd h0 h

theorem canonD_res (n : Nat) (a : D) (L : Int) (hL : L ≤ -40000) : Res (canonD n a) L (a.i L) := by
  intro h0
  unfold canonD at *
  split at h0
  · rename_i h
    have g := refD_zero h
    rw [if_pos h]
    exact ansD_res a L (by omega) h0
  · rename_i h
    exact absurd h0 h

theorem cmpD_val (n1 n2 : Nat) (a b : D) (L : Int) (hL : L ≤ -40000) (h1 : refD n1 a.e = 0) (h2 : refD n2 b.e = 0) : cmpD n1 a n2 b = (sgI (a.i L - b.i L), 0) := by
  have g1 := refD_zero h1
  have g2 := refD_zero h2
  unfold cmpD
  rw [if_pos (by unfold twoD; rw [if_pos h1]; exact h2)]
  have l1 := oddD_low a L (by omega) (by omega)
  have l2 := oddD_low b L (by omega) (by omega)
  rw [sgD_i _ L, i_sum _ ⟨!(oddD b).s, (oddD b).n, (oddD b).e⟩ L l1 l2, D.i_neg, i_odd a L (by omega)]
  have e : D.i L ⟨(oddD b).s, (oddD b).n, (oddD b).e⟩ = b.i L := i_odd b L (by omega)
  rw [e, Int.sub_eq_add_neg]

theorem cmpD_err {n1 n2 : Nat} {a b : D} (h : (cmpD n1 a n2 b).2 ≠ 0) : (cmpD n1 a n2 b).1 = 0 ∧ (cmpD n2 b n1 a).1 = 0 ∧ (cmpD n2 b n1 a).2 ≠ 0 := by
  unfold cmpD at *
  have hne : twoD n1 a.e n2 b.e ≠ 0 := by
    intro h'; rw [if_pos h'] at h; exact h rfl
  have hne2 : twoD n2 b.e n1 a.e ≠ 0 := by
    intro h'
    obtain ⟨q1, q2⟩ := twoD_zero h'
    exact hne (by unfold twoD; rw [if_pos q2]; exact q1)
  rw [if_neg hne, if_neg hne2]
  exact ⟨rfl, rfl, hne2⟩

theorem cmpD_ok {n1 n2 : Nat} {a b : D} (h : (cmpD n1 a n2 b).2 = 0) : refD n1 a.e = 0 ∧ refD n2 b.e = 0 := by
  unfold cmpD at h
  split at h
  · rename_i h'; exact twoD_zero h'
  · rename_i h'; exact absurd h h'

theorem sgI_neg (x : Int) : sgI (-x) = - sgI x := by
  unfold sgI
  by_cases h : x = 0
  · simp [h]
  · by_cases h2 : x < 0
    · rw [if_neg (by omega), if_neg (by omega), if_neg h, if_pos h2]; rfl
    · rw [if_neg (by omega), if_pos (by omega), if_neg h, if_neg h2]

theorem sgI_range (x : Int) : -1 ≤ sgI x ∧ sgI x ≤ 1 := by
  unfold sgI; split
  · omega
  · split <;> omega

theorem clampD_range (k : Int) : -422144 ≤ clampD k ∧ clampD k ≤ 422144 := by unfold clampD; omega

theorem scaleD_res (n : Nat) (a : D) (k L : Int) (hL : L ≤ -40000) : Res (scaleD n a k) (L + clampD k) (a.i L) := by
  intro h0
  unfold scaleD at *
  split at h0
  · rename_i h
    have g := refD_zero h
    have l1 := oddD_low a L (by omega) (by omega)
    have ev := i_odd a L (by omega)
    rw [if_pos h]
    split at h0
    · rename_i hz
      rw [if_pos hz]
      have hc := oddD_can a
      have hzero : oddD a = D.zero := by
        rcases hc with hc | hc
        · exact hc
        · rw [hz] at hc; simp at hc
      rw [hzero] at ev ⊢
      rw [D.i_zero] at ev
      refine ⟨Or.inl rfl, by decide, by decide, by decide, ?_⟩
      show D.zero.i _ = _
      rw [D.i_zero]; exact ev
    · rename_i hz
      rw [if_neg hz]
      have h3 := ansD_res ⟨(oddD a).s, (oddD a).n, (oddD a).e + clampD k⟩ (L + clampD k) (by show L + clampD k ≤ (oddD a).e + clampD k; omega) h0
      have e2 : D.i (L + clampD k) ⟨(oddD a).s, (oddD a).n, (oddD a).e + clampD k⟩ = a.i L := by
        rw [← ev]
        unfold D.i
        simp only
        rw [show (oddD a).e + clampD k - (L + clampD k) = (oddD a).e - L from by omega]
      rw [e2] at h3
      exact h3
  · rename_i h
    exact absurd h0 h

end Go.Proofs.YtakjbmlkcbedmaaDoor

/- The plain laws of floor and top. -/
namespace Go.Proofs.YtakjbmlkcbedmaaDoor
set_option linter.unusedVariables false

theorem floorN_bounds (o : D) (L : Int) (hc : o.can) (h : L ≤ o.e) (h0 : L ≤ 0) : (floorN o).i L ≤ o.i L ∧ o.i L < (floorN o).i L + 2 ^ (-L).toNat := by
  unfold floorN
  by_cases he : o.e < 0
  · rw [if_pos he]
    have hodd : o.n % 2 = 1 := by
      rcases hc with h | h
      · rw [h] at he; simp [D.zero] at he
      · exact h
    unfold D.i
    simp only
    have ek : (-L).toNat = (-o.e).toNat + (o.e - L).toNat := by omega
    have ek2 : (0 - L).toNat = (-o.e).toNat + (o.e - L).toNat := by omega
    rw [ek2, ek, Int.pow_add]
    have hQ := ipow_pos (o.e - L).toNat
    have hdiv := Nat.div_add_mod o.n (2 ^ (-o.e).toNat)
    have hmod := Nat.mod_lt o.n (pow_pos2 (-o.e).toNat)
    have hr : 0 < o.n % 2 ^ (-o.e).toNat := by
      obtain ⟨k, hk⟩ : ∃ k, (-o.e).toNat = k + 1 := ⟨(-o.e).toNat - 1, by omega⟩
      rw [hk, Nat.pow_succ]
      rw [hk, Nat.pow_succ] at hdiv
      rcases Nat.eq_zero_or_pos (o.n % (2 ^ k * 2)) with hz | hz
      · rw [hz] at hdiv
        have : o.n = 2 * (2 ^ k * (o.n / (2 ^ k * 2))) := by rw [← Nat.mul_assoc, Nat.mul_comm 2 (2 ^ k)]; omega
        omega
      · exact hz
    have hP : ((2 ^ (-o.e).toNat : Nat) : Int) = 2 ^ (-o.e).toNat := by simp
    rw [← hP]
    generalize (2 : Nat) ^ (-o.e).toNat = P at *
    generalize (2 : Int) ^ (o.e - L).toNat = Q at *
    generalize o.n / P = q at *
    generalize o.n % P = r at *
    have hn : (o.n : Int) = (P : Int) * q + r := by
      rw [← hdiv]; simp
    cases o.s
    · simp only [Bool.false_eq_true, if_false]
      rw [hn, ← Int.mul_assoc]
      have h1 : 0 ≤ (r : Int) * Q := Int.mul_nonneg (by omega) (by omega)
      have h2 : 0 < ((P : Int) - r) * Q := Int.mul_pos (by omega) hQ
      constructor <;> grind
    · simp only [if_true]
      rw [hn, ← Int.mul_assoc]
      have h1 : 0 < (r : Int) * Q := Int.mul_pos (by omega) hQ
      have h2 : 0 < ((P : Int) - r) * Q := Int.mul_pos (by omega) hQ
      have e1 : ((q + 1 : Nat) : Int) = (q : Int) + 1 := by omega
      rw [e1]
      constructor <;> grind
  · rw [if_neg he]
    have := ipow_pos (-L).toNat
    omega

theorem floorN_low (o : D) (L : Int) (h : L ≤ o.e) (h0 : L ≤ 0) : L ≤ (floorN o).e := by
  unfold floorN
  split
  · exact h0
  · exact h

theorem floorN_e (o : D) : 0 ≤ (floorN o).e := by
  unfold floorN
  split
  · exact Int.le_refl _
  · omega

/-- the floor, where it is answered -/
theorem floorD_res (n : Nat) (a : D) (L : Int) (hL : L ≤ -40000) : Res (floorD n a) L ((floorN (oddD a)).i L) := by
  intro h0
  unfold floorD at *
  split at h0
  · rename_i h
    have g := refD_zero h
    rw [if_pos h]
    exact ansD_res _ L (floorN_low _ L (oddD_low a L (by omega) (by omega)) (by omega)) h0
  · rename_i h
    exact absurd h0 h

theorem floorD_val (n : Nat) (a : D) (L : Int) (hL : L ≤ -40000) (h0 : (floorD n a).2 = 0) : refD n a.e = 0 ∧ (floorN (oddD a)).i L ≤ a.i L ∧ a.i L < (floorN (oddD a)).i L + 2 ^ (-L).toNat := by
  unfold floorD at h0
  split at h0
  · rename_i h
    have g := refD_zero h
    have := floorN_bounds (oddD a) L (oddD_can a) (oddD_low a L (by omega) (by omega)) (by omega)
    rw [i_odd a L (by omega)] at this
    exact ⟨h, this⟩
  · rename_i h
    exact absurd h0 h

/-- the top, where it is answered -/
theorem topD_val (n : Nat) (a : D) (L : Int) (h0 : (topD n a).2 = 0) : refD n a.e = 0 ∧ a.n ≠ 0 ∧ (topD n a).1 = (bl a.n : Int) - 1 + a.e := by
  unfold topD at *
  split at h0
  · rename_i h
    rw [if_pos h]
    split at h0
    · simp at h0
    · rename_i hn
      rw [if_neg hn]
      exact ⟨h, hn, rfl⟩
  · rename_i h
    exact absurd h0 h

theorem i_one (e L : Int) : D.i L ⟨false, 1, e⟩ = 2 ^ (e - L).toNat := by
  unfold D.i
  simp

theorem top_bounds (a : D) (L : Int) (h : L ≤ a.e) (hn : a.n ≠ 0) :
    D.i L ⟨false, 1, (bl a.n : Int) - 1 + a.e⟩ ≤ D.i L ⟨false, a.n, a.e⟩ ∧ D.i L ⟨false, a.n, a.e⟩ < D.i L ⟨false, 1, (bl a.n : Int) - 1 + a.e + 1⟩ := by
  rw [i_one, i_one]
  unfold D.i
  simp only [Bool.false_eq_true, if_false]
  have hp : 0 < bl a.n := bl_pos a.n hn
  have e1 : ((bl a.n : Int) - 1 + a.e - L).toNat = (bl a.n - 1) + (a.e - L).toNat := by omega
  have e2 : ((bl a.n : Int) - 1 + a.e + 1 - L).toNat = bl a.n + (a.e - L).toNat := by omega
  rw [e1, e2, Int.pow_add, Int.pow_add]
  have hQ := ipow_pos (a.e - L).toNat
  have h1 : ((2 ^ (bl a.n - 1) : Nat) : Int) = 2 ^ (bl a.n - 1) := by simp
  have h2 : ((2 ^ bl a.n : Nat) : Int) = 2 ^ bl a.n := by simp
  rw [← h1, ← h2]
  have l1 := bl_ge a.n hn
  have l2 := bl_lt a.n
  generalize (2 : Int) ^ (a.e - L).toNat = Q at *
  exact ⟨Int.mul_le_mul_of_nonneg_right (by omega) (by omega), Int.mul_lt_mul_of_pos_right (by omega) hQ⟩

end Go.Proofs.YtakjbmlkcbedmaaDoor

/- Walks of the layer's statements: words, same, odd. -/
namespace Go.Proofs.YtakjbmlkcbedmaaDoor
set_option linter.unusedVariables false
open Go.RowKit

/-- do they hold the same words? -/
def sameW (n m N M : Nat) : Bool := decide (n = m ∧ N = M)

theorem dg_ne_of {k n N M : Nat} (hN : N < 2 ^ (k * n)) (hM : M < 2 ^ (k * n)) (h : ∀ j, j < n → dg k N j = dg k M j) : N = M := dg_ext k n N M hN hM h

set_option maxHeartbeats 1000000 in
theorem words_any (v u : Value) (N n M m : Nat) (w : World) (hv : Rd 64 w v N n) (hu : Rd 64 w u M m) :
    Calls Tryd.prog 31 #[v, u] w fun e w' => e = .returned (.bool (sameW n m N M)) ∧ ∃ d, w' = w.drewN d := by
  have hvl := hv.lt
  have hul := hu.lt
  have hlen := hv.len
  have hlen2 := hu.len
  obtain ⟨A1, c1, rfl, hc1, hcm1⟩ := hv.form
  obtain ⟨A2, c2, rfl, hc2, hcm2⟩ := hu.form
  obtain ⟨_, _, _, hr1⟩ := hv.at_
  obtain ⟨_, _, _, hr2⟩ := hu.at_
  by_cases hnm : n = m
  · subst hnm
    have HX := Lib.hid (dg_ext 64 n N M hvl hul)
    clear hvl hul
    go_enter Tryd.func31, Tryd.ntmps31
    go_wp2
    go_loopw [5] (fun x wr => ∃ i : Nat, i ≤ n ∧ x = .int .i64 i ∧ Hid (∀ j, j < i → dg 64 N j = dg 64 M j) ∧ ∃ d, wr = w.drewN d) (fun x _ => n - (intOf x).toNat)
    case atStart => exact ⟨0, Nat.zero_le _, rfl, fun j hj => by omega, 0, rfl⟩
    case round =>
      obtain ⟨i, hi, rfl, hall, d, rfl⟩ := hrel
      by_cases hin : i < n
      · obtain ⟨b1, o1, rfl, hb1, hcell1⟩ := hr1 (by omega)
        obtain ⟨b2, o2, rfl, hb2, hcell2⟩ := hr2 (by omega)
        have hk1 : w.cell? ⟨b1, o1 + i, none⟩ = _ := hcell1 i hin
        have hk2 : w.cell? ⟨b2, o2 + i, none⟩ = _ := hcell2 i hin
        have hin1 : (i : Int) < n := by omega
        clear hr1 hr2 hcell1 hcell2
        by_cases hxy : dg 64 N i = dg 64 M i
        · have hnext : Hid (∀ j, j < i + 1 → dg 64 N j = dg 64 M j) := fun j hj => by
            rcases Nat.lt_or_ge j i with h | h
            · exact hall.out j h
            · have : j = i := by omega
              rw [this]; exact hxy
          rw [hxy] at hk1
          clear hall hxy HX
          generalize dg 64 M i = y at *
          have hb' : ((y : Int) != (y : Int)) = false := by simp
          go_wp2
          go_quiet (fail)
          go_wp2
          go_roundw
          case rel => exact ⟨i + 1, by omega, by go_num, hnext, by first | exact ⟨_, rfl⟩ | (simp only [World.drewN_drewN]; exact ⟨_, rfl⟩)⟩
          case measure => simp [intOf]; omega
        · have hne : N ≠ M := fun h => hxy (by rw [h])
          have H : Hid (sameW n n N M = false) := by show _ = _; simp [sameW, hne]
          have hb' : (((dg 64 N i : Nat) : Int) != ((dg 64 M i : Nat) : Int)) = true := by rw [bne_iff_ne]; omega
          clear hall hxy HX hne
          generalize dg 64 N i = x at *
          generalize dg 64 M i = y at *
          go_wp2
          go_quiet (fail)
          go_wp2
          go_ret
          exact ⟨by rw [H.out]; rfl, by first | exact ⟨_, rfl⟩ | (simp only [World.drewN_drewN]; exact ⟨_, rfl⟩)⟩
      · obtain rfl : i = n := by omega
        have H : Hid (sameW i i N M = true) := by show _ = _; simp [sameW, HX.out hall.out]
        clear hall HX hr1 hr2
        go_wp2
        go_ret
        exact ⟨by rw [H.out]; rfl, d, rfl⟩
  · have H : Hid (sameW n m N M = false) := by show _ = _; simp [sameW, hnm]
    have hb' : ((n : Int) != (m : Int)) = true := by rw [bne_iff_ne]; omega
    have hb2 : ((n : Int) == (m : Int)) = false := by rw [beq_eq_false_iff_ne]; omega
    clear hr1 hr2
    go_enter Tryd.func31, Tryd.ntmps31
    go_wp2
    go_ret
    exact ⟨by rw [H.out]; rfl, 0, rfl⟩

/-- are they written alike? -/
def sameB (s1 : Bool) (n : Nat) (N : Nat) (e1 : Int) (s2 : Bool) (m : Nat) (M : Nat) (e2 : Int) : Bool := s1 == s2 && (e1 == e2 && sameW n m N M)

set_option maxHeartbeats 1000000 in
theorem same_any (s1 s2 : Bool) (A1 A2 : Option Addr) (N n c1 M m c2 : Nat) (e1 e2 : Int) (w : World) (hv : Rd 64 w (.slice A1 n c1) N n) (hu : Rd 64 w (.slice A2 m c2) M m) :
    Calls Tryd.prog 11 #[.agg #[.bool s1, .slice A1 n c1, .int .i64 e1], .agg #[.bool s2, .slice A2 m c2, .int .i64 e2]] w fun e' w' =>
      e' = .returned (.bool (sameB s1 n N e1 s2 m M e2)) ∧ Below w.heap.size w w' := by
  have hB := below2 w (Obj.cells #[Value.bool s1, Value.slice A1 n c1, Value.int IntKind.i64 e1] 26) (Obj.cells #[Value.bool s2, Value.slice A2 m c2, Value.int IntKind.i64 e2] 26)
  by_cases hs : s1 = s2
  · by_cases he : e1 = e2
    · have H : Hid (sameB s1 n N e1 s2 m M e2 = sameW n m N M) := by show _ = _; unfold sameB; simp [hs, he]
      have hs' : (s1 == s2) = true := by simpa using hs
      have he' : (e1 == e2) = true := by simpa using he
      have hvW := hv.below hB
      have huW := hu.below hB
      clear hs he hv hu hB
      go_enter Tryd.func11, Tryd.ntmps11
      go_wp2_with fail
      refine (words_any (.slice A1 n c1) (.slice A2 m c2) N n M m _ hvW huW).mono ?_
      rintro e w1 ⟨rfl, d, rfl⟩
      generalize sameW n m N M = q at *
      go_wp2
      go_ret
      exact ⟨by rw [H.out]; rfl, below_drewN (below2 ..) _⟩
    · have H : Hid (sameB s1 n N e1 s2 m M e2 = false) := by show _ = _; unfold sameB; simp [he]
      have hs' : (s1 == s2) = true := by simpa using hs
      have he' : (e1 == e2) = false := by simpa using he
      clear hs he hv hu
      go_enter Tryd.func11, Tryd.ntmps11
      go_wp2
      go_ret
      exact ⟨by rw [H.out]; rfl, hB⟩
  · have H : Hid (sameB s1 n N e1 s2 m M e2 = false) := by show _ = _; unfold sameB; simp [hs]
    have hs' : (s1 == s2) = false := by simpa using hs
    clear hs hv hu
    go_enter Tryd.func11, Tryd.ntmps11
    go_wp2
    go_ret
    exact ⟨by rw [H.out]; rfl, hB⟩

end Go.Proofs.YtakjbmlkcbedmaaDoor

/- Walks of the layer's statements: awake. -/
namespace Go.Proofs.YtakjbmlkcbedmaaDoor
set_option linter.unusedVariables false
open Go.RowKit

theorem nd_small (x : Nat) (h : 0 < x) (h2 : x < 18446744073709551616) : nd 64 x = 1 := nd_unique 64 x 1 (by decide) (by simpa using h2) (Or.inr (by simp; omega))

theorem odd12 : oddD ⟨false, 12, 0⟩ = ⟨false, 3, 2⟩ := by
  have h : tzN 12 = 2 := tzN_unique (m := 1) (by decide)
  unfold oddD; rw [if_neg (by simp)]; simp only [h]; rfl
theorem odd1 (e : Int) : oddD ⟨false, 1, e⟩ = ⟨false, 1, e⟩ := can_odd _ (Or.inr (by show 1 % 2 = 1; rfl))
theorem odd3 (e : Int) : oddD ⟨false, 3, e⟩ = ⟨false, 3, e⟩ := can_odd _ (Or.inr (by show 3 % 2 = 1; rfl))
theorem odd2 (e : Int) : oddD ⟨false, 2, e⟩ = ⟨false, 1, e + 1⟩ := by
  have h : tzN 2 = 1 := tzN_unique (m := 0) (by decide)
  unfold oddD; rw [if_neg (by simp)]; simp only [h]; rfl

theorem awake1 : canonD 2 ⟨false, 12, 0⟩ = (⟨false, 3, 2⟩, 0) := by
  unfold canonD ansD
  rw [odd12]
  simp [refD, nd_small]

theorem awake2 : addD 1 ⟨false, 1, 0⟩ 1 ⟨false, 1, -1⟩ = (⟨false, 3, -1⟩, 0) := by
  unfold addD
  rw [odd1, odd1]
  have h : sumD ⟨false, 1, 0⟩ ⟨false, 1, -1⟩ = ⟨false, 3, -1⟩ := by
    rw [sumD_nz (by decide) (by decide)]
    unfold addXY
    rw [if_pos rfl]
    exact odd3 (-1)
  rw [h]
  unfold ansD
  rw [odd3]
  simp [twoD, refD, nd_small]

theorem awake3 : cmpD 1 ⟨false, 2, 40000⟩ 1 ⟨false, 1, 40000⟩ = (1, 0) := by
  unfold cmpD
  rw [odd2, odd1]
  have h : sumD ⟨false, 1, 40000 + 1⟩ ⟨!false, 1, 40000⟩ = ⟨false, 1, 40000⟩ := by
    rw [sumD_nz (by decide) (by decide)]
    unfold addXY
    rw [if_neg (by decide), if_neg (by decide)]
    exact odd1 40000
  simp only [h]
  simp [twoD, refD, sgD]

theorem Rd.one' (w : World) (x : Nat) (v : Int) (hv : v = (x : Int)) (hx : x < 18446744073709551616) : Rd 64 (w.alloc (.cells #[.int .u64 v] 42)) (.slice (some ⟨w.heap.size, 0, none⟩) 1 1) x 1 := by
  subst hv; exact Rd.one w x hx

theorem Rd.low2 (w : World) (x : Nat) (v : Int) (hv : v = (x : Int)) (hx : x < 18446744073709551616) : Rd 64 (w.alloc (.cells #[.int .u64 v, .int .u64 0] 42)) (.slice (some ⟨w.heap.size, 0, none⟩) 2 2) x 2 := by
  subst hv
  refine ⟨_, 2, rfl, Nat.le_refl _, by omega, Nat.lt_of_lt_of_le hx (by decide), fun _ => ⟨w.heap.size, 0, rfl, by simp, fun j hj => ?_⟩⟩
  rw [World.cell?_alloc_at _ _ _ _ rfl]
  have h0 : dg 64 x 0 = x := by unfold dg; simp; exact hx
  have h1 : dg 64 x 1 = 0 := dg_high 64 x 1 1 (by simpa using hx) (Nat.le_refl _)
  match j, hj with
  | 0, _ => rw [h0]; rfl
  | 1, _ => rw [h1]; rfl

set_option maxRecDepth 100000 in
set_option maxHeartbeats 2000000 in
theorem awake_any (w : World) (hG : Gl w) :
    Calls Tryd.prog 5 #[] w fun e' w' => e' = .returned (.bool true) ∧ Below w.heap.size w w' := by
  go_enter Tryd.func5, Tryd.ntmps5
  go_wp2_with fail
  have hb0 := below1 w (.cells #[.int .u64 12, .int .u64 0] 42)
  refine (Canon_any false _ 12 2 2 0 _ (Rd.low2 w 12 12 rfl (by omega)) (hG.below hb0)).mono ?_
  rw [awake1]
  rintro e w1 ⟨x1, rfl, hV1, hb1⟩
  have hB1 := keep_belowB hb0 hb1 (Nat.le_refl _)
  obtain ⟨A1, c1, rfl, hc1, hcm1, hR1, hF1⟩ := id hV1
  rw [nd_small 3 (by decide) (by decide)] at *
  clear hb0 hb1 hV1
  obtain ⟨O1, hO1⟩ : ∃ O, O = Obj.cells #[Value.bool false, Value.slice A1 1 c1, Value.int IntKind.i64 2] 26 := ⟨_, rfl⟩
  have b1 : Box3 (w1.alloc O1) w1.heap.size (.bool false) (.slice A1 1 c1) (.int .i64 2) := by rw [hO1]; exact Box3.new ..
  have hA := Rd.one' (w1.alloc O1) 1 1 rfl (by omega)
  have hA2 := hA.alloc (.cells #[.int .u64 1] 42)
  have hA3 := Rd.one' ((w1.alloc O1).alloc (.cells #[.int .u64 1] 42)) 1 1 rfl (by omega)
  rw [World.size_alloc] at hA hA2 hA3
  rw [World.size_alloc] at hA3
  have hx3 := below3 w1 O1 (.cells #[.int .u64 1] 42) (.cells #[.int .u64 1] 42)
  have hB2 := keep_belowB hB1 hx3 (Nat.le_refl _)
  have hR1' := hR1.below hx3
  have b1' := (b1.alloc (.cells #[.int .u64 1] 42)).alloc (.cells #[.int .u64 1] 42)
  go_wp2_with fail
  rw [← hO1]
  refine (DAdd_any false false _ _ 1 1 1 1 1 1 0 (-1) _ hA2 hA3 (hG.below hB2)).mono ?_
  rw [awake2]
  rintro e w2 ⟨x2, rfl, hV2, hb2⟩
  have hB3 := keep_belowB hB2 hb2 (Nat.le_refl _)
  obtain ⟨A2, c2, rfl, hc2, hcm2, hR2, hF2⟩ := id hV2
  rw [nd_small 3 (by decide) (by decide)] at *
  have hR1'' := hR1'.below hb2
  have b1'' := b1'.keep hb2
  clear hO1 hA hA2 hA3 hx3 hB2 hR1' b1' b1 hB1 hV2 hb2 hF2 hR1 hF1
  obtain ⟨O2, hO2⟩ : ∃ O, O = Obj.cells #[Value.bool false, Value.slice A2 1 c2, Value.int IntKind.i64 (-1)] 26 := ⟨_, rfl⟩
  have b2 : Box3 (w2.alloc O2) w2.heap.size (.bool false) (.slice A2 1 c2) (.int .i64 (-1)) := by rw [hO2]; exact Box3.new ..
  have hA := Rd.one' (w2.alloc O2) 2 2 rfl (by omega)
  have hA2 := hA.alloc (.cells #[.int .u64 1] 42)
  have hA3 := Rd.one' ((w2.alloc O2).alloc (.cells #[.int .u64 2] 42)) 1 1 rfl (by omega)
  rw [World.size_alloc] at hA3
  have hA2 := hA.alloc (.cells #[.int .u64 1] 42)
  rw [World.size_alloc] at hA hA2 hA3
  have hx3 := below3 w2 O2 (.cells #[.int .u64 2] 42) (.cells #[.int .u64 1] 42)
  have hB4 := keep_belowB hB3 hx3 (Nat.le_refl _)
  have hR1' := hR1''.below hx3
  have hR2' := hR2.below hx3
  have b2' := (b2.alloc (.cells #[.int .u64 2] 42)).alloc (.cells #[.int .u64 1] 42)
  have b1' := b1''.keep hx3
  go_wp2_with fail
  rw [← hO2]
  refine (DCmp_any false false _ _ 2 1 1 1 1 1 40000 40000 _ hA2 hA3 (hG.below hB4)).mono ?_
  rw [awake3]
  rintro e w3 ⟨rfl, hb3⟩
  have hB5 := keep_belowB hB4 hb3 (Nat.le_refl _)
  have hR1 := hR1'.below hb3
  have hR2 := hR2'.below hb3
  have b1 := b1'.keep hb3
  have b2 := b2'.keep hb3
  clear hO2 hA hA2 hA3 hx3 hB4 hR1' hR2' b1' b2' hB3 hb3 b1'' hR1''
  obtain ⟨k0, k1, k2, k3, _⟩ := b1.cells
  obtain ⟨m0, m1, m2, m3, _⟩ := b2.cells
  go_wp2_with fail
  have hx := below1 w3 (.cells #[.int .u64 3] 42)
  refine (same_any false false A1 _ 3 1 c1 3 1 1 2 2 _ (hR1.below hx) (Rd.one' w3 3 3 rfl (by omega))).mono ?_
  rintro e w4 ⟨rfl, hb4⟩
  rw [show sameB false 1 3 2 false 1 3 2 = true from by simp [sameB, sameW]]
  have hx4 := keep_below hx hb4
  have hB6 := keep_belowB hB5 hx4 (Nat.le_refl _)
  obtain ⟨m0', m1', m2', m3', _⟩ := (b2.keep hx4).cells
  have hR2' := hR2.below hx4
  clear hx hb4 hB5 hR1 b1 k0 k1 k2 k3 m0 m1 m2 m3
  go_wp2_with fail
  have hx := below1 w4 (.cells #[.int .u64 3] 42)
  refine (same_any false false A2 _ 3 1 c2 3 1 1 (-1) (-1) _ (hR2'.below hx) (Rd.one' w4 3 3 rfl (by omega))).mono ?_
  rintro e w5 ⟨rfl, hb5⟩
  rw [show sameB false 1 3 (-1) false 1 3 (-1) = true from by simp [sameB, sameW]]
  have hB7 := keep_belowB hB6 (keep_below hx hb5) (Nat.le_refl _)
  go_wp2
  go_ret
  exact ⟨rfl, hB7⟩

end Go.Proofs.YtakjbmlkcbedmaaDoor

/- The plain laws of sums and products: what one value is is answered in one way. -/
namespace Go.Proofs.YtakjbmlkcbedmaaDoor
set_option linter.unusedVariables false

theorem ansD_eq {d1 d2 : D} (L : Int) (h1 : L ≤ d1.e) (h2 : L ≤ d2.e) (h0 : L ≤ 0) (h : d1.i L = d2.i L) : ansD d1 = ansD d2 := by
  have e : oddD d1 = oddD d2 := can_inj (oddD_can _) (oddD_can _) (oddD_low d1 L h1 h0) (oddD_low d2 L h2 h0) (by rw [i_odd _ L h1, i_odd _ L h2]; exact h)
  unfold ansD
  rw [e]

theorem ansD_can {d : D} (hc : d.can) (hn : nd 64 d.n ≤ 1024) (h1 : -40000 ≤ d.e) (h2 : d.e ≤ 40000) : ansD d = (d, 0) := by
  unfold ansD
  rw [can_odd d hc, if_neg (by omega), if_neg (by omega)]

theorem i_deep (d : D) (L : Int) (k : Nat) (h : L ≤ d.e) : d.i (L - k) = d.i L * 2 ^ k := by
  unfold D.i
  have : (d.e - (L - k)).toNat = (d.e - L).toNat + k := by omega
  rw [this, Int.pow_add, Int.mul_assoc]

theorem addD_ans {n1 n2 : Nat} {a b : D} (L : Int) (hL : L ≤ -40000) (h1 : refD n1 a.e = 0) (h2 : refD n2 b.e = 0) : ∃ d, addD n1 a n2 b = ansD d ∧ L ≤ d.e ∧ d.i L = a.i L + b.i L := by
  have g1 := refD_zero h1
  have g2 := refD_zero h2
  refine ⟨sumD (oddD a) (oddD b), ?_, ?_, ?_⟩
  · unfold addD
    rw [if_pos (by unfold twoD; rw [if_pos h1]; exact h2)]
  · exact sumD_low _ _ L (oddD_low a L (by omega) (by omega)) (oddD_low b L (by omega) (by omega)) (by omega)
  · rw [i_sum _ _ L (oddD_low a L (by omega) (by omega)) (oddD_low b L (by omega) (by omega)), i_odd a L (by omega), i_odd b L (by omega)]

theorem subD_ans {n1 n2 : Nat} {a b : D} (L : Int) (hL : L ≤ -40000) (h1 : refD n1 a.e = 0) (h2 : refD n2 b.e = 0) : ∃ d, subD n1 a n2 b = ansD d ∧ L ≤ d.e ∧ d.i L = a.i L - b.i L := by
  obtain ⟨d, e1, e2, e3⟩ := addD_ans (a := a) (b := ⟨!b.s, b.n, b.e⟩) L hL h1 h2
  refine ⟨d, e1, e2, ?_⟩
  rw [e3, D.i_neg]
  rfl

theorem odd_le (d : D) : (oddD d).n ≤ d.n := by
  unfold oddD
  split
  · exact Nat.zero_le _
  · exact Nat.div_le_self _ _

theorem odd_nd (d : D) (n : Nat) (h : d.n < 2 ^ (64 * n)) : nd 64 (oddD d).n ≤ n := nd_le 64 _ n (by decide) (Nat.lt_of_le_of_lt (odd_le d) h)

theorem i_mul (s1 s2 : Bool) (x y : Nat) (e1 e2 L : Int) (h1 : L ≤ e1) (h2 : L ≤ e2) : D.i (L + L) ⟨s1 != s2, x * y, e1 + e2⟩ = D.i L ⟨s1, x, e1⟩ * D.i L ⟨s2, y, e2⟩ := by
  unfold D.i
  simp only
  have e : (e1 + e2 - (L + L)).toNat = (e1 - L).toNat + (e2 - L).toNat := by omega
  rw [e, Int.pow_add]
  have ec : ((x * y : Nat) : Int) = (x : Int) * y := by simp
  rw [ec]
  generalize (2 : Int) ^ (e1 - L).toNat = p
  generalize (2 : Int) ^ (e2 - L).toNat = q
  cases s1 <;> cases s2 <;> simp <;> grind

theorem mulD_ans {n1 n2 : Nat} {a b : D} (L : Int) (hL : L ≤ -40000) (h1 : refD n1 a.e = 0) (h2 : refD n2 b.e = 0) (ha : a.n < 2 ^ (64 * n1)) (hb : b.n < 2 ^ (64 * n2)) :
    ∃ d, mulD n1 a n2 b = ansD d ∧ L + L ≤ d.e ∧ d.i (L + L) = a.i L * b.i L := by
  have g1 := refD_zero h1
  have g2 := refD_zero h2
  have l1 := oddD_low a L (by omega) (by omega)
  have l2 := oddD_low b L (by omega) (by omega)
  refine ⟨⟨(oddD a).s != (oddD b).s, (oddD a).n * (oddD b).n, (oddD a).e + (oddD b).e⟩, ?_, ?_, ?_⟩
  · unfold mulD
    rw [if_pos (by unfold twoD; rw [if_pos h1]; exact h2)]
    have q1 := odd_nd a n1 ha
    have q2 := odd_nd b n2 hb
    by_cases hp : 1024 < nd 64 ((oddD a).n * (oddD b).n)
    · have hm : mulN (oddD a).n (oddD b).n = (0, 5) := by unfold mulN; rw [if_pos (Or.inr (Or.inr hp))]
      rw [hm, if_neg (by decide)]
      have hz : (oddD a).n * (oddD b).n ≠ 0 := by
        intro h; rw [h, nd_zero] at hp; omega
      have o1 : (oddD a).n % 2 = 1 := by
        rcases oddD_can a with h | h
        · exfalso; apply hz; rw [h]; simp [D.zero]
        · exact h
      have o2 : (oddD b).n % 2 = 1 := by
        rcases oddD_can b with h | h
        · exfalso; apply hz; rw [h]; simp [D.zero]
        · exact h
      have hc : D.can ⟨(oddD a).s != (oddD b).s, (oddD a).n * (oddD b).n, (oddD a).e + (oddD b).e⟩ := Or.inr (by show (oddD a).n * (oddD b).n % 2 = 1; rw [Nat.mul_mod, o1, o2])
      unfold ansD
      rw [can_odd _ hc, if_pos hp]
    · have hm : mulN (oddD a).n (oddD b).n = ((oddD a).n * (oddD b).n, 0) := by unfold mulN; rw [if_neg (by omega)]
      rw [hm, if_pos rfl]
  · show L + L ≤ (oddD a).e + (oddD b).e
    omega
  · rw [i_mul _ _ _ _ _ _ L l1 l2]
    have e1 := i_odd a L (by omega)
    have e2 := i_odd b L (by omega)
    rw [show D.i L ⟨(oddD a).s, (oddD a).n, (oddD a).e⟩ = (oddD a).i L from rfl, show D.i L ⟨(oddD b).s, (oddD b).n, (oddD b).e⟩ = (oddD b).i L from rfl, e1, e2]

structure OkD (d : D) (L x : Int) : Prop where
  can : d.can
  ref : refD (nd 64 d.n) d.e = 0
  val : d.i L = x
  own : ansD d = (d, 0)
  low : -40000 ≤ d.e
  lt : d.n < 2 ^ (64 * nd 64 d.n)

theorem okD {r : D × Int} {d : D} {L x : Int} (hL : L ≤ -40000) (e : r = ansD d) (h : L ≤ d.e) (hx : d.i L = x) (h0 : r.2 = 0) : OkD r.1 L x := by
  subst e
  obtain ⟨c1, c2, c3, c4, c5⟩ := ansD_res d L h h0
  refine ⟨c1, ?_, c5.trans hx, ansD_can c1 c2 c3 c4, c3, lt_nd 64 _ (by decide)⟩
  unfold refD
  rw [if_neg (by omega), if_neg (by omega)]

theorem addD_okref {n1 n2 : Nat} {a b : D} (h : (addD n1 a n2 b).2 = 0) : refD n1 a.e = 0 ∧ refD n2 b.e = 0 := by
  unfold addD at h
  split at h
  · rename_i h1; exact twoD_zero h1
  · rename_i h1; exact absurd h h1

theorem mulD_okref {n1 n2 : Nat} {a b : D} (h : (mulD n1 a n2 b).2 = 0) : refD n1 a.e = 0 ∧ refD n2 b.e = 0 := by
  unfold mulD at h
  split at h
  · rename_i h1; exact twoD_zero h1
  · rename_i h1; exact absurd h h1

theorem add_ok {n1 n2 : Nat} {a b : D} (L : Int) (hL : L ≤ -40000) (h : (addD n1 a n2 b).2 = 0) : OkD (addD n1 a n2 b).1 L (a.i L + b.i L) := by
  obtain ⟨h1, h2⟩ := addD_okref h
  obtain ⟨d, e1, e2, e3⟩ := addD_ans L hL h1 h2
  exact okD hL e1 e2 e3 h

theorem mul_ok {n1 n2 : Nat} {a b : D} (L : Int) (hL : L ≤ -40000) (ha : a.n < 2 ^ (64 * n1)) (hb : b.n < 2 ^ (64 * n2)) (h : (mulD n1 a n2 b).2 = 0) : OkD (mulD n1 a n2 b).1 (L + L) (a.i L * b.i L) := by
  obtain ⟨h1, h2⟩ := mulD_okref h
  obtain ⟨d, e1, e2, e3⟩ := mulD_ans L hL h1 h2 ha hb
  exact okD (by omega) e1 e2 e3 h

theorem one_i (L : Int) : (fromIntD 1).i L = 2 ^ (0 - L).toNat := by
  rw [show fromIntD 1 = ⟨false, 1, 0⟩ from odd1 0]
  exact i_one 0 L

theorem one_ref : refD (nd 64 (fromIntD 1).n) (fromIntD 1).e = 0 ∧ (fromIntD 1).n < 2 ^ (64 * nd 64 (fromIntD 1).n) := by
  rw [show fromIntD 1 = ⟨false, 1, 0⟩ from odd1 0]
  rw [nd_small 1 (by decide) (by decide)]
  exact ⟨by decide, by decide⟩

/-- a number less itself, one times it -/
theorem ring1 {n : Nat} {a : D} (ha : a.n < 2 ^ (64 * n)) (h : (canonD n a).2 = 0) :
    refD n a.e = 0 ∧ subD n a n a = (D.zero, 0) ∧ mulD (nd 64 (fromIntD 1).n) (fromIntD 1) n a = canonD n a ∧ (canonD n a).1.can := by
  have hc := canonD_res n a (-1000000) (by omega) h
  have hr : refD n a.e = 0 := by
    unfold canonD at h
    split at h
    · assumption
    · rename_i h1; exact absurd h h1
  have g := refD_zero hr
  refine ⟨hr, ?_, ?_, hc.1⟩
  · obtain ⟨d, e1, e2, e3⟩ := subD_ans (-1000000) (by omega) hr hr
    rw [e1, ansD_eq (d2 := D.zero) (-1000000) e2 (by show (-1000000 : Int) ≤ 0; decide) (by decide) (by rw [e3, D.i_zero]; omega)]
    exact ansD_can (Or.inl rfl) (by rw [show D.zero.n = 0 from rfl, nd_zero]; omega) (by decide) (by decide)
  · obtain ⟨d, e1, e2, e3⟩ := mulD_ans (-1000000) (by omega) one_ref.1 hr one_ref.2 ha
    have hcan : canonD n a = ansD a := by unfold canonD; rw [if_pos hr]
    rw [e1, hcan]
    refine ansD_eq (-1000000 + -1000000) e2 (by omega) (by decide) ?_
    rw [e3, one_i]
    have := i_deep a (-1000000) 1000000 (by omega)
    rw [show (-1000000 : Int) - (1000000 : Nat) = -1000000 + -1000000 from by omega] at this
    rw [this, show (0 - (-1000000 : Int)).toNat = 1000000 from by omega, Int.mul_comm]

theorem twoD_left {n1 n2 : Nat} {e1 e2 : Int} (h : refD n1 e1 = 0) : twoD n1 e1 n2 e2 = refD n2 e2 ∧ twoD n2 e2 n1 e1 = refD n2 e2 := by
  unfold twoD
  refine ⟨by rw [if_pos h], ?_⟩
  split
  · rename_i h2; rw [h, h2]
  · rfl

theorem ring2a {n1 n2 : Nat} {a b : D} (h : refD n1 a.e = 0) : addD n2 b n1 a = addD n1 a n2 b := by
  by_cases h2 : refD n2 b.e = 0
  · obtain ⟨d, e1, e2, e3⟩ := addD_ans (-1000000) (by omega) h h2
    obtain ⟨d', f1, f2, f3⟩ := addD_ans (-1000000) (by omega) h2 h
    rw [e1, f1]
    exact ansD_eq (-1000000) f2 e2 (by decide) (by rw [e3, f3]; omega)
  · obtain ⟨t1, t2⟩ := twoD_left (n2 := n2) (e2 := b.e) h
    unfold addD
    rw [t1, t2, if_neg h2, if_neg h2]

theorem ring2b {n1 n2 : Nat} {a b : D} (ha : a.n < 2 ^ (64 * n1)) (hb : b.n < 2 ^ (64 * n2)) (h : refD n1 a.e = 0) : mulD n2 b n1 a = mulD n1 a n2 b := by
  by_cases h2 : refD n2 b.e = 0
  · obtain ⟨d, e1, e2, e3⟩ := mulD_ans (-1000000) (by omega) h h2 ha hb
    obtain ⟨d', f1, f2, f3⟩ := mulD_ans (-1000000) (by omega) h2 h hb ha
    rw [e1, f1]
    exact ansD_eq _ f2 e2 (by decide) (by rw [e3, f3, Int.mul_comm])
  · obtain ⟨t1, t2⟩ := twoD_left (n2 := n2) (e2 := b.e) h
    unfold mulD
    rw [t1, t2, if_neg h2, if_neg h2]

/-- (a + b) + c = a + (b + c); (a + b) + c - c = a + b -/
theorem ring3 {n1 n2 n3 : Nat} {a b c x s l : D} {m k q : Nat} (hx : addD n1 a n2 b = (x, 0)) (hs : addD n2 b n3 c = (s, 0)) (hl : addD (nd 64 x.n) x n3 c = (l, 0)) :
    addD n1 a (nd 64 s.n) s = (l, 0) ∧ subD (nd 64 l.n) l n3 c = (x, 0) := by
  have ox := add_ok (n1 := n1) (n2 := n2) (a := a) (b := b) (-1000000) (by omega) (by rw [hx])
  have os := add_ok (n1 := n2) (n2 := n3) (a := b) (b := c) (-1000000) (by omega) (by rw [hs])
  have ol := add_ok (n1 := nd 64 x.n) (n2 := n3) (a := x) (b := c) (-1000000) (by omega) (by rw [hl])
  rw [hx] at ox
  rw [hs] at os
  rw [hl] at ol
  have ra := (addD_okref (n1 := n1) (n2 := n2) (a := a) (b := b) (by rw [hx])).1
  have rc := (addD_okref (n1 := n2) (n2 := n3) (a := b) (b := c) (by rw [hs])).2
  simp only at ox os ol
  constructor
  · obtain ⟨d, e1, e2, e3⟩ := addD_ans (-1000000) (by omega) ra os.ref
    rw [e1, ansD_eq (d2 := l) (-1000000) e2 (by have := ol.low; omega) (by decide) (by rw [e3, ol.val, ox.val, os.val]; omega)]
    exact ol.own
  · obtain ⟨d, e1, e2, e3⟩ := subD_ans (-1000000) (by omega) ol.ref rc
    rw [e1, ansD_eq (d2 := x) (-1000000) e2 (by have := ox.low; omega) (by decide) (by rw [e3, ol.val]; omega)]
    exact ox.own

/-- (a + b) * c = a * c + b * c -/
theorem ring4 {n1 n2 n3 : Nat} {a b c x u v w : D} (ha : a.n < 2 ^ (64 * n1)) (hb : b.n < 2 ^ (64 * n2)) (hc : c.n < 2 ^ (64 * n3)) (hx : addD n1 a n2 b = (x, 0)) (hu : mulD (nd 64 x.n) x n3 c = (u, 0)) (hv : mulD n1 a n3 c = (v, 0)) (hw : mulD n2 b n3 c = (w, 0)) :
    addD (nd 64 v.n) v (nd 64 w.n) w = (u, 0) ∧ u.can := by
  have ox := add_ok (n1 := n1) (n2 := n2) (a := a) (b := b) (-1000000) (by omega) (by rw [hx])
  rw [hx] at ox
  simp only at ox
  have ou := mul_ok (n1 := nd 64 x.n) (n2 := n3) (a := x) (b := c) (-1000000) (by omega) ox.lt hc (by rw [hu])
  have ov := mul_ok (n1 := n1) (n2 := n3) (a := a) (b := c) (-1000000) (by omega) ha hc (by rw [hv])
  have ow := mul_ok (n1 := n2) (n2 := n3) (a := b) (b := c) (-1000000) (by omega) hb hc (by rw [hw])
  rw [hu] at ou
  rw [hv] at ov
  rw [hw] at ow
  simp only at ou ov ow
  refine ⟨?_, ou.can⟩
  obtain ⟨d, e1, e2, e3⟩ := addD_ans (-1000000 + -1000000) (by omega) ov.ref ow.ref
  rw [e1, ansD_eq (d2 := u) (-1000000 + -1000000) e2 (by have := ou.low; omega) (by decide) (by rw [e3, ov.val, ow.val, ou.val, ox.val, Int.add_mul])]
  exact ou.own

end Go.Proofs.YtakjbmlkcbedmaaDoor
