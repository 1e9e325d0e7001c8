/- Walks of the layer's statements: awake. -/
import Derived.Outline
import Derived.Test.YtomhmbnpkphcmaaDoorLawA
namespace Go.Proofs.YtomhmbnpkphcmaaDoor
set_option linter.unusedVariables false
open Go.RowKit

theorem nd_small (x : Nat) (h : 0 < x) (h2 : x < 18446744073709551616) : nd 64 x = 1 := nd_unique 64 x 1 (by decide) (by simpa using h2) (Or.inr (by simp; omega))

theorem odd12 : oddD ⟨false, 12, 0⟩ = ⟨false, 3, 2⟩ := by
  have h : tzN 12 = 2 := tzN_unique (m := 1) (by decide)
  unfold oddD; rw [if_neg (by simp)]; simp only [h]; rfl
theorem odd1 (e : Int) : oddD ⟨false, 1, e⟩ = ⟨false, 1, e⟩ := can_odd _ (Or.inr (by show 1 % 2 = 1; rfl))
theorem odd3 (e : Int) : oddD ⟨false, 3, e⟩ = ⟨false, 3, e⟩ := can_odd _ (Or.inr (by show 3 % 2 = 1; rfl))
theorem odd2 (e : Int) : oddD ⟨false, 2, e⟩ = ⟨false, 1, e + 1⟩ := by
  have h : tzN 2 = 1 := tzN_unique (m := 0) (by decide)
  unfold oddD; rw [if_neg (by simp)]; simp only [h]; rfl

theorem awake1 : canonD 2 ⟨false, 12, 0⟩ = (⟨false, 3, 2⟩, 0) := by
  unfold canonD ansD
  rw [odd12]
  simp [refD, nd_small]

theorem awake2 : addD 1 ⟨false, 1, 0⟩ 1 ⟨false, 1, -1⟩ = (⟨false, 3, -1⟩, 0) := by
  unfold addD
  rw [odd1, odd1]
  have h : sumD ⟨false, 1, 0⟩ ⟨false, 1, -1⟩ = ⟨false, 3, -1⟩ := by
    rw [sumD_nz (by decide) (by decide)]
    unfold addXY
    rw [if_pos rfl]
    exact odd3 (-1)
  rw [h]
  unfold ansD
  rw [odd3]
  simp [twoD, refD, nd_small]

theorem awake3 : cmpD 1 ⟨false, 2, 40000⟩ 1 ⟨false, 1, 40000⟩ = (1, 0) := by
  unfold cmpD
  rw [odd2, odd1]
  have h : sumD ⟨false, 1, 40000 + 1⟩ ⟨!false, 1, 40000⟩ = ⟨false, 1, 40000⟩ := by
    rw [sumD_nz (by decide) (by decide)]
    unfold addXY
    rw [if_neg (by decide), if_neg (by decide)]
    exact odd1 40000
  simp only [h]
  simp [twoD, refD, sgD]

theorem Rd.one' (w : World) (x : Nat) (v : Int) (hv : v = (x : Int)) (hx : x < 18446744073709551616) : Rd 64 (w.alloc (.cells #[.int .u64 v] 49)) (.slice (some ⟨w.heap.size, 0, none⟩) 1 1) x 1 := by
  subst hv; exact Rd.one w x hx

theorem Rd.low2 (w : World) (x : Nat) (v : Int) (hv : v = (x : Int)) (hx : x < 18446744073709551616) : Rd 64 (w.alloc (.cells #[.int .u64 v, .int .u64 0] 49)) (.slice (some ⟨w.heap.size, 0, none⟩) 2 2) x 2 := by
  subst hv
  refine ⟨_, 2, rfl, Nat.le_refl _, by omega, Nat.lt_of_lt_of_le hx (by decide), fun _ => ⟨w.heap.size, 0, rfl, by simp, fun j hj => ?_⟩⟩
  rw [World.cell?_alloc_at _ _ _ _ rfl]
  have h0 : dg 64 x 0 = x := by unfold dg; simp; exact hx
  have h1 : dg 64 x 1 = 0 := dg_high 64 x 1 1 (by simpa using hx) (Nat.le_refl _)
  match j, hj with
  | 0, _ => rw [h0]; rfl
  | 1, _ => rw [h1]; rfl

set_option maxRecDepth 100000 in
set_option maxHeartbeats 2000000 in
theorem awake_any (w : World) (hG : Gl w) :
    Calls Tryd.prog 11 #[] w fun e' w' => e' = .returned (.bool true) ∧ Below w.heap.size w w' := by
  go_enter Tryd.func11, Tryd.ntmps11
  go_wp2_with fail
  have hb0 := below1 w (.cells #[.int .u64 12, .int .u64 0] 49)
  refine (Canon_any false _ 12 2 2 0 _ (Rd.low2 w 12 12 rfl (by omega)) (hG.below hb0)).mono ?_
  rw [awake1]
  rintro e w1 ⟨x1, rfl, hV1, hb1⟩
  have hB1 := keep_belowB hb0 hb1 (Nat.le_refl _)
  obtain ⟨A1, c1, rfl, hc1, hcm1, hR1, hF1⟩ := id hV1
  rw [nd_small 3 (by decide) (by decide)] at *
  clear hb0 hb1 hV1
  obtain ⟨O1, hO1⟩ : ∃ O, O = Obj.cells #[Value.bool false, Value.slice A1 1 c1, Value.int IntKind.i64 2] 26 := ⟨_, rfl⟩
  have b1 : Box3 (w1.alloc O1) w1.heap.size (.bool false) (.slice A1 1 c1) (.int .i64 2) := by rw [hO1]; exact Box3.new ..
  have hA := Rd.one' (w1.alloc O1) 1 1 rfl (by omega)
  have hA2 := hA.alloc (.cells #[.int .u64 1] 49)
  have hA3 := Rd.one' ((w1.alloc O1).alloc (.cells #[.int .u64 1] 49)) 1 1 rfl (by omega)
  rw [World.size_alloc] at hA hA2 hA3
  rw [World.size_alloc] at hA3
  have hx3 := below3 w1 O1 (.cells #[.int .u64 1] 49) (.cells #[.int .u64 1] 49)
  have hB2 := keep_belowB hB1 hx3 (Nat.le_refl _)
  have hR1' := hR1.below hx3
  have b1' := (b1.alloc (.cells #[.int .u64 1] 49)).alloc (.cells #[.int .u64 1] 49)
  go_wp2_with fail
  rw [← hO1]
  refine (DAdd_any false false _ _ 1 1 1 1 1 1 0 (-1) _ hA2 hA3 (hG.below hB2)).mono ?_
  rw [awake2]
  rintro e w2 ⟨x2, rfl, hV2, hb2⟩
  have hB3 := keep_belowB hB2 hb2 (Nat.le_refl _)
  obtain ⟨A2, c2, rfl, hc2, hcm2, hR2, hF2⟩ := id hV2
  rw [nd_small 3 (by decide) (by decide)] at *
  have hR1'' := hR1'.below hb2
  have b1'' := b1'.keep hb2
  clear hO1 hA hA2 hA3 hx3 hB2 hR1' b1' b1 hB1 hV2 hb2 hF2 hR1 hF1
  obtain ⟨O2, hO2⟩ : ∃ O, O = Obj.cells #[Value.bool false, Value.slice A2 1 c2, Value.int IntKind.i64 (-1)] 26 := ⟨_, rfl⟩
  have b2 : Box3 (w2.alloc O2) w2.heap.size (.bool false) (.slice A2 1 c2) (.int .i64 (-1)) := by rw [hO2]; exact Box3.new ..
  have hA := Rd.one' (w2.alloc O2) 2 2 rfl (by omega)
  have hA2 := hA.alloc (.cells #[.int .u64 1] 49)
  have hA3 := Rd.one' ((w2.alloc O2).alloc (.cells #[.int .u64 2] 49)) 1 1 rfl (by omega)
  rw [World.size_alloc] at hA3
  have hA2 := hA.alloc (.cells #[.int .u64 1] 49)
  rw [World.size_alloc] at hA hA2 hA3
  have hx3 := below3 w2 O2 (.cells #[.int .u64 2] 49) (.cells #[.int .u64 1] 49)
  have hB4 := keep_belowB hB3 hx3 (Nat.le_refl _)
  have hR1' := hR1''.below hx3
  have hR2' := hR2.below hx3
  have b2' := (b2.alloc (.cells #[.int .u64 2] 49)).alloc (.cells #[.int .u64 1] 49)
  have b1' := b1''.keep hx3
  go_wp2_with fail
  rw [← hO2]
  refine (DCmp_any false false _ _ 2 1 1 1 1 1 40000 40000 _ hA2 hA3 (hG.below hB4)).mono ?_
  rw [awake3]
  rintro e w3 ⟨rfl, hb3⟩
  have hB5 := keep_belowB hB4 hb3 (Nat.le_refl _)
  have hR1 := hR1'.below hb3
  have hR2 := hR2'.below hb3
  have b1 := b1'.keep hb3
  have b2 := b2'.keep hb3
  clear hO2 hA hA2 hA3 hx3 hB4 hR1' hR2' b1' b2' hB3 hb3 b1'' hR1''
  obtain ⟨k0, k1, k2, k3, _⟩ := b1.cells
  obtain ⟨m0, m1, m2, m3, _⟩ := b2.cells
  go_wp2_with fail
  have hx := below1 w3 (.cells #[.int .u64 3] 49)
  refine (same_any false false A1 _ 3 1 c1 3 1 1 2 2 _ (hR1.below hx) (Rd.one' w3 3 3 rfl (by omega))).mono ?_
  rintro e w4 ⟨rfl, hb4⟩
  rw [show sameB false 1 3 2 false 1 3 2 = true from by simp [sameB, sameW]]
  have hx4 := keep_below hx hb4
  have hB6 := keep_belowB hB5 hx4 (Nat.le_refl _)
  obtain ⟨m0', m1', m2', m3', _⟩ := (b2.keep hx4).cells
  have hR2' := hR2.below hx4
  clear hx hb4 hB5 hR1 b1 k0 k1 k2 k3 m0 m1 m2 m3
  go_wp2_with fail
  have hx := below1 w4 (.cells #[.int .u64 3] 49)
  refine (same_any false false A2 _ 3 1 c2 3 1 1 (-1) (-1) _ (hR2'.below hx) (Rd.one' w4 3 3 rfl (by omega))).mono ?_
  rintro e w5 ⟨rfl, hb5⟩
  rw [show sameB false 1 3 (-1) false 1 3 (-1) = true from by simp [sameB, sameW]]
  have hB7 := keep_belowB hB6 (keep_below hx hb5) (Nat.le_refl _)
  go_wp2
  go_ret
  exact ⟨rfl, hB7⟩

end Go.Proofs.YtomhmbnpkphcmaaDoor
