/- Walks of layer 5: refuses. -/
import Derived.StillTailTactics
import Derived.Test.YtcgceigmglikpaaDoorRouE
namespace Go.Proofs.YtcgceigmglikpaaDoor
set_option linter.unusedVariables false
open Go.RowKit

/-- the error of a format and a mode -/
def rfS (f m : Int) : Int := if f < 0 ∨ 4 ≤ f then 2 else if m < 0 ∨ 5 < m then 3 else 0

theorem rfS_ok {f m : Int} (h : rfS f m = 0) : ∃ n k : Nat, f = n ∧ n < 4 ∧ m = k ∧ k ≤ 5 := by
  unfold rfS at h
  split at h
  · omega
  · split at h
    · omega
    · exact ⟨f.toNat, m.toNat, by omega, by omega, by omega, by omega⟩
theorem rfS_of {n k : Nat} (h : n < 4) (hk : k ≤ 5) : rfS n k = 0 := by
  unfold rfS; rw [if_neg (by omega), if_neg (by omega)]

theorem modeError_below (m : Int) (c : Int) (w : World) (hc : Hid (c = if m < 0 ∨ 5 < m then 3 else 0)) : Calls Tryd.prog 135 #[.int .i64 m] w fun e w' => e = .returned (.int .i64 c) ∧ Below w.heap.size w w' :=
  (modeError_any m w).mono fun e w' ⟨he, hw⟩ => ⟨by rw [hc.out]; exact he, by subst hw; exact Below.refl _ _⟩

theorem Bx.set4 {w : World} {g : Nat} {a b c d : Value} (h : Bx w g #[a, b, c, d]) (x0 x1 x2 x3 : Value) : Bx ((((w.setCell ⟨g, 0, none⟩ x0).setCell ⟨g, 1, none⟩ x1).setCell ⟨g, 2, none⟩ x2).setCell ⟨g, 3, none⟩ x3) g #[x0, x1, x2, x3] := by
  obtain ⟨t, h⟩ := h
  refine ⟨t, ?_⟩
  simp [World.setCell, Array.getElem?_modify, h]

theorem keep_free {W w1 : World} {b o : Nat} (hb : Below W.heap.size W w1) (hlt : b < W.heap.size) (h : W.frozen? ⟨b, o, none⟩ = false) : w1.frozen? ⟨b, o, none⟩ = false := (hb.frozen (p := ⟨b, o, none⟩) hlt).trans h

set_option maxRecDepth 100000 in
set_option maxHeartbeats 2000000 in
theorem refuses_m (f : Nat) (m : Int) (w : World) (hf : f < 4) (hG : GlR w) : Calls Tryd.prog 90 #[.int .i64 f, .int .i64 m] w fun e w' => e = .returned (.tuple #[PV (fm f), .int .i64 (rfS f m)]) ∧ Below w.heap.size w w' := by
  have e0 : rfS f m = if m < 0 ∨ 5 < m then 3 else 0 := by unfold rfS; rw [if_neg (by omega)]
  generalize rfS f m = c at *
  have Hc := Lib.hid e0
  clear e0
  have hP := fun wx h => Params_ok f wx hf h
  obtain ⟨F, hF⟩ : ∃ F, F = fm f := ⟨_, rfl⟩
  rw [← hF] at hP ⊢
  clear hF
  have hb0 := below1 w (Obj.cells #[.int .i64 0, .int .i64 0, .int .i64 0, .int .i64 0] 58)
  have br := Bx.new w #[.int .i64 0, .int .i64 0, .int .i64 0, .int .i64 0] 58
  go_enter Tryd.func90, Tryd.ntmps90
  go_wp2_with fail
  refine (hP _ (hG.below hb0)).mono ?_
  rintro _ w1 ⟨rfl, hb1⟩
  replace br := br.below hb1
  have HB := Lib.hid (keep_belowB hb0 hb1 (Nat.le_refl _))
  have hz := hb1.size
  simp at hz
  clear hb1 hb0 hG hP
  unfold PV
  obtain ⟨W, hW⟩ : ∃ W, W = w1.alloc (Obj.cells #[.int .i64 F.w, .int .i64 F.p, .int .i64 F.emin, .int .i64 F.emax] 58) := ⟨_, rfl⟩
  have hWb : Below w1.heap.size w1 W := by rw [hW]; exact below1 ..
  have bx : BxP F W w1.heap.size := by rw [hW]; exact BxP.new ..
  replace HB := Lib.hid (HB.out.trans (hWb.mono HB.out.size))
  have brW := br.below hWb
  obtain ⟨k0, k1, k2, k3⟩ := bx.cells
  have r0 := brW.cell 0 (show (#[Value.int .i64 0, .int .i64 0, .int .i64 0, .int .i64 0] : Array Value)[0]? = some (.int .i64 0) from rfl)
  have r1 := brW.cell 1 (show (#[Value.int .i64 0, .int .i64 0, .int .i64 0, .int .i64 0] : Array Value)[1]? = some (.int .i64 0) from rfl)
  have r2 := brW.cell 2 (show (#[Value.int .i64 0, .int .i64 0, .int .i64 0, .int .i64 0] : Array Value)[2]? = some (.int .i64 0) from rfl)
  have r3 := brW.cell 3 (show (#[Value.int .i64 0, .int .i64 0, .int .i64 0, .int .i64 0] : Array Value)[3]? = some (.int .i64 0) from rfl)
  have f0 := brW.free 0
  have f1 := brW.free 1
  have f2 := brW.free 2
  have f3 := brW.free 3
  have hlt : w.heap.size < W.heap.size := lt_size_of_some brW.choose_spec
  have BR := Lib.hid brW
  clear bx br brW hWb
  go_upto_region 4 with (fail)
  rw [← hW]
  clear hW
  have hcall : Calls Tryd.prog 135 #[.int .i64 m] W.drew fun e w' => e = .returned (.int .i64 c) ∧ w' = W.drew := (modeError_any m _).mono fun e w' ⟨he, hw⟩ => ⟨by rw [Hc.out]; exact he, hw.symm⟩
  refine wp_region_still_tail 3 (by kernel_rfl) (by kernel_rfl) ?_
  simp only [List.take_succ_cons, List.take_zero, List.drop_succ_cons, List.drop_zero]
  still_step
  still_step
  still_call hcall
  refine wpStill_nil ?_
  change wpList _ _ _ _ _ W.drew
  clear hcall
  obtain ⟨X, hX⟩ : ∃ X, X = W.drew := ⟨_, rfl⟩
  rw [← hX]
  replace HB : Hid (Below w.heap.size w X) := by show Below _ _ _; rw [hX]; exact HB.out.drew
  replace BR : Hid (Bx X w.heap.size #[.int .i64 0, .int .i64 0, .int .i64 0, .int .i64 0]) := by show Bx _ _ _; rw [hX]; exact BR.out
  have r0 : X.cell? ⟨w.heap.size, 0, none⟩ = some (.int .i64 0) := by rw [hX]; exact r0
  have r1 : X.cell? ⟨w.heap.size, 1, none⟩ = some (.int .i64 0) := by rw [hX]; exact r1
  have r2 : X.cell? ⟨w.heap.size, 2, none⟩ = some (.int .i64 0) := by rw [hX]; exact r2
  have r3 : X.cell? ⟨w.heap.size, 3, none⟩ = some (.int .i64 0) := by rw [hX]; exact r3
  have f0 := BR.out.free 0
  have f1 := BR.out.free 1
  have f2 := BR.out.free 2
  have f3 := BR.out.free 3
  have b4 := BR.out.set4 (.int .i64 F.w) (.int .i64 F.p) (.int .i64 F.emin) (.int .i64 F.emax)
  have s0 := b4.cell 0 (show (#[Value.int .i64 F.w, .int .i64 F.p, .int .i64 F.emin, .int .i64 F.emax] : Array Value)[0]? = some (.int .i64 F.w) from rfl)
  have s1 := b4.cell 1 (show (#[Value.int .i64 F.w, .int .i64 F.p, .int .i64 F.emin, .int .i64 F.emax] : Array Value)[1]? = some (.int .i64 F.p) from rfl)
  have s2 := b4.cell 2 (show (#[Value.int .i64 F.w, .int .i64 F.p, .int .i64 F.emin, .int .i64 F.emax] : Array Value)[2]? = some (.int .i64 F.emin) from rfl)
  have s3 := b4.cell 3 (show (#[Value.int .i64 F.w, .int .i64 F.p, .int .i64 F.emin, .int .i64 F.emax] : Array Value)[3]? = some (.int .i64 F.emax) from rfl)
  clear hX k0 k1 k2 k3 b4
  go_wp2
  refine bodyPost_ret (v := .tuple #[.agg #[.int .i64 F.w, .int .i64 F.p, .int .i64 F.emin, .int .i64 F.emax], .int .i64 c]) (by simp [results, Tryd.results90, go_sem, s0, s1, s2, s3]) rfl ?_
  exact ⟨rfl, (((HB.out.setCell (Nat.le_refl _) _).setCell (Nat.le_refl _) _).setCell (Nat.le_refl _) _).setCell (Nat.le_refl _) _⟩

set_option maxHeartbeats 1000000 in
theorem refuses_f (f m : Int) (w : World) (hf : f < 0 ∨ 4 ≤ f) : Calls Tryd.prog 90 #[.int .i64 f, .int .i64 m] w fun e w' => e = .returned (.tuple #[PV0, .int .i64 (rfS f m)]) ∧ Below w.heap.size w w' := by
  have e0 : rfS f m = 2 := by unfold rfS; rw [if_pos hf]
  rw [e0]
  have hb0 := below1 w (Obj.cells #[.int .i64 0, .int .i64 0, .int .i64 0, .int .i64 0] 58)
  have br := Bx.new w #[.int .i64 0, .int .i64 0, .int .i64 0, .int .i64 0] 58
  go_enter Tryd.func90, Tryd.ntmps90
  go_wp2_with fail
  refine (Params_bad f _ hf).mono ?_
  rintro _ w1 ⟨rfl, hb1⟩
  replace br := br.below hb1
  have HB := Lib.hid (keep_belowB hb0 hb1 (Nat.le_refl _))
  have hz := hb1.size
  simp at hz
  unfold PV0
  have BR := Lib.hid (br.below (below1 w1 (Obj.cells #[.int .i64 0, .int .i64 0, .int .i64 0, .int .i64 0] 58)))
  replace HB := Lib.hid (HB.out.trans ((below1 w1 (Obj.cells #[.int .i64 0, .int .i64 0, .int .i64 0, .int .i64 0] 58)).mono HB.out.size))
  obtain ⟨X, hX⟩ : ∃ X, X = w1.alloc (Obj.cells #[.int .i64 0, .int .i64 0, .int .i64 0, .int .i64 0] 58) := ⟨_, rfl⟩
  rw [← hX] at BR HB
  have k0 := (Bx.new w1 #[.int .i64 0, .int .i64 0, .int .i64 0, .int .i64 0] 58).cell 0 (show (#[Value.int .i64 0, .int .i64 0, .int .i64 0, .int .i64 0] : Array Value)[0]? = some (.int .i64 0) from rfl)
  have k1 := (Bx.new w1 #[.int .i64 0, .int .i64 0, .int .i64 0, .int .i64 0] 58).cell 1 (show (#[Value.int .i64 0, .int .i64 0, .int .i64 0, .int .i64 0] : Array Value)[1]? = some (.int .i64 0) from rfl)
  have k2 := (Bx.new w1 #[.int .i64 0, .int .i64 0, .int .i64 0, .int .i64 0] 58).cell 2 (show (#[Value.int .i64 0, .int .i64 0, .int .i64 0, .int .i64 0] : Array Value)[2]? = some (.int .i64 0) from rfl)
  have k3 := (Bx.new w1 #[.int .i64 0, .int .i64 0, .int .i64 0, .int .i64 0] 58).cell 3 (show (#[Value.int .i64 0, .int .i64 0, .int .i64 0, .int .i64 0] : Array Value)[3]? = some (.int .i64 0) from rfl)
  rw [← hX] at k0 k1 k2 k3
  have r0 := BR.out.cell 0 (show (#[Value.int .i64 0, .int .i64 0, .int .i64 0, .int .i64 0] : Array Value)[0]? = some (.int .i64 0) from rfl)
  have r1 := BR.out.cell 1 (show (#[Value.int .i64 0, .int .i64 0, .int .i64 0, .int .i64 0] : Array Value)[1]? = some (.int .i64 0) from rfl)
  have r2 := BR.out.cell 2 (show (#[Value.int .i64 0, .int .i64 0, .int .i64 0, .int .i64 0] : Array Value)[2]? = some (.int .i64 0) from rfl)
  have r3 := BR.out.cell 3 (show (#[Value.int .i64 0, .int .i64 0, .int .i64 0, .int .i64 0] : Array Value)[3]? = some (.int .i64 0) from rfl)
  have f0 := BR.out.free 0
  have f1 := BR.out.free 1
  have f2 := BR.out.free 2
  have f3 := BR.out.free 3
  have b4 := BR.out.set4 (.int .i64 0) (.int .i64 0) (.int .i64 0) (.int .i64 0)
  have s0 := b4.cell 0 (show (#[Value.int .i64 0, .int .i64 0, .int .i64 0, .int .i64 0] : Array Value)[0]? = some (.int .i64 0) from rfl)
  have s1 := b4.cell 1 (show (#[Value.int .i64 0, .int .i64 0, .int .i64 0, .int .i64 0] : Array Value)[1]? = some (.int .i64 0) from rfl)
  have s2 := b4.cell 2 (show (#[Value.int .i64 0, .int .i64 0, .int .i64 0, .int .i64 0] : Array Value)[2]? = some (.int .i64 0) from rfl)
  have s3 := b4.cell 3 (show (#[Value.int .i64 0, .int .i64 0, .int .i64 0, .int .i64 0] : Array Value)[3]? = some (.int .i64 0) from rfl)
  clear hb1 hb0 hf br b4
  go_upto_region 3 with (fail)
  rw [← hX]
  clear hX
  go_wp2
  refine bodyPost_ret (v := .tuple #[.agg #[.int .i64 0, .int .i64 0, .int .i64 0, .int .i64 0], .int .i64 2]) (by simp [results, Tryd.results90, go_sem, s0, s1, s2, s3]) rfl ?_
  exact ⟨rfl, (((HB.out.setCell (Nat.le_refl _) _).setCell (Nat.le_refl _) _).setCell (Nat.le_refl _) _).setCell (Nat.le_refl _) _⟩

end Go.Proofs.YtcgceigmglikpaaDoor
