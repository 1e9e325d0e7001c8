/- DyadInts: for every input the law answers true. Conditions: none. -/
import Derived.Test.YtomhmbnpkphcmaaDoorInts
import Derived.Test.YtomhmbnpkphcmaaDoorOpen
import Derived.Test.YtomhmbnpkphcmaaDoorLaid
import Derived.Test.YtomhmbnpkphcmaaDoorTie
import Derived.Test.YtomhmbnpkphcmaaDoorCards
import Derived.ProofKit
import Derived.OpenShut
namespace Go.Proofs.YtomhmbnpkphcmaaDoor.dyadInts
set_option linter.unusedVariables false
open Go.ChangeShapes Go.WideShapes Go.ChangeAt Go.RowKit

theorem own : ownKnob Tryd.prog.godebug = none := by kernel_rfl
theorem laidOut : laidOutB Tryd.prog = true := by kernel_rfl

set_option maxRecDepth 100000 in
theorem lifted (os : Os) (started : os.Started) (H : Type) (enc : TypeId × Value → H) :
    ReturnsInHanded {} Tryd.checked os 8 .any (fun w args => (Rows.dyadIntsSpec.pre enc Tryd.prog Tryd.f8 Rows.dyadIntsRow.domain false w args ∧ laidMetH Tryd.prog Rows.dyadIntsRow.laid w) ∧ sizedMet enc Tryd.prog Tryd.f8 (OpenSpec.ofChange Rows.dyadIntsSpec) false w args)
      (Rows.dyadIntsSpec.post enc Tryd.prog Tryd.f8 false true false false) := by
  refine returnsInHanded_of_change_and (C := Tryd.checked) (X := fun w _ => laidMetH Tryd.prog Rows.dyadIntsRow.laid w) (fun _ _ _ hh h => h.of_heap hh) own started (by kernel_rfl) Tryd.func8
    (ChangeSpec.witness_shaped (enc := enc) (C := Tryd.checked) (os := os) (X := fun w _ => laidMetH Tryd.prog Rows.dyadIntsRow.laid w) false (World.laidAll Tryd.prog os Rows.dyadIntsRow.laid)
      #[.int .i64 0, .int .i64 0] 8 (World.laidAll_os _ _ _)
      (World.shaped_of_ZipB (by kernel_rfl) (by kernel_rfl)) (by kernel_rfl) (by kernel_rfl) (by kernel_rfl)
      (by rw [MakeChecks.laidMetH_plain _ _ _ (by kernel_rfl)]; exact laidMet_laidAll _ (by kernel_rfl) (by kernel_rfl))) ?_
  intro W base args ds gs before hval0 hW hc hsz hL _
  have hval : ∀ (j : Nat) t v, Tryd.f8.params[j]? = some t → args[j]? = some v → Value.okWide Tryd.prog W .any base t v := hval0
  have hlt := hW.lt
  have hW' := hW
  obtain ⟨p, q, hA0, hV, rfl, _, _⟩ := hW
  have hA : DataW.TrodAll enc Tryd.prog W 0 (fun _ => true) true Tryd.f8.params.toList args.toList ds p := hA0
  rw [Tryd.params8] at hA hval hsz
  obtain ⟨v0, v1, d0, d1, p0, p1, rfl, rfl, rfl, h0, h1⟩ := trodAll_two hA
  obtain ⟨rfl, rfl⟩ := trodVars_none hV
  simp only [List.append_nil] at hW' hlt
  have hin : ∀ (j : Nat) t d, [2, 2][j]? = some t → [d0, d1][j]? = some d → ∀ m ∈ d.weights Tryd.prog t, m ≤ reachBytes := by
    intro j t d ht hd m hm
    have := List.all_eq_true.1 hsz m (DataW.weights_mem_each (ts := [2, 2]) ht hd m hm)
    simpa using this
  obtain ⟨k0, rfl, rfl, rfl, wk0⟩ := open_int Tryd.underlying2 (hval 0 2 v0 rfl rfl) h0
  have hk0 : -9223372036854775808 ≤ k0 ∧ k0 ≤ 9223372036854775807 := by
    have w := wk0
    simp only [Lit.wf, Bool.and_eq_true, decide_eq_true_eq] at w
    have w1 := w.1
    have w2 := w.2
    rw [show IntKind.i64.min = -9223372036854775808 from by decide] at w1
    rw [show IntKind.i64.max = 9223372036854775807 from by decide] at w2
    exact ⟨w1, w2⟩
  obtain ⟨k1, rfl, rfl, rfl, wk1⟩ := open_int Tryd.underlying2 (hval 1 2 v1 rfl rfl) h1
  have hk1 : -9223372036854775808 ≤ k1 ∧ k1 ≤ 9223372036854775807 := by
    have w := wk1
    simp only [Lit.wf, Bool.and_eq_true, decide_eq_true_eq] at w
    have w1 := w.1
    have w2 := w.2
    rw [show IntKind.i64.min = -9223372036854775808 from by decide] at w1
    rw [show IntKind.i64.max = 9223372036854775807 from by decide] at w2
    exact ⟨w1, w2⟩
  refine (ints_any k0 k1 W (gl_of_laid hL) hk0 hk1).mono fun e W' ⟨he, hB⟩ => ?_
  subst he
  refine ⟨_, rfl, _, _, _, [], [] ++ [], [], hW', ?_, ?_, rfl, hB.frame _, fun h => by cases h⟩
  · exact trodAll_mk1 (shut_bool Tryd.underlying4 _)
  · have st : ∀ {v d p'}, DataW.Trod enc Tryd.prog W 0 (fun _ => true) true 26 v d p' → (∀ x ∈ p', x.block < W.heap.size) → DataW.Trod enc Tryd.prog W' 0 (fun b => decide (b < W.heap.size)) true 26 v d p' :=
      fun h hx => Below.trod laidOut (by kernel_rfl) (by decide) h hB hx
    exact trodAll_mk2 (shut_int Tryd.underlying2 wk0) (shut_int Tryd.underlying2 wk1)

theorem over : Rows.dyadIntsRow.holds Tryd.pinned (OpenSpec.ofChange Rows.dyadIntsSpec) :=
  OpenClaim.holds_of_wide 8 Tryd.f8 rfl rfl rfl rfl rfl rfl rfl ⟨rfl, rfl, rfl, rfl, rfl⟩ rfl rfl rfl rfl rfl (by kernel_rfl) Tryd.func8 (by kernel_rfl)
    (of_decide_eq_true (by kernel_rfl)) (by unfold Func.isWrapper; first | (rw [if_pos (by decide +kernel)]; kernel_rfl) | (rw [if_neg (by decide +kernel)]; exact ⟨rfl, rfl⟩))
    (fun os started H enc _ => lifted os started H enc)

theorem proved : Rows.DyadIntsCardSaid :=
  Claim7.holds_tied_plain_at .later [] [.data] true (true, "542be6f0ad2e4ad6e57a18b37f34bcffc68de7db1f4964a1ecdd3a62b120da6a") false over (fun _ h => by cases h) (by kernel_rfl) (fun _ h => by cases h) dyadInts_row_tie rfl ⟨rfl, rfl⟩ (by kernel_rfl) rfl
    (fun f fn hf hfn => by
      obtain rfl : f = 8 := Option.some.inj ((show Tryd.prog.funcNamed "vernier/vernierlaw03.DyadInts" = some 8 by kernel_rfl).symm.trans hf) |>.symm
      obtain rfl : fn = Tryd.f8 := (Option.some.inj (Tryd.func8.symm.trans hfn)).symm
      exact ⟨by kernel_rfl, fun j t ht => by
        rw [Tryd.params8] at ht
        have hm : t ∈ [2, 2] := by simpa using Array.mem_of_getElem? ht
        have hall : ([2, 2].all fun u => !Tryd.prog.wantsStandIn u) = true := by kernel_rfl
        exact (show Tryd.prog.wantsStandIn t = false by simpa using List.all_eq_true.1 hall t hm)⟩)
    (by kernel_rfl)
#print axioms proved
end Go.Proofs.YtomhmbnpkphcmaaDoor.dyadInts
