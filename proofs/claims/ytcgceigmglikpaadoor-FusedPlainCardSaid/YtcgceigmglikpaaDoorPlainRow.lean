/- FusedPlain: for every input the law answers true. Conditions: none. -/
import Derived.Test.YtcgceigmglikpaaDoorFusU
import Derived.Test.YtcgceigmglikpaaDoorOpenFour
import Derived.Test.YtcgceigmglikpaaDoorTie
import Derived.Test.YtcgceigmglikpaaDoorCards
import Derived.SizedLaws
import Derived.Stop.Joined
import Derived.LaidMore
import Derived.Lay
import Derived.ProofKit
import Derived.OpenShut
namespace Go.Proofs.YtcgceigmglikpaaDoor.fusedPlain
set_option linter.unusedVariables false
open Go.ChangeShapes Go.WideShapes Go.ChangeAt Go.RowKit

theorem own : ownKnob Tryd.prog.godebug = none := by kernel_rfl
theorem laidOut : laidOutB Tryd.prog = true := by kernel_rfl

set_option maxRecDepth 100000 in
theorem lifted (os : Os) (started : os.Started) (H : Type) (enc : TypeId × Value → H) :
    ReturnsInHanded {} Tryd.checked os 14 .any (fun w args => (Rows.fusedPlainSpec.pre enc Tryd.prog Tryd.f14 Rows.fusedPlainRow.domain false w args ∧ laidMetH Tryd.prog Rows.fusedPlainRow.laid w) ∧ sizedMet enc Tryd.prog Tryd.f14 (OpenSpec.ofChange Rows.fusedPlainSpec) false w args)
      (Rows.fusedPlainSpec.post enc Tryd.prog Tryd.f14 false true false false) := by
  refine returnsInHanded_of_change_and (C := Tryd.checked) (X := fun w _ => laidMetH Tryd.prog Rows.fusedPlainRow.laid w) (fun _ _ _ hh h => h.of_heap hh) own started (by kernel_rfl) Tryd.func14
    (ChangeSpec.witness_shaped (enc := enc) (C := Tryd.checked) (os := os) (X := fun w _ => laidMetH Tryd.prog Rows.fusedPlainRow.laid w) false (World.laidAll Tryd.prog os Rows.fusedPlainRow.laid)
      #[.agg #[.int .i64 0, .int .i64 0, .int .u64 0, .int .u64 0, .int .u64 0, .int .u64 0]] 8 (World.laidAll_os _ _ _)
      (World.shaped_of_ZipB (by kernel_rfl) (by kernel_rfl)) (by kernel_rfl) (by kernel_rfl) (by kernel_rfl)
      (by rw [MakeChecks.laidMetH_plain _ _ _ (by kernel_rfl)]; exact laidMet_laidAll _ (by kernel_rfl) (by kernel_rfl))) ?_
  intro W base args ds gs before hval0 hW hc hsz hL _
  have hval : ∀ (j : Nat) t v, Tryd.f14.params[j]? = some t → args[j]? = some v → Value.okWide Tryd.prog W .any base t v := hval0
  have hlt := hW.lt
  have hW' := hW
  obtain ⟨p, q, hA0, hV, rfl, _, _⟩ := hW
  have hA : DataW.TrodAll enc Tryd.prog W 0 (fun _ => true) true Tryd.f14.params.toList args.toList ds p := hA0
  rw [Tryd.params14] at hA hval hsz
  obtain ⟨v0, d0, rfl, rfl, h0⟩ := trodAll_one hA
  obtain ⟨rfl, rfl⟩ := trodVars_none hV
  simp only [List.append_nil] at hW' hlt
  obtain ⟨f0, m0, a0, b0, c0, e0, rfl, la0, lb0, lc0, le0, lf0, lm0⟩ := open_four (hval 0 68 v0 rfl rfl) h0
  have hG := gl_of_laidF (show laidMetH Tryd.prog laidF W from hL)
  have hR := glr_of_laidF (show laidMetH Tryd.prog laidF W from hL)
  refine (plain_any f0 m0 a0 b0 c0 e0 W lf0 lm0 la0 lb0 lc0 le0 hG hR).mono fun e W' ⟨he, hB⟩ => ?_
  subst he
  refine ⟨_, rfl, _, _, _, [], p, [], hW', ?_, ?_, rfl, hB.frame _, fun h => by cases h⟩
  · exact trodAll_mk1 (shut_bool Tryd.underlying4 _)
  · have st0 : ∀ {v d p'}, DataW.Trod enc Tryd.prog W 0 (fun _ => true) true 68 v d p' → (∀ x ∈ p', x.block < W.heap.size) → DataW.Trod enc Tryd.prog W' 0 (fun b => decide (b < W.heap.size)) true 68 v d p' :=
      fun h hx => Below.trod laidOut (by kernel_rfl) (by decide) h hB hx
    exact trodAll_mk1 (st0 h0 fun x hx => hlt x (by simp [hx]))

theorem over : Rows.fusedPlainRow.holds Tryd.pinned (OpenSpec.ofChange Rows.fusedPlainSpec) :=
  OpenClaim.holds_of_wide 14 Tryd.f14 rfl rfl rfl rfl rfl rfl rfl ⟨rfl, rfl, rfl, rfl, rfl⟩ rfl rfl rfl rfl rfl (by kernel_rfl) Tryd.func14 (by kernel_rfl)
    (of_decide_eq_true (by kernel_rfl)) (by unfold Func.isWrapper; first | (rw [if_pos (by decide +kernel)]; kernel_rfl) | (rw [if_neg (by decide +kernel)]; exact ⟨rfl, rfl⟩))
    (fun os started H enc _ => lifted os started H enc)

theorem proved : Rows.FusedPlainCardSaid :=
  Claim7.holds_tied_plain_at .later [] [.data, .data] true (true, "69220bfd62fed5a0fc017544b077ccd71e70ccd8079cac1d38056f25f65da39a") false over (fun _ h => by cases h) (by kernel_rfl) (fun _ h => by cases h) fusedPlain_row_tie rfl ⟨rfl, rfl⟩ (by kernel_rfl) rfl
    (fun f fn hf hfn => by
      obtain rfl : f = 14 := Option.some.inj ((show Tryd.prog.funcNamed "vernier/vernierlaw09.FusedPlain" = some 14 by kernel_rfl).symm.trans hf) |>.symm
      obtain rfl : fn = Tryd.f14 := (Option.some.inj (Tryd.func14.symm.trans hfn)).symm
      exact ⟨by kernel_rfl, fun j t ht => by
        rw [Tryd.params14] at ht
        have hm : t ∈ [68] := by simpa using Array.mem_of_getElem? ht
        have hall : ([68].all fun u => !Tryd.prog.wantsStandIn u) = true := by kernel_rfl
        exact (show Tryd.prog.wantsStandIn t = false by simpa using List.all_eq_true.1 hall t hm)⟩)
    (by kernel_rfl)
#print axioms proved
end Go.Proofs.YtcgceigmglikpaaDoor.fusedPlain
