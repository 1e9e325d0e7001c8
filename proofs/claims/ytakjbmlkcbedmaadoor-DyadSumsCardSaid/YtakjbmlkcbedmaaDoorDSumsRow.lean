/- DyadSums: for every input the law answers true. Conditions: none. -/
import Derived.Test.YtakjbmlkcbedmaaDoorDOpenL
import Derived.Test.YtakjbmlkcbedmaaDoorLaid
import Derived.Test.YtakjbmlkcbedmaaDoorTie
import Derived.Test.YtakjbmlkcbedmaaDoorCards
import Derived.SizedLaws
import Derived.Stop.Joined
import Derived.LaidMore
import Derived.Lay
import Derived.ProofKit
import Derived.OpenShut
namespace Go.Proofs.YtakjbmlkcbedmaaDoor.dyadSums
set_option linter.unusedVariables false
open Go.ChangeShapes Go.WideShapes Go.ChangeAt Go.RowKit

theorem own : ownKnob Tryd.prog.godebug = none := by kernel_rfl
theorem laidOut : laidOutB Tryd.prog = true := by kernel_rfl

set_option maxRecDepth 100000 in
theorem lifted (os : Os) (started : os.Started) (H : Type) (enc : TypeId × Value → H) :
    ReturnsInHanded {} Tryd.checked os 4 .any (fun w args => (Rows.dyadSumsSpec.pre enc Tryd.prog Tryd.f4 Rows.dyadSumsRow.domain false w args ∧ laidMetH Tryd.prog Rows.dyadSumsRow.laid w) ∧ sizedMet enc Tryd.prog Tryd.f4 (OpenSpec.ofChange Rows.dyadSumsSpec) false w args)
      (Rows.dyadSumsSpec.post enc Tryd.prog Tryd.f4 false true false false) := by
  refine returnsInHanded_of_change_and (C := Tryd.checked) (X := fun w _ => laidMetH Tryd.prog Rows.dyadSumsRow.laid w) (fun _ _ _ hh h => h.of_heap hh) own started (by kernel_rfl) Tryd.func4
    (ChangeSpec.witness_shaped (enc := enc) (C := Tryd.checked) (os := os) (X := fun w _ => laidMetH Tryd.prog Rows.dyadSumsRow.laid w) false (World.laidAll Tryd.prog os Rows.dyadSumsRow.laid)
      #[.slice none 0 0] 8 (World.laidAll_os _ _ _)
      (World.shaped_of_ZipB (by kernel_rfl) (by kernel_rfl)) (by kernel_rfl) (by kernel_rfl) (by kernel_rfl)
      (by rw [MakeChecks.laidMetH_plain _ _ _ (by kernel_rfl)]; exact laidMet_laidAll _ (by kernel_rfl) (by kernel_rfl))) ?_
  intro W base args ds gs before hval0 hW hc hsz hL _
  have hval : ∀ (j : Nat) t v, Tryd.f4.params[j]? = some t → args[j]? = some v → Value.okWide Tryd.prog W .any base t v := hval0
  have hlt := hW.lt
  have hW' := hW
  obtain ⟨p, q, hA0, hV, rfl, _, _⟩ := hW
  have hA : DataW.TrodAll enc Tryd.prog W 0 (fun _ => true) true Tryd.f4.params.toList args.toList ds p := hA0
  rw [Tryd.params4] at hA hval hsz
  obtain ⟨v0, d0, rfl, rfl, h0⟩ := trodAll_one hA
  obtain ⟨rfl, rfl⟩ := trodVars_none hV
  simp only [List.append_nil] at hW' hlt
  have hin : ∀ (j : Nat) t d, [31][j]? = some t → [d0][j]? = some d → ∀ m ∈ d.weights Tryd.prog t, m ≤ reachBytes := by
    intro j t d ht hd m hm
    have := List.all_eq_true.1 hsz m (DataW.weights_mem_each (ts := [31]) ht hd m hm)
    simpa using this
  obtain ⟨A0, n0, c0, rfl, ln0, f0, hs0⟩ := open_dyads (hval 0 31 v0 rfl rfl) h0 (hin 0 _ _ rfl rfl) (fun x hx => hlt x (by simp [hx]))
  have hG := gl_of_laid hL
  refine (dsums_any A0 n0 c0 f0 W ln0 hs0 hG).mono fun e W' ⟨he, hB⟩ => ?_
  subst he
  refine ⟨_, rfl, _, _, _, [], p, [], hW', ?_, ?_, rfl, hB.frame _, fun h => by cases h⟩
  · exact trodAll_mk1 (shut_bool Tryd.underlying4 _)
  · have st0 : ∀ {v d p'}, DataW.Trod enc Tryd.prog W 0 (fun _ => true) true 31 v d p' → (∀ x ∈ p', x.block < W.heap.size) → DataW.Trod enc Tryd.prog W' 0 (fun b => decide (b < W.heap.size)) true 31 v d p' :=
      fun h hx => Below.trod laidOut (by kernel_rfl) (by decide) h hB hx
    exact trodAll_mk1 (st0 h0 fun x hx => hlt x (by simp [hx]))

theorem over : Rows.dyadSumsRow.holds Tryd.pinned (OpenSpec.ofChange Rows.dyadSumsSpec) :=
  OpenClaim.holds_of_wide 4 Tryd.f4 rfl rfl rfl rfl rfl rfl rfl ⟨rfl, rfl, rfl, rfl, rfl⟩ rfl rfl rfl rfl rfl (by kernel_rfl) Tryd.func4 (by kernel_rfl)
    (of_decide_eq_true (by kernel_rfl)) (by unfold Func.isWrapper; first | (rw [if_pos (by decide +kernel)]; kernel_rfl) | (rw [if_neg (by decide +kernel)]; exact ⟨rfl, rfl⟩))
    (fun os started H enc _ => lifted os started H enc)

theorem proved : Rows.DyadSumsCardSaid :=
  Claim7.holds_tied_plain_at .later [] [.data] true Rows.dyadSumsCard.stood.harness false over (fun _ h => by cases h) (by kernel_rfl) (fun _ h => by cases h) dyadSums_row_tie rfl ⟨rfl, rfl⟩ (by kernel_rfl) rfl
    (fun f fn hf hfn => by
      obtain rfl : f = 4 := Option.some.inj ((show Tryd.prog.funcNamed "vernier/vernierlaw03.DyadSums" = some 4 by kernel_rfl).symm.trans hf) |>.symm
      obtain rfl : fn = Tryd.f4 := (Option.some.inj (Tryd.func4.symm.trans hfn)).symm
      exact ⟨by kernel_rfl, fun j t ht => by
        rw [Tryd.params4] at ht
        have hm : t ∈ [31] := by simpa using Array.mem_of_getElem? ht
        have hall : ([31].all fun u => !Tryd.prog.wantsStandIn u) = true := by kernel_rfl
        exact (show Tryd.prog.wantsStandIn t = false by simpa using List.all_eq_true.1 hall t hm)⟩)
    (by kernel_rfl)
#print axioms proved
end Go.Proofs.YtakjbmlkcbedmaaDoor.dyadSums
