/- FusedAlls: for every input the law answers true. Conditions: none. -/
import Derived.Test.YtdbfkfbncmbfcaaGreatDoorAlls
import Derived.Test.YtdbfkfbncmbfcaaGreatDoorOpenOps
import Derived.Test.YtdbfkfbncmbfcaaGreatDoorTie
import Derived.Test.YtdbfkfbncmbfcaaGreatDoorCards
import Derived.SizedLaws
import Derived.Stop.Joined
import Derived.LaidMore
import Derived.Lay
import Derived.ProofKit
import Derived.OpenShut
namespace Go.Proofs.YtdbfkfbncmbfcaaGreatDoor.fusedAlls
set_option linter.unusedVariables false
open Go.ChangeShapes Go.WideShapes Go.ChangeAt Go.RowKit

theorem own : ownKnob Tryz.prog.godebug = none := by kernel_rfl
theorem laidOut : laidOutB Tryz.prog = true := by kernel_rfl

set_option maxRecDepth 100000 in
theorem lifted (os : Os) (started : os.Started) (H : Type) (enc : TypeId × Value → H) :
    ReturnsInHanded {} Tryz.checked os 3 .any (fun w args => (Rows.fusedAllsSpec.pre enc Tryz.prog Tryz.f3 Rows.fusedAllsRow.domain false w args ∧ laidMetH Tryz.prog Rows.fusedAllsRow.laid w) ∧ sizedMet enc Tryz.prog Tryz.f3 (OpenSpec.ofChange Rows.fusedAllsSpec) false w args)
      (Rows.fusedAllsSpec.post enc Tryz.prog Tryz.f3 false true false false) := by
  refine returnsInHanded_of_change_and (C := Tryz.checked) (X := fun w _ => laidMetH Tryz.prog Rows.fusedAllsRow.laid w) (fun _ _ _ hh h => h.of_heap hh) own started (by kernel_rfl) Tryz.func3
    (ChangeSpec.witness_shaped (enc := enc) (C := Tryz.checked) (os := os) (X := fun w _ => laidMetH Tryz.prog Rows.fusedAllsRow.laid w) false (World.laidAll Tryz.prog os Rows.fusedAllsRow.laid)
      #[.slice none 0 0] 8 (World.laidAll_os _ _ _)
      (World.shaped_of_ZipB (by kernel_rfl) (by kernel_rfl)) (by kernel_rfl) (by kernel_rfl) (by kernel_rfl)
      (by rw [MakeChecks.laidMetH_plain _ _ _ (by kernel_rfl)]; exact laidMet_laidAll _ (by kernel_rfl) (by kernel_rfl))) ?_
  intro W base args ds gs before hval0 hW hc hsz hL _
  have hval : ∀ (j : Nat) t v, Tryz.f3.params[j]? = some t → args[j]? = some v → Value.okWide Tryz.prog W .any base t v := hval0
  have hlt := hW.lt
  have hW' := hW
  obtain ⟨p, q, hA0, hV, rfl, _, _⟩ := hW
  have hA : DataW.TrodAll enc Tryz.prog W 0 (fun _ => true) true Tryz.f3.params.toList args.toList ds p := hA0
  rw [Tryz.params3] at hA hval hsz
  obtain ⟨v0, d0, rfl, rfl, h0⟩ := trodAll_one hA
  obtain ⟨rfl, rfl⟩ := trodVars_none hV
  simp only [List.append_nil] at hW' hlt
  obtain ⟨A0, n0, c0, rfl, ln0, hs0⟩ := open_ops (hval 0 22 v0 rfl rfl) h0 (fun x hx => hlt x (by simp [hx]))
  have hG := gl_of_laidF (show laidMetH Tryz.prog laidF W from hL)
  have hR := glr_of_laidF (show laidMetH Tryz.prog laidF W from hL)
  have hcall := alls_any A0 n0 c0 W ln0 hs0 hG hR
  have hX : Tryz.prog = Tryz.checked.prog := rfl
  rw [hX] at hcall
  refine hcall.mono fun e W' hh => ?_
  obtain ⟨he, hB⟩ := hh
  subst he
  refine ⟨_, rfl, _, _, _, [], p, [], hW', ?_, ?_, rfl, hB.frame _, fun h => by cases h⟩
  · exact trodAll_mk1 (shut_bool Tryz.underlying4 _)
  · have st0 : ∀ {v d p'}, DataW.Trod enc Tryz.prog W 0 (fun _ => true) true 22 v d p' → (∀ x ∈ p', x.block < W.heap.size) → DataW.Trod enc Tryz.prog W' 0 (fun b => decide (b < W.heap.size)) true 22 v d p' :=
      fun h hx => Below.trod laidOut (by kernel_rfl) (by decide) h hB hx
    exact trodAll_mk1 (st0 h0 fun x hx => hlt x (by simp [hx]))

theorem over : Rows.fusedAllsRow.holds Tryz.pinned (OpenSpec.ofChange Rows.fusedAllsSpec) :=
  OpenClaim.holds_of_wide 3 Tryz.f3 rfl rfl rfl rfl rfl rfl rfl ⟨rfl, rfl, rfl, rfl, rfl⟩ rfl rfl rfl rfl rfl (by kernel_rfl) Tryz.func3 (by kernel_rfl)
    (of_decide_eq_true (by kernel_rfl)) (by unfold Func.isWrapper; first | (rw [if_pos (by decide +kernel)]; kernel_rfl) | (rw [if_neg (by decide +kernel)]; exact ⟨rfl, rfl⟩))
    (fun os started H enc _ => lifted os started H enc)

theorem proved : Rows.FusedAllsCardSaid :=
  Claim7.holds_tied_plain_at .later [] [.data, .data] true (true, "038c5155a1ecc44f841b2f5fd766fb81398c227ef82a1b03a2cb8e86ed6ac469") false over (fun _ h => by cases h) (by kernel_rfl) (fun _ h => by cases h) fusedAlls_row_tie rfl ⟨rfl, rfl⟩ (by kernel_rfl) rfl
    (fun f fn hf hfn => by
      obtain rfl : f = 3 := Option.some.inj ((show Tryz.prog.funcNamed "vernier/vernierlaw09.FusedAlls" = some 3 by kernel_rfl).symm.trans hf) |>.symm
      obtain rfl : fn = Tryz.f3 := (Option.some.inj (Tryz.func3.symm.trans hfn)).symm
      exact ⟨by kernel_rfl, fun j t ht => by
        rw [Tryz.params3] at ht
        have hm : t ∈ [22] := by simpa using Array.mem_of_getElem? ht
        have hall : ([22].all fun u => !Tryz.prog.wantsStandIn u) = true := by kernel_rfl
        exact (show Tryz.prog.wantsStandIn t = false by simpa using List.all_eq_true.1 hall t hm)⟩)
    (by kernel_rfl)
#print axioms proved
end Go.Proofs.YtdbfkfbncmbfcaaGreatDoor.fusedAlls
