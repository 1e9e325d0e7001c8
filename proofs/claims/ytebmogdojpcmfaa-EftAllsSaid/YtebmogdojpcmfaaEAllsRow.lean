/- EftAlls: for every list of operations the law answers true: both results, bit by bit, and the error are the document's. Conditions: none. -/
import Derived.Test.YtebmogdojpcmfaaEAlls
import Derived.Test.YtebmogdojpcmfaaEOpen
import Derived.Test.YtebmogdojpcmfaaRows
import Derived.SizedLaws
import Derived.Stop.Joined
import Derived.LaidMore
import Derived.Lay
import Derived.ProofKit
import Derived.OpenShut
namespace Go.Proofs.Ytebmogdojpcmfaa.eftAlls
set_option linter.unusedVariables false
open Go.ChangeShapes Go.WideShapes Go.ChangeAt Go.RowKit

theorem own : ownKnob Try.prog.godebug = none := by kernel_rfl
theorem laidOut : laidOutB Try.prog = true := by kernel_rfl

set_option maxRecDepth 100000 in
theorem lifted (os : Os) (started : os.Started) (H : Type) (enc : TypeId × Value → H) :
    ReturnsInHanded {} Try.checked os 3 .any (Rows.eftAllsSpec.pre6 enc Try.prog Try.f3 Rows.eftAllsRow.domain false) (Rows.eftAllsSpec.post enc Try.prog Try.f3 false true false false) := by
  refine returnsInHanded_of_change (C := Try.checked) own started (by kernel_rfl) Try.func3
    (ChangeSpec.witness6 (enc := enc) (C := Try.checked) false ⟨#[], #[.slice none 0 0], []⟩ 8 (by kernel_rfl) (by kernel_rfl) (by kernel_rfl) (by kernel_rfl)) ?_
  intro W base args ds gs before hval0 hW hcnd _
  have hval : ∀ (j : Nat) t v, Try.f3.params[j]? = some t → args[j]? = some v → Value.okWide Try.prog W .any base t v := hval0
  have hlt := hW.lt
  have hW' := hW
  obtain ⟨p, q, hA0, hV, rfl, hfz, hnd⟩ := hW
  have hA : DataW.TrodAll enc Try.prog W 0 (fun _ => true) true Try.f3.params.toList args.toList ds p := hA0
  rw [Try.params3] at hA hval
  obtain ⟨v0, d0, rfl, rfl, h0⟩ := trodAll_one hA
  obtain ⟨rfl, rfl⟩ := trodVars_none hV
  clear hA0 hval0
  simp only [List.append_nil] at hW' hlt
  obtain ⟨A0, n0, c0, rfl, ln0, hs0⟩ := open_ops4 (hval 0 22 v0 rfl rfl) h0 (fun x hx => hlt x (by simp [hx]))
  refine (ealls_any A0 n0 c0 W ln0 hs0).mono fun e W' ⟨he, hB⟩ => ?_
  subst he
  refine ⟨_, rfl, _, _, _, [], p, [], hW', ?_, ?_, rfl, hB.frame _, fun h => by cases h⟩
  · exact trodAll_mk1 (shut_bool Try.underlying4 _)
  · have st0 : ∀ {v d p'}, DataW.Trod enc Try.prog W 0 (fun _ => true) true 22 v d p' → (∀ x ∈ p', x.block < W.heap.size) → DataW.Trod enc Try.prog W' 0 (fun b => decide (b < W.heap.size)) true 22 v d p' :=
      fun h hx => Below.trod laidOut (by kernel_rfl) (by decide) h hB hx
    exact trodAll_mk1 (st0 h0 fun x hx => hlt x (by simp [hx]))

theorem over : Rows.eftAllsRow.holds Try.pinned (OpenSpec.ofChange Rows.eftAllsSpec) :=
  OpenClaim.holds_of_wide 3 Try.f3 rfl rfl rfl rfl rfl rfl rfl ⟨rfl, rfl, rfl, rfl, rfl⟩ rfl rfl rfl rfl rfl (by kernel_rfl) Try.func3 (by kernel_rfl)
    (of_decide_eq_true (by kernel_rfl)) (by unfold Func.isWrapper; first | (rw [if_pos (by decide +kernel)]; kernel_rfl) | (rw [if_neg (by decide +kernel)]; exact ⟨rfl, rfl⟩))
    (fun os started H enc _ => lifted os started H enc)

theorem proved : Rows.EftAllsSaid := over
#print axioms proved
end Go.Proofs.Ytebmogdojpcmfaa.eftAlls
