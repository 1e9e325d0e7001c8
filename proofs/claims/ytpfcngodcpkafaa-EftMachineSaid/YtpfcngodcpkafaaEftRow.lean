/- EftMachine: for every input the law answers true: where TwoSum and TwoProd of Doubles answer, their sums, rests and products are the machine's own, bit by bit. Conditions: none. -/
import Derived.Test.YtpfcngodcpkafaaEft
import Derived.Test.YtpfcngodcpkafaaRows
import Derived.ProofKit
import Derived.OpenShut
namespace Go.Proofs.Ytpfcngodcpkafaa.eftMachine
set_option linter.unusedVariables false
open Go.ChangeShapes Go.WideShapes Go.ChangeAt Go.RowKit

theorem own : ownKnob Try.prog.godebug = none := by kernel_rfl

set_option maxRecDepth 100000 in
theorem lifted (os : Os) (started : os.Started) (H : Type) (enc : TypeId × Value → H) :
    ReturnsInHanded {} Try.checked os 3 .any (Rows.eftMachineSpec.pre6 enc Try.prog Try.f3 Rows.eftMachineRow.domain false) (Rows.eftMachineSpec.post enc Try.prog Try.f3 false true false false) := by
  refine returnsInHanded_of_change (C := Try.checked) own started (by kernel_rfl) Try.func3
    (ChangeSpec.witness6 (enc := enc) (C := Try.checked) false ⟨#[], #[.int .u64 0, .int .u64 0], []⟩ 8 (by kernel_rfl) (by kernel_rfl) (by kernel_rfl) (by kernel_rfl)) ?_
  intro W base args ds gs before hval0 hW hcnd _
  have hval : ∀ (j : Nat) t v, Try.f3.params[j]? = some t → args[j]? = some v → Value.okWide Try.prog W .any base t v := hval0
  have hW' := hW
  obtain ⟨p, q, hA0, hV, rfl, hfz, hnd⟩ := hW
  have hA : DataW.TrodAll enc Try.prog W 0 (fun _ => true) true Try.f3.params.toList args.toList ds p := hA0
  rw [Try.params3] at hA hval
  obtain ⟨v0, v1, d0, d1, p0, p1, rfl, rfl, rfl, h0, h1⟩ := trodAll_two hA
  obtain ⟨rfl, rfl⟩ := trodVars_none hV
  clear hA0 hval0
  simp only [List.append_nil] at hW'
  have rng : ∀ {z : Int}, (Lit.int .u64 z).wf = true → ∃ n : Nat, z = (n : Int) := by
    intro z wz
    simp only [Lit.wf, Bool.and_eq_true, decide_eq_true_eq] at wz
    have w1 := wz.1
    rw [show IntKind.u64.min = 0 from by decide] at w1
    exact ⟨z.toNat, by omega⟩
  obtain ⟨k0, rfl, rfl, rfl, wk0⟩ := open_int Try.underlying22 (hval 0 22 v0 rfl rfl) h0
  obtain ⟨k1, rfl, rfl, rfl, wk1⟩ := open_int Try.underlying22 (hval 1 22 v1 rfl rfl) h1
  obtain ⟨a, rfl⟩ := rng wk0
  obtain ⟨b, rfl⟩ := rng wk1
  refine (machine_any a b W).mono fun e W' ⟨he, hB⟩ => ?_
  subst he
  refine ⟨_, rfl, _, _, _, [], [] ++ [], [], hW', ?_, ?_, rfl, hB.frame _, fun h => by cases h⟩
  · exact trodAll_mk1 (shut_bool Try.underlying4 _)
  · exact trodAll_mk2 (shut_int Try.underlying22 wk0) (shut_int Try.underlying22 wk1)

theorem over : Rows.eftMachineRow.holds Try.pinned (OpenSpec.ofChange Rows.eftMachineSpec) :=
  OpenClaim.holds_of_wide 3 Try.f3 rfl rfl rfl rfl rfl rfl rfl ⟨rfl, rfl, rfl, rfl, rfl⟩ rfl rfl rfl rfl rfl (by kernel_rfl) Try.func3 (by kernel_rfl)
    (of_decide_eq_true (by kernel_rfl)) (by unfold Func.isWrapper; first | (rw [if_pos (by decide +kernel)]; kernel_rfl) | (rw [if_neg (by decide +kernel)]; exact ⟨rfl, rfl⟩))
    (fun os started H enc _ => lifted os started H enc)

theorem proved : Rows.EftMachineSaid := over
#print axioms proved
end Go.Proofs.Ytpfcngodcpkafaa.eftMachine
