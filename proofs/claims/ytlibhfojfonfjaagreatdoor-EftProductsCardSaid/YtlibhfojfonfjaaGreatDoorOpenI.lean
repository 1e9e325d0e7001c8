/- What comes in as an int or a uint64: opened. -/
import Derived.Test.YtlibhfojfonfjaaGreatDoorLaidF
import Derived.OpenShut
namespace Go.Proofs.YtlibhfojfonfjaaGreatDoor
set_option linter.unusedVariables false
open Go.RowKit Go.ChangeShapes Go.WideShapes Go.Joins

set_option maxRecDepth 100000 in
theorem open_i64 {H : Type} {enc : TypeId × Value → H} {W : World} {base : Nat} {t : TypeId} {v : Value} {d : DataW H} {p : List MemPlace} (ht : Tryz.prog.underlying t = some (.int .i64)) (hv : Value.okWide Tryz.prog W .any base t v) (h : DataW.Trod enc Tryz.prog W 0 (fun _ => true) true t v d p) :
    ∃ a : Int, v = .int .i64 a := by
  obtain ⟨z, rfl, rfl, rfl, hw⟩ := open_int ht hv h
  exact ⟨z, rfl⟩

set_option maxRecDepth 100000 in
theorem open_u64 {H : Type} {enc : TypeId × Value → H} {W : World} {base : Nat} {t : TypeId} {v : Value} {d : DataW H} {p : List MemPlace} (ht : Tryz.prog.underlying t = some (.int .u64)) (hv : Value.okWide Tryz.prog W .any base t v) (h : DataW.Trod enc Tryz.prog W 0 (fun _ => true) true t v d p) :
    ∃ a : Nat, v = .int .u64 a ∧ a < 18446744073709551616 := by
  obtain ⟨z, rfl, rfl, rfl, hw⟩ := open_int ht hv h
  simp only [Lit.wf, Bool.and_eq_true, decide_eq_true_eq] at hw
  rw [show IntKind.u64.min = 0 from by decide, show IntKind.u64.max = 18446744073709551615 from by decide] at hw
  exact ⟨z.toNat, by rw [Int.toNat_of_nonneg hw.1], by omega⟩

end Go.Proofs.YtlibhfojfonfjaaGreatDoor
