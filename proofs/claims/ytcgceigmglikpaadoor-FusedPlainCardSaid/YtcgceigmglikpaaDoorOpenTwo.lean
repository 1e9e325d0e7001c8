/- What comes in as a format, a mode and two data: opened. -/
import Derived.Test.YtcgceigmglikpaaDoorTwo
import Derived.Test.YtcgceigmglikpaaDoorLaidF
import Derived.OpenShut
namespace Go.Proofs.YtcgceigmglikpaaDoor
set_option linter.unusedVariables false
open Go.RowKit Go.ChangeShapes Go.WideShapes Go.Joins

set_option maxRecDepth 100000 in
theorem open_two {H : Type} {enc : TypeId × Value → H} {W : World} {base : Nat} {v : Value} {d : DataW H} {p : List MemPlace} (hv : Value.okWide Tryd.prog W .any base 40 v) (h : DataW.Trod enc Tryd.prog W 0 (fun _ => true) true 40 v d p) :
    ∃ (f m : Int) (a b : Nat), v = .agg (twoA f m a b) ∧ a < 18446744073709551616 ∧ b < 18446744073709551616 ∧ (-9223372036854775808 ≤ f ∧ f ≤ 9223372036854775807) ∧ (-9223372036854775808 ≤ m ∧ m ≤ 9223372036854775807) := by
  obtain ⟨v0, v1, v2, v3, y0, y1, y2, y3, n, rfl, rfl, rfl, h0, h1, h2, h3⟩ := open_agg4 Tryd.underlying40 (by kernel_rfl) (by kernel_rfl) hv h
  obtain ⟨f, e0, rfl, w0⟩ := DataW.trod_int Tryd.underlying3 h0
  obtain ⟨m, e1, rfl, w1⟩ := DataW.trod_int Tryd.underlying3 h1
  obtain ⟨a, e2, rfl, w2⟩ := DataW.trod_int Tryd.underlying22 h2
  obtain ⟨b, e3, rfl, w3⟩ := DataW.trod_int Tryd.underlying22 h3
  injection e0 with e0
  injection e1 with e1
  injection e2 with e2
  injection e3 with e3
  subst e0 e1 e2 e3
  simp only [Lit.wf, Bool.and_eq_true, decide_eq_true_eq] at w0 w1 w2 w3
  rw [show IntKind.i64.min = -9223372036854775808 from by decide, show IntKind.i64.max = 9223372036854775807 from by decide] at w0 w1
  rw [show IntKind.u64.min = 0 from by decide, show IntKind.u64.max = 18446744073709551615 from by decide] at w2 w3
  refine ⟨f, m, a.toNat, b.toNat, ?_, by omega, by omega, w0, w1⟩
  unfold twoA
  rw [Int.toNat_of_nonneg w2.1, Int.toNat_of_nonneg w3.1]

set_option maxRecDepth 100000 in
theorem open_u64 {H : Type} {enc : TypeId × Value → H} {W : World} {base : Nat} {t : TypeId} {v : Value} {d : DataW H} {p : List MemPlace} (ht : Tryd.prog.underlying t = some (.int .u64)) (hv : Value.okWide Tryd.prog W .any base t v) (h : DataW.Trod enc Tryd.prog W 0 (fun _ => true) true t v d p) :
    ∃ a : Nat, v = .int .u64 a ∧ a < 18446744073709551616 := by
  obtain ⟨z, rfl, rfl, rfl, hw⟩ := open_int ht hv h
  simp only [Lit.wf, Bool.and_eq_true, decide_eq_true_eq] at hw
  rw [show IntKind.u64.min = 0 from by decide, show IntKind.u64.max = 18446744073709551615 from by decide] at hw
  exact ⟨z.toNat, by rw [Int.toNat_of_nonneg hw.1], by omega⟩

set_option maxRecDepth 100000 in
theorem open_u32 {H : Type} {enc : TypeId × Value → H} {W : World} {base : Nat} {t : TypeId} {v : Value} {d : DataW H} {p : List MemPlace} (ht : Tryd.prog.underlying t = some (.int .u32)) (hv : Value.okWide Tryd.prog W .any base t v) (h : DataW.Trod enc Tryd.prog W 0 (fun _ => true) true t v d p) :
    ∃ a : Nat, v = .int .u32 a ∧ a < 4294967296 := by
  obtain ⟨z, rfl, rfl, rfl, hw⟩ := open_int ht hv h
  simp only [Lit.wf, Bool.and_eq_true, decide_eq_true_eq] at hw
  rw [show IntKind.u32.min = 0 from by decide, show IntKind.u32.max = 4294967295 from by decide] at hw
  exact ⟨z.toNat, by rw [Int.toNat_of_nonneg hw.1], by omega⟩

end Go.Proofs.YtcgceigmglikpaaDoor
