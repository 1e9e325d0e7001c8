/- Walks of layer 18: FastTwoSum, Split; other formats. Printed by gen/fltg.py. -/
import Derived.Test.YtlibhfojfonfjaaGreatDoorFltF
import Derived.Test.YtlibhfojfonfjaaGreatDoorEftL
namespace Go.Proofs.YtlibhfojfonfjaaGreatDoor
set_option linter.unusedVariables false
open Go.RowKit

/-- what fastTwoSum answers: a is the lesser, or its steps -/
def FastR (k : FloatKind) (a b s r : Nat) (ok : Bool) : Prop :=
  (ltB k (absF k a) (absF k b) = true ∧ ok = false) ∨ (ltB k (absF k a) (absF k b) = false ∧ ∃ t, FastC k a b s t r ∧ ok = [s, t, r].all (finB k))

def FastAns (k : FloatKind) (a b : Nat) (er e : Int) (x y : Nat) : Prop :=
  (e ≠ 0 ∧ e = er) ∨ (er = 0 ∧ ∃ s r ok, FastR k a b s r ok ∧ ((ok = true ∧ e = 0 ∧ x = s ∧ y = r) ∨ (ok = false ∧ e = 7)))
def HalfAns (k : FloatKind) (q a : Nat) (er e : Int) (x y : Nat) : Prop :=
  (e ≠ 0 ∧ e = er) ∨ (er = 0 ∧ ∃ c d h l, HalfC k q a c d h l ∧ (([c, d, h, l].all (finB k) = true ∧ e = 0 ∧ x = h ∧ y = l) ∨ ([c, d, h, l].all (finB k) = false ∧ e = 7)))
def err31 (a : Nat) : Int := if [a].all (finB .f64) = true then 0 else 40
def err21 (a : Nat) : Int := if [a].all (fun x => decide (x < 4294967296)) = true then (if [a].all (fun x => finB .f32 (x % 4294967296)) = true then 0 else 40) else 4


theorem refuses_bad (f : Int) (s : Value) (w : World) (h2 : f ≠ 2) (h3 : f ≠ 3) :
    Calls Tryz.prog 18 #[.int .i64 f, s] w fun e w' => e = .returned (.int .i64 2) ∧ w = w' := by
  have t2 : (f != 2) = true := by simpa using h2
  have t3 : (f != 3) = true := by simpa using h3
  clear h2 h3
  go_enter Tryz.func18, Tryz.ntmps18
  go_wp2_with fail
  go_ret
  exact ⟨rfl, rfl⟩


theorem TwoSum_bad (f : Int) (a b : Nat) (w : World) (h2 : f ≠ 2) (h3 : f ≠ 3) :
    Calls Tryz.prog 16 #[.int .i64 f, .int .u64 a, .int .u64 b] w fun e' w' => e' = .returned (.tuple #[.int .u64 0, .int .u64 0, .int .i64 2]) ∧ Below w.heap.size w w' := by
  have HR := Lib.hid (fun s wx => refuses_bad f s wx h2 h3)
  have HB := Lib.hid (below_a w (Obj.cells #[.int .u64 a, .int .u64 b] 22))
  clear h2 h3
  go_enter Tryz.func16, Tryz.ntmps16
  go_wp2_with fail
  refine (HR.out _ _).mono ?_
  rintro _ _ ⟨rfl, rfl⟩
  go_wp2_with fail
  refine bodyPost_ret (v := .tuple #[.int .u64 0, .int .u64 0, .int .i64 2]) (by simp [results, Tryz.results16, go_sem]) rfl ?_
  exact ⟨rfl, HB.out⟩


theorem TwoProd_bad (f : Int) (a b : Nat) (w : World) (h2 : f ≠ 2) (h3 : f ≠ 3) :
    Calls Tryz.prog 8 #[.int .i64 f, .int .u64 a, .int .u64 b] w fun e' w' => e' = .returned (.tuple #[.int .u64 0, .int .u64 0, .int .i64 2]) ∧ Below w.heap.size w w' := by
  have HR := Lib.hid (fun s wx => refuses_bad f s wx h2 h3)
  have HB := Lib.hid (below_a w (Obj.cells #[.int .u64 a, .int .u64 b] 22))
  clear h2 h3
  go_enter Tryz.func8, Tryz.ntmps8
  go_wp2_with fail
  refine (HR.out _ _).mono ?_
  rintro _ _ ⟨rfl, rfl⟩
  go_wp2_with fail
  refine bodyPost_ret (v := .tuple #[.int .u64 0, .int .u64 0, .int .i64 2]) (by simp [results, Tryz.results8, go_sem]) rfl ?_
  exact ⟨rfl, HB.out⟩


end Go.Proofs.YtlibhfojfonfjaaGreatDoor
