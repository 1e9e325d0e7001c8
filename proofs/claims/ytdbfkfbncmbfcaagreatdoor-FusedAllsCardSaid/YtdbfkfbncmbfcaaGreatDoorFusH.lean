/- The walks of vernierlaw09.fma, dot2, value. -/
import Derived.Test.YtdbfkfbncmbfcaaGreatDoorFusG
namespace Go.Proofs.YtdbfkfbncmbfcaaGreatDoor
set_option linter.unusedVariables false
open Go.RowKit



theorem Value_vf (f : Int) (a : Nat) (d : D) (z : Int) (ha : a < 18446744073709551616) (hd : d = valA f a) (hz : z = valE f a) (w : World) (hG : GlR w) (hT : Gl w) :
    Calls Tryz.prog 63 #[.int .i64 f, .int .u64 a] w fun e w' => ∃ A c, e = .returned (.tuple #[.agg #[.bool d.s, .slice A (nd 64 d.n) c, .int .i64 d.e], .int .i64 z]) ∧ (Rd 64 w' (.slice A (nd 64 d.n) c) d.n (nd 64 d.n) ∧ Fr w.heap.size w' (.slice A (nd 64 d.n) c)) ∧ Below w.heap.size w w' := by
  subst hd hz
  refine (Value_any f a w ha hG hT).mono ?_
  rintro e w' ⟨x, rfl, ⟨A, c, rfl, _, _, h, h'⟩, hb⟩
  exact ⟨A, c, rfl, ⟨h, h'⟩, hb⟩

end Go.Proofs.YtdbfkfbncmbfcaaGreatDoor
