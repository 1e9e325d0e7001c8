/- The walk of vernierlaw09.rank. -/
import Derived.Test.YtdbfkfbncmbfcaaGreatDoorFusH
namespace Go.Proofs.YtdbfkfbncmbfcaaGreatDoor
set_option linter.unusedVariables false
open Go.RowKit

/-- the place of a float in the order of numbers -/
def rankS (F : Fm) (a : Nat) : Int := sI (F.neg a) (F.abs a)

theorem wrap_i64_of (x : Int) (h : -9223372036854775808 ≤ x ∧ x ≤ 9223372036854775807) : IntKind.i64.wrap x = x := IntWalk.i64_in _ h

theorem rank_hi {F : Fm} {a T : Nat} (hT : 2 ^ (F.w - 1) = T) (hw : 2 ^ F.w = T * 2) (ha : a < 2 ^ F.w) (h : T ≤ a) : rankS F a = -((a : Int) - T) := by
  unfold rankS sI Fm.neg Fm.abs
  rw [hT, if_pos (by simpa using h), Nat.mod_eq_sub_mod h, Nat.mod_eq_of_lt (by omega)]
  omega

theorem rank_lo {F : Fm} {a T : Nat} (hT : 2 ^ (F.w - 1) = T) (h : ¬ T ≤ a) : rankS F a = a := by
  unfold rankS sI Fm.neg Fm.abs
  rw [hT, if_neg (by simpa using h), Nat.mod_eq_of_lt (by omega)]


end Go.Proofs.YtdbfkfbncmbfcaaGreatDoor
