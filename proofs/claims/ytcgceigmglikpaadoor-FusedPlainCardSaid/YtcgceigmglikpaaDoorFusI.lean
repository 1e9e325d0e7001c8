/- The walk of vernierlaw09.rank. -/
import Derived.Test.YtcgceigmglikpaaDoorFusH
namespace Go.Proofs.YtcgceigmglikpaaDoor
set_option linter.unusedVariables false
open Go.RowKit

/-- the place of a float in the order of numbers -/
def rankS (F : Fm) (a : Nat) : Int := sI (F.neg a) (F.abs a)

theorem wrap_i64_of (x : Int) (h : -9223372036854775808 ≤ x ∧ x ≤ 9223372036854775807) : IntKind.i64.wrap x = x := IntWalk.i64_in _ h

theorem rank_hi {F : Fm} {a T : Nat} (hT : 2 ^ (F.w - 1) = T) (hw : 2 ^ F.w = T * 2) (ha : a < 2 ^ F.w) (h : T ≤ a) : rankS F a = -((a : Int) - T) := by
  unfold rankS sI Fm.neg Fm.abs
  rw [hT, if_pos (by simpa using h), Nat.mod_eq_sub_mod h, Nat.mod_eq_of_lt (by omega)]
  omega

theorem rank_lo {F : Fm} {a T : Nat} (hT : 2 ^ (F.w - 1) = T) (h : ¬ T ≤ a) : rankS F a = a := by
  unfold rankS sI Fm.neg Fm.abs
  rw [hT, if_neg (by simpa using h), Nat.mod_eq_of_lt (by omega)]

set_option maxRecDepth 100000 in
set_option maxHeartbeats 4000000 in
theorem rank_ok (n a : Nat) (w : World) (hn : n < 4) (ha : a < 2 ^ (fm n).w) : Calls Tryd.prog 42 #[.int .i64 n, .int .u64 a] w fun e w' => e = .returned (.int .i64 (rankS (fm n) a)) ∧ w = w' := by
  have hp := fun wx => rparams_ok n wx hn
  obtain ⟨r, hr⟩ : ∃ r, r = rankS (fm n) a := ⟨_, rfl⟩
  rw [← hr]
  have h4 : n = 0 ∨ n = 1 ∨ n = 2 ∨ n = 3 := by omega
  rcases h4 with rfl | rfl | rfl | rfl
  · have Hp := Lib.hid hp
    have ha' : a < 65536 := ha
    by_cases h : 32768 ≤ a
    · have e : r = -((a : Int) - 32768) := by rw [hr]; exact rank_hi (T := 32768) (by decide) (by decide) ha h
      have He := Lib.hid e
      have s1 : IntKind.u64.wrap ((a : Int) - 32768) = ((a - 32768 : Nat) : Int) := by
        rw [show (a : Int) - 32768 = ((a - 32768 : Nat) : Int) by omega, wrap_u64_mod]
        exact congrArg Int.ofNat (Nat.mod_eq_of_lt (by omega))
      have s2 : IntKind.i64.wrap ((a - 32768 : Nat) : Int) = ((a - 32768 : Nat) : Int) := wrap_i64_of _ (by omega)
      have s3 : IntKind.i64.wrap (-((a - 32768 : Nat) : Int)) = -((a - 32768 : Nat) : Int) := wrap_i64_of _ (by omega)
      obtain ⟨y, hy⟩ : ∃ y, y = a - 32768 := ⟨_, rfl⟩
      rw [← hy] at s1 s2 s3
      have Hy := Lib.hid (show (a : Int) - 32768 = (y : Int) by omega)
      have t1 : decide ((32768 : Int) ≤ (a : Int)) = true := by rw [decide_eq_true_eq]; omega
      clear e hr hp hy ha ha' h
      go_enter Tryd.func42, Tryd.ntmps42
      go_wp2_with fail
      refine (Hp.out w).mono ?_
      rintro _ _ ⟨rfl, rfl⟩
      rw [show (fm 0).w = 16 from rfl]
      go_wp2_with fail
      go_ret
      exact ⟨by rw [He.out, Hy.out]; rfl, rfl⟩
    · have e : r = (a : Int) := by rw [hr]; exact rank_lo (T := 32768) (by decide) h
      have He := Lib.hid e
      have s2 : IntKind.i64.wrap (a : Int) = (a : Int) := wrap_i64_of _ (by omega)
      have t1 : decide ((32768 : Int) ≤ (a : Int)) = false := by rw [decide_eq_false_iff_not]; omega
      clear e hr hp ha ha' h
      go_enter Tryd.func42, Tryd.ntmps42
      go_wp2_with fail
      refine (Hp.out w).mono ?_
      rintro _ _ ⟨rfl, rfl⟩
      rw [show (fm 0).w = 16 from rfl]
      go_wp2_with fail
      go_ret
      exact ⟨by rw [He.out]; rfl, rfl⟩
  · have Hp := Lib.hid hp
    have ha' : a < 65536 := ha
    by_cases h : 32768 ≤ a
    · have e : r = -((a : Int) - 32768) := by rw [hr]; exact rank_hi (T := 32768) (by decide) (by decide) ha h
      have He := Lib.hid e
      have s1 : IntKind.u64.wrap ((a : Int) - 32768) = ((a - 32768 : Nat) : Int) := by
        rw [show (a : Int) - 32768 = ((a - 32768 : Nat) : Int) by omega, wrap_u64_mod]
        exact congrArg Int.ofNat (Nat.mod_eq_of_lt (by omega))
      have s2 : IntKind.i64.wrap ((a - 32768 : Nat) : Int) = ((a - 32768 : Nat) : Int) := wrap_i64_of _ (by omega)
      have s3 : IntKind.i64.wrap (-((a - 32768 : Nat) : Int)) = -((a - 32768 : Nat) : Int) := wrap_i64_of _ (by omega)
      obtain ⟨y, hy⟩ : ∃ y, y = a - 32768 := ⟨_, rfl⟩
      rw [← hy] at s1 s2 s3
      have Hy := Lib.hid (show (a : Int) - 32768 = (y : Int) by omega)
      have t1 : decide ((32768 : Int) ≤ (a : Int)) = true := by rw [decide_eq_true_eq]; omega
      clear e hr hp hy ha ha' h
      go_enter Tryd.func42, Tryd.ntmps42
      go_wp2_with fail
      refine (Hp.out w).mono ?_
      rintro _ _ ⟨rfl, rfl⟩
      rw [show (fm 1).w = 16 from rfl]
      go_wp2_with fail
      go_ret
      exact ⟨by rw [He.out, Hy.out]; rfl, rfl⟩
    · have e : r = (a : Int) := by rw [hr]; exact rank_lo (T := 32768) (by decide) h
      have He := Lib.hid e
      have s2 : IntKind.i64.wrap (a : Int) = (a : Int) := wrap_i64_of _ (by omega)
      have t1 : decide ((32768 : Int) ≤ (a : Int)) = false := by rw [decide_eq_false_iff_not]; omega
      clear e hr hp ha ha' h
      go_enter Tryd.func42, Tryd.ntmps42
      go_wp2_with fail
      refine (Hp.out w).mono ?_
      rintro _ _ ⟨rfl, rfl⟩
      rw [show (fm 1).w = 16 from rfl]
      go_wp2_with fail
      go_ret
      exact ⟨by rw [He.out]; rfl, rfl⟩
  · have Hp := Lib.hid hp
    have ha' : a < 4294967296 := ha
    by_cases h : 2147483648 ≤ a
    · have e : r = -((a : Int) - 2147483648) := by rw [hr]; exact rank_hi (T := 2147483648) (by decide) (by decide) ha h
      have He := Lib.hid e
      have s1 : IntKind.u64.wrap ((a : Int) - 2147483648) = ((a - 2147483648 : Nat) : Int) := by
        rw [show (a : Int) - 2147483648 = ((a - 2147483648 : Nat) : Int) by omega, wrap_u64_mod]
        exact congrArg Int.ofNat (Nat.mod_eq_of_lt (by omega))
      have s2 : IntKind.i64.wrap ((a - 2147483648 : Nat) : Int) = ((a - 2147483648 : Nat) : Int) := wrap_i64_of _ (by omega)
      have s3 : IntKind.i64.wrap (-((a - 2147483648 : Nat) : Int)) = -((a - 2147483648 : Nat) : Int) := wrap_i64_of _ (by omega)
      obtain ⟨y, hy⟩ : ∃ y, y = a - 2147483648 := ⟨_, rfl⟩
      rw [← hy] at s1 s2 s3
      have Hy := Lib.hid (show (a : Int) - 2147483648 = (y : Int) by omega)
      have t1 : decide ((2147483648 : Int) ≤ (a : Int)) = true := by rw [decide_eq_true_eq]; omega
      clear e hr hp hy ha ha' h
      go_enter Tryd.func42, Tryd.ntmps42
      go_wp2_with fail
      refine (Hp.out w).mono ?_
      rintro _ _ ⟨rfl, rfl⟩
      rw [show (fm 2).w = 32 from rfl]
      go_wp2_with fail
      go_ret
      exact ⟨by rw [He.out, Hy.out]; rfl, rfl⟩
    · have e : r = (a : Int) := by rw [hr]; exact rank_lo (T := 2147483648) (by decide) h
      have He := Lib.hid e
      have s2 : IntKind.i64.wrap (a : Int) = (a : Int) := wrap_i64_of _ (by omega)
      have t1 : decide ((2147483648 : Int) ≤ (a : Int)) = false := by rw [decide_eq_false_iff_not]; omega
      clear e hr hp ha ha' h
      go_enter Tryd.func42, Tryd.ntmps42
      go_wp2_with fail
      refine (Hp.out w).mono ?_
      rintro _ _ ⟨rfl, rfl⟩
      rw [show (fm 2).w = 32 from rfl]
      go_wp2_with fail
      go_ret
      exact ⟨by rw [He.out]; rfl, rfl⟩
  · have Hp := Lib.hid hp
    have ha' : a < 18446744073709551616 := ha
    by_cases h : 9223372036854775808 ≤ a
    · have e : r = -((a : Int) - 9223372036854775808) := by rw [hr]; exact rank_hi (T := 9223372036854775808) (by decide) (by decide) ha h
      have He := Lib.hid e
      have s1 : IntKind.u64.wrap ((a : Int) - 9223372036854775808) = ((a - 9223372036854775808 : Nat) : Int) := by
        rw [show (a : Int) - 9223372036854775808 = ((a - 9223372036854775808 : Nat) : Int) by omega, wrap_u64_mod]
        exact congrArg Int.ofNat (Nat.mod_eq_of_lt (by omega))
      have s2 : IntKind.i64.wrap ((a - 9223372036854775808 : Nat) : Int) = ((a - 9223372036854775808 : Nat) : Int) := wrap_i64_of _ (by omega)
      have s3 : IntKind.i64.wrap (-((a - 9223372036854775808 : Nat) : Int)) = -((a - 9223372036854775808 : Nat) : Int) := wrap_i64_of _ (by omega)
      obtain ⟨y, hy⟩ : ∃ y, y = a - 9223372036854775808 := ⟨_, rfl⟩
      rw [← hy] at s1 s2 s3
      have Hy := Lib.hid (show (a : Int) - 9223372036854775808 = (y : Int) by omega)
      have t1 : decide ((9223372036854775808 : Int) ≤ (a : Int)) = true := by rw [decide_eq_true_eq]; omega
      clear e hr hp hy ha ha' h
      go_enter Tryd.func42, Tryd.ntmps42
      go_wp2_with fail
      refine (Hp.out w).mono ?_
      rintro _ _ ⟨rfl, rfl⟩
      rw [show (fm 3).w = 64 from rfl]
      go_wp2_with fail
      go_ret
      exact ⟨by rw [He.out, Hy.out]; rfl, rfl⟩
    · have e : r = (a : Int) := by rw [hr]; exact rank_lo (T := 9223372036854775808) (by decide) h
      have He := Lib.hid e
      have s2 : IntKind.i64.wrap (a : Int) = (a : Int) := wrap_i64_of _ (by omega)
      have t1 : decide ((9223372036854775808 : Int) ≤ (a : Int)) = false := by rw [decide_eq_false_iff_not]; omega
      clear e hr hp ha ha' h
      go_enter Tryd.func42, Tryd.ntmps42
      go_wp2_with fail
      refine (Hp.out w).mono ?_
      rintro _ _ ⟨rfl, rfl⟩
      rw [show (fm 3).w = 64 from rfl]
      go_wp2_with fail
      go_ret
      exact ⟨by rw [He.out]; rfl, rfl⟩

end Go.Proofs.YtcgceigmglikpaaDoor
