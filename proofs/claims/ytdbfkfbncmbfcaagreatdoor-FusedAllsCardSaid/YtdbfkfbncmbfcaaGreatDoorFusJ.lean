/- The walks of vernierref06.sign, Nought, Opposite and vernierlaw09.unity. -/
import Derived.Test.YtdbfkfbncmbfcaaGreatDoorFusI
namespace Go.Proofs.YtdbfkfbncmbfcaaGreatDoor
set_option linter.unusedVariables false
open Go.RowKit

theorem rsign_ok (n : Nat) (s : Bool) (w : World) (hn : n < 4) : Calls Tryz.prog 104 #[.int .i64 n, .bool s] w fun e w' => e = .returned (.int .u64 ((fm n).sg s : Nat)) ∧ w = w' := by
  have hp := fun wx => rparams_ok n wx hn
  have h4 : n = 0 ∨ n = 1 ∨ n = 2 ∨ n = 3 := by omega
  have Hp := Lib.hid hp
  clear hp
  cases s
  · rcases h4 with rfl | rfl | rfl | rfl
    all_goals
      go_enter Tryz.func104, Tryz.ntmps104
      go_wp2_with fail
      refine (Hp.out w).mono ?_
      rintro _ _ ⟨rfl, rfl⟩
      go_wp2_with fail
      go_ret
      exact ⟨rfl, rfl⟩
  · rcases h4 with rfl | rfl | rfl | rfl
    all_goals
      go_enter Tryz.func104, Tryz.ntmps104
      go_wp2_with fail
      refine (Hp.out w).mono ?_
      rintro _ _ ⟨rfl, rfl⟩
    · rw [show (fm 0).w = 16 from rfl]; go_wp2_with fail; go_ret; exact ⟨rfl, rfl⟩
    · rw [show (fm 1).w = 16 from rfl]; go_wp2_with fail; go_ret; exact ⟨rfl, rfl⟩
    · rw [show (fm 2).w = 32 from rfl]; go_wp2_with fail; go_ret; exact ⟨rfl, rfl⟩
    · rw [show (fm 3).w = 64 from rfl]; go_wp2_with fail; go_ret; exact ⟨rfl, rfl⟩

theorem rnought_ok (n : Nat) (s : Bool) (w : World) (hn : n < 4) : Calls Tryz.prog 105 #[.int .i64 n, .bool s] w fun e w' => e = .returned (.int .u64 ((fm n).sg s : Nat)) ∧ w = w' := by
  have H := Lib.hid (rsign_ok n s w hn)
  generalize (fm n).sg s = z at *
  go_enter Tryz.func105, Tryz.ntmps105
  go_wp2_with fail
  refine H.out.mono ?_
  rintro _ _ ⟨rfl, rfl⟩
  go_wp2
  go_ret
  exact ⟨rfl, rfl⟩

end Go.Proofs.YtdbfkfbncmbfcaaGreatDoor
