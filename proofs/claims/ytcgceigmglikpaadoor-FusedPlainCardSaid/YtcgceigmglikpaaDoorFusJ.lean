/- The walks of vernierref06.sign, Nought, Opposite and vernierlaw09.unity. -/
import Derived.Test.YtcgceigmglikpaaDoorFusI
namespace Go.Proofs.YtcgceigmglikpaaDoor
set_option linter.unusedVariables false
open Go.RowKit

theorem rsign_ok (n : Nat) (s : Bool) (w : World) (hn : n < 4) : Calls Tryd.prog 97 #[.int .i64 n, .bool s] w fun e w' => e = .returned (.int .u64 ((fm n).sg s : Nat)) ∧ w = w' := by
  have hp := fun wx => rparams_ok n wx hn
  have h4 : n = 0 ∨ n = 1 ∨ n = 2 ∨ n = 3 := by omega
  have Hp := Lib.hid hp
  clear hp
  cases s
  · rcases h4 with rfl | rfl | rfl | rfl
    all_goals
      go_enter Tryd.func97, Tryd.ntmps97
      go_wp2_with fail
      refine (Hp.out w).mono ?_
      rintro _ _ ⟨rfl, rfl⟩
      go_wp2_with fail
      go_ret
      exact ⟨rfl, rfl⟩
  · rcases h4 with rfl | rfl | rfl | rfl
    all_goals
      go_enter Tryd.func97, Tryd.ntmps97
      go_wp2_with fail
      refine (Hp.out w).mono ?_
      rintro _ _ ⟨rfl, rfl⟩
    · rw [show (fm 0).w = 16 from rfl]; go_wp2_with fail; go_ret; exact ⟨rfl, rfl⟩
    · rw [show (fm 1).w = 16 from rfl]; go_wp2_with fail; go_ret; exact ⟨rfl, rfl⟩
    · rw [show (fm 2).w = 32 from rfl]; go_wp2_with fail; go_ret; exact ⟨rfl, rfl⟩
    · rw [show (fm 3).w = 64 from rfl]; go_wp2_with fail; go_ret; exact ⟨rfl, rfl⟩

theorem rnought_ok (n : Nat) (s : Bool) (w : World) (hn : n < 4) : Calls Tryd.prog 51 #[.int .i64 n, .bool s] w fun e w' => e = .returned (.int .u64 ((fm n).sg s : Nat)) ∧ w = w' := by
  have H := Lib.hid (rsign_ok n s w hn)
  generalize (fm n).sg s = z at *
  go_enter Tryd.func51, Tryd.ntmps51
  go_wp2_with fail
  refine H.out.mono ?_
  rintro _ _ ⟨rfl, rfl⟩
  go_wp2
  go_ret
  exact ⟨rfl, rfl⟩

theorem ropposite_ok (n a : Nat) (w : World) (hn : n < 4) (ha : a < 2 ^ (fm n).w) : Calls Tryd.prog 46 #[.int .i64 n, .int .u64 a] w fun e w' => e = .returned (.int .u64 ((fm n).flip a : Nat)) ∧ w = w' := by
  have ok := fm_ok n
  obtain ⟨h1, h2, h3⟩ := flip_u64 (fm n) ok ha
  have hx := bits_xor_u64_nat a (2 ^ ((fm n).w - 1)) h2 h3
  rw [xor_flip (fm n) ok ha] at hx
  have hs := rsign_ok n true w hn
  rw [show (fm n).sg true = 2 ^ ((fm n).w - 1) from rfl] at hs
  have H := Lib.hid hs
  generalize (fm n).flip a = z at *
  generalize 2 ^ ((fm n).w - 1) = y at *
  clear hs ok h1 h2 h3 ha
  go_enter Tryd.func46, Tryd.ntmps46
  go_wp2_with fail
  refine H.out.mono ?_
  rintro _ _ ⟨rfl, rfl⟩
  go_wp2
  go_ret
  exact ⟨rfl, rfl⟩

theorem unity_ok (n : Nat) (w : World) (hn : n < 4) : Calls Tryd.prog 50 #[.int .i64 n] w fun e w' => e = .returned (.int .u64 ((fm n).one : Nat)) ∧ w = w' := by
  have hp := fun wx => rparams_ok n wx hn
  have h4 : n = 0 ∨ n = 1 ∨ n = 2 ∨ n = 3 := by omega
  have Hp := Lib.hid hp
  clear hp
  rcases h4 with rfl | rfl | rfl | rfl
  all_goals
    go_enter Tryd.func50, Tryd.ntmps50
    go_wp2_with fail
    refine (Hp.out w).mono ?_
    rintro _ _ ⟨rfl, rfl⟩
  · rw [show (fm 0).w = 16 from rfl, show (fm 0).p = 11 from rfl, show (fm 0).emin = -14 from rfl]; go_wp2_with fail; go_ret; exact ⟨rfl, rfl⟩
  · rw [show (fm 1).w = 16 from rfl, show (fm 1).p = 8 from rfl, show (fm 1).emin = -126 from rfl]; go_wp2_with fail; go_ret; exact ⟨rfl, rfl⟩
  · rw [show (fm 2).w = 32 from rfl, show (fm 2).p = 24 from rfl, show (fm 2).emin = -126 from rfl]; go_wp2_with fail; go_ret; exact ⟨rfl, rfl⟩
  · rw [show (fm 3).w = 64 from rfl, show (fm 3).p = 53 from rfl, show (fm 3).emin = -1022 from rfl]; go_wp2_with fail; go_ret; exact ⟨rfl, rfl⟩

end Go.Proofs.YtcgceigmglikpaaDoor
