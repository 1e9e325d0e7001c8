/- Walks of the document's answer, vernierref06: Known, Fits, Quiet, Infinity, Beyond. -/
import Derived.Outline
import Derived.Test.YtebmogdojpcmfaaRefF
namespace Go.Proofs.Ytebmogdojpcmfaa
set_option linter.unusedVariables false
set_option linter.unusedSimpArgs false
open Go.RowKit

theorem iz_shr' (x n : Nat) : (x : Int) / 2 ^ n = ((x / 2 ^ n : Nat) : Int) := by simp

theorem rparams_bad (f : Int) (w : World) (hf : f < 0 ∨ 4 ≤ f) : Calls Try.prog 47 #[.int .i64 f] w fun e w' => e = .returned (.tuple #[.int .i64 0, .int .i64 0, .int .i64 0]) ∧ w = w' := by
  have t0 : (f == 0) = false := by rw [beq_eq_false_iff_ne]; omega
  have t1 : (f == 1) = false := by rw [beq_eq_false_iff_ne]; omega
  have t2 : (f == 2) = false := by rw [beq_eq_false_iff_ne]; omega
  have t3 : (f == 3) = false := by rw [beq_eq_false_iff_ne]; omega
  clear hf
  go_enter Try.func47, Try.ntmps47
  go_wp2
  refine bodyPost_ret (v := .tuple #[.int .i64 0, .int .i64 0, .int .i64 0]) (by simp [results, Try.results47, go_sem]) rfl ⟨rfl, rfl⟩

theorem rknown_any (f m : Int) (w : World) : Calls Try.prog 56 #[.int .i64 f, .int .i64 m] w fun e w' => e = .returned (.int .i64 (rfS f m)) ∧ w = w' := by
  by_cases hf : f < 0 ∨ 4 ≤ f
  · have e : rfS f m = 2 := by unfold rfS; rw [if_pos hf]
    have H := Lib.hid (rparams_bad f w hf)
    rw [e]
    clear e hf
    go_enter Try.func56, Try.ntmps56
    go_wp2_with fail
    refine H.out.mono ?_
    rintro _ _ ⟨rfl, rfl⟩
    go_wp2
    go_ret
    exact ⟨rfl, rfl⟩
  · obtain ⟨n, rfl⟩ := Int.eq_ofNat_of_zero_le (show 0 ≤ f by omega)
    have H := Lib.hid (rparams_ok n w (by omega))
    have ok := fm_ok n
    have hw : (((fm n).w : Nat) : Int) ≠ 0 := by have := ok.pw; omega
    have hz : ((((fm n).w : Nat) : Int) == 0) = false := by rw [beq_eq_false_iff_ne]; exact hw
    have hz2 : ((fm n).w == 0) = false := by rw [beq_eq_false_iff_ne]; omega
    by_cases hm : m < 0 ∨ 5 < m
    · have e : rfS n m = 3 := by unfold rfS; rw [if_neg hf, if_pos hm]
      rw [e]
      generalize fm n = F at *
      clear e hf ok hw
      by_cases h0 : m < 0
      · clear hm
        go_enter Try.func56, Try.ntmps56
        go_wp2_with fail
        refine H.out.mono ?_
        rintro _ _ ⟨rfl, rfl⟩
        go_wp2
        go_ret
        exact ⟨rfl, rfl⟩
      · have t1 : decide (m < 0) = false := by simpa using h0
        have t2 : 5 < m := by omega
        clear hm h0
        go_enter Try.func56, Try.ntmps56
        go_wp2_with fail
        refine H.out.mono ?_
        rintro _ _ ⟨rfl, rfl⟩
        go_wp2
        go_ret
        exact ⟨rfl, rfl⟩
    · have e : rfS n m = 0 := by unfold rfS; rw [if_neg hf, if_neg hm]
      rw [e]
      have t1 : decide (m < 0) = false := decide_eq_false (by omega)
      have t2 : decide (5 < m) = false := decide_eq_false (by omega)
      generalize fm n = F at *
      clear e hf ok hw hm
      go_enter Try.func56, Try.ntmps56
      go_wp2_with fail
      refine H.out.mono ?_
      rintro _ _ ⟨rfl, rfl⟩
      go_wp2
      go_ret
      exact ⟨rfl, rfl⟩

theorem rfits_ok (n a : Nat) (w : World) (hn : n < 4) (ha : a < 18446744073709551616) : Calls Try.prog 41 #[.int .i64 n, .int .u64 a] w fun e w' => e = .returned (.bool (decide (a < 2 ^ (fm n).w))) ∧ w = w' := by
  have H := Lib.hid (rparams_ok n w hn)
  have ok := fm_ok n
  obtain ⟨R, hR⟩ : ∃ R, R = decide (a < 2 ^ (fm n).w) := ⟨_, rfl⟩
  rw [← hR]
  generalize fm n = F at *
  obtain ⟨k, hk⟩ : ∃ k, k = F.w := ⟨_, rfl⟩
  have hk64 : k ≤ 64 := by have := ok.w64; omega
  rw [← hk] at hR
  have H' := H.out
  rw [← hk] at H'
  have H := Lib.hid H'
  clear H'
  by_cases h64 : k = 64
  · have e : R = true := by rw [hR, h64]; exact decide_eq_true ha
    subst h64 e
    clear hR hk64 ok hk
    go_enter Try.func41, Try.ntmps41
    go_wp2_with fail
    refine H.out.mono ?_
    rintro _ _ ⟨rfl, rfl⟩
    go_wp2
    go_ret
    exact ⟨rfl, rfl⟩
  · have hz : ((k : Int) == 64) = false := by rw [beq_eq_false_iff_ne]; omega
    have hz2 : (k == 64) = false := by rw [beq_eq_false_iff_ne]; omega
    have hlt : k < 64 := by omega
    have e : (((a / 2 ^ k : Nat) : Int) == 0) = R := by
      rw [hR]
      rcases Nat.lt_or_ge a (2 ^ k) with h | h
      · rw [Nat.div_eq_of_lt h, decide_eq_true h]; rfl
      · have := Nat.div_pos h (pow_pos2 k)
        rw [decide_eq_false (by omega), beq_eq_false_iff_ne]; omega
    have hw1 : IntKind.u64.wrap (k : Int) = (k : Int) := by rw [IntKind.wrap_u64]; omega
    have hd : (a : Int) / 2 ^ k = ((a / 2 ^ k : Nat) : Int) := iz_shr' a k
    obtain ⟨z, hz3⟩ : ∃ z, z = a / 2 ^ k := ⟨_, rfl⟩
    rw [← hz3] at e hd
    clear hR hk64 ok hk h64 hz3
    go_enter Try.func41, Try.ntmps41
    go_wp2_with fail
    refine H.out.mono ?_
    rintro _ _ ⟨rfl, rfl⟩
    go_wp2
    go_ret
    exact ⟨rfl, rfl⟩

theorem rquiet_ok (n : Nat) (w : World) (hn : n < 4) : Calls Try.prog 51 #[.int .i64 n] w fun e w' => e = .returned (.int .u64 ((fm n).nan : Nat)) ∧ w = w' := by
  have hp := rparams_ok n w hn
  have h4 : n = 0 ∨ n = 1 ∨ n = 2 ∨ n = 3 := by omega
  have Hp := Lib.hid hp
  clear hp
  rcases h4 with rfl | rfl | rfl | rfl
  all_goals
    go_enter Try.func51, Try.ntmps51
    go_wp2_with fail
    refine Hp.out.mono ?_
    rintro _ _ ⟨rfl, rfl⟩
  · rw [show (fm 0).w = 16 from rfl, show (fm 0).p = 11 from rfl]; go_wp2_with fail; go_ret; exact ⟨rfl, rfl⟩
  · rw [show (fm 1).w = 16 from rfl, show (fm 1).p = 8 from rfl]; go_wp2_with fail; go_ret; exact ⟨rfl, rfl⟩
  · rw [show (fm 2).w = 32 from rfl, show (fm 2).p = 24 from rfl]; go_wp2_with fail; go_ret; exact ⟨rfl, rfl⟩
  · rw [show (fm 3).w = 64 from rfl, show (fm 3).p = 53 from rfl]; go_wp2_with fail; go_ret; exact ⟨rfl, rfl⟩

theorem rinf_ok (n : Nat) (s : Bool) (w : World) (hn : n < 4) : Calls Try.prog 52 #[.int .i64 n, .bool s] w fun e w' => e = .returned (.int .u64 (((fm n).inf + (fm n).sg s : Nat) : Int)) ∧ w = w' := by
  have Hp := Lib.hid (rparams_ok n w hn)
  have Hs := Lib.hid (rsign_ok n s w hn)
  have h4 : n = 0 ∨ n = 1 ∨ n = 2 ∨ n = 3 := by omega
  have ok := fm_ok n
  obtain ⟨R, hR⟩ : ∃ R, R = (fm n).inf + (fm n).sg s := ⟨_, rfl⟩
  have hRl : R < 18446744073709551616 := by
    have h1 := inf_lt ok
    have h2 := sg_lt ok s
    have h3 := w_two ok
    have h5 : (2 : Nat) ^ (fm n).w ≤ 2 ^ 64 := Nat.pow_le_pow_right (by decide) ok.w64
    omega
  rw [← hR]
  obtain ⟨z, hz⟩ : ∃ z, z = (fm n).sg s := ⟨_, rfl⟩
  rw [← hz] at hR Hs
  clear hz ok
  rcases h4 with rfl | rfl | rfl | rfl
  · have hw : IntKind.u64.wrap (31744 + (z : Int)) = (R : Int) := by rw [show (fm 0).inf = 31744 from rfl] at hR; rw [IntKind.wrap_u64]; omega
    clear hR hRl
    go_enter Try.func52, Try.ntmps52
    go_wp2_with fail
    refine Hp.out.mono ?_
    rintro _ _ ⟨rfl, rfl⟩
    rw [show (fm 0).w = 16 from rfl, show (fm 0).p = 11 from rfl]
    go_wp2_with fail
    refine Hs.out.mono ?_
    rintro _ _ ⟨rfl, rfl⟩
    go_wp2
    go_ret
    exact ⟨rfl, rfl⟩
  · have hw : IntKind.u64.wrap (32640 + (z : Int)) = (R : Int) := by rw [show (fm 1).inf = 32640 from rfl] at hR; rw [IntKind.wrap_u64]; omega
    clear hR hRl
    go_enter Try.func52, Try.ntmps52
    go_wp2_with fail
    refine Hp.out.mono ?_
    rintro _ _ ⟨rfl, rfl⟩
    rw [show (fm 1).w = 16 from rfl, show (fm 1).p = 8 from rfl]
    go_wp2_with fail
    refine Hs.out.mono ?_
    rintro _ _ ⟨rfl, rfl⟩
    go_wp2
    go_ret
    exact ⟨rfl, rfl⟩
  · have hw : IntKind.u64.wrap (2139095040 + (z : Int)) = (R : Int) := by rw [show (fm 2).inf = 2139095040 from rfl] at hR; rw [IntKind.wrap_u64]; omega
    clear hR hRl
    go_enter Try.func52, Try.ntmps52
    go_wp2_with fail
    refine Hp.out.mono ?_
    rintro _ _ ⟨rfl, rfl⟩
    rw [show (fm 2).w = 32 from rfl, show (fm 2).p = 24 from rfl]
    go_wp2_with fail
    refine Hs.out.mono ?_
    rintro _ _ ⟨rfl, rfl⟩
    go_wp2
    go_ret
    exact ⟨rfl, rfl⟩
  · have hw : IntKind.u64.wrap (9218868437227405312 + (z : Int)) = (R : Int) := by rw [show (fm 3).inf = 9218868437227405312 from rfl] at hR; rw [IntKind.wrap_u64]; omega
    clear hR hRl
    go_enter Try.func52, Try.ntmps52
    go_wp2_with fail
    refine Hp.out.mono ?_
    rintro _ _ ⟨rfl, rfl⟩
    rw [show (fm 3).w = 64 from rfl, show (fm 3).p = 53 from rfl]
    go_wp2_with fail
    refine Hs.out.mono ?_
    rintro _ _ ⟨rfl, rfl⟩
    go_wp2
    go_ret
    exact ⟨rfl, rfl⟩

theorem rbeyond_ok (n m : Nat) (s : Bool) (w : World) (hn : n < 4) (hm : m ≤ 5) : Calls Try.prog 69 #[.int .i64 n, .int .i64 m, .bool s] w fun e w' => e = .returned (.int .u64 ((beyondS (fm n) m s : Nat) : Int)) ∧ w = w' := by
  have Hi := Lib.hid (rinf_ok n s w hn)
  have ok := fm_ok n
  obtain ⟨R, hR⟩ : ∃ R, R = (fm n).inf + (fm n).sg s := ⟨_, rfl⟩
  have hRl : 0 < R ∧ R < 18446744073709551616 := by
    have h1 := inf_lt ok
    have h2 := sg_lt ok s
    have h3 := w_two ok
    have h4 := (inf_eq (fm n) ok).1
    have h6 := pow_pos2 (fm n).p
    have h5 : (2 : Nat) ^ (fm n).w ≤ 2 ^ 64 := Nat.pow_le_pow_right (by decide) ok.w64
    refine ⟨?_, ?_⟩ <;> omega
  have hpos : 0 < (fm n).inf := by
    have h4 := (inf_eq (fm n) ok).1
    have h6 := pow_pos2 (fm n).p
    omega
  rw [← hR] at Hi
  obtain ⟨T, hT⟩ : ∃ T, T = beyondS (fm n) m s := ⟨_, rfl⟩
  rw [← hT]
  unfold beyondS at hT
  have hm6 : m = 0 ∨ m = 1 ∨ m = 2 ∨ m = 3 ∨ m = 4 ∨ m = 5 := by omega
  have hi : T = if infB m s then R else R - 1 := by
    rw [hT, hR]; split
    · rfl
    · omega
  have hw : IntKind.u64.wrap ((R : Int) - 1) = ((R - 1 : Nat) : Int) := by rw [IntKind.wrap_u64]; omega
  obtain ⟨R1, hR1⟩ : ∃ R1, R1 = R - 1 := ⟨_, rfl⟩
  rw [← hR1] at hi hw
  clear hR hRl hpos hT hR1 ok
  rcases hm6 with rfl | rfl | rfl | rfl | rfl | rfl <;> cases s
  all_goals
    have e := Lib.hid hi
    clear hi
    go_enter Try.func69, Try.ntmps69
    go_wp2_with fail
    refine Hi.out.mono ?_
    rintro _ _ ⟨rfl, rfl⟩
    go_wp2
    go_ret
    exact ⟨by rw [e.out]; rfl, rfl⟩

end Go.Proofs.Ytebmogdojpcmfaa
