/- Walks of layer 7: open, nan, inf, zero; layer 1: Mul. -/
import Derived.Test.YtcgceigmglikpaaDoorRouI
import Derived.Test.YtcgceigmglikpaaDoorMulL
namespace Go.Proofs.YtcgceigmglikpaaDoor
set_option linter.unusedVariables false
open Go.RowKit

section
variable {F : Fm}
theorem cls_nan (ok : F.Ok) (a : Nat) : F.isNan a = decide (clsF F a = 1 ∨ clsF F a = 0) := by
  rw [isNan_iff ok]
  unfold clsF
  by_cases h1 : F.fx a = 2 ^ (F.w - F.p) - 1
  · rw [if_pos h1]
    by_cases h2 : F.fy a = 0
    · rw [if_pos h2]; cases F.neg a <;> simp [h2]
    · rw [if_neg h2]; by_cases h3 : 2 ^ (F.p - 2) ≤ F.fy a <;> simp [h1, h2, h3]
  · rw [if_neg h1]
    by_cases h3 : F.fx a = 0
    · rw [if_pos h3]; by_cases h4 : F.fy a = 0 <;> cases F.neg a <;> simp [h1, h4]
    · rw [if_neg h3]; cases F.neg a <;> simp [h1]
theorem cls_sig (ok : F.Ok) (a : Nat) : F.isSig a = decide (clsF F a = 0) := by
  rw [isSig_iff ok, isNan_iff ok]
  unfold clsF
  by_cases h1 : F.fx a = 2 ^ (F.w - F.p) - 1
  · rw [if_pos h1]
    by_cases h2 : F.fy a = 0
    · rw [if_pos h2]; cases F.neg a <;> simp [h2]
    · rw [if_neg h2]; by_cases h3 : 2 ^ (F.p - 2) ≤ F.fy a <;> simp [h1, h2, h3]
  · rw [if_neg h1]
    by_cases h3 : F.fx a = 0
    · rw [if_pos h3]; by_cases h4 : F.fy a = 0 <;> cases F.neg a <;> simp [h1, h4]
    · rw [if_neg h3]; cases F.neg a <;> simp [h1]
theorem cls_inf (ok : F.Ok) (a : Nat) : F.isInf a = decide (clsF F a = 2 ∨ clsF F a = 9) := by
  rw [isInf_iff ok]
  unfold clsF
  by_cases h1 : F.fx a = 2 ^ (F.w - F.p) - 1
  · rw [if_pos h1]
    by_cases h2 : F.fy a = 0
    · rw [if_pos h2]; cases F.neg a <;> simp [h1, h2]
    · rw [if_neg h2]; by_cases h3 : 2 ^ (F.p - 2) ≤ F.fy a <;> simp [h2, h3]
  · rw [if_neg h1]
    by_cases h3 : F.fx a = 0
    · rw [if_pos h3]; by_cases h4 : F.fy a = 0 <;> cases F.neg a <;> simp [h1, h4]
    · rw [if_neg h3]; cases F.neg a <;> simp [h1]
theorem cls_zeroC (ok : F.Ok) (a : Nat) : F.isZero a = decide (clsF F a = 5 ∨ clsF F a = 6) := by
  rw [isZero_iff]
  have ho : 2 ^ (F.w - F.p) - 1 ≠ 0 := by
    have : 2 ^ 1 ≤ 2 ^ (F.w - F.p) := Nat.pow_le_pow_right (by decide) (by have := ok.pw; omega)
    omega
  unfold clsF
  by_cases h1 : F.fx a = 2 ^ (F.w - F.p) - 1
  · have h0 : F.fx a ≠ 0 := by omega
    rw [if_pos h1]
    by_cases h2 : F.fy a = 0
    · rw [if_pos h2]; cases F.neg a <;> simp [h0]
    · rw [if_neg h2]; by_cases h3 : 2 ^ (F.p - 2) ≤ F.fy a <;> simp [h2, h3]
  · rw [if_neg h1]
    by_cases h3 : F.fx a = 0
    · rw [if_pos h3]; by_cases h4 : F.fy a = 0 <;> cases F.neg a <;> simp [h3, h4]
    · rw [if_neg h3]; cases F.neg a <;> simp [h3]

theorem fin_bounds (ok : F.Ok) (a : Nat) : -1074 ≤ F.ex a ∧ F.ex a ≤ 1100 ∧ F.mag a < 2 ^ 53 := by
  obtain ⟨p8, p53, pw, w64, emx, emn, b16, b1023⟩ := id ok
  have hx := fx_lt ok a
  have hy := fy_lt (F := F) a
  have e : (2 : Int) ^ (F.w - F.p - 1) = ((2 ^ (F.w - F.p - 1) : Nat) : Int) := by simp
  rw [e] at emx
  have hpw := pow_split (F.w - F.p) (by omega)
  have hPp : (2 : Nat) ^ (F.p - 1) ≤ 2 ^ 52 := Nat.pow_le_pow_right (by decide) (by omega)
  unfold Fm.fx at hx
  unfold Fm.fy at hy
  unfold Fm.ex Fm.xp Fm.mag Fm.sig Fm.low
  by_cases h : F.abs a / 2 ^ (F.p - 1) = 0
  · rw [if_pos h, if_pos h]
    have h2 := Nat.div_add_mod (F.abs a) (2 ^ (F.p - 1))
    rw [h] at h2
    refine ⟨by omega, by omega, by omega⟩
  · rw [if_neg h, if_neg h]
    have := Nat.pos_of_ne_zero h
    refine ⟨by omega, by omega, by omega⟩
end

/-- an operand, as a value -/
def opA (F : Fm) (a : Nat) : Array Value := #[.int .i64 (clsF F a), .bool (F.neg a), .int .u64 (F.mag a), .int .i64 (F.ex a)]

theorem onan_any (c e : Int) (s : Bool) (n : Nat) (w : World) : Calls Tryd.prog 54 #[.agg #[.int .i64 c, .bool s, .int .u64 n, .int .i64 e]] w fun e' w' => e' = .returned (.bool (decide (c = 1 ∨ c = 0))) ∧ Below w.heap.size w w' := by
  obtain ⟨R, hR⟩ : ∃ R, R = decide (c = 1 ∨ c = 0) := ⟨_, rfl⟩
  rw [← hR]
  by_cases h1 : c = 1
  · have E : Hid (R = true) := by show _ = _; rw [hR, h1]; rfl
    have t1 : (c == 1) = true := by simp [h1]
    clear hR h1
    go_enter Tryd.func54, Tryd.ntmps54
    go_wp2
    go_ret
    exact ⟨by rw [E.out]; rfl, (Below.refl _ _).alloc (Nat.le_refl _) _⟩
  · have t1 : (c == 1) = false := by simp [h1]
    obtain ⟨b, hb⟩ : ∃ b, (c == 0) = b := ⟨_, rfl⟩
    have E : Hid (R = b) := by show _ = _; rw [hR, ← hb]; by_cases h2 : c = 0 <;> simp [h1, h2]
    clear hR h1
    go_enter Tryd.func54, Tryd.ntmps54
    go_wp2
    go_ret
    exact ⟨by rw [E.out]; rfl, (Below.refl _ _).alloc (Nat.le_refl _) _⟩

theorem oinf_any (c e : Int) (s : Bool) (n : Nat) (w : World) : Calls Tryd.prog 56 #[.agg #[.int .i64 c, .bool s, .int .u64 n, .int .i64 e]] w fun e' w' => e' = .returned (.bool (decide (c = 2 ∨ c = 9))) ∧ Below w.heap.size w w' := by
  obtain ⟨R, hR⟩ : ∃ R, R = decide (c = 2 ∨ c = 9) := ⟨_, rfl⟩
  rw [← hR]
  by_cases h1 : c = 2
  · have E : Hid (R = true) := by show _ = _; rw [hR, h1]; rfl
    have t1 : (c == 2) = true := by simp [h1]
    clear hR h1
    go_enter Tryd.func56, Tryd.ntmps56
    go_wp2
    go_ret
    exact ⟨by rw [E.out]; rfl, (Below.refl _ _).alloc (Nat.le_refl _) _⟩
  · have t1 : (c == 2) = false := by simp [h1]
    obtain ⟨b, hb⟩ : ∃ b, (c == 9) = b := ⟨_, rfl⟩
    have E : Hid (R = b) := by show _ = _; rw [hR, ← hb]; by_cases h2 : c = 9 <;> simp [h1, h2]
    clear hR h1
    go_enter Tryd.func56, Tryd.ntmps56
    go_wp2
    go_ret
    exact ⟨by rw [E.out]; rfl, (Below.refl _ _).alloc (Nat.le_refl _) _⟩

theorem ozero_any (c e : Int) (s : Bool) (n : Nat) (w : World) : Calls Tryd.prog 57 #[.agg #[.int .i64 c, .bool s, .int .u64 n, .int .i64 e]] w fun e' w' => e' = .returned (.bool (decide (c = 5 ∨ c = 6))) ∧ Below w.heap.size w w' := by
  obtain ⟨R, hR⟩ : ∃ R, R = decide (c = 5 ∨ c = 6) := ⟨_, rfl⟩
  rw [← hR]
  by_cases h1 : c = 5
  · have E : Hid (R = true) := by show _ = _; rw [hR, h1]; rfl
    have t1 : (c == 5) = true := by simp [h1]
    clear hR h1
    go_enter Tryd.func57, Tryd.ntmps57
    go_wp2
    go_ret
    exact ⟨by rw [E.out]; rfl, (Below.refl _ _).alloc (Nat.le_refl _) _⟩
  · have t1 : (c == 5) = false := by simp [h1]
    obtain ⟨b, hb⟩ : ∃ b, (c == 6) = b := ⟨_, rfl⟩
    have E : Hid (R = b) := by show _ = _; rw [hR, ← hb]; by_cases h2 : c = 6 <;> simp [h1, h2]
    clear hR h1
    go_enter Tryd.func57, Tryd.ntmps57
    go_wp2
    go_ret
    exact ⟨by rw [E.out]; rfl, (Below.refl _ _).alloc (Nat.le_refl _) _⟩

theorem wMul_any (x y : Nat) (w : World) (hx : x < 18446744073709551616) (hy : y < 18446744073709551616) : Calls Tryd.prog 61 #[.int .u64 x, .int .u64 y] w fun e w' => e = .returned (WV (x * y)) ∧ Below w.heap.size w w' := by
  have h := mul64_any x y
  obtain ⟨hi, hhi⟩ : ∃ h, h = x * y / 18446744073709551616 := ⟨_, rfl⟩
  obtain ⟨lo, hlo⟩ : ∃ h, h = x * y % 18446744073709551616 := ⟨_, rfl⟩
  unfold WV
  rw [← hhi, ← hlo] at h ⊢
  have H := Lib.hid h
  clear h hhi hlo
  go_enter Tryd.func61, Tryd.ntmps61
  go_wp2_with fail
  refine (H.out _ hx hy).mono ?_
  rintro _ w1 ⟨rfl, rfl⟩
  clear H
  go_wp2
  refine bodyPost_ret (v := .agg #[.int .u64 hi, .int .u64 lo]) (by simp [results, Tryd.results61, go_sem]) rfl ⟨rfl, (Below.refl _ _).alloc (Nat.le_refl _) _⟩

end Go.Proofs.YtcgceigmglikpaaDoor
