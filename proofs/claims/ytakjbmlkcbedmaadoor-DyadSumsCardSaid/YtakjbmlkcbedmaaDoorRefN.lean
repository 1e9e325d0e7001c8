/- Numbers in digits of the base 2^32: what the steps of the document's loops do. -/
import Derived.Test.YtakjbmlkcbedmaaDoorPackA
namespace Go.Proofs.YtakjbmlkcbedmaaDoor
set_option linter.unusedVariables false

theorem dg32_lt (N j : Nat) : dg 32 N j < 4294967296 := dg_lt 32 N j

/-- Left: one digit more -/
theorem left_step {D O c i q r : Nat} (h : O + c * 2 ^ (32 * (q + i)) = D % 2 ^ (32 * i) * 2 ^ (32 * q + r)) (hc : c < 2 ^ r) :
    O + (dg 32 D i * 2 ^ r + c) % 4294967296 * 2 ^ (32 * (q + i)) + (dg 32 D i * 2 ^ r + c) / 4294967296 * 2 ^ (32 * (q + (i + 1))) = D % 2 ^ (32 * (i + 1)) * 2 ^ (32 * q + r) ∧ (dg 32 D i * 2 ^ r + c) / 4294967296 < 2 ^ r ∧ dg 32 D i * 2 ^ r + c < 4294967296 * 2 ^ r := by
  have hx := dg32_lt D i
  have hlt : dg 32 D i * 2 ^ r + c < 4294967296 * 2 ^ r := by
    have h1 : (dg 32 D i + 1) * 2 ^ r ≤ 4294967296 * 2 ^ r := Nat.mul_le_mul_right _ hx
    rw [Nat.succ_mul] at h1; omega
  refine ⟨?_, ?_, hlt⟩
  · rw [mod_succ 32 D i, show q + (i + 1) = (q + i) + 1 from rfl, pow_succ_mul, show (2 : Nat) ^ 32 = 4294967296 from rfl]
    have e1 : 2 ^ (32 * i) * 2 ^ (32 * q + r) = 2 ^ r * 2 ^ (32 * (q + i)) := by rw [← Nat.pow_add, ← Nat.pow_add]; congr 1; omega
    have e2 := Nat.div_add_mod (dg 32 D i * 2 ^ r + c) 4294967296
    rw [Nat.add_mul, ← h, Nat.mul_assoc (dg 32 D i), e1]
    generalize (dg 32 D i * 2 ^ r + c) / 4294967296 = u at *
    generalize (dg 32 D i * 2 ^ r + c) % 4294967296 = v at *
    generalize 2 ^ (32 * (q + i)) = P at *
    have e3 : (dg 32 D i * 2 ^ r + c) * P = (4294967296 * u + v) * P := by rw [e2]
    rw [Nat.add_mul, Nat.add_mul, Nat.mul_assoc] at e3
    rw [Nat.mul_comm P 4294967296, ← Nat.mul_assoc u, Nat.mul_comm u 4294967296]
    omega
  · rw [Nat.div_lt_iff_lt_mul (by decide), Nat.mul_comm (2 ^ r) 4294967296]; exact hlt

/-- Plus: one digit more -/
theorem plus_step {A B O c i : Nat} (h : O + c * 2 ^ (32 * i) = A % 2 ^ (32 * i) + B % 2 ^ (32 * i)) (hc : c ≤ 1) :
    O + (c + dg 32 A i + dg 32 B i) % 4294967296 * 2 ^ (32 * i) + (c + dg 32 A i + dg 32 B i) / 4294967296 * 2 ^ (32 * (i + 1)) = A % 2 ^ (32 * (i + 1)) + B % 2 ^ (32 * (i + 1)) ∧ (c + dg 32 A i + dg 32 B i) / 4294967296 ≤ 1 := by
  have hx := dg32_lt A i
  have hy := dg32_lt B i
  refine ⟨?_, by omega⟩
  rw [mod_succ 32 A i, mod_succ 32 B i, pow_succ_mul, show (2 : Nat) ^ 32 = 4294967296 from rfl]
  have e2 := Nat.div_add_mod (c + dg 32 A i + dg 32 B i) 4294967296
  generalize (c + dg 32 A i + dg 32 B i) / 4294967296 = u at *
  generalize (c + dg 32 A i + dg 32 B i) % 4294967296 = v at *
  generalize dg 32 A i = x at *
  generalize dg 32 B i = y at *
  generalize 2 ^ (32 * i) = P at *
  have e3 : (c + x + y) * P = (4294967296 * u + v) * P := by rw [e2]
  rw [Nat.add_mul, Nat.add_mul, Nat.add_mul, Nat.mul_assoc] at e3
  rw [Nat.mul_comm P 4294967296, ← Nat.mul_assoc u, Nat.mul_comm u 4294967296, Nat.mul_assoc]
  omega

/-- Minus: one digit more -/
theorem minus_step {A B O c i : Nat} (h : O + B % 2 ^ (32 * i) = A % 2 ^ (32 * i) + c * 2 ^ (32 * i)) (hc : c ≤ 1) :
    ((dg 32 A i < dg 32 B i + c) → O + (dg 32 A i + 4294967296 - (dg 32 B i + c)) * 2 ^ (32 * i) + B % 2 ^ (32 * (i + 1)) = A % 2 ^ (32 * (i + 1)) + 1 * 2 ^ (32 * (i + 1)) ∧ dg 32 A i + 4294967296 - (dg 32 B i + c) < 4294967296) ∧
    (¬ (dg 32 A i < dg 32 B i + c) → O + (dg 32 A i - (dg 32 B i + c)) * 2 ^ (32 * i) + B % 2 ^ (32 * (i + 1)) = A % 2 ^ (32 * (i + 1)) + 0 * 2 ^ (32 * (i + 1)) ∧ dg 32 A i - (dg 32 B i + c) < 4294967296) := by
  have hx := dg32_lt A i
  have hy := dg32_lt B i
  rw [mod_succ 32 A i, mod_succ 32 B i, pow_succ_mul, show (2 : Nat) ^ 32 = 4294967296 from rfl]
  generalize dg 32 A i = x at *
  generalize dg 32 B i = y at *
  generalize 2 ^ (32 * i) = P at *
  constructor
  · intro hlt
    refine ⟨?_, by omega⟩
    obtain ⟨d, hd⟩ : ∃ d, d = x + 4294967296 - (y + c) := ⟨_, rfl⟩
    rw [← hd]
    have e : (d + (y + c)) * P = (x + 4294967296) * P := by rw [hd, Nat.sub_add_cancel (by omega)]
    rw [Nat.add_mul, Nat.add_mul, Nat.add_mul] at e
    rw [Nat.one_mul, Nat.mul_comm P 4294967296]
    omega
  · intro hge
    refine ⟨?_, by omega⟩
    obtain ⟨d, hd⟩ : ∃ d, d = x - (y + c) := ⟨_, rfl⟩
    rw [← hd]
    have e : (d + (y + c)) * P = x * P := by rw [hd, Nat.sub_add_cancel (by omega)]
    rw [Nat.add_mul, Nat.add_mul] at e
    rw [Nat.zero_mul]
    omega

theorem minus_last {A B O c n : Nat} (h : O + B % 2 ^ (32 * n) = A % 2 ^ (32 * n) + c * 2 ^ (32 * n)) (hA : A < 2 ^ (32 * n)) (hle : B ≤ A) (hO : O < 2 ^ (32 * n)) : O = A - B := by
  rw [Nat.mod_eq_of_lt hA, Nat.mod_eq_of_lt (Nat.lt_of_le_of_lt hle hA)] at h
  rcases Nat.eq_zero_or_pos c with rfl | hc
  · omega
  · have : 2 ^ (32 * n) ≤ c * 2 ^ (32 * n) := Nat.le_mul_of_pos_left _ hc
    omega

/-- Right: a digit of the number shifted down -/
theorem right_digit (D q r j : Nat) (hr : r < 32) : dg 32 (D / 2 ^ (32 * q + r)) j = (dg 32 D (q + j) + dg 32 D (q + j + 1) * 4294967296) / 2 ^ r % 4294967296 := by
  unfold dg
  have h1 : D / 2 ^ (32 * q + r) / 2 ^ (32 * j) = D / 2 ^ (32 * (q + j)) / 2 ^ r := by
    rw [Nat.div_div_eq_div_mul, Nat.div_div_eq_div_mul, ← Nat.pow_add, ← Nat.pow_add]; congr 2; omega
  have h2 : D / 2 ^ (32 * (q + j + 1)) = D / 2 ^ (32 * (q + j)) / 4294967296 := by
    rw [pow_succ_mul, ← Nat.div_div_eq_div_mul]
  rw [h1, h2, show (2 : Nat) ^ 32 = 4294967296 from rfl]
  generalize D / 2 ^ (32 * (q + j)) = E
  have h3 : E % 4294967296 + E / 4294967296 % 4294967296 * 4294967296 = E % (2 ^ r * 2 ^ (64 - r)) := by
    rw [← Nat.pow_add, show r + (64 - r) = 64 by omega]
    omega
  rw [h3, Nat.mod_mul_right_div_self]
  rw [Nat.mod_mod_of_dvd]
  exact ⟨2 ^ (32 - r), by rw [show (4294967296 : Nat) = 2 ^ 32 from rfl, ← Nat.pow_add]; congr 1; omega⟩

/-- Times, inside: what is laid down -/
def TimesInv (N M b P i j c : Nat) : Prop := P + c * 2 ^ (32 * (i + j)) = N % 2 ^ (32 * i) * M + dg 32 N i * (M % 2 ^ (32 * j)) * 2 ^ (32 * i) ∧ c < 4294967296 ∧ P < 2 ^ (32 * (i + b))

theorem TimesInv.start (N M b P i : Nat) (h : P = N % 2 ^ (32 * i) * M) (hM : M < 2 ^ (32 * b)) : TimesInv N M b P i 0 0 := by
  refine ⟨by simp [Nat.mod_one, h], by omega, ?_⟩
  rw [h, Nat.mul_add, Nat.pow_add]
  have h1 : N % 2 ^ (32 * i) < 2 ^ (32 * i) := Nat.mod_lt _ (pow_pos2 _)
  have h2 := Nat.mul_le_mul h1 (Nat.le_of_lt hM)
  rcases Nat.eq_zero_or_pos M with rfl | hp
  · simp; exact Nat.mul_pos (pow_pos2 _) (pow_pos2 _)
  · rw [Nat.succ_mul] at h2; omega

theorem TimesInv.step {N M b P i j c t : Nat} (h : TimesInv N M b P i j c) (hj : j < b) (ht : t = dg 32 P (i + j) + dg 32 N i * dg 32 M j + c) :
    TimesInv N M b (setDg 32 P (i + j) (t % 4294967296)) i (j + 1) (t / 4294967296) ∧ t < 18446744073709551616 := by
  obtain ⟨h1, h2, h3⟩ := h
  have hd : t % 4294967296 < 2 ^ 32 := Nat.mod_lt _ (by decide)
  have hx := dg32_lt N i
  have hy := dg32_lt M j
  have hp := dg32_lt P (i + j)
  have hxy : dg 32 N i * dg 32 M j ≤ 4294967295 * 4294967295 := Nat.mul_le_mul (by omega) (by omega)
  refine ⟨⟨?_, ?_, setDg_lt 32 _ _ _ _ h3 (by omega) hd⟩, by omega⟩
  · have e1 := setDg_add 32 P (i + j) (t % 4294967296)
    rw [mod_succ 32 M j, show i + (j + 1) = (i + j) + 1 from rfl, pow_succ_mul]
    have e2 : t = 4294967296 * (t / 4294967296) + t % 4294967296 := (Nat.div_add_mod _ _).symm
    have e3 : 2 ^ (32 * (i + j)) = 2 ^ (32 * i) * 2 ^ (32 * j) := by rw [Nat.mul_add, Nat.pow_add]
    generalize setDg 32 P (i + j) (t % 4294967296) = P' at *
    generalize dg 32 P (i + j) = p at *
    generalize dg 32 N i = x at *
    generalize dg 32 M j = y at *
    generalize t / 4294967296 = q at *
    generalize t % 4294967296 = r at *
    rw [show (2 : Nat) ^ 32 = 4294967296 from rfl]
    rw [e3] at *
    generalize 2 ^ (32 * i) = A at *
    generalize 2 ^ (32 * j) = B at *
    generalize M % B = m at *
    generalize N % A * M = k at *
    have e4 : t * (A * B) = (4294967296 * q + r) * (A * B) := by rw [← e2]
    rw [ht] at e4
    grind
  · rw [Nat.div_lt_iff_lt_mul (by decide)]
    omega

theorem TimesInv.last {N M b P i c : Nat} (h : TimesInv N M b P i b c) (hM : M < 2 ^ (32 * b)) : dg 32 P (i + b) = 0 ∧ setDg 32 P (i + b) c = N % 2 ^ (32 * (i + 1)) * M := by
  obtain ⟨h1, h2, h3⟩ := h
  have h0 : dg 32 P (i + b) = 0 := dg_high 32 P (i + b) (i + b) h3 (Nat.le_refl _)
  refine ⟨h0, ?_⟩
  have e := setDg_add 32 P (i + b) c
  rw [h0, Nat.zero_mul, Nat.add_zero] at e
  rw [e, h1, mod_succ 32 N i, Nat.mod_eq_of_lt hM, Nat.add_mul]
  congr 1
  rw [Nat.mul_assoc, Nat.mul_assoc, Nat.mul_comm M]

/-- Words: one digit more -/
theorem words_low {D i : Nat} : D % 2 ^ (32 * (2 * i)) = D % 2 ^ (64 * i) := by rw [show 32 * (2 * i) = 64 * i by omega]

end Go.Proofs.YtakjbmlkcbedmaaDoor
