/- Shifts of two words, as plain numbers. -/
import Derived.Test.YtcgceigmglikpaaDoorPackF
namespace Go.Proofs.YtcgceigmglikpaaDoor
set_option linter.unusedVariables false
set_option linter.unusedSimpArgs false

theorem pow_two_parts {n : Nat} (hn : n ≤ 64) : 2 ^ n * 2 ^ (64 - n) = 18446744073709551616 := by
  rw [← Nat.pow_add, show n + (64 - n) = 64 by omega]

theorem lt_mul_of {t q A B : Nat} (ht : t < B) (hq : q < A) : t * A + q < A * B := by
  have h1 : (t + 1) * A ≤ B * A := Nat.mul_le_mul_right A ht
  rw [Nat.add_mul, Nat.one_mul, Nat.mul_comm B A] at h1
  omega

theorem shl_parts {h l n : Nat} (hl : l < 18446744073709551616) (hn : n < 64) :
    (h * 18446744073709551616 + l) * 2 ^ n % 340282366920938463463374607431768211456 / 18446744073709551616 = (h * 2 ^ n % 18446744073709551616) ||| (l / 2 ^ (64 - n)) ∧
    (h * 18446744073709551616 + l) * 2 ^ n % 340282366920938463463374607431768211456 % 18446744073709551616 = l * 2 ^ n % 18446744073709551616 := by
  have hAB := pow_two_parts (n := n) (by omega)
  have hA := pow_pos2 n
  have hB := pow_pos2 (64 - n)
  have hor := fun x y => or_add x y n
  rw [show (340282366920938463463374607431768211456 : Nat) = 18446744073709551616 * 18446744073709551616 from rfl, ← hAB]
  rw [← hAB] at hl
  generalize 2 ^ n = A at *
  generalize 2 ^ (64 - n) = B at *
  have h1 := Nat.div_add_mod l B
  have h2 := Nat.mod_lt l hB
  have h3 := Nat.div_add_mod h B
  have h4 := Nat.mod_lt h hB
  have hq : l / B < A := Nat.div_lt_of_lt_mul (by rw [Nat.mul_comm]; exact hl)
  generalize l / B = q at *
  generalize l % B = r at *
  generalize h / B = s at *
  generalize h % B = t at *
  have k1 := lt_mul_of h4 hq
  have k2 : r * A < A * B := by have := lt_mul_of h2 hA; omega
  have e : (h * (A * B) + l) * A = A * B * (A * B) * s + ((t * A + q) * (A * B) + r * A) := by rw [← h1, ← h3]; grind
  have k3 : (t * A + q) * (A * B) + r * A < A * B * (A * B) := by
    have := lt_mul_of k1 k2
    exact this
  have hp : 0 < A * B := Nat.mul_pos hA hB
  rw [e, Nat.mul_add_mod, Nat.mod_eq_of_lt k3]
  have e2 : l * A = A * B * q + r * A := by rw [← h1]; grind
  have e3 : h * A = A * B * s + t * A := by rw [← h3]; grind
  rw [e2, e3, Nat.mul_add_mod, Nat.mul_add_mod, Nat.mod_eq_of_lt k2, Nat.mod_eq_of_lt (show t * A < A * B by omega)]
  constructor
  · rw [Nat.mul_comm (t * A + q), Nat.mul_add_div hp, Nat.div_eq_of_lt k2, Nat.add_zero, hor t q hq]
  · rw [Nat.mul_comm (t * A + q), Nat.mul_add_mod, Nat.mod_eq_of_lt k2]

theorem shl_far {h l m : Nat} :
    (h * 18446744073709551616 + l) * 2 ^ (64 + m) % 340282366920938463463374607431768211456 / 18446744073709551616 = l * 2 ^ m % 18446744073709551616 ∧
    (h * 18446744073709551616 + l) * 2 ^ (64 + m) % 340282366920938463463374607431768211456 % 18446744073709551616 = 0 := by
  have e : (h * 18446744073709551616 + l) * 2 ^ (64 + m) = 18446744073709551616 * ((h * 18446744073709551616 + l) * 2 ^ m) := by
    rw [Nat.pow_add, show (2 : Nat) ^ 64 = 18446744073709551616 from rfl]
    grind
  rw [e, show (340282366920938463463374607431768211456 : Nat) = 18446744073709551616 * 18446744073709551616 from rfl, Nat.mul_mod_mul_left]
  constructor
  · rw [Nat.mul_div_cancel_left _ (by decide)]
    have e2 : (h * 18446744073709551616 + l) * 2 ^ m = 18446744073709551616 * (h * 2 ^ m) + l * 2 ^ m := by grind
    rw [e2, Nat.mul_add_mod]
  · exact Nat.mul_mod_right _ _

theorem shr_parts {h l n : Nat} (hl : l < 18446744073709551616) (hn : n < 64) :
    (h * 18446744073709551616 + l) / 2 ^ n / 18446744073709551616 = h / 2 ^ n ∧
    (h * 18446744073709551616 + l) / 2 ^ n % 18446744073709551616 = (l / 2 ^ n) ||| (h * 2 ^ (64 - n) % 18446744073709551616) := by
  have hAB := pow_two_parts (n := n) (by omega)
  have hA := pow_pos2 n
  have hB := pow_pos2 (64 - n)
  have hor := fun x y => or_add x y (64 - n)
  rw [← hAB]
  rw [← hAB] at hl
  generalize 2 ^ n = A at *
  generalize 2 ^ (64 - n) = B at *
  have h1 := Nat.div_add_mod l A
  have h2 := Nat.mod_lt l hA
  have h3 := Nat.div_add_mod h A
  have h4 := Nat.mod_lt h hA
  have hq : l / A < B := Nat.div_lt_of_lt_mul hl
  have hq' := hq
  generalize hql : l / A = q at *
  generalize l % A = r at *
  generalize hsh : h / A = s at *
  generalize h % A = t at *
  have k1 : t * B + q < A * B := by have := lt_mul_of h4 hq; rw [Nat.mul_comm A]; exact this
  have e : h * (A * B) + l = A * (A * B * s + (t * B + q)) + r := by rw [← h1, ← h3]; grind
  have hp : 0 < A * B := Nat.mul_pos hA hB
  have e2 : (h * (A * B) + l) / A = A * B * s + (t * B + q) := by
    rw [e, Nat.mul_add_div hA, Nat.div_eq_of_lt h2, Nat.add_zero]
  rw [e2]
  constructor
  · rw [Nat.mul_add_div hp, Nat.div_eq_of_lt k1, Nat.add_zero]
  · rw [Nat.mul_add_mod, Nat.mod_eq_of_lt k1]
    have e3 : h * B = A * B * s + t * B := by rw [← h3]; grind
    rw [e3, Nat.mul_add_mod, Nat.mod_eq_of_lt (show t * B < A * B by omega), Nat.or_comm, hor t q hq]

theorem shr_far {h l m : Nat} (hh : h < 18446744073709551616) (hl : l < 18446744073709551616) :
    (h * 18446744073709551616 + l) / 2 ^ (64 + m) / 18446744073709551616 = 0 ∧ (h * 18446744073709551616 + l) / 2 ^ (64 + m) % 18446744073709551616 = h / 2 ^ m := by
  have e : (h * 18446744073709551616 + l) / 2 ^ (64 + m) = h / 2 ^ m := by
    rw [Nat.pow_add, show (2 : Nat) ^ 64 = 18446744073709551616 from rfl, ← Nat.div_div_eq_div_mul]
    congr 1
    omega
  rw [e]
  have : h / 2 ^ m < 18446744073709551616 := Nat.lt_of_le_of_lt (Nat.div_le_self _ _) hh
  exact ⟨Nat.div_eq_of_lt this, Nat.mod_eq_of_lt this⟩

end Go.Proofs.YtcgceigmglikpaaDoor
