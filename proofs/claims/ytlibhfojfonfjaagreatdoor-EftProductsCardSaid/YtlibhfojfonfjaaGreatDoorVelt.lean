/- Splitting a number by rounding (Veltkamp), as whole numbers. -/
import Derived.Test.YtlibhfojfonfjaaGreatDoorPackA
namespace Go.Proofs.YtlibhfojfonfjaaGreatDoor
set_option linter.unusedVariables false

/-- R is X rounded to p digits, to one of the nearest -/
def Near (p X R : Nat) : Prop := 2 ^ (bl X - p) ∣ R ∧ 2 * R ≤ 2 * X + 2 ^ (bl X - p) ∧ 2 * X ≤ 2 * R + 2 ^ (bl X - p)

theorem near_exact {p X R : Nat} (h : Near p X R) (hx : 2 ^ (bl X - p) ∣ X) : R = X := by
  obtain ⟨⟨r, h1⟩, h2, h3⟩ := h
  obtain ⟨x, hx⟩ := hx
  have hp := pow_pos2 (bl X - p)
  generalize 2 ^ (bl X - p) = Q at *
  have key : ∀ a b : Nat, 2 * (Q * a) ≤ 2 * (Q * b) + Q → a ≤ b := by
    intro a b h
    rcases Nat.lt_or_ge b a with h4 | h4
    · have := Nat.mul_le_mul_left Q (show b + 1 ≤ a from h4)
      rw [Nat.mul_add] at this
      omega
    · exact h4
  have e : r = x := Nat.le_antisymm (key r x (by rw [← h1, ← hx]; exact h2)) (key x r (by rw [← h1, ← hx]; exact h3))
  rw [h1, e, ← hx]

theorem near_small {p X R : Nat} (h : Near p X R) (hx : X < 2 ^ p) : R = X := near_exact h (by
  have := bl_le_of_lt hx
  rw [show bl X - p = 0 by omega]; exact ⟨X, by simp⟩)

theorem dvd_pow2 {a b : Nat} (h : a ≤ b) : 2 ^ a ∣ 2 ^ b := Nat.pow_dvd_pow 2 h

/-- of two multiples the lesser lies a whole step below -/
theorem step_le {P a b : Nat} (h1 : P ∣ a) (h2 : P ∣ b) (h : a < b) : a + P ≤ b := by
  obtain ⟨x, rfl⟩ := h1
  obtain ⟨y, rfl⟩ := h2
  have hxy : x < y := Nat.lt_of_mul_lt_mul_left h
  have := Nat.mul_le_mul_left P (show x + 1 ≤ y from hxy)
  rw [Nat.mul_add] at this
  omega

theorem velt {p s n C D : Nat} (hs : 1 ≤ s) (hsp : s + 1 ≤ p) (h0 : n ≠ 0) (hn : 2 ^ (bl n - p) ∣ n) (hC : Near p ((2 ^ s + 1) * n) C) (hD : Near p (C - n) D) :
    n < C ∧ D < C ∧ (∃ k u, C - D = u * 2 ^ k ∧ u ≤ 2 ^ (p - s)) ∧ ∃ v, (n = C - D + v * 2 ^ (bl n - p) ∨ C - D = n + v * 2 ^ (bl n - p)) ∧ v ≤ 2 ^ (s - 1) := by
  have j1 := bl_ge n h0
  have j2 := bl_lt n
  have j0 := bl_pos n h0
  obtain ⟨j, hj⟩ : ∃ j, j = bl n := ⟨_, rfl⟩
  rw [← hj] at j1 j2 j0 hn ⊢
  have eX : (2 ^ s + 1) * n = 2 ^ s * n + n := by rw [Nat.add_mul, Nat.one_mul]
  rw [eX] at hC
  have es1 : 2 ^ s * n + 2 ^ s ≤ 2 ^ (s + j) := by
    have := Nat.mul_le_mul_left (2 ^ s) (show n + 1 ≤ 2 ^ j from j2)
    rw [Nat.mul_add, ← Nat.pow_add] at this
    omega
  have es2 : 2 ^ (s + (j - 1)) ≤ 2 ^ s * n := by rw [Nat.pow_add]; exact Nat.mul_le_mul_left _ j1
  have hS : 2 ≤ 2 ^ s := by have := Nat.pow_le_pow_right (show 0 < 2 by decide) hs; simpa using this
  have hSn : 2 * n ≤ 2 ^ s * n := Nat.mul_le_mul_right n hS
  -- the digits of K n
  have bX1 : bl (2 ^ s * n + n) ≤ s + j + 1 := bl_le_of_lt (by
    have e : 2 ^ (s + j + 1) = 2 ^ (s + j) * 2 := Nat.pow_succ 2 _
    omega)
  have bX2 : s + j ≤ bl (2 ^ s * n + n) := by
    rcases Nat.lt_or_ge (bl (2 ^ s * n + n)) (s + j) with h | h
    · have a1 := bl_lt (2 ^ s * n + n)
      have a2 := Nat.pow_le_pow_right (show 0 < 2 by decide) (show bl (2 ^ s * n + n) ≤ s + (j - 1) by omega)
      omega
    · exact h
  obtain ⟨c1, c2, c3⟩ := id hC
  by_cases hG : s + j ≤ p
  · -- all exact but perhaps K n
    have hq : 2 ^ (bl (2 ^ s * n + n) - p) ≤ 2 := by
      have := Nat.pow_le_pow_right (show 0 < 2 by decide) (show bl (2 ^ s * n + n) - p ≤ 1 by omega)
      simpa using this
    have hY : C - n < 2 ^ p := by
      have := Nat.pow_le_pow_right (show 0 < 2 by decide) hG
      omega
    have eD := near_small hD hY
    have hnC : n < C := by omega
    have eH : C - D = n := by omega
    have hj' := Nat.pow_le_pow_right (show 0 < 2 by decide) (show j ≤ p - s by omega)
    refine ⟨hnC, by omega, ⟨0, n, by rw [eH]; simp, by omega⟩, 0, Or.inl (by rw [eH]; simp), Nat.zero_le _⟩
  · obtain ⟨G, hGe⟩ : ∃ G, G = s + j - p := ⟨_, rfl⟩
    have hp1 : 1 ≤ G := by omega
    have hGj : G ≤ j - 1 := by omega
    have hPB : 2 ^ G ≤ 2 ^ s * 2 ^ (j - p) := by rw [← Nat.pow_add]; exact Nat.pow_le_pow_right (by decide) (by omega)
    have hB1 : 2 ^ G ≤ 2 ^ (j - 1) := Nat.pow_le_pow_right (by decide) hGj
    have hBC : 2 ^ G ∣ C := Nat.dvd_trans (dvd_pow2 (by omega)) c1
    have hq : 2 ^ (bl (2 ^ s * n + n) - p) ≤ 2 * 2 ^ G := by
      have := Nat.pow_le_pow_right (show 0 < 2 by decide) (show bl (2 ^ s * n + n) - p ≤ G + 1 by omega)
      rw [Nat.pow_succ] at this; omega
    have eB : 2 ^ G = 2 ^ (G - 1) * 2 := by rw [← Nat.pow_succ]; congr 1; omega
    have ej : 2 ^ j = 2 ^ (j - 1) * 2 := by rw [← Nat.pow_succ]; congr 1; omega
    have esj : 2 ^ (s + j) = 2 ^ (s + (j - 1)) * 2 := by rw [← Nat.pow_succ]; congr 1; omega
    have up1 : n + 2 ^ (j - p) ≤ 2 ^ j := step_le hn (dvd_pow2 (by omega)) j2
    have up2 : 2 ^ s * n + 2 ^ s * 2 ^ (j - p) ≤ 2 ^ (s + j) := by
      have := Nat.mul_le_mul_left (2 ^ s) up1
      rwa [Nat.mul_add, ← Nat.pow_add 2 s j] at this
    have hYu : C - n ≤ 2 ^ (s + j) := by omega
    have hnC : n < C := by omega
    have hYl : 2 ^ (s + (j - 1)) ≤ C - n := by
      rcases Nat.lt_or_ge (2 ^ (j - 1)) n with h | h
      · have lo1 := step_le (dvd_pow2 (show j - p ≤ j - 1 by omega)) hn h
        have lo2 := Nat.mul_le_mul_left (2 ^ s) lo1
        rw [Nat.mul_add, ← Nat.pow_add 2 s (j - 1)] at lo2
        omega
      · have en : n = 2 ^ (j - 1) := by omega
        have hx : 2 ^ s * n + n < 2 ^ (s + j) := by
          rw [en, ← Nat.pow_add]
          have := Nat.pow_lt_pow_right (show 1 < 2 by decide) (show j - 1 < s + (j - 1) by omega)
          omega
        have hb := bl_le_of_lt hx
        have eC := near_exact hC (by
          refine Nat.dvd_trans (dvd_pow2 (show bl (2 ^ s * n + n) - p ≤ j - 1 by omega)) ?_
          rw [en]
          exact Nat.dvd_add (Nat.dvd_mul_left _ _) (Nat.dvd_refl _))
        omega
    have hsub : ∀ {x : Nat}, 2 ^ (p - s) * 2 ^ G = 2 ^ j := by intro _; rw [← Nat.pow_add]; congr 1; omega
    have hgG : 2 ^ (j - p) ∣ 2 ^ G := dvd_pow2 (by omega)
    rcases Nat.lt_or_ge (C - n) (2 ^ (s + j)) with hY | hY
    · have bY : bl (C - n) = s + j := by
        have := bl_unique hYl (show C - n < 2 ^ (s + (j - 1) + 1) by rw [show s + (j - 1) + 1 = s + j by omega]; exact hY)
        omega
      obtain ⟨d1, d2, d3⟩ := id hD
      rw [bY, ← hGe] at d1 d2 d3
      obtain ⟨c, hc⟩ := hBC
      obtain ⟨d, hd⟩ := d1
      have hDC : D < C := by omega
      have hcd : C - D = (c - d) * 2 ^ G := by rw [Nat.sub_mul, Nat.mul_comm c, Nat.mul_comm d, ← hc, ← hd]
      have hu : c - d ≤ 2 ^ (p - s) := by
        have h1 : (c - d) * 2 ^ G < (2 ^ (p - s) + 1) * 2 ^ G := by
          rw [← hcd, Nat.add_mul, Nat.one_mul, hsub (x := 0)]
          omega
        have := Nat.lt_of_mul_lt_mul_right h1
        omega
      refine ⟨hnC, hDC, ⟨G, c - d, hcd, hu⟩, ?_⟩
      have hPH : 2 ^ (j - p) ∣ C - D := by rw [hcd]; exact Nat.dvd_trans hgG (Nat.dvd_mul_left _ _)
      have hlim : 2 ^ (G - 1) ≤ 2 ^ (s - 1) * 2 ^ (j - p) := by rw [← Nat.pow_add]; exact Nat.pow_le_pow_right (by decide) (by omega)
      have hP := pow_pos2 (j - p)
      rcases Nat.le_total (C - D) n with h | h
      · obtain ⟨v, hv⟩ := Nat.dvd_sub hn hPH
        refine ⟨v, Or.inl (by rw [Nat.mul_comm v, ← hv]; omega), ?_⟩
        have : v * 2 ^ (j - p) ≤ 2 ^ (s - 1) * 2 ^ (j - p) := by rw [Nat.mul_comm v, ← hv]; omega
        exact Nat.le_of_mul_le_mul_right this hP
      · obtain ⟨v, hv⟩ := Nat.dvd_sub hPH hn
        refine ⟨v, Or.inr (by rw [Nat.mul_comm v, ← hv]; omega), ?_⟩
        have : v * 2 ^ (j - p) ≤ 2 ^ (s - 1) * 2 ^ (j - p) := by rw [Nat.mul_comm v, ← hv]; omega
        exact Nat.le_of_mul_le_mul_right this hP
    · have eY : C - n = 2 ^ (s + j) := by omega
      have bY : bl (C - n) = s + j + 1 := by rw [eY]; exact bl_unique (Nat.le_refl _) (Nat.pow_lt_pow_right (by decide) (by omega))
      have eD := near_exact hD (by rw [bY, eY]; exact dvd_pow2 (by omega))
      have eH : C - D = n := by omega
      have hDB : 2 ^ G ∣ D := by rw [eD, eY]; exact dvd_pow2 (by omega)
      have hBn : 2 ^ G ∣ n := by rw [← eH]; exact Nat.dvd_sub hBC hDB
      obtain ⟨u, hu⟩ := hBn
      refine ⟨hnC, by omega, ⟨G, u, by rw [eH, hu]; exact Nat.mul_comm _ _, ?_⟩, 0, Or.inl (by rw [eH]; simp), Nat.zero_le _⟩
      have h1 : u * 2 ^ G < 2 ^ (p - s) * 2 ^ G := by rw [hsub (x := 0), Nat.mul_comm u, ← hu]; exact j2
      exact Nat.le_of_lt (Nat.lt_of_mul_lt_mul_right h1)

end Go.Proofs.YtlibhfojfonfjaaGreatDoor
