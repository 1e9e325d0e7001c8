/- The rest of a rounded product (Dekker), as whole numbers. -/
import Derived.Test.YtlibhfojfonfjaaGreatDoorTwoS
namespace Go.Proofs.YtlibhfojfonfjaaGreatDoor
set_option linter.unusedVariables false

theorem velt2 {p s n C D : Nat} (hs : 1 ≤ s) (hsp : s + 1 ≤ p) (h0 : n ≠ 0) (hn : 2 ^ (bl n - p) ∣ n) (hC : Near p ((2 ^ s + 1) * n) C) (hD : Near p (C - n) D) :
    2 ^ (s + bl n - p) ∣ C - D ∧ C - D ≤ 2 ^ bl n ∧ 2 * n ≤ 2 * (C - D) + 2 ^ (s + bl n - p) ∧ 2 * (C - D) ≤ 2 * n + 2 ^ (s + bl n - p) ∧ (s + bl n ≤ p → C - D = n) := by
  have j1 := bl_ge n h0
  have j2 := bl_lt n
  have j0 := bl_pos n h0
  obtain ⟨j, hj⟩ : ∃ j, j = bl n := ⟨_, rfl⟩
  rw [← hj] at j1 j2 j0 hn ⊢
  have eX : (2 ^ s + 1) * n = 2 ^ s * n + n := by rw [Nat.add_mul, Nat.one_mul]
  rw [eX] at hC
  have es1 : 2 ^ s * n + 2 ^ s ≤ 2 ^ (s + j) := by
    have := Nat.mul_le_mul_left (2 ^ s) (show n + 1 ≤ 2 ^ j from j2)
    rw [Nat.mul_add, ← Nat.pow_add] at this
    omega
  have es2 : 2 ^ (s + (j - 1)) ≤ 2 ^ s * n := by rw [Nat.pow_add]; exact Nat.mul_le_mul_left _ j1
  have hS : 2 ≤ 2 ^ s := by have := Nat.pow_le_pow_right (show 0 < 2 by decide) hs; simpa using this
  have hSn : 2 * n ≤ 2 ^ s * n := Nat.mul_le_mul_right n hS
  -- the digits of K n
  have bX1 : bl (2 ^ s * n + n) ≤ s + j + 1 := bl_le_of_lt (by
    have e : 2 ^ (s + j + 1) = 2 ^ (s + j) * 2 := Nat.pow_succ 2 _
    omega)
  have bX2 : s + j ≤ bl (2 ^ s * n + n) := by
    rcases Nat.lt_or_ge (bl (2 ^ s * n + n)) (s + j) with h | h
    · have a1 := bl_lt (2 ^ s * n + n)
      have a2 := Nat.pow_le_pow_right (show 0 < 2 by decide) (show bl (2 ^ s * n + n) ≤ s + (j - 1) by omega)
      omega
    · exact h
  obtain ⟨c1, c2, c3⟩ := id hC
  by_cases hG : s + j ≤ p
  · -- all exact but perhaps K n
    have hq : 2 ^ (bl (2 ^ s * n + n) - p) ≤ 2 := by
      have := Nat.pow_le_pow_right (show 0 < 2 by decide) (show bl (2 ^ s * n + n) - p ≤ 1 by omega)
      simpa using this
    have hY : C - n < 2 ^ p := by
      have := Nat.pow_le_pow_right (show 0 < 2 by decide) hG
      omega
    have eD := near_small hD hY
    have hnC : n < C := by omega
    have eH : C - D = n := by omega
    have hj' := Nat.pow_le_pow_right (show 0 < 2 by decide) (show j ≤ p - s by omega)
    rw [show s + j - p = 0 by omega, eH]
    exact ⟨⟨n, by simp⟩, by omega, by omega, by omega, fun _ => rfl⟩
  · obtain ⟨G, hGe⟩ : ∃ G, G = s + j - p := ⟨_, rfl⟩
    have hp1 : 1 ≤ G := by omega
    have hGj : G ≤ j - 1 := by omega
    have hPB : 2 ^ G ≤ 2 ^ s * 2 ^ (j - p) := by rw [← Nat.pow_add]; exact Nat.pow_le_pow_right (by decide) (by omega)
    have hB1 : 2 ^ G ≤ 2 ^ (j - 1) := Nat.pow_le_pow_right (by decide) hGj
    have hBC : 2 ^ G ∣ C := Nat.dvd_trans (dvd_pow2 (by omega)) c1
    have hq : 2 ^ (bl (2 ^ s * n + n) - p) ≤ 2 * 2 ^ G := by
      have := Nat.pow_le_pow_right (show 0 < 2 by decide) (show bl (2 ^ s * n + n) - p ≤ G + 1 by omega)
      rw [Nat.pow_succ] at this; omega
    have eB : 2 ^ G = 2 ^ (G - 1) * 2 := by rw [← Nat.pow_succ]; congr 1; omega
    have ej : 2 ^ j = 2 ^ (j - 1) * 2 := by rw [← Nat.pow_succ]; congr 1; omega
    have esj : 2 ^ (s + j) = 2 ^ (s + (j - 1)) * 2 := by rw [← Nat.pow_succ]; congr 1; omega
    have up1 : n + 2 ^ (j - p) ≤ 2 ^ j := step_le hn (dvd_pow2 (by omega)) j2
    have up2 : 2 ^ s * n + 2 ^ s * 2 ^ (j - p) ≤ 2 ^ (s + j) := by
      have := Nat.mul_le_mul_left (2 ^ s) up1
      rwa [Nat.mul_add, ← Nat.pow_add 2 s j] at this
    have hYu : C - n ≤ 2 ^ (s + j) := by omega
    have hnC : n < C := by omega
    have hYl : 2 ^ (s + (j - 1)) ≤ C - n := by
      rcases Nat.lt_or_ge (2 ^ (j - 1)) n with h | h
      · have lo1 := step_le (dvd_pow2 (show j - p ≤ j - 1 by omega)) hn h
        have lo2 := Nat.mul_le_mul_left (2 ^ s) lo1
        rw [Nat.mul_add, ← Nat.pow_add 2 s (j - 1)] at lo2
        omega
      · have en : n = 2 ^ (j - 1) := by omega
        have hx : 2 ^ s * n + n < 2 ^ (s + j) := by
          rw [en, ← Nat.pow_add]
          have := Nat.pow_lt_pow_right (show 1 < 2 by decide) (show j - 1 < s + (j - 1) by omega)
          omega
        have hb := bl_le_of_lt hx
        have eC := near_exact hC (by
          refine Nat.dvd_trans (dvd_pow2 (show bl (2 ^ s * n + n) - p ≤ j - 1 by omega)) ?_
          rw [en]
          exact Nat.dvd_add (Nat.dvd_mul_left _ _) (Nat.dvd_refl _))
        omega
    have hsub : ∀ {x : Nat}, 2 ^ (p - s) * 2 ^ G = 2 ^ j := by intro _; rw [← Nat.pow_add]; congr 1; omega
    have hgG : 2 ^ (j - p) ∣ 2 ^ G := dvd_pow2 (by omega)
    rcases Nat.lt_or_ge (C - n) (2 ^ (s + j)) with hY | hY
    · have bY : bl (C - n) = s + j := by
        have := bl_unique hYl (show C - n < 2 ^ (s + (j - 1) + 1) by rw [show s + (j - 1) + 1 = s + j by omega]; exact hY)
        omega
      obtain ⟨d1, d2, d3⟩ := id hD
      rw [bY, ← hGe] at d1 d2 d3
      obtain ⟨c, hc⟩ := hBC
      obtain ⟨d, hd⟩ := d1
      have hDC : D < C := by omega
      have hcd : C - D = (c - d) * 2 ^ G := by rw [Nat.sub_mul, Nat.mul_comm c, Nat.mul_comm d, ← hc, ← hd]
      have hu : c - d ≤ 2 ^ (p - s) := by
        have h1 : (c - d) * 2 ^ G < (2 ^ (p - s) + 1) * 2 ^ G := by
          rw [← hcd, Nat.add_mul, Nat.one_mul, hsub (x := 0)]
          omega
        have := Nat.lt_of_mul_lt_mul_right h1
        omega
      have hu2 : C - D ≤ 2 ^ j := by rw [hcd, ← hsub (x := 0)]; exact Nat.mul_le_mul_right _ hu
      rw [← hGe]
      exact ⟨⟨c - d, by rw [hcd]; exact Nat.mul_comm _ _⟩, hu2, by omega, by omega, fun h => absurd h (by omega)⟩
    · have eY : C - n = 2 ^ (s + j) := by omega
      have bY : bl (C - n) = s + j + 1 := by rw [eY]; exact bl_unique (Nat.le_refl _) (Nat.pow_lt_pow_right (by decide) (by omega))
      have eD := near_exact hD (by rw [bY, eY]; exact dvd_pow2 (by omega))
      have eH : C - D = n := by omega
      have hDB : 2 ^ G ∣ D := by rw [eD, eY]; exact dvd_pow2 (by omega)
      have hBn : 2 ^ G ∣ n := by rw [← eH]; exact Nat.dvd_sub hBC hDB
      rw [← hGe, eH]
      exact ⟨hBn, by omega, by omega, by omega, fun _ => rfl⟩

theorem i2_cancel {N k : Nat} {x : Int} (h : (2 : Int) ^ (N + k) ∣ 2 ^ N * x) : (2 : Int) ^ k ∣ x := by
  obtain ⟨c, hc⟩ := h
  rw [Int.pow_add, Int.mul_assoc] at hc
  exact ⟨c, Int.eq_of_mul_eq_mul_left (Int.ne_of_gt (i2_pos N)) hc⟩
theorem i2_cancel_le {N k : Nat} {x : Int} (h : 2 ^ N * x ≤ 2 ^ (N + k)) : x ≤ 2 ^ k := by
  rw [Int.pow_add] at h
  exact Int.le_of_mul_le_mul_left h (i2_pos N)
theorem i2_cancel_lt {N k : Nat} {x : Int} (h : 2 ^ N * x < 2 ^ (N + k)) : x < 2 ^ k := by
  rw [Int.pow_add] at h
  exact Int.lt_of_mul_lt_mul_left h (Int.le_of_lt (i2_pos N))
theorem i2_mul_dvd {a b : Nat} {x y : Int} (hx : (2 : Int) ^ a ∣ x) (hy : (2 : Int) ^ b ∣ y) : (2 : Int) ^ (a + b) ∣ x * y := by
  obtain ⟨c, rfl⟩ := hx
  obtain ⟨d, rfl⟩ := hy
  refine ⟨c * d, ?_⟩
  rw [Int.pow_add]
  simp only [Int.mul_assoc, Int.mul_left_comm]

/-- what is known of the parts of the two factors, in the last places of the product -/
structure Parts (p s K : Nat) (HI HJ LI LJ : Int) : Prop where
  d1 : (2 : Int) ^ (K + 2 * s) ∣ HI
  d2 : (2 : Int) ^ (K + s) ∣ HJ
  d3 : (2 : Int) ^ (K + s) ∣ LI
  d4 : (2 : Int) ^ K ∣ LJ
  b1 : HI ≤ 2 ^ (K + 2 * p) ∧ -HI ≤ 2 ^ (K + 2 * p)
  b2 : HJ ≤ 2 ^ (K + p + s - 1) ∧ -HJ ≤ 2 ^ (K + p + s - 1)
  b3 : LI ≤ 2 ^ (K + p + s - 1) ∧ -LI ≤ 2 ^ (K + p + s - 1)
  b4 : LJ ≤ 2 ^ (K + 2 * s - 2) ∧ -LJ ≤ 2 ^ (K + 2 * s - 2)

theorem Parts.fl {p s K : Nat} {HI HJ LI LJ : Int} (h : Parts p s K HI HJ LI LJ) (hs : 1 ≤ s) (h1 : p ≤ 2 * s) (h2 : 2 * s ≤ p + 1) (h3 : s + 2 ≤ p) : Fl' p HI ∧ Fl' p HJ ∧ Fl' p LI ∧ Fl' p LJ := by
  have e1 : (2 : Int) ^ (K + 2 * p) ≤ 2 ^ (p + (K + 2 * s)) := i2_le (by omega)
  have e2 : (2 : Int) ^ (K + p + s - 1) ≤ 2 ^ (p + (K + s)) := i2_le (by omega)
  have e3 : (2 : Int) ^ (K + 2 * s - 2) ≤ 2 ^ (p + K) := i2_le (by omega)
  obtain ⟨d1, d2, d3, d4, b1, b2, b3, b4⟩ := h
  exact ⟨fl_of (by omega) d1 (by omega) (by omega), fl_of (by omega) d2 (by omega) (by omega), fl_of (by omega) d3 (by omega) (by omega), fl_of (by omega) d4 (by omega) (by omega)⟩

/-- the four sums are exact -/
theorem dekker {p s K : Nat} {HI HJ LI LJ AB P : Int} (hs : 1 ≤ s) (h1 : p ≤ 2 * s) (h2 : 2 * s ≤ p + 1) (h3 : s + 2 ≤ p) (h : Parts p s K HI HJ LI LJ) (hAB : AB = HI + HJ + LI + LJ)
    (u1 : AB < 2 ^ (K + 2 * p)) (u2 : -AB < 2 ^ (K + 2 * p)) (lo : 2 ^ (K + 2 * p - 2) ≤ AB ∨ 2 ^ (K + 2 * p - 2) ≤ -AB) (hP : NearI p AB P) :
    (Fl' p (HI - P) ∧ Fl' p (HI - P + HJ) ∧ Fl' p (HI - P + HJ + LI) ∧ Fl' p (HI - P + HJ + LI + LJ)) ∧
    (bl (HI - P).natAbs ≤ K + 2 * p ∧ bl (HI - P + HJ).natAbs ≤ K + 2 * p ∧ bl (HI - P + HJ + LI).natAbs ≤ K + 2 * p ∧ bl (HI - P + HJ + LI + LJ).natAbs ≤ K + 2 * p) := by
  have hp : 1 ≤ p := by omega
  have q1 : qe p AB ≤ K + p := by
    have := bl_le_abs u1 u2
    unfold qe; omega
  have q2 : K + p - 1 ≤ qe p AB := by
    have : K + 2 * p - 1 ≤ bl AB.natAbs := by
      rcases Nat.lt_or_ge (bl AB.natAbs) (K + 2 * p - 1) with h | h
      · exfalso
        have g1 := abs_lt_bl AB
        have g2 : (2 : Int) ^ bl AB.natAbs ≤ 2 ^ (K + 2 * p - 2) := i2_le (by omega)
        omega
      · exact h
    unfold qe; omega
  obtain ⟨p1, p2, p3⟩ := hP
  have dP : (2 : Int) ^ (K + p - 1) ∣ P := Int.dvd_trans (i2_dvd q2) p1
  have eq := i2_le q1
  obtain ⟨d1, d2, d3, d4, b1, b2, b3, b4⟩ := h
  -- powers
  have w1 : (2 : Int) ^ (K + p) = 2 ^ (K + p - 1) * 2 := by rw [← i2_succ]; congr 1; omega
  have w2 : (2 : Int) ^ (K + p + s) = 2 ^ (K + p + s - 1) * 2 := by rw [← i2_succ]; congr 1; omega
  have w3 : (2 : Int) ^ (K + 2 * s - 2) ≤ 2 ^ (K + p - 1) := i2_le (by omega)
  have w4 : (2 : Int) ^ (K + p + s) ≤ 2 ^ (K + 2 * p - 2) := i2_le (by omega)
  have w5 : (2 : Int) ^ (K + 2 * p - 1) = 2 ^ (K + 2 * p - 2) * 2 := by rw [← i2_succ]; congr 1; omega
  have w6 : (2 : Int) ^ (K + p) ≤ 2 ^ (K + 2 * p - 2) := i2_le (by omega)
  have w7 : (2 : Int) ^ (K + p) ≤ 2 ^ (K + p + s - 1) := i2_le (by omega)
  have w8 : (2 : Int) ^ (K + 2 * p) = 2 ^ (K + 2 * p - 1) * 2 := by rw [← i2_succ]; congr 1; omega
  have pos := i2_pos (K + p - 1)
  have e1 : HI - P = (AB - P) - HJ - LI - LJ := by omega
  have e2 : HI - P + HJ = (AB - P) - LI - LJ := by omega
  have e3 : HI - P + HJ + LI = (AB - P) - LJ := by omega
  have e4 : HI - P + HJ + LI + LJ = AB - P := by omega
  have g1 : HI - P ≤ 2 ^ (K + 2 * p - 1) ∧ -(HI - P) ≤ 2 ^ (K + 2 * p - 1) := by omega
  have g2 : HI - P + HJ ≤ 2 ^ (K + p + s) ∧ -(HI - P + HJ) ≤ 2 ^ (K + p + s) := by omega
  have g3 : HI - P + HJ + LI ≤ 2 ^ (K + p) ∧ -(HI - P + HJ + LI) ≤ 2 ^ (K + p) := by omega
  have g4 : HI - P + HJ + LI + LJ ≤ 2 ^ (K + p) ∧ -(HI - P + HJ + LI + LJ) ≤ 2 ^ (K + p) := by omega
  have v1 : (2 : Int) ^ (K + p - 1) ∣ HI - P := Int.dvd_sub (Int.dvd_trans (i2_dvd (by omega)) d1) dP
  have v2 : (2 : Int) ^ (K + s) ∣ HI - P + HJ := Int.dvd_add (Int.dvd_trans (i2_dvd (by omega)) v1) d2
  have v3 : (2 : Int) ^ (K + s) ∣ HI - P + HJ + LI := Int.dvd_add v2 d3
  have v4 : (2 : Int) ^ K ∣ HI - P + HJ + LI + LJ := Int.dvd_add (Int.dvd_trans (i2_dvd (by omega)) v3) d4
  have y1 : (2 : Int) ^ (K + 2 * p - 1) ≤ 2 ^ (p + (K + p - 1)) := i2_le (by omega)
  have y2 : (2 : Int) ^ (K + p + s) ≤ 2 ^ (p + (K + s)) := i2_le (by omega)
  have y3 : (2 : Int) ^ (K + p) ≤ 2 ^ (p + (K + s)) := i2_le (by omega)
  have y4 : (2 : Int) ^ (K + p) ≤ 2 ^ (p + K) := i2_le (by omega)
  exact ⟨⟨fl_of hp v1 (by omega) (by omega), fl_of hp v2 (by omega) (by omega), fl_of hp v3 (by omega) (by omega), fl_of hp v4 (by omega) (by omega)⟩,
    bl_le_abs (by omega) (by omega), bl_le_abs (by omega) (by omega), bl_le_abs (by omega) (by omega), bl_le_abs (by omega) (by omega)⟩

end Go.Proofs.YtlibhfojfonfjaaGreatDoor
