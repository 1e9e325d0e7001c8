/- The plain laws of floor and top. -/
import Derived.Test.YtomhmbnpkphcmaaDoorLawP
namespace Go.Proofs.YtomhmbnpkphcmaaDoor
set_option linter.unusedVariables false

theorem floorN_bounds (o : D) (L : Int) (hc : o.can) (h : L ≤ o.e) (h0 : L ≤ 0) : (floorN o).i L ≤ o.i L ∧ o.i L < (floorN o).i L + 2 ^ (-L).toNat := by
  unfold floorN
  by_cases he : o.e < 0
  · rw [if_pos he]
    have hodd : o.n % 2 = 1 := by
      rcases hc with h | h
      · rw [h] at he; simp [D.zero] at he
      · exact h
    unfold D.i
    simp only
    have ek : (-L).toNat = (-o.e).toNat + (o.e - L).toNat := by omega
    have ek2 : (0 - L).toNat = (-o.e).toNat + (o.e - L).toNat := by omega
    rw [ek2, ek, Int.pow_add]
    have hQ := ipow_pos (o.e - L).toNat
    have hdiv := Nat.div_add_mod o.n (2 ^ (-o.e).toNat)
    have hmod := Nat.mod_lt o.n (pow_pos2 (-o.e).toNat)
    have hr : 0 < o.n % 2 ^ (-o.e).toNat := by
      obtain ⟨k, hk⟩ : ∃ k, (-o.e).toNat = k + 1 := ⟨(-o.e).toNat - 1, by omega⟩
      rw [hk, Nat.pow_succ]
      rw [hk, Nat.pow_succ] at hdiv
      rcases Nat.eq_zero_or_pos (o.n % (2 ^ k * 2)) with hz | hz
      · rw [hz] at hdiv
        have : o.n = 2 * (2 ^ k * (o.n / (2 ^ k * 2))) := by rw [← Nat.mul_assoc, Nat.mul_comm 2 (2 ^ k)]; omega
        omega
      · exact hz
    have hP : ((2 ^ (-o.e).toNat : Nat) : Int) = 2 ^ (-o.e).toNat := by simp
    rw [← hP]
    generalize (2 : Nat) ^ (-o.e).toNat = P at *
    generalize (2 : Int) ^ (o.e - L).toNat = Q at *
    generalize o.n / P = q at *
    generalize o.n % P = r at *
    have hn : (o.n : Int) = (P : Int) * q + r := by
      rw [← hdiv]; simp
    cases o.s
    · simp only [Bool.false_eq_true, if_false]
      rw [hn, ← Int.mul_assoc]
      have h1 : 0 ≤ (r : Int) * Q := Int.mul_nonneg (by omega) (by omega)
      have h2 : 0 < ((P : Int) - r) * Q := Int.mul_pos (by omega) hQ
      constructor <;> grind
    · simp only [if_true]
      rw [hn, ← Int.mul_assoc]
      have h1 : 0 < (r : Int) * Q := Int.mul_pos (by omega) hQ
      have h2 : 0 < ((P : Int) - r) * Q := Int.mul_pos (by omega) hQ
      have e1 : ((q + 1 : Nat) : Int) = (q : Int) + 1 := by omega
      rw [e1]
      constructor <;> grind
  · rw [if_neg he]
    have := ipow_pos (-L).toNat
    omega

theorem floorN_low (o : D) (L : Int) (h : L ≤ o.e) (h0 : L ≤ 0) : L ≤ (floorN o).e := by
  unfold floorN
  split
  · exact h0
  · exact h

theorem floorN_e (o : D) : 0 ≤ (floorN o).e := by
  unfold floorN
  split
  · exact Int.le_refl _
  · omega

/-- the floor, where it is answered -/
theorem floorD_res (n : Nat) (a : D) (L : Int) (hL : L ≤ -40000) : Res (floorD n a) L ((floorN (oddD a)).i L) := by
  intro h0
  unfold floorD at *
  split at h0
  · rename_i h
    have g := refD_zero h
    rw [if_pos h]
    exact ansD_res _ L (floorN_low _ L (oddD_low a L (by omega) (by omega)) (by omega)) h0
  · rename_i h
    exact absurd h0 h

theorem floorD_val (n : Nat) (a : D) (L : Int) (hL : L ≤ -40000) (h0 : (floorD n a).2 = 0) : refD n a.e = 0 ∧ (floorN (oddD a)).i L ≤ a.i L ∧ a.i L < (floorN (oddD a)).i L + 2 ^ (-L).toNat := by
  unfold floorD at h0
  split at h0
  · rename_i h
    have g := refD_zero h
    have := floorN_bounds (oddD a) L (oddD_can a) (oddD_low a L (by omega) (by omega)) (by omega)
    rw [i_odd a L (by omega)] at this
    exact ⟨h, this⟩
  · rename_i h
    exact absurd h0 h

/-- the top, where it is answered -/
theorem topD_val (n : Nat) (a : D) (L : Int) (h0 : (topD n a).2 = 0) : refD n a.e = 0 ∧ a.n ≠ 0 ∧ (topD n a).1 = (bl a.n : Int) - 1 + a.e := by
  unfold topD at *
  split at h0
  · rename_i h
    rw [if_pos h]
    split at h0
    · simp at h0
    · rename_i hn
      rw [if_neg hn]
      exact ⟨h, hn, rfl⟩
  · rename_i h
    exact absurd h0 h

theorem bl_pos (N : Nat) (h : N ≠ 0) : 0 < bl N := by unfold bl; rw [if_neg h]; omega
theorem bl_ge (N : Nat) (h : N ≠ 0) : 2 ^ (bl N - 1) ≤ N := by unfold bl; rw [if_neg h]; simpa using Nat.log2_self_le h
theorem bl_lt (N : Nat) : N < 2 ^ bl N := by
  unfold bl
  split
  · rename_i h; rw [h]; decide
  · exact Nat.lt_log2_self

theorem i_one (e L : Int) : D.i L ⟨false, 1, e⟩ = 2 ^ (e - L).toNat := by
  unfold D.i
  simp

theorem top_bounds (a : D) (L : Int) (h : L ≤ a.e) (hn : a.n ≠ 0) :
    D.i L ⟨false, 1, (bl a.n : Int) - 1 + a.e⟩ ≤ D.i L ⟨false, a.n, a.e⟩ ∧ D.i L ⟨false, a.n, a.e⟩ < D.i L ⟨false, 1, (bl a.n : Int) - 1 + a.e + 1⟩ := by
  rw [i_one, i_one]
  unfold D.i
  simp only [Bool.false_eq_true, if_false]
  have hp : 0 < bl a.n := bl_pos a.n hn
  have e1 : ((bl a.n : Int) - 1 + a.e - L).toNat = (bl a.n - 1) + (a.e - L).toNat := by omega
  have e2 : ((bl a.n : Int) - 1 + a.e + 1 - L).toNat = bl a.n + (a.e - L).toNat := by omega
  rw [e1, e2, Int.pow_add, Int.pow_add]
  have hQ := ipow_pos (a.e - L).toNat
  have h1 : ((2 ^ (bl a.n - 1) : Nat) : Int) = 2 ^ (bl a.n - 1) := by simp
  have h2 : ((2 ^ bl a.n : Nat) : Int) = 2 ^ bl a.n := by simp
  rw [← h1, ← h2]
  have l1 := bl_ge a.n hn
  have l2 := bl_lt a.n
  generalize (2 : Int) ^ (a.e - L).toNat = Q at *
  exact ⟨Int.mul_le_mul_of_nonneg_right (by omega) (by omega), Int.mul_lt_mul_of_pos_right (by omega) hQ⟩

end Go.Proofs.YtomhmbnpkphcmaaDoor
