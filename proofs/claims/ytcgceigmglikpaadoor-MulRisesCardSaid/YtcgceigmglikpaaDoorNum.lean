/- Plain numbers: the digits of a natural in the base 2^k. -/
import Derived.WalkKit
namespace Go.Proofs.YtcgceigmglikpaaDoor
set_option linter.unusedVariables false

/-- digit j of N in the base 2^k -/
def dg (k N j : Nat) : Nat := N / 2 ^ (k * j) % 2 ^ k

theorem pow_pos2 (a : Nat) : 0 < 2 ^ a := Nat.pow_pos (by decide)

theorem dg_lt (k N j : Nat) : dg k N j < 2 ^ k := Nat.mod_lt _ (pow_pos2 k)

theorem dg64_lt (N j : Nat) : dg 64 N j < 18446744073709551616 := dg_lt 64 N j

theorem dg_zero (k j : Nat) : dg k 0 j = 0 := by simp [dg]

theorem pow_succ_mul (k n : Nat) : 2 ^ (k * (n + 1)) = 2 ^ (k * n) * 2 ^ k := by rw [Nat.mul_succ, Nat.pow_add]

theorem dg_high (k N j n : Nat) (h : N < 2 ^ (k * n)) (hj : n ≤ j) : dg k N j = 0 := by
  unfold dg
  have : 2 ^ (k * n) ≤ 2 ^ (k * j) := Nat.pow_le_pow_right (by decide) (Nat.mul_le_mul_left k hj)
  rw [Nat.div_eq_of_lt (Nat.lt_of_lt_of_le h this)]; simp

/-- the lowest n+1 digits: the lowest n ones and digit n -/
theorem mod_succ (k N n : Nat) : N % 2 ^ (k * (n + 1)) = N % 2 ^ (k * n) + dg k N n * 2 ^ (k * n) := by
  rw [pow_succ_mul, Nat.mod_mul, dg, Nat.mul_comm (2 ^ (k * n))]

theorem lt_of_top (k N n : Nat) (h : N < 2 ^ (k * (n + 1))) (h0 : dg k N n = 0) : N < 2 ^ (k * n) := by
  have e := mod_succ k N n
  rw [Nat.mod_eq_of_lt h, h0] at e
  have := Nat.mod_lt N (pow_pos2 (k * n))
  omega

theorem ge_of_top (k N n : Nat) (h0 : dg k N n ≠ 0) : 2 ^ (k * n) ≤ N := by
  rcases Nat.lt_or_ge N (2 ^ (k * n)) with h | h
  · exact absurd (dg_high k N n n h (Nat.le_refl _)) h0
  · exact h

/-- equal digits, equal numbers -/
theorem dg_ext (k n : Nat) : ∀ (N M : Nat), N < 2 ^ (k * n) → M < 2 ^ (k * n) → (∀ j, j < n → dg k N j = dg k M j) → N = M := by
  intro N M hN hM h
  have key : ∀ m, m ≤ n → N % 2 ^ (k * m) = M % 2 ^ (k * m) := by
    intro m
    induction m with
    | zero => intro _; simp [Nat.mod_one]
    | succ m ih => intro hm; rw [mod_succ, mod_succ, ih (by omega), h m (by omega)]
  have := key n (Nat.le_refl _)
  rwa [Nat.mod_eq_of_lt hN, Nat.mod_eq_of_lt hM] at this

/-- digit i put in the place of what is there -/
def setDg (k N i d : Nat) : Nat := N + d * 2 ^ (k * i) - dg k N i * 2 ^ (k * i)

theorem dg_mul_le (k N i : Nat) : dg k N i * 2 ^ (k * i) ≤ N := by
  have h1 : dg k N i ≤ N / 2 ^ (k * i) := Nat.mod_le _ _
  exact Nat.le_trans (Nat.mul_le_mul_right _ h1) (Nat.div_mul_le_self _ _)

theorem setDg_add (k N i d : Nat) : setDg k N i d + dg k N i * 2 ^ (k * i) = N + d * 2 ^ (k * i) := by
  unfold setDg; have := dg_mul_le k N i; omega

/-- a number as what is below digit i, digit i, what is above -/
theorem parts3 (k N i : Nat) : N = N / 2 ^ (k * (i + 1)) * 2 ^ (k * (i + 1)) + dg k N i * 2 ^ (k * i) + N % 2 ^ (k * i) := by
  have h1 := Nat.div_add_mod N (2 ^ (k * (i + 1)))
  have h2 := mod_succ k N i
  rw [Nat.mul_comm] at h1
  omega

theorem setDg_parts (k N i d : Nat) : setDg k N i d = N / 2 ^ (k * (i + 1)) * 2 ^ (k * (i + 1)) + d * 2 ^ (k * i) + N % 2 ^ (k * i) := by
  have h1 := parts3 k N i
  have h2 := setDg_add k N i d
  omega

theorem setDg_mod (k N i d : Nat) : setDg k N i d % 2 ^ (k * i) = N % 2 ^ (k * i) := by
  rw [setDg_parts, pow_succ_mul]
  rw [show N / (2 ^ (k * i) * 2 ^ k) * (2 ^ (k * i) * 2 ^ k) + d * 2 ^ (k * i) + N % 2 ^ (k * i) = N % 2 ^ (k * i) + (N / (2 ^ (k * i) * 2 ^ k) * 2 ^ k + d) * 2 ^ (k * i) from by grind]
  rw [Nat.add_mul_mod_self_right, Nat.mod_mod]

theorem setDg_div (k N i d : Nat) (hd : d < 2 ^ k) : setDg k N i d / 2 ^ (k * (i + 1)) = N / 2 ^ (k * (i + 1)) := by
  rw [setDg_parts]
  have h1 := Nat.mod_lt N (pow_pos2 (k * i))
  have h2 : d * 2 ^ (k * i) + N % 2 ^ (k * i) < 2 ^ (k * (i + 1)) := by
    rw [pow_succ_mul]
    have : (d + 1) * 2 ^ (k * i) ≤ 2 ^ k * 2 ^ (k * i) := Nat.mul_le_mul_right _ hd
    grind
  rw [Nat.add_assoc, Nat.mul_comm, Nat.mul_add_div (pow_pos2 _), Nat.div_eq_of_lt h2, Nat.add_zero]

theorem dg_setDg_same (k N i d : Nat) (hd : d < 2 ^ k) : dg k (setDg k N i d) i = d := by
  have h := mod_succ k (setDg k N i d) i
  have h1 := setDg_parts k N i d
  have h3 := setDg_div k N i d hd
  have h4 := Nat.div_add_mod (setDg k N i d) (2 ^ (k * (i + 1)))
  rw [h3, h, setDg_mod, Nat.mul_comm] at h4
  have h5 : dg k (setDg k N i d) i * 2 ^ (k * i) = d * 2 ^ (k * i) := by omega
  exact Nat.eq_of_mul_eq_mul_right (pow_pos2 _) h5

theorem dg_of_mod (k N M i n : Nat) (h : N % 2 ^ (k * n) = M % 2 ^ (k * n)) (hi : i < n) : dg k N i = dg k M i := by
  have key : ∀ N, dg k N i = dg k (N % 2 ^ (k * n)) i := by
    intro N
    unfold dg
    obtain ⟨t, rfl⟩ : ∃ t, n = i + 1 + t := ⟨n - i - 1, by omega⟩
    have e : 2 ^ (k * (i + 1 + t)) = 2 ^ (k * i) * (2 ^ k * 2 ^ (k * t)) := by
      rw [Nat.mul_add, Nat.mul_succ, Nat.pow_add, Nat.pow_add, Nat.mul_assoc]
    rw [e, Nat.mod_mul_right_div_self, Nat.mod_mul_right_mod]
  rw [key N, key M, h]

theorem dg_of_div (k N M i n : Nat) (h : N / 2 ^ (k * n) = M / 2 ^ (k * n)) (hi : n ≤ i) : dg k N i = dg k M i := by
  obtain ⟨t, rfl⟩ : ∃ t, i = n + t := ⟨i - n, by omega⟩
  unfold dg
  rw [Nat.mul_add, Nat.pow_add, ← Nat.div_div_eq_div_mul, ← Nat.div_div_eq_div_mul, h]

theorem dg_setDg_other (k N i j d : Nat) (hd : d < 2 ^ k) (hj : j ≠ i) : dg k (setDg k N i d) j = dg k N j := by
  rcases Nat.lt_or_gt_of_ne hj with h | h
  · exact dg_of_mod k _ _ j i (setDg_mod k N i d) h
  · exact dg_of_div k _ _ j (i + 1) (setDg_div k N i d hd) h

theorem setDg_lt (k N i d n : Nat) (hN : N < 2 ^ (k * n)) (hi : i < n) (hd : d < 2 ^ k) : setDg k N i d < 2 ^ (k * n) := by
  rcases Nat.lt_or_ge (setDg k N i d) (2 ^ (k * n)) with h | h
  · exact h
  · exfalso
    obtain ⟨t, rfl⟩ : ∃ t, n = i + 1 + t := ⟨n - i - 1, by omega⟩
    have e : 2 ^ (k * (i + 1 + t)) = 2 ^ (k * (i + 1)) * 2 ^ (k * t) := by rw [Nat.mul_add k (i+1) t, Nat.pow_add]
    have h1 := setDg_div k N i d hd
    have h2 : N / 2 ^ (k * (i + 1)) < 2 ^ (k * t) := by
      rw [Nat.div_lt_iff_lt_mul (pow_pos2 _), Nat.mul_comm, ← e]; exact hN
    have h3 : 2 ^ (k * t) ≤ setDg k N i d / 2 ^ (k * (i + 1)) := by
      rw [Nat.le_div_iff_mul_le (pow_pos2 _), Nat.mul_comm, ← e]; exact h
    omega

/-- how many digits N has -/
def nd (k N : Nat) : Nat := if N = 0 then 0 else N.log2 / k + 1

theorem nd_zero (k : Nat) : nd k 0 = 0 := by simp [nd]

theorem nd_unique (k N n : Nat) (hk : 0 < k) (h1 : N < 2 ^ (k * n)) (h2 : n = 0 ∨ 2 ^ (k * (n - 1)) ≤ N) : nd k N = n := by
  unfold nd
  by_cases h0 : N = 0
  · subst h0
    rcases h2 with rfl | h2
    · simp
    · have := pow_pos2 (k * (n - 1)); omega
  · rw [if_neg h0]
    rcases h2 with rfl | h2
    · simp at h1; omega
    · have a1 : N.log2 < k * n := (Nat.log2_lt h0).2 h1
      have a2 : k * (n - 1) ≤ N.log2 := (Nat.le_log2 h0).2 h2
      have a3 : N.log2 / k < n := by rw [Nat.div_lt_iff_lt_mul hk, Nat.mul_comm]; exact a1
      have a4 : n - 1 ≤ N.log2 / k := by rw [Nat.le_div_iff_mul_le hk, Nat.mul_comm]; exact a2
      omega

theorem lt_nd (k N : Nat) (hk : 0 < k) : N < 2 ^ (k * nd k N) := by
  unfold nd
  by_cases h0 : N = 0
  · rw [if_pos h0, h0]; exact pow_pos2 _
  · rw [if_neg h0, ← Nat.log2_lt h0]
    exact Nat.lt_mul_div_succ N.log2 hk

theorem nd_le (k N n : Nat) (hk : 0 < k) (h : N < 2 ^ (k * n)) : nd k N ≤ n := by
  unfold nd
  by_cases h0 : N = 0
  · rw [if_pos h0]; omega
  · rw [if_neg h0]
    have a1 : N.log2 < k * n := (Nat.log2_lt h0).2 h
    have a3 : N.log2 / k < n := by rw [Nat.div_lt_iff_lt_mul hk, Nat.mul_comm]; exact a1
    exact a3

theorem nd_pos (k N : Nat) (h0 : N ≠ 0) : 0 < nd k N := by unfold nd; rw [if_neg h0]; exact Nat.succ_pos _

theorem nd_le_pow (k N : Nat) (h0 : N ≠ 0) : 2 ^ (k * (nd k N - 1)) ≤ N := by
  unfold nd; rw [if_neg h0, Nat.add_sub_cancel, ← Nat.le_log2 h0]; exact Nat.mul_div_le _ _

theorem nd_lt (k N M : Nat) (hk : 0 < k) (h : nd k N < nd k M) : N < M := by
  have h1 := lt_nd k N hk
  have h0 : M ≠ 0 := by rintro rfl; rw [nd_zero] at h; omega
  have h2 := nd_le_pow k M h0
  have h3 : 2 ^ (k * nd k N) ≤ 2 ^ (k * (nd k M - 1)) := Nat.pow_le_pow_right (by decide) (Nat.mul_le_mul_left k (by omega))
  omega

theorem div_succ (k N i : Nat) : N / 2 ^ (k * i) = N / 2 ^ (k * (i + 1)) * 2 ^ k + dg k N i := by
  have h := Nat.div_add_mod (N / 2 ^ (k * i)) (2 ^ k)
  rw [Nat.div_div_eq_div_mul, ← pow_succ_mul] at h
  unfold dg
  rw [Nat.mul_comm (N / 2 ^ (k * (i + 1)))]; omega

theorem lt_of_div_lt {a b c : Nat} (h : a / c < b / c) : a < b := by
  rcases Nat.lt_or_ge a b with h1 | h1
  · exact h1
  · have := Nat.div_le_div_right (c := c) h1; omega

theorem lt_of_dg (k N M i : Nat) (h : N / 2 ^ (k * (i + 1)) = M / 2 ^ (k * (i + 1))) (hd : dg k N i < dg k M i) : N < M := by
  apply lt_of_div_lt (c := 2 ^ (k * i))
  rw [div_succ, div_succ k M, h]; omega

theorem eq_of_dg (k N M i : Nat) (h : N / 2 ^ (k * (i + 1)) = M / 2 ^ (k * (i + 1))) (hd : dg k N i = dg k M i) : N / 2 ^ (k * i) = M / 2 ^ (k * i) := by
  rw [div_succ, div_succ k M, h, hd]

/-- how many bits -/
def bl (x : Nat) : Nat := if x = 0 then 0 else x.log2 + 1

theorem bl_pos (N : Nat) (h : N ≠ 0) : 0 < bl N := by unfold bl; rw [if_neg h]; omega
theorem bl_ge (N : Nat) (h : N ≠ 0) : 2 ^ (bl N - 1) ≤ N := by unfold bl; rw [if_neg h]; simpa using Nat.log2_self_le h
theorem bl_lt (N : Nat) : N < 2 ^ bl N := by
  unfold bl; split
  · omega
  · rename_i h; exact Nat.lt_log2_self
theorem bl_unique {N b : Nat} (h1 : 2 ^ b ≤ N) (h2 : N < 2 ^ (b + 1)) : bl N = b + 1 := by
  have h0 : N ≠ 0 := by have := pow_pos2 b; omega
  unfold bl; rw [if_neg h0]
  have a := (Nat.le_log2 h0).2 h1
  have b' := (Nat.log2_lt h0).2 h2
  omega
theorem bl_zero : bl 0 = 0 := rfl
theorem bl_shl (N k : Nat) (h : N ≠ 0) : bl (N * 2 ^ k) = bl N + k := by
  have h1 := bl_ge N h
  have h2 := bl_lt N
  have h3 := bl_pos N h
  have := bl_unique (N := N * 2 ^ k) (b := bl N - 1 + k) (by rw [Nat.pow_add]; exact Nat.mul_le_mul_right _ h1) (by
    rw [show bl N - 1 + k + 1 = bl N + k by omega, Nat.pow_add]; exact Nat.mul_lt_mul_of_pos_right h2 (pow_pos2 k))
  omega
theorem bl_mono {a b : Nat} (h : a ≤ b) : bl a ≤ bl b := by
  rcases Nat.lt_or_ge (bl b) (bl a) with h1 | h1
  · exfalso
    have ha : a ≠ 0 := by rintro rfl; rw [bl_zero] at h1; omega
    have h2 := bl_ge a ha
    have h3 := bl_lt b
    have h4 : 2 ^ bl b ≤ 2 ^ (bl a - 1) := Nat.pow_le_pow_right (by decide) (by omega)
    omega
  · exact h1
theorem bl_le_of_lt {N a : Nat} (h : N < 2 ^ a) : bl N ≤ a := by
  rcases Nat.eq_zero_or_pos N with h0 | h0
  · subst h0; rw [bl_zero]; omega
  · have h1 := bl_ge N (by omega)
    rcases Nat.lt_or_ge a (bl N) with h2 | h2
    · exfalso
      have : 2 ^ a ≤ 2 ^ (bl N - 1) := Nat.pow_le_pow_right (by decide) (by omega)
      omega
    · exact h2
theorem lt_bl_of_le {N a : Nat} (h : 2 ^ a ≤ N) : a < bl N := by
  have h2 := bl_lt N
  rcases Nat.lt_or_ge a (bl N) with h3 | h3
  · exact h3
  · exfalso
    have : 2 ^ bl N ≤ 2 ^ a := Nat.pow_le_pow_right (by decide) h3
    omega

theorem nd_word {v : Nat} (h0 : v ≠ 0) (h : v < 18446744073709551616) : nd 64 v = 1 := nd_unique 64 v 1 (by decide) (by simpa using h) (Or.inr (by simp; omega))

end Go.Proofs.YtcgceigmglikpaaDoor
