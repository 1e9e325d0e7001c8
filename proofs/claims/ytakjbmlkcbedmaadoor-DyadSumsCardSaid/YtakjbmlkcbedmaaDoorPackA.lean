/- Packed by program: Num Shelf Base NatMath NatA NatB NatC NatD NatE NatF. -/
import Derived.WalkKit
import Derived.Shelf.Strconv.Itoa0
import Derived.Shelf.Bits.Mul64
import Derived.Shelf.Spec.TrailingZeros
import Derived.Shelf.Spec.BitsCarry
import Derived.Test.YtakjbmlkcbedmaaDoorProg
import Derived.RowKit3
import Derived.Lib.Hide
import Derived.Laws.MakeOwn
import Derived.Laws.CopyOwn
import Derived.Deep.Draws
import Derived.Deep.QuietTactic
import Derived.BigQuiet
import Derived.Deep.LoopGhost
import Derived.Deep.DeepCutAuto
import Derived.Outline
/- Plain numbers: the digits of a natural in the base 2^k. -/
namespace Go.Proofs.YtakjbmlkcbedmaaDoor
set_option linter.unusedVariables false

/-- digit j of N in the base 2^k -/
def dg (k N j : Nat) : Nat := N / 2 ^ (k * j) % 2 ^ k

theorem pow_pos2 (a : Nat) : 0 < 2 ^ a := Nat.pow_pos (by decide)

theorem dg_lt (k N j : Nat) : dg k N j < 2 ^ k := Nat.mod_lt _ (pow_pos2 k)

theorem dg64_lt (N j : Nat) : dg 64 N j < 18446744073709551616 := dg_lt 64 N j

theorem dg_zero (k j : Nat) : dg k 0 j = 0 := by simp [dg]

theorem pow_succ_mul (k n : Nat) : 2 ^ (k * (n + 1)) = 2 ^ (k * n) * 2 ^ k := by rw [Nat.mul_succ, Nat.pow_add]

theorem dg_high (k N j n : Nat) (h : N < 2 ^ (k * n)) (hj : n ≤ j) : dg k N j = 0 := by
  unfold dg
  have : 2 ^ (k * n) ≤ 2 ^ (k * j) := Nat.pow_le_pow_right (by decide) (Nat.mul_le_mul_left k hj)
  rw [Nat.div_eq_of_lt (Nat.lt_of_lt_of_le h this)]; simp

/-- the lowest n+1 digits: the lowest n ones and digit n -/
theorem mod_succ (k N n : Nat) : N % 2 ^ (k * (n + 1)) = N % 2 ^ (k * n) + dg k N n * 2 ^ (k * n) := by
  rw [pow_succ_mul, Nat.mod_mul, dg, Nat.mul_comm (2 ^ (k * n))]

theorem lt_of_top (k N n : Nat) (h : N < 2 ^ (k * (n + 1))) (h0 : dg k N n = 0) : N < 2 ^ (k * n) := by
  have e := mod_succ k N n
  rw [Nat.mod_eq_of_lt h, h0] at e
  have := Nat.mod_lt N (pow_pos2 (k * n))
  omega

theorem ge_of_top (k N n : Nat) (h0 : dg k N n ≠ 0) : 2 ^ (k * n) ≤ N := by
  rcases Nat.lt_or_ge N (2 ^ (k * n)) with h | h
  · exact absurd (dg_high k N n n h (Nat.le_refl _)) h0
  · exact h

/-- equal digits, equal numbers -/
theorem dg_ext (k n : Nat) : ∀ (N M : Nat), N < 2 ^ (k * n) → M < 2 ^ (k * n) → (∀ j, j < n → dg k N j = dg k M j) → N = M := by
  intro N M hN hM h
  have key : ∀ m, m ≤ n → N % 2 ^ (k * m) = M % 2 ^ (k * m) := by
    intro m
    induction m with
    | zero => intro _; simp [Nat.mod_one]
    | succ m ih => intro hm; rw [mod_succ, mod_succ, ih (by omega), h m (by omega)]
  have := key n (Nat.le_refl _)
  rwa [Nat.mod_eq_of_lt hN, Nat.mod_eq_of_lt hM] at this

/-- digit i put in the place of what is there -/
def setDg (k N i d : Nat) : Nat := N + d * 2 ^ (k * i) - dg k N i * 2 ^ (k * i)

theorem dg_mul_le (k N i : Nat) : dg k N i * 2 ^ (k * i) ≤ N := by
  have h1 : dg k N i ≤ N / 2 ^ (k * i) := Nat.mod_le _ _
  exact Nat.le_trans (Nat.mul_le_mul_right _ h1) (Nat.div_mul_le_self _ _)

theorem setDg_add (k N i d : Nat) : setDg k N i d + dg k N i * 2 ^ (k * i) = N + d * 2 ^ (k * i) := by
  unfold setDg; have := dg_mul_le k N i; omega

/-- a number as what is below digit i, digit i, what is above -/
theorem parts3 (k N i : Nat) : N = N / 2 ^ (k * (i + 1)) * 2 ^ (k * (i + 1)) + dg k N i * 2 ^ (k * i) + N % 2 ^ (k * i) := by
  have h1 := Nat.div_add_mod N (2 ^ (k * (i + 1)))
  have h2 := mod_succ k N i
  rw [Nat.mul_comm] at h1
  omega

theorem setDg_parts (k N i d : Nat) : setDg k N i d = N / 2 ^ (k * (i + 1)) * 2 ^ (k * (i + 1)) + d * 2 ^ (k * i) + N % 2 ^ (k * i) := by
  have h1 := parts3 k N i
  have h2 := setDg_add k N i d
  omega

theorem setDg_mod (k N i d : Nat) : setDg k N i d % 2 ^ (k * i) = N % 2 ^ (k * i) := by
  rw [setDg_parts, pow_succ_mul]
  rw [show N / (2 ^ (k * i) * 2 ^ k) * (2 ^ (k * i) * 2 ^ k) + d * 2 ^ (k * i) + N % 2 ^ (k * i) = N % 2 ^ (k * i) + (N / (2 ^ (k * i) * 2 ^ k) * 2 ^ k + d) * 2 ^ (k * i) from by grind]
  rw [Nat.add_mul_mod_self_right, Nat.mod_mod]

theorem setDg_div (k N i d : Nat) (hd : d < 2 ^ k) : setDg k N i d / 2 ^ (k * (i + 1)) = N / 2 ^ (k * (i + 1)) := by
  rw [setDg_parts]
  have h1 := Nat.mod_lt N (pow_pos2 (k * i))
  have h2 : d * 2 ^ (k * i) + N % 2 ^ (k * i) < 2 ^ (k * (i + 1)) := by
    rw [pow_succ_mul]
    have : (d + 1) * 2 ^ (k * i) ≤ 2 ^ k * 2 ^ (k * i) := Nat.mul_le_mul_right _ hd
    grind
  rw [Nat.add_assoc, Nat.mul_comm, Nat.mul_add_div (pow_pos2 _), Nat.div_eq_of_lt h2, Nat.add_zero]

theorem dg_setDg_same (k N i d : Nat) (hd : d < 2 ^ k) : dg k (setDg k N i d) i = d := by
  have h := mod_succ k (setDg k N i d) i
  have h1 := setDg_parts k N i d
  have h3 := setDg_div k N i d hd
  have h4 := Nat.div_add_mod (setDg k N i d) (2 ^ (k * (i + 1)))
  rw [h3, h, setDg_mod, Nat.mul_comm] at h4
  have h5 : dg k (setDg k N i d) i * 2 ^ (k * i) = d * 2 ^ (k * i) := by omega
  exact Nat.eq_of_mul_eq_mul_right (pow_pos2 _) h5

theorem dg_of_mod (k N M i n : Nat) (h : N % 2 ^ (k * n) = M % 2 ^ (k * n)) (hi : i < n) : dg k N i = dg k M i := by
  have key : ∀ N, dg k N i = dg k (N % 2 ^ (k * n)) i := by
    intro N
    unfold dg
    obtain ⟨t, rfl⟩ : ∃ t, n = i + 1 + t := ⟨n - i - 1, by omega⟩
    have e : 2 ^ (k * (i + 1 + t)) = 2 ^ (k * i) * (2 ^ k * 2 ^ (k * t)) := by
      rw [Nat.mul_add, Nat.mul_succ, Nat.pow_add, Nat.pow_add, Nat.mul_assoc]
    rw [e, Nat.mod_mul_right_div_self, Nat.mod_mul_right_mod]
  rw [key N, key M, h]

theorem dg_of_div (k N M i n : Nat) (h : N / 2 ^ (k * n) = M / 2 ^ (k * n)) (hi : n ≤ i) : dg k N i = dg k M i := by
  obtain ⟨t, rfl⟩ : ∃ t, i = n + t := ⟨i - n, by omega⟩
  unfold dg
  rw [Nat.mul_add, Nat.pow_add, ← Nat.div_div_eq_div_mul, ← Nat.div_div_eq_div_mul, h]

theorem dg_setDg_other (k N i j d : Nat) (hd : d < 2 ^ k) (hj : j ≠ i) : dg k (setDg k N i d) j = dg k N j := by
  rcases Nat.lt_or_gt_of_ne hj with h | h
  · exact dg_of_mod k _ _ j i (setDg_mod k N i d) h
  · exact dg_of_div k _ _ j (i + 1) (setDg_div k N i d hd) h

theorem setDg_lt (k N i d n : Nat) (hN : N < 2 ^ (k * n)) (hi : i < n) (hd : d < 2 ^ k) : setDg k N i d < 2 ^ (k * n) := by
  rcases Nat.lt_or_ge (setDg k N i d) (2 ^ (k * n)) with h | h
  · exact h
  · exfalso
    obtain ⟨t, rfl⟩ : ∃ t, n = i + 1 + t := ⟨n - i - 1, by omega⟩
    have e : 2 ^ (k * (i + 1 + t)) = 2 ^ (k * (i + 1)) * 2 ^ (k * t) := by rw [Nat.mul_add k (i+1) t, Nat.pow_add]
    have h1 := setDg_div k N i d hd
    have h2 : N / 2 ^ (k * (i + 1)) < 2 ^ (k * t) := by
      rw [Nat.div_lt_iff_lt_mul (pow_pos2 _), Nat.mul_comm, ← e]; exact hN
    have h3 : 2 ^ (k * t) ≤ setDg k N i d / 2 ^ (k * (i + 1)) := by
      rw [Nat.le_div_iff_mul_le (pow_pos2 _), Nat.mul_comm, ← e]; exact h
    omega

/-- how many digits N has -/
def nd (k N : Nat) : Nat := if N = 0 then 0 else N.log2 / k + 1

theorem nd_zero (k : Nat) : nd k 0 = 0 := by simp [nd]

theorem nd_unique (k N n : Nat) (hk : 0 < k) (h1 : N < 2 ^ (k * n)) (h2 : n = 0 ∨ 2 ^ (k * (n - 1)) ≤ N) : nd k N = n := by
  unfold nd
  by_cases h0 : N = 0
  · subst h0
    rcases h2 with rfl | h2
    · simp
    · have := pow_pos2 (k * (n - 1)); omega
  · rw [if_neg h0]
    rcases h2 with rfl | h2
    · simp at h1; omega
    · have a1 : N.log2 < k * n := (Nat.log2_lt h0).2 h1
      have a2 : k * (n - 1) ≤ N.log2 := (Nat.le_log2 h0).2 h2
      have a3 : N.log2 / k < n := by rw [Nat.div_lt_iff_lt_mul hk, Nat.mul_comm]; exact a1
      have a4 : n - 1 ≤ N.log2 / k := by rw [Nat.le_div_iff_mul_le hk, Nat.mul_comm]; exact a2
      omega

theorem lt_nd (k N : Nat) (hk : 0 < k) : N < 2 ^ (k * nd k N) := by
  unfold nd
  by_cases h0 : N = 0
  · rw [if_pos h0, h0]; exact pow_pos2 _
  · rw [if_neg h0, ← Nat.log2_lt h0]
    exact Nat.lt_mul_div_succ N.log2 hk

theorem nd_le (k N n : Nat) (hk : 0 < k) (h : N < 2 ^ (k * n)) : nd k N ≤ n := by
  unfold nd
  by_cases h0 : N = 0
  · rw [if_pos h0]; omega
  · rw [if_neg h0]
    have a1 : N.log2 < k * n := (Nat.log2_lt h0).2 h
    have a3 : N.log2 / k < n := by rw [Nat.div_lt_iff_lt_mul hk, Nat.mul_comm]; exact a1
    exact a3

theorem nd_pos (k N : Nat) (h0 : N ≠ 0) : 0 < nd k N := by unfold nd; rw [if_neg h0]; exact Nat.succ_pos _

theorem nd_le_pow (k N : Nat) (h0 : N ≠ 0) : 2 ^ (k * (nd k N - 1)) ≤ N := by
  unfold nd; rw [if_neg h0, Nat.add_sub_cancel, ← Nat.le_log2 h0]; exact Nat.mul_div_le _ _

theorem nd_lt (k N M : Nat) (hk : 0 < k) (h : nd k N < nd k M) : N < M := by
  have h1 := lt_nd k N hk
  have h0 : M ≠ 0 := by rintro rfl; rw [nd_zero] at h; omega
  have h2 := nd_le_pow k M h0
  have h3 : 2 ^ (k * nd k N) ≤ 2 ^ (k * (nd k M - 1)) := Nat.pow_le_pow_right (by decide) (Nat.mul_le_mul_left k (by omega))
  omega

theorem div_succ (k N i : Nat) : N / 2 ^ (k * i) = N / 2 ^ (k * (i + 1)) * 2 ^ k + dg k N i := by
  have h := Nat.div_add_mod (N / 2 ^ (k * i)) (2 ^ k)
  rw [Nat.div_div_eq_div_mul, ← pow_succ_mul] at h
  unfold dg
  rw [Nat.mul_comm (N / 2 ^ (k * (i + 1)))]; omega

theorem lt_of_div_lt {a b c : Nat} (h : a / c < b / c) : a < b := by
  rcases Nat.lt_or_ge a b with h1 | h1
  · exact h1
  · have := Nat.div_le_div_right (c := c) h1; omega

theorem lt_of_dg (k N M i : Nat) (h : N / 2 ^ (k * (i + 1)) = M / 2 ^ (k * (i + 1))) (hd : dg k N i < dg k M i) : N < M := by
  apply lt_of_div_lt (c := 2 ^ (k * i))
  rw [div_succ, div_succ k M, h]; omega

theorem eq_of_dg (k N M i : Nat) (h : N / 2 ^ (k * (i + 1)) = M / 2 ^ (k * (i + 1))) (hd : dg k N i = dg k M i) : N / 2 ^ (k * i) = M / 2 ^ (k * i) := by
  rw [div_succ, div_succ k M, h, hd]

/-- how many bits -/
def bl (x : Nat) : Nat := if x = 0 then 0 else x.log2 + 1

theorem bl_pos (N : Nat) (h : N ≠ 0) : 0 < bl N := by unfold bl; rw [if_neg h]; omega
theorem bl_ge (N : Nat) (h : N ≠ 0) : 2 ^ (bl N - 1) ≤ N := by unfold bl; rw [if_neg h]; simpa using Nat.log2_self_le h
theorem bl_lt (N : Nat) : N < 2 ^ bl N := by
  unfold bl; split
  · omega
  · rename_i h; exact Nat.lt_log2_self
theorem bl_unique {N b : Nat} (h1 : 2 ^ b ≤ N) (h2 : N < 2 ^ (b + 1)) : bl N = b + 1 := by
  have h0 : N ≠ 0 := by have := pow_pos2 b; omega
  unfold bl; rw [if_neg h0]
  have a := (Nat.le_log2 h0).2 h1
  have b' := (Nat.log2_lt h0).2 h2
  omega
theorem bl_zero : bl 0 = 0 := rfl
theorem bl_shl (N k : Nat) (h : N ≠ 0) : bl (N * 2 ^ k) = bl N + k := by
  have h1 := bl_ge N h
  have h2 := bl_lt N
  have h3 := bl_pos N h
  have := bl_unique (N := N * 2 ^ k) (b := bl N - 1 + k) (by rw [Nat.pow_add]; exact Nat.mul_le_mul_right _ h1) (by
    rw [show bl N - 1 + k + 1 = bl N + k by omega, Nat.pow_add]; exact Nat.mul_lt_mul_of_pos_right h2 (pow_pos2 k))
  omega
theorem bl_mono {a b : Nat} (h : a ≤ b) : bl a ≤ bl b := by
  rcases Nat.lt_or_ge (bl b) (bl a) with h1 | h1
  · exfalso
    have ha : a ≠ 0 := by rintro rfl; rw [bl_zero] at h1; omega
    have h2 := bl_ge a ha
    have h3 := bl_lt b
    have h4 : 2 ^ bl b ≤ 2 ^ (bl a - 1) := Nat.pow_le_pow_right (by decide) (by omega)
    omega
  · exact h1
theorem bl_le_of_lt {N a : Nat} (h : N < 2 ^ a) : bl N ≤ a := by
  rcases Nat.eq_zero_or_pos N with h0 | h0
  · subst h0; rw [bl_zero]; omega
  · have h1 := bl_ge N (by omega)
    rcases Nat.lt_or_ge a (bl N) with h2 | h2
    · exfalso
      have : 2 ^ a ≤ 2 ^ (bl N - 1) := Nat.pow_le_pow_right (by decide) (by omega)
      omega
    · exact h2
theorem lt_bl_of_le {N a : Nat} (h : 2 ^ a ≤ N) : a < bl N := by
  have h2 := bl_lt N
  rcases Nat.lt_or_ge a (bl N) with h3 | h3
  · exact h3
  · exfalso
    have : 2 ^ bl N ≤ 2 ^ a := Nat.pow_le_pow_right (by decide) h3
    omega

theorem nd_word {v : Nat} (h0 : v ≠ 0) (h : v < 18446744073709551616) : nd 64 v = 1 := nd_unique 64 v 1 (by decide) (by simpa using h) (Or.inr (by simp; omega))

end Go.Proofs.YtakjbmlkcbedmaaDoor

/- The contracts of math/bits (Len64, Mul64, TrailingZeros64) at this translation: each one application of the shelf's theorem. -/
namespace Go.Proofs.YtakjbmlkcbedmaaDoor
set_option linter.unusedVariables false
open Go.Shelf

theorem bitLenAux_eq : ∀ (f x : Nat), x < 2 ^ f → Lib.bitLenAux f x = bl x
  | 0, x, h => by simp at h; subst h; rfl
  | f + 1, x, h => by
    unfold Lib.bitLenAux
    by_cases hx : x = 0
    · rw [if_pos hx, hx]; rfl
    · rw [if_neg hx, bitLenAux_eq f (x / 2) (by rw [Nat.pow_succ] at h; omega)]
      unfold bl
      rw [if_neg hx]
      by_cases h1 : x / 2 = 0
      · rw [if_pos h1]
        have : x = 1 := by omega
        subst this; rfl
      · rw [if_neg h1, Nat.log2_def x, if_pos (by omega)]; omega

def lays129_ren : Go.Shelf.Ren := ⟨fun | 129 => 66 | n => n, fun | 53 => 42 | 3 => 3 | 4 => 4 | 46 => 78 | 5 => 5 | 9 => 9 | n => n, fun | n => n⟩
theorem lays129 : Go.Proofs.Lays.n129 Tryd.prog lays129_ren := {
  mixed := by kernel_rfl
  f129 := Tryd.func66.trans (congrArg some (by kernel_rfl))
  t3 := Tryd.underlying3
  a3 := Tryd.isAgg3
  z3 := Tryd.sizeOf3
  v3 := Tryd.zeroValue3
  t4 := Tryd.underlying4
  a4 := Tryd.isAgg4
  z4 := Tryd.sizeOf4
  v4 := Tryd.zeroValue4
  t5 := Tryd.underlying5
  a5 := Tryd.isAgg5
  z5 := Tryd.sizeOf5
  v5 := Tryd.zeroValue5
  t9 := Tryd.underlying9
  a9 := Tryd.isAgg9
  z9 := Tryd.sizeOf9
  v9 := Tryd.zeroValue9
  t46 := Tryd.underlying78
  a46 := Tryd.isAgg78
  z46 := Tryd.sizeOf78
  v46 := Tryd.zeroValue78
  t53 := Tryd.underlying42
  a53 := Tryd.isAgg42
  z53 := Tryd.sizeOf42
  v53 := Tryd.zeroValue42 }
theorem len64_any (x : Nat) (w : World) (h : x < 18446744073709551616) :
    Calls Tryd.prog 66 #[.int .u64 x] w fun e w' => e = .returned (.int .i64 (bl x)) ∧ w = w' :=
  (Any.bits_Len64 lays129 x w (by omega) (by omega)).mono fun e w' ⟨he, hw⟩ => ⟨by rw [he, Int.toNat_natCast]; unfold Lib.bitLen; rw [bitLenAux_eq 64 x h], hw.symm⟩
def lays264_ren : Go.Shelf.Ren := ⟨fun | 264 => 79 | n => n, fun | 53 => 42 | 46 => 78 | n => n, fun | n => n⟩
theorem lays264 : Go.Proofs.Lays.n264 Tryd.prog lays264_ren := {
  mixed := by kernel_rfl
  f264 := Tryd.func79.trans (congrArg some (by kernel_rfl))
  t46 := Tryd.underlying78
  a46 := Tryd.isAgg78
  z46 := Tryd.sizeOf78
  v46 := Tryd.zeroValue78
  t53 := Tryd.underlying42
  a53 := Tryd.isAgg42
  z53 := Tryd.sizeOf42
  v53 := Tryd.zeroValue42 }
theorem mul64_any (x y : Nat) (w : World) (hx : x < 18446744073709551616) (hy : y < 18446744073709551616) :
    Calls Tryd.prog 79 #[.int .u64 x, .int .u64 y] w fun e w' => e = .returned (.tuple #[.int .u64 ((x * y / 18446744073709551616 : Nat) : Int), .int .u64 ((x * y % 18446744073709551616 : Nat) : Int)]) ∧ w = w' :=
  (Any.bits_Mul64 lays264 x y hx hy w).mono fun e w' ⟨he, hw⟩ => ⟨he, hw.symm⟩
def lays29_ren : Go.Shelf.Ren := ⟨fun | 29 => 57 | n => n, fun | 0 => 0 | 3 => 3 | 4 => 4 | 5 => 5 | 22 => 42 | 25 => 78 | 54 => 82 | n => n, fun | 1 => 0 | n => n⟩
theorem lays29 : Go.Proofs.Lays7.n29 Tryd.prog lays29_ren := {
  mixed := by kernel_rfl
  f29 := Tryd.func57.trans (congrArg some (by kernel_rfl))
  t0 := Tryd.underlying0
  a0 := Tryd.isAgg0
  z0 := Tryd.sizeOf0
  v0 := Tryd.zeroValue0
  i0 := by kernel_rfl
  t3 := Tryd.underlying3
  a3 := Tryd.isAgg3
  z3 := Tryd.sizeOf3
  v3 := Tryd.zeroValue3
  i3 := by kernel_rfl
  t4 := Tryd.underlying4
  a4 := Tryd.isAgg4
  z4 := Tryd.sizeOf4
  v4 := Tryd.zeroValue4
  i4 := by kernel_rfl
  t5 := Tryd.underlying5
  a5 := Tryd.isAgg5
  z5 := Tryd.sizeOf5
  v5 := Tryd.zeroValue5
  i5 := by kernel_rfl
  t22 := Tryd.underlying42
  a22 := Tryd.isAgg42
  z22 := Tryd.sizeOf42
  v22 := Tryd.zeroValue42
  i22 := by kernel_rfl
  t25 := Tryd.underlying78
  a25 := Tryd.isAgg78
  z25 := Tryd.sizeOf78
  v25 := Tryd.zeroValue78
  i25 := by kernel_rfl
  t54 := Tryd.underlying82
  a54 := Tryd.isAgg82
  z54 := Tryd.sizeOf82
  g1 := by kernel_rfl }
/-- the table in its variable -/
def TzTab (w : World) : Prop := TabAt 0 Lib.deBruijn64tab w
/-- how many zero bits stand at the beginning -/
def tz (x : Nat) : Nat := Lib.ctz 64 x
theorem tz_spec (x : Nat) (h : x < 18446744073709551616) (h0 : x ≠ 0) : ∃ m, x = 2 ^ tz x * (2 * m + 1) ∧ tz x < 64 := by
  unfold tz Lib.ctz
  rw [if_neg h0]
  exact Lib.ctzFrom_spec 64 x (by omega) h
theorem tz64_any (x : Nat) (w : World) (h : x < 18446744073709551616) (hT : TzTab w) :
    Calls Tryd.prog 57 #[.int .u64 x] w fun e w' => e = .returned (.int .i64 (tz x)) ∧ w = w' :=
  (Any7.bits_TrailingZeros64 lays29 x h w (fun _ => hT)).mono fun e w' ⟨he, hw⟩ => ⟨he, hw.symm⟩
theorem add64_run (x y c : Nat) (hc : c ≤ 1) (w : World) :
    (callFunc 71 #[.int .u64 x, .int .u64 y, .int .u64 c]).run Tryd.prog w =
      .ok (.value (.tuple #[.int .u64 (((x + y + c) % 18446744073709551616 : Nat) : Int), .int .u64 (((x + y + c) / 18446744073709551616 : Nat) : Int)])) w := by
  rw [run_callFunc_extern Tryd.func71 (by kernel_rfl) (by kernel_rfl) (by kernel_rfl) (e := add64Entry) (by kernel_rfl), run_add64 x y c (by omega) (by omega) (by omega) (by omega)]
  simp only [Result.andThen]
  congr 5 <;> omega
theorem add64_run0 (x c : Nat) (hc : c ≤ 1) (w : World) :
    (callFunc 71 #[.int .u64 x, .int .u64 0, .int .u64 c]).run Tryd.prog w =
      .ok (.value (.tuple #[.int .u64 (((x + 0 + c) % 18446744073709551616 : Nat) : Int), .int .u64 (((x + 0 + c) / 18446744073709551616 : Nat) : Int)])) w := add64_run x 0 c hc w
theorem add64_runc (x y : Nat) (w : World) :
    (callFunc 71 #[.int .u64 x, .int .u64 y, .int .u64 0]).run Tryd.prog w =
      .ok (.value (.tuple #[.int .u64 (((x + y + 0) % 18446744073709551616 : Nat) : Int), .int .u64 (((x + y + 0) / 18446744073709551616 : Nat) : Int)])) w := add64_run x y 0 (by omega) w
theorem sub64_run (x y b : Nat) (hb : b ≤ 1) (w : World) :
    (callFunc 78 #[.int .u64 x, .int .u64 y, .int .u64 b]).run Tryd.prog w =
      .ok (.value (.tuple #[.int .u64 (((x + 18446744073709551616 - y - b) % 18446744073709551616 : Nat) : Int), .int .u64 ((if x < y + b then 1 else 0 : Nat) : Int)])) w := by
  rw [run_callFunc_extern Tryd.func78 (by kernel_rfl) (by kernel_rfl) (by kernel_rfl) (e := sub64Entry) (by kernel_rfl), run_sub64 x y b hb]
  rfl
theorem sub64_run0 (x b : Nat) (hb : b ≤ 1) (w : World) :
    (callFunc 78 #[.int .u64 x, .int .u64 0, .int .u64 b]).run Tryd.prog w =
      .ok (.value (.tuple #[.int .u64 (((x + 18446744073709551616 - 0 - b) % 18446744073709551616 : Nat) : Int), .int .u64 ((if x < 0 + b then 1 else 0 : Nat) : Int)])) w := sub64_run x 0 b hb w
end Go.Proofs.YtakjbmlkcbedmaaDoor

/- Words for memory: a slice of words that reads as a natural's digits; a block of the call's own; what is kept. -/
namespace Go.Proofs.YtakjbmlkcbedmaaDoor
set_option linter.unusedVariables false
open Go.RowKit

/-- v is a slice of n words below the heap's end that reads as the digits of N in the base 2^k. -/
def Rd (k : Nat) (w : World) (v : Value) (N n : Nat) : Prop :=
  ∃ (A : Option Addr) (c : Nat), v = .slice A n c ∧ n ≤ c ∧ n ≤ 35184372088832 ∧ N < 2 ^ (k * n) ∧
    (0 < n → ∃ b o, A = some ⟨b, o, none⟩ ∧ b < w.heap.size ∧ ∀ j, j < n → w.cell? ⟨b, o + j, none⟩ = some (.int .u64 (dg k N j)))

/-- v's memory, room and all, is one block from B on, of words, not frozen; or it has no room at all. -/
def Fr (B : Nat) (w : World) (v : Value) : Prop :=
  ∃ (A : Option Addr) (n c : Nat), v = .slice A n c ∧ n ≤ c ∧ (c = 0 ∨ ∃ b arr, A = some ⟨b, 0, none⟩ ∧ B ≤ b ∧ w.heap[b]? = some (.cells arr 42 (0, 0)) ∧ c ≤ arr.size)

/-- block b is of the call's own: n words that read as the digits of N. -/
def Own (k : Nat) (w : World) (b : Nat) (N n : Nat) : Prop :=
  ∃ arr : Array Value, w.heap[b]? = some (.cells arr 42 (0, 0)) ∧ arr.size = n ∧ N < 2 ^ (k * n) ∧ ∀ j, j < n → arr[j]? = some (.int .u64 (dg k N j))

theorem lt_size_of_some {w : World} {b : Nat} {o : Obj} (h : w.heap[b]? = some o) : b < w.heap.size := by
  rcases Nat.lt_or_ge b w.heap.size with hlt | hge
  · exact hlt
  · rw [Array.getElem?_eq_none hge] at h; cases h

section
variable {k : Nat} {w w' : World} {v : Value} {N n B b : Nat}

theorem Rd.lt (h : Rd k w v N n) : N < 2 ^ (k * n) := by obtain ⟨A, c, _, _, _, h, _⟩ := h; exact h

theorem Rd.belowB (h : Rd k w v N n) (hb : Below B w w') (hB : w.heap.size ≤ B) : Rd k w' v N n := by
  obtain ⟨A, c, rfl, h1, h2, h3, h4⟩ := h
  refine ⟨A, c, rfl, h1, h2, h3, fun hn => ?_⟩
  obtain ⟨b, o, rfl, hlt, hc⟩ := h4 hn
  exact ⟨b, o, rfl, Nat.lt_of_lt_of_le hlt hb.size, fun j hj => (hb.cell (p := ⟨b, o + j, none⟩) (Nat.lt_of_lt_of_le hlt hB)).trans (hc j hj)⟩

theorem Rd.below (h : Rd k w v N n) (hb : Below w.heap.size w w') : Rd k w' v N n := h.belowB hb (Nat.le_refl _)

theorem Rd.alloc (h : Rd k w v N n) (o : Obj) : Rd k (w.alloc o) v N n := h.below ((Below.refl _ _).alloc (Nat.le_refl _) o)

theorem Rd.none_ {c : Nat} {A : Option Addr} : Rd k w (.slice A 0 c) 0 0 :=
  ⟨A, c, rfl, Nat.zero_le _, Nat.zero_le _, by simp, fun h => absurd h (by omega)⟩

theorem Rd.nil_ : Rd k w (.slice none 0 0) 0 0 := Rd.none_

theorem Rd.len (h : Rd k w v N n) : n ≤ 35184372088832 := by obtain ⟨A, c, _, _, h2, _, _⟩ := h; omega

theorem Rd.zero_of (h : Rd k w v N 0) : N = 0 := by have := h.lt; simp at this; exact this

theorem Rd.at_ {A : Option Addr} {m c : Nat} (h : Rd k w (.slice A m c) N n) : m = n ∧ n ≤ c ∧ n ≤ 35184372088832 ∧
    (0 < n → ∃ b o, A = some ⟨b, o, none⟩ ∧ b < w.heap.size ∧ ∀ j, j < n → w.cell? ⟨b, o + j, none⟩ = some (.int .u64 (dg k N j))) := by
  obtain ⟨A', c', e, h1, h2, h3, h4⟩ := h
  injection e with e1 e2 e3
  subst e1 e2 e3
  exact ⟨rfl, h1, h2, h4⟩

theorem Rd.form (h : Rd k w v N n) : ∃ A c, v = .slice A n c ∧ n ≤ c ∧ n ≤ 35184372088832 := by obtain ⟨A, c, e, h1, h2, _⟩ := h; exact ⟨A, c, e, h1, h2⟩

theorem Own.lt (h : Own k w b N n) : b < w.heap.size := by obtain ⟨arr, h, _⟩ := h; exact lt_size_of_some h

theorem Own.num (h : Own k w b N n) : N < 2 ^ (k * n) := by obtain ⟨arr, _, _, h, _⟩ := h; exact h

theorem Own.cell (h : Own k w b N n) {j : Nat} (hj : j < n) : w.cell? ⟨b, j, none⟩ = some (.int .u64 (dg k N j)) := by
  obtain ⟨arr, hb, _, _, hc⟩ := h
  unfold World.cell?
  simp only [hb]
  exact hc j hj

theorem Own.free (h : Own k w b N n) (j : Nat) : w.frozen? ⟨b, j, none⟩ = false := by
  obtain ⟨arr, hb, _, _, hc⟩ := h
  unfold World.frozen?
  simp [hb]

theorem Own.set (h : Own k w b N n) {j : Nat} (hj : j < n) {d : Nat} (hd : d < 2 ^ k) : Own k (w.setCell ⟨b, j, none⟩ (.int .u64 d)) b (setDg k N j d) n := by
  obtain ⟨arr, hb, hs, hN, hc⟩ := h
  refine ⟨arr.set! j (.int .u64 d), ?_, by simp [hs], setDg_lt k N j d n hN hj hd, fun i hi => ?_⟩
  · simp [World.setCell, Array.getElem?_modify, hb]
  · by_cases hij : i = j
    · subst hij
      rw [dg_setDg_same k N i d hd]
      simp [hs, hi]
    · rw [dg_setDg_other k N j i d hd hij, ← hc i hi]
      simp [Ne.symm hij]

theorem Own.below (h : Own k w b N n) (hb : Below B w w') (hB : b < B) : Own k w' b N n := by
  obtain ⟨arr, h1, h2⟩ := h
  exact ⟨arr, (hb.block b hB).trans h1, h2⟩

theorem Own.alloc (h : Own k w b N n) (o : Obj) : Own k (w.alloc o) b N n := h.below (B := w.heap.size) ((Below.refl _ _).alloc (Nat.le_refl _) o) h.lt

theorem Own.setOther (h : Own k w b N n) {p : Addr} (hp : p.block ≠ b) (u : Value) : Own k (w.setCell p u) b N n := by
  obtain ⟨arr, h1, h2⟩ := h
  exact ⟨arr, (Below.heap_setCell w p u b (Ne.symm hp)).trans h1, h2⟩

theorem Own.drew (h : Own k w b N n) : Own k w.drew b N n := h
theorem Own.drewN (h : Own k w b N n) (m : Nat) : Own k (w.drewN m) b N n := h
theorem Rd.drew (h : Rd k w v N n) : Rd k w.drew v N n := h
theorem Rd.drewN (h : Rd k w v N n) (m : Nat) : Rd k (w.drewN m) v N n := h
theorem Fr.drew (h : Fr B w v) : Fr B w.drew v := h
theorem Fr.drewN (h : Fr B w v) (m : Nat) : Fr B (w.drewN m) v := h

theorem Own.rd (h : Own k w b N n) (hn : n ≤ 35184372088832) : Rd k w (.slice (some ⟨b, 0, none⟩) n n) N n :=
  ⟨_, n, rfl, Nat.le_refl _, hn, h.num, fun _ => ⟨b, 0, rfl, h.lt, fun j hj => by rw [Nat.zero_add]; exact h.cell hj⟩⟩

theorem Own.fr (h : Own k w b N n) (hB : B ≤ b) : Fr B w (.slice (some ⟨b, 0, none⟩) n n) := by
  obtain ⟨arr, h1, h2, _⟩ := h
  exact ⟨_, n, n, rfl, Nat.le_refl _, Or.inr ⟨b, arr, rfl, hB, h1, by omega⟩⟩

theorem getElem?_madeCells (z : Value) (m j : Nat) (hj : j < m) : (madeCells #[z] m)[j]? = some z := by
  unfold madeCells
  simp [hj, Nat.mod_one]

theorem heap_alloc_at (w : World) (o : Obj) : (w.alloc o).heap[w.heap.size]? = some o := by
  show (w.heap.push o)[w.heap.size]? = _
  rw [Array.getElem?_push, if_pos rfl]

theorem Own.make (m : Nat) : Own k (w.alloc (.cells (madeCells #[.int .u64 0] m) 42)) w.heap.size 0 m := by
  refine ⟨madeCells #[.int .u64 0] m, heap_alloc_at w _, size_madeCells _ _, pow_pos2 _, fun j hj => ?_⟩
  rw [getElem?_madeCells _ _ _ hj, dg_zero]; rfl

theorem Fr.below (h : Fr B w v) (hb : Below w.heap.size w w') : Fr B w' v := by
  obtain ⟨A, n, c, rfl, h0, h1⟩ := h
  refine ⟨A, n, c, rfl, h0, ?_⟩
  rcases h1 with h1 | ⟨b, arr, e, hB, hh, hc⟩
  · exact Or.inl h1
  · exact Or.inr ⟨b, arr, e, hB, (hb.block b (lt_size_of_some hh)).trans hh, hc⟩

theorem Fr.mono {B' : Nat} (h : Fr B w v) (hB : B' ≤ B) : Fr B' w v := by
  obtain ⟨A, n, c, rfl, h0, h1⟩ := h
  refine ⟨A, n, c, rfl, h0, ?_⟩
  rcases h1 with h1 | ⟨b, arr, e, hb, hh, hc⟩
  · exact Or.inl h1
  · exact Or.inr ⟨b, arr, e, Nat.le_trans hB hb, hh, hc⟩

theorem Fr.none_ : Fr B w (.slice none 0 0) := ⟨none, 0, 0, rfl, Nat.le_refl _, Or.inl rfl⟩

/-- a shorter piece from the same begin -/
theorem Fr.cut {A : Option Addr} {m c m' : Nat} (h : Fr B w (.slice A m c)) (hm : m' ≤ c) : Fr B w (.slice A m' c) := by
  obtain ⟨A', n, c', e, h0, h1⟩ := h
  injection e with e1 e2 e3
  subst e1 e2 e3
  exact ⟨_, m', _, rfl, hm, h1⟩

theorem Rd.cut {A : Option Addr} {m c m' : Nat} (h : Rd k w (.slice A m c) N n) (hm : m' ≤ n) (hN : N < 2 ^ (k * m')) : Rd k w (.slice A m' c) N m' := by
  obtain ⟨rfl, h1, h2, h4⟩ := h.at_
  refine ⟨A, c, rfl, by omega, by omega, hN, fun hn => ?_⟩
  obtain ⟨b, o, e, hb, hc⟩ := h4 (by omega)
  exact ⟨b, o, e, hb, fun j hj => hc j (by omega)⟩

end

theorem info_word : (Tryd.prog.info? 42).map (fun i => (i.zero, i.size, i.bytes)) = some (some (.int .u64 0), 1, 8) := by kernel_rfl

theorem make_words (m : Nat) (hm : m ≤ 35184372088832) (w : World) :
    (Instr.makeSlice 24 (.int .i64 (m : Int)) (.int .i64 (m : Int))).run Tryd.prog w = .ok (.slice (some ⟨w.heap.size, 0, none⟩) m m) (w.alloc (.cells (madeCells #[.int .u64 0] m) 42)) := by
  obtain ⟨i0, hi, hz0, hz1, hz2⟩ := info_parts info_word
  have h := run_make (P := Tryd.prog) w 24 42 i0 (.int .u64 0) Tryd.underlying24 hi hz0 .i64 .i64 (m : Int) (m : Int) (by omega) (by omega) (by rw [hz2]; omega) (by omega)
  rw [hz1, Nat.mul_one, Int.toNat_natCast] at h
  exact h

theorem make_words1 (m : Nat) (hm : m + 1 ≤ 35184372088832) (w : World) :
    (Instr.makeSlice 24 (.int .i64 ((m : Int) + 1)) (.int .i64 ((m : Int) + 1))).run Tryd.prog w = .ok (.slice (some ⟨w.heap.size, 0, none⟩) (m + 1) (m + 1)) (w.alloc (.cells (madeCells #[.int .u64 0] (m + 1)) 42)) :=
  make_words (m + 1) hm w

theorem make_words2 (m n : Nat) (hm : m + n ≤ 35184372088832) (w : World) :
    (Instr.makeSlice 24 (.int .i64 ((m : Int) + (n : Int))) (.int .i64 ((m : Int) + (n : Int)))).run Tryd.prog w = .ok (.slice (some ⟨w.heap.size, 0, none⟩) (m + n) (m + n)) (w.alloc (.cells (madeCells #[.int .u64 0] (m + n)) 42)) := by
  have h := make_words (m + n) hm w
  rw [Int.natCast_add] at h
  exact h

theorem Own.setRow {k : Nat} {w : World} {g m : Nat} (h : Own k w g 0 m) (N n : Nat) (hn : n ≤ m) (hN : N < 2 ^ (k * n)) {cur : List Value} {t : TypeId} (hc : w.heap[g]? = some (.cells cur.toArray t (0, 0)))
    {w' : World} (hw : w'.heap[g]? = some (.cells (splice cur 0 ((List.range n).map fun j => Value.int .u64 (dg k N j))).toArray t (0, 0))) : Own k w' g N m := by
  obtain ⟨arr, h1, h2, h3, h4⟩ := h
  rw [hc] at h1
  injection h1 with h1; injection h1 with h1 h1'
  subst h1; subst h1'
  have hl : cur.length = m := by simpa using h2
  refine ⟨_, hw, by simp only [List.size_toArray]; rw [length_splice _ _ _ (by simp; omega)]; exact hl, Nat.lt_of_lt_of_le hN (Nat.pow_le_pow_right (by decide) (Nat.mul_le_mul_left k hn)), fun j hj => ?_⟩
  have h5 := h4 j hj
  simp only [List.getElem?_toArray] at h5 ⊢
  unfold splice
  simp only [List.take_zero, List.nil_append, List.length_map, List.length_range, Nat.zero_add]
  by_cases hjn : j < n
  · rw [List.getElem?_append_left (by simp; exact hjn)]; simp [hjn]
  · rw [List.getElem?_append_right (by simp; omega)]
    simp only [List.length_map, List.length_range, List.getElem?_drop, show n + (j - n) = j from by omega, h5]
    rw [dg_zero, dg_high k N j n hN (by omega)]

theorem wpList_copy_rd {w : World} {ops : Array Oper} {rest : List Oper} {o : Oper} {a : Act} {Q : Exit → Act → World → Prop} (hgd : o.guard = none) (d s : Operand)
    (ho : o.op = .call { callee := .builtin .copy, args := #[d, s], argTypes := #[24, 24] }) (g m : Nat) (A : Option Addr) (n c : Nat)
    (hd : a.eval d = .slice (some ⟨g, 0, none⟩) m m) (hs : a.eval s = .slice A n c) (k N : Nat) (hown : Own k w g 0 m) (hsrc : Rd k w (.slice A n c) N n) (hnm : n ≤ m) (B : Nat) (w0 : World) (hb : Below B w0 w) (hBg : B ≤ g)
    (h : ∀ w', Own k w' g N m → Below B w0 w' → wpList Tryd.prog ops Q rest (a.put o.dst (goInt n)) w') :
    wpList Tryd.prog ops Q (o :: rest) a w := by
  obtain ⟨arr, h1, h2, h3, h4⟩ := id hown
  obtain ⟨_, hA⟩ := hsrc.at_
  refine wpList_copy_splice hgd d s 24 24 ho 42 Tryd.underlying24 (by kernel_rfl) _ _ _ _ _ _ hd hs g 0 arr.toList 42 (by simpa using h1) ((List.range n).map fun j => Value.int .u64 (dg k N j)) (by simp; exact (Nat.min_eq_left hnm).symm) ?_ (by simp; omega) (by simp [Value.oneCell']) B w0 hb hBg ?_
  · intro hp
    simp at hp
    obtain ⟨b, o, rfl, hlt, hc⟩ := hA.2.2 hp
    refine ⟨rfl, _, rfl, fun j v hj => ?_⟩
    rw [List.getElem?_map, Option.map_eq_some_iff] at hj
    obtain ⟨q, hq, rfl⟩ := hj
    obtain ⟨hj1, rfl⟩ : j < n ∧ j = q := by
      rw [List.getElem?_eq_some_iff] at hq
      obtain ⟨h1, h2⟩ := hq
      simp at h1 h2
      exact ⟨h1, h2⟩
    have := hc j hj1
    unfold Addr.add
    by_cases h0 : j = 0
    · subst h0; simpa using this
    · simpa [h0] using this
  · intro w' hw hb'
    have := h w' (Own.setRow hown N n hnm hsrc.lt (cur := arr.toList) (by simpa using h1) hw.out) hb'
    simpa using this

theorem Fr.setCell {B : Nat} {w : World} {v : Value} (h : Fr B w v) {p : Addr} (hp : p.block < B) (u : Value) : Fr B (w.setCell p u) v := by
  obtain ⟨A, n, c, rfl, h0, h1⟩ := h
  refine ⟨A, n, c, rfl, h0, ?_⟩
  rcases h1 with h1 | ⟨b, arr, e, hB, hh, hc⟩
  · exact Or.inl h1
  · exact Or.inr ⟨b, arr, e, hB, (Below.heap_setCell w p u b (by omega)).trans hh, hc⟩

theorem Rd.setCell_fr {k B : Nat} {w : World} {v : Value} {N n : Nat} (h : Rd k w v N n) (hf : Fr B w v) {p : Addr} (hp : p.block < B) (u : Value) : Rd k (w.setCell p u) v N n := by
  obtain ⟨A, c, rfl, h1, h2, h3, h4⟩ := h
  refine ⟨A, c, rfl, h1, h2, h3, fun hn => ?_⟩
  obtain ⟨b, o, rfl, hlt, hc⟩ := h4 hn
  obtain ⟨A', n', c', e, h0, h5⟩ := hf
  injection e with e1 e2 e3
  subst e2 e3
  rcases h5 with h5 | ⟨b', arr, e', hB, hh, hc'⟩
  · omega
  · rw [e'] at e1
    injection e1 with e1
    injection e1 with e1 e4
    subst e1 e4
    refine ⟨b, 0, rfl, by simp [World.setCell]; exact hlt, fun j hj => ?_⟩
    rw [World.cell?_setCell_other w p ⟨b, 0 + j, none⟩ u (fun e => by subst e; simp at hp; omega)]
    exact hc j hj

theorem below_cell {W w1 : World} (hb : Below W.heap.size W w1) : (∀ b o, b < W.heap.size → w1.cell? ⟨b, o, none⟩ = W.cell? ⟨b, o, none⟩) ∧ (∀ b o, b < W.heap.size → w1.frozen? ⟨b, o, none⟩ = W.frozen? ⟨b, o, none⟩) :=
  ⟨fun b o h => hb.cell (p := ⟨b, o, none⟩) h, fun b o h => hb.frozen (p := ⟨b, o, none⟩) h⟩

theorem box1_cell (w : World) (c1 c2 : Array Value) (t1 t2 : TypeId) (j : Nat) : ((w.alloc (.cells c1 t1)).alloc (.cells c2 t2)).cell? ⟨w.heap.size, j, none⟩ = c1[j]? := by
  rw [World.cell?_alloc_past _ _ _ (by simp), World.cell?_alloc_at _ _ _ _ rfl]
theorem box2_cell (w : World) (c1 c2 : Array Value) (t1 t2 : TypeId) (j : Nat) : ((w.alloc (.cells c1 t1)).alloc (.cells c2 t2)).cell? ⟨w.heap.size + 1, j, none⟩ = c2[j]? := by
  rw [World.cell?_alloc_at _ _ _ _ (by simp)]
theorem box1_free (w : World) (c1 c2 : Array Value) (t1 t2 : TypeId) (j : Nat) : ((w.alloc (.cells c1 t1)).alloc (.cells c2 t2)).frozen? ⟨w.heap.size, j, none⟩ = false := by
  unfold World.frozen?
  have h : ((w.alloc (.cells c1 t1)).alloc (.cells c2 t2)).heap[w.heap.size]? = some (.cells c1 t1) := by
    rw [Below.heap_alloc _ _ _ (by simp)]; exact heap_alloc_at w _
  simp [h]
theorem box2_free (w : World) (c1 c2 : Array Value) (t1 t2 : TypeId) (j : Nat) : ((w.alloc (.cells c1 t1)).alloc (.cells c2 t2)).frozen? ⟨w.heap.size + 1, j, none⟩ = false := by
  unfold World.frozen?
  have h : ((w.alloc (.cells c1 t1)).alloc (.cells c2 t2)).heap[w.heap.size + 1]? = some (.cells c2 t2) := by
    have := heap_alloc_at (w.alloc (.cells c1 t1)) (.cells c2 t2)
    simpa using this
  simp only [h]
  simp

/-- two boxes of three cells, as they stand behind a call that left them alone -/
theorem two_boxes {w w1 : World} {a b c a' b' c' : Value} {t1 t2 : TypeId} (hb : Below ((w.alloc (.cells #[a, b, c] t1)).alloc (.cells #[a', b', c'] t2)).heap.size ((w.alloc (.cells #[a, b, c] t1)).alloc (.cells #[a', b', c'] t2)) w1) :
    (w1.cell? ⟨w.heap.size, 0, none⟩ = some a ∧ w1.cell? ⟨w.heap.size, 1, none⟩ = some b ∧ w1.cell? ⟨w.heap.size, 2, none⟩ = some c) ∧
    (w1.cell? ⟨w.heap.size + 1, 0, none⟩ = some a' ∧ w1.cell? ⟨w.heap.size + 1, 1, none⟩ = some b' ∧ w1.cell? ⟨w.heap.size + 1, 2, none⟩ = some c') ∧
    (∀ j, w1.frozen? ⟨w.heap.size, j, none⟩ = false) ∧ (∀ j, w1.frozen? ⟨w.heap.size + 1, j, none⟩ = false) := by
  obtain ⟨hc, hf⟩ := below_cell hb
  exact ⟨⟨(hc _ _ (by simp; omega)).trans (box1_cell ..), (hc _ _ (by simp; omega)).trans (box1_cell ..), (hc _ _ (by simp; omega)).trans (box1_cell ..)⟩,
    ⟨(hc _ _ (by simp)).trans (box2_cell ..), (hc _ _ (by simp)).trans (box2_cell ..), (hc _ _ (by simp)).trans (box2_cell ..)⟩,
    fun j => (hf _ _ (by simp; omega)).trans (box1_free ..), fun j => (hf _ _ (by simp)).trans (box2_free ..)⟩

/-- what the walk is told of the package-level tables -/
def Gl (w : World) : Prop := TzTab w ∧ 0 < w.heap.size

theorem Gl.below {w w' : World} (h : Gl w) (hb : Below w.heap.size w w') : Gl w' :=
  ⟨fun j hj => (hb.cell (p := ⟨0, j, none⟩) h.2).trans (h.1 j hj), Nat.lt_of_lt_of_le h.2 hb.size⟩

theorem Gl.tz {w : World} (h : Gl w) : TzTab w := h.1

theorem Gl.alloc {w : World} (h : Gl w) (o : Obj) : Gl (w.alloc o) := h.below ((Below.refl _ _).alloc (Nat.le_refl _) o)

/-- -1, 0, 1 -/
def cmpN (a b : Nat) : Int := if a < b then -1 else if b < a then 1 else 0

theorem cmpN_lt {a b : Nat} (h : a < b) : cmpN a b = -1 := by unfold cmpN; rw [if_pos h]
theorem cmpN_gt {a b : Nat} (h : b < a) : cmpN a b = 1 := by unfold cmpN; rw [if_neg (by omega), if_pos h]
theorem cmpN_eq {a b : Nat} (h : a = b) : cmpN a b = 0 := by unfold cmpN; rw [if_neg (by omega), if_neg (by omega)]

theorem add64c_ex (x y : Nat) (hx : x < 18446744073709551616) (hy : y < 18446744073709551616) : ∃ l c : Nat,
    (∀ w : World, (callFunc 71 #[.int .u64 x, .int .u64 y, .int .u64 0]).run Tryd.prog w = .ok (.value (.tuple #[.int .u64 l, .int .u64 c])) w) ∧
    Hid (x + y = l + c * 18446744073709551616) ∧ l < 18446744073709551616 ∧ c ≤ 1 :=
  ⟨_, _, fun w => add64_runc x y w, show _ = _ by omega, by omega, by omega⟩

end Go.Proofs.YtakjbmlkcbedmaaDoor

/- The arithmetic of layer 2's loops. -/
namespace Go.Proofs.YtakjbmlkcbedmaaDoor
set_option linter.unusedVariables false

/-- behind j rounds of the sum -/
def AddInv (N M S c j : Nat) : Prop := c ≤ 1 ∧ S / 2 ^ (64 * j) = N / 2 ^ (64 * j) ∧ S % 2 ^ (64 * j) + c * 2 ^ (64 * j) = N % 2 ^ (64 * j) + M % 2 ^ (64 * j)

theorem AddInv.start (N M : Nat) : AddInv N M N 0 0 := ⟨by omega, rfl, by simp [Nat.mod_one]⟩

theorem setDg_mod_succ (k N i d : Nat) (hd : d < 2 ^ k) : setDg k N i d % 2 ^ (k * (i + 1)) = N % 2 ^ (k * i) + d * 2 ^ (k * i) := by
  rw [mod_succ, setDg_mod, dg_setDg_same k N i d hd]

theorem AddInv.step {N M S c j : Nat} (h : AddInv N M S c j) :
    AddInv N M (setDg 64 S j ((dg 64 N j + dg 64 M j + c) % 18446744073709551616)) ((dg 64 N j + dg 64 M j + c) / 18446744073709551616) (j + 1) := by
  obtain ⟨h0, h1, h2⟩ := h
  have hx := dg64_lt N j
  have hy := dg64_lt M j
  have hd : (dg 64 N j + dg 64 M j + c) % 18446744073709551616 < 2 ^ 64 := Nat.mod_lt _ (by decide)
  refine ⟨by omega, ?_, ?_⟩
  · rw [setDg_div _ _ _ _ hd, pow_succ_mul, ← Nat.div_div_eq_div_mul, h1, Nat.div_div_eq_div_mul]
  · rw [setDg_mod_succ _ _ _ _ hd, mod_succ 64 N, mod_succ 64 M, pow_succ_mul]
    generalize dg 64 N j = x at *
    generalize dg 64 M j = y at *
    have e : (x + y + c) = 18446744073709551616 * ((x + y + c) / 18446744073709551616) + (x + y + c) % 18446744073709551616 := (Nat.div_add_mod _ _).symm
    generalize (x + y + c) / 18446744073709551616 = q at *
    generalize (x + y + c) % 18446744073709551616 = r at *
    rw [show (2 : Nat) ^ 64 = 18446744073709551616 from rfl]
    generalize 2 ^ (64 * j) = P at *
    have e2 : (x + y + c) * P = (18446744073709551616 * q + r) * P := by rw [← e]
    grind

theorem AddInv.last {N M S c j : Nat} (h : AddInv N M S c j) (hN : N < 2 ^ (64 * j)) (hM : M < 2 ^ (64 * j)) : setDg 64 S j c = N + M := by
  obtain ⟨h0, h1, h2⟩ := h
  rw [Nat.div_eq_of_lt hN] at h1
  have hS : S < 2 ^ (64 * j) := by
    rcases Nat.lt_or_ge S (2 ^ (64 * j)) with h | h
    · exact h
    · have := Nat.div_pos h (pow_pos2 _); omega
  rw [Nat.mod_eq_of_lt hN, Nat.mod_eq_of_lt hM, Nat.mod_eq_of_lt hS] at h2
  have := setDg_add 64 S j c
  rw [dg_high 64 S j j hS (Nat.le_refl _)] at this
  omega

/-- behind j rounds of the difference -/
def SubInv (N M S c j : Nat) : Prop := c ≤ 1 ∧ S / 2 ^ (64 * j) = N / 2 ^ (64 * j) ∧ S % 2 ^ (64 * j) + M % 2 ^ (64 * j) = N % 2 ^ (64 * j) + c * 2 ^ (64 * j)

theorem SubInv.start (N M : Nat) : SubInv N M N 0 0 := ⟨by omega, rfl, by simp [Nat.mod_one]⟩

theorem SubInv.step {N M S c j : Nat} (h : SubInv N M S c j) :
    SubInv N M (setDg 64 S j ((dg 64 N j + 18446744073709551616 - dg 64 M j - c) % 18446744073709551616)) (if dg 64 N j < dg 64 M j + c then 1 else 0) (j + 1) := by
  obtain ⟨h0, h1, h2⟩ := h
  have hx := dg64_lt N j
  have hy := dg64_lt M j
  have hd : (dg 64 N j + 18446744073709551616 - dg 64 M j - c) % 18446744073709551616 < 2 ^ 64 := Nat.mod_lt _ (by decide)
  refine ⟨by split <;> omega, ?_, ?_⟩
  · rw [setDg_div _ _ _ _ hd, pow_succ_mul, ← Nat.div_div_eq_div_mul, h1, Nat.div_div_eq_div_mul]
  · rw [setDg_mod_succ _ _ _ _ hd, mod_succ 64 N, mod_succ 64 M, pow_succ_mul]
    generalize dg 64 N j = x at *
    generalize dg 64 M j = y at *
    have e : (x + 18446744073709551616 - y - c) % 18446744073709551616 + y + c = x + 18446744073709551616 * (if x < y + c then 1 else 0) := by
      split <;> omega
    generalize (x + 18446744073709551616 - y - c) % 18446744073709551616 = r at *
    generalize (if x < y + c then 1 else 0 : Nat) = q at *
    rw [show (2 : Nat) ^ 64 = 18446744073709551616 from rfl]
    generalize 2 ^ (64 * j) = P at *
    have e2 : (r + y + c) * P = (x + 18446744073709551616 * q) * P := by rw [← e]
    grind

theorem SubInv.last {N M S c j : Nat} (h : SubInv N M S c j) (hN : N < 2 ^ (64 * j)) (hM : M < 2 ^ (64 * j)) (hle : M ≤ N) : S = N - M := by
  obtain ⟨h0, h1, h2⟩ := h
  rw [Nat.div_eq_of_lt hN] at h1
  have hS : S < 2 ^ (64 * j) := by
    rcases Nat.lt_or_ge S (2 ^ (64 * j)) with h | h
    · exact h
    · have := Nat.div_pos h (pow_pos2 _); omega
  rw [Nat.mod_eq_of_lt hN, Nat.mod_eq_of_lt hM, Nat.mod_eq_of_lt hS] at h2
  have : c = 0 ∨ c = 1 := by omega
  rcases this with rfl | rfl <;> omega

/-- a digit of what is shifted right by s bits: out of two digits -/
theorem shr_digit (N w s i : Nat) (hs : s < 64) :
    dg 64 (N / 2 ^ (64 * w + s)) i = dg 64 N (w + i) / 2 ^ s + dg 64 N (w + i + 1) * 2 ^ (64 - s) % 2 ^ 64 := by
  have e1 : N / 2 ^ (64 * w + s) / 2 ^ (64 * i) = N / 2 ^ (64 * (w + i)) / 2 ^ s := by
    rw [Nat.div_div_eq_div_mul, Nat.div_div_eq_div_mul, ← Nat.pow_add, ← Nat.pow_add]; congr 2; omega
  have e2 : dg 64 N (w + i + 1) = N / 2 ^ (64 * (w + i)) / 2 ^ 64 % 2 ^ 64 := by
    unfold dg; rw [Nat.div_div_eq_div_mul, ← Nat.pow_add]; rfl
  have e3 : dg 64 N (w + i) = N / 2 ^ (64 * (w + i)) % 2 ^ 64 := rfl
  rw [e2, e3]
  unfold dg
  rw [e1]
  generalize N / 2 ^ (64 * (w + i)) = Q
  obtain ⟨t, ht⟩ : ∃ t, 64 = s + t := ⟨64 - s, by omega⟩
  have ht' : 64 - s = t := by omega
  rw [ht', ht]
  have h1 : Q = Q / 2 ^ (s + t) * 2 ^ (s + t) + Q % 2 ^ (s + t) := by rw [Nat.mul_comm]; exact (Nat.div_add_mod _ _).symm
  have hR : Q / 2 ^ (s + t) % 2 ^ (s + t) * 2 ^ t % 2 ^ (s + t) = Q / 2 ^ (s + t) % 2 ^ s * 2 ^ t := by
    rw [Nat.pow_add, Nat.mul_mod_mul_right]
    congr 1
    rw [Nat.mod_mul_right_mod]
  rw [hR]
  generalize Q / 2 ^ (s + t) = R at *
  have hx : Q % 2 ^ (s + t) < 2 ^ (s + t) := Nat.mod_lt _ (pow_pos2 _)
  generalize Q % 2 ^ (s + t) = x at *
  have h2 : Q / 2 ^ s = R * 2 ^ t + x / 2 ^ s := by
    rw [h1, Nat.pow_add, show R * (2 ^ s * 2 ^ t) + x = x + 2 ^ s * (R * 2 ^ t) from by grind, Nat.add_mul_div_left _ _ (pow_pos2 s)]
    omega
  rw [h2]
  have hxs : x / 2 ^ s < 2 ^ t := by
    rw [Nat.div_lt_iff_lt_mul (pow_pos2 s), Nat.mul_comm, ← Nat.pow_add]; exact hx
  have h3 : R = R / 2 ^ s * 2 ^ s + R % 2 ^ s := by rw [Nat.mul_comm]; exact (Nat.div_add_mod _ _).symm
  have h4 : R * 2 ^ t + x / 2 ^ s = (R % 2 ^ s * 2 ^ t + x / 2 ^ s) + R / 2 ^ s * 2 ^ (s + t) := by
    rw [Nat.pow_add]
    generalize R / 2 ^ s = r1 at *
    generalize R % 2 ^ s = r2 at *
    rw [h3]; grind
  rw [h4, Nat.add_mul_mod_self_right, Nat.mod_eq_of_lt, Nat.add_comm]
  have h5 : R % 2 ^ s < 2 ^ s := Nat.mod_lt _ (pow_pos2 s)
  have h6 : (R % 2 ^ s + 1) * 2 ^ t ≤ 2 ^ s * 2 ^ t := Nat.mul_le_mul_right _ h5
  rw [Nat.pow_add]
  rw [Nat.add_mul] at h6
  omega

theorem or_parts (x y s : Nat) (hs : s < 64) (hx : x < 2 ^ 64) : (x / 2 ^ s) ||| (y * 2 ^ (64 - s) % 2 ^ 64) = x / 2 ^ s + y * 2 ^ (64 - s) % 2 ^ 64 := by
  obtain ⟨t, ht⟩ : ∃ t, 64 = s + t := ⟨64 - s, by omega⟩
  have ht' : 64 - s = t := by omega
  rw [ht] at hx
  rw [ht', ht]
  have e : y * 2 ^ t % 2 ^ (s + t) = 2 ^ t * (y % 2 ^ s) := by rw [Nat.pow_add, Nat.mul_mod_mul_right, Nat.mul_comm]
  rw [e]
  have hxs : x / 2 ^ s < 2 ^ t := by
    rw [Nat.div_lt_iff_lt_mul (pow_pos2 s), Nat.mul_comm, ← Nat.pow_add]; exact hx
  rw [Nat.or_comm, ← Nat.two_pow_add_eq_or_of_lt hxs, Nat.add_comm]

theorem setDg_setDg (k N i d e : Nat) (hd : d < 2 ^ k) : setDg k (setDg k N i d) i e = setDg k N i e := by
  have h1 := setDg_add k (setDg k N i d) i e
  rw [dg_setDg_same k N i d hd] at h1
  have h2 := setDg_add k N i d
  have h3 := setDg_add k N i e
  omega

/-- the lowest j digits of R stand; the next one is put -/
theorem setDg_build (k R j : Nat) : setDg k (R % 2 ^ (k * j)) j (dg k R j) = R % 2 ^ (k * (j + 1)) := by
  have h1 := setDg_add k (R % 2 ^ (k * j)) j (dg k R j)
  rw [dg_high k _ j j (Nat.mod_lt _ (pow_pos2 _)) (Nat.le_refl _)] at h1
  rw [mod_succ]; omega

theorem wrap_u64_nat (x : Nat) : IntKind.u64.wrap (x : Int) = ((x % 18446744073709551616 : Nat) : Int) := by
  rw [IntKind.wrap_u64]; omega

theorem wrap_shl_nat (y t : Nat) : IntKind.u64.wrap ((y : Int) * 2 ^ t) = ((y * 2 ^ t % 18446744073709551616 : Nat) : Int) := by
  rw [← wrap_u64_nat]; simp

theorem or_nat (x y : Nat) (hx : x < 18446744073709551616) (hy : y < 18446744073709551616) : bits .or .u64 (x : Int) (y : Int) = ((x ||| y : Nat) : Int) := bits_or_u64_nat x y hx hy

theorem right_step (N q r j d1 : Nat) (hr : r < 64) (hd1 : d1 = dg 64 N (q + j) / 2 ^ r) :
    bits .or .u64 (d1 : Int) (IntKind.u64.wrap ((dg 64 N (q + j + 1) : Int) * 2 ^ (64 - r))) = ((dg 64 (N / 2 ^ (64 * q + r)) j : Nat) : Int) := by
  have hx := dg64_lt N (q + j)
  rw [wrap_shl_nat, or_nat _ _ (by rw [hd1]; exact Nat.lt_of_le_of_lt (Nat.div_le_self _ _) hx) (Nat.mod_lt _ (by decide)), shr_digit N q r j hr, hd1]
  congr 1
  exact or_parts _ _ r hr hx

/-- the product under way: behind i rounds, and j of the next -/
def ProdInv (N M b P i j c : Nat) : Prop := P + c * 2 ^ (64 * (i + j)) = N % 2 ^ (64 * i) * M + dg 64 N i * (M % 2 ^ (64 * j)) * 2 ^ (64 * i) ∧ c < 18446744073709551616 ∧ P < 2 ^ (64 * (i + b))

theorem ProdInv.start (N M b P i : Nat) (h : P = N % 2 ^ (64 * i) * M) (hM : M < 2 ^ (64 * b)) : ProdInv N M b P i 0 0 := by
  refine ⟨by simp [Nat.mod_one, h], by omega, ?_⟩
  rw [h, Nat.mul_add, Nat.pow_add]
  have h1 : N % 2 ^ (64 * i) < 2 ^ (64 * i) := Nat.mod_lt _ (pow_pos2 _)
  have h2 := Nat.mul_le_mul h1 (Nat.le_of_lt hM)
  rcases Nat.eq_zero_or_pos M with rfl | hp
  · simp; exact Nat.mul_pos (pow_pos2 _) (pow_pos2 _)
  · rw [Nat.succ_mul] at h2; omega

theorem ProdInv.step {N M b P i j c t : Nat} (h : ProdInv N M b P i j c) (hj : j < b) (ht : t = dg 64 N i * dg 64 M j + dg 64 P (i + j) + c) :
    ProdInv N M b (setDg 64 P (i + j) (t % 18446744073709551616)) i (j + 1) (t / 18446744073709551616) := by
  obtain ⟨h1, h2, h3⟩ := h
  have hd : t % 18446744073709551616 < 2 ^ 64 := Nat.mod_lt _ (by decide)
  have hx := dg64_lt N i
  have hy := dg64_lt M j
  have hp := dg64_lt P (i + j)
  refine ⟨?_, ?_, setDg_lt 64 _ _ _ _ h3 (by omega) hd⟩
  · have e1 := setDg_add 64 P (i + j) (t % 18446744073709551616)
    rw [mod_succ 64 M j, show i + (j + 1) = (i + j) + 1 from rfl, pow_succ_mul]
    have e2 : t = 18446744073709551616 * (t / 18446744073709551616) + t % 18446744073709551616 := (Nat.div_add_mod _ _).symm
    have e3 : 2 ^ (64 * (i + j)) = 2 ^ (64 * i) * 2 ^ (64 * j) := by rw [Nat.mul_add, Nat.pow_add]
    generalize setDg 64 P (i + j) (t % 18446744073709551616) = P' at *
    generalize dg 64 P (i + j) = p at *
    generalize dg 64 N i = x at *
    generalize dg 64 M j = y at *
    generalize t / 18446744073709551616 = q at *
    generalize t % 18446744073709551616 = r at *
    rw [show (2 : Nat) ^ 64 = 18446744073709551616 from rfl]
    rw [e3] at *
    generalize 2 ^ (64 * i) = A at *
    generalize 2 ^ (64 * j) = B at *
    generalize M % B = m at *
    generalize N % A * M = k at *
    have e4 : t * (A * B) = (18446744073709551616 * q + r) * (A * B) := by rw [← e2]
    rw [ht] at e4
    grind
  · have hxy : dg 64 N i * dg 64 M j ≤ 18446744073709551615 * 18446744073709551615 := Nat.mul_le_mul (by omega) (by omega)
    rw [Nat.div_lt_iff_lt_mul (by decide)]
    omega

theorem ProdInv.last {N M b P i c : Nat} (h : ProdInv N M b P i b c) (hM : M < 2 ^ (64 * b)) : setDg 64 P (i + b) c = N % 2 ^ (64 * (i + 1)) * M := by
  obtain ⟨h1, h2, h3⟩ := h
  have e1 := setDg_add 64 P (i + b) c
  rw [dg_high 64 P (i + b) (i + b) h3 (Nat.le_refl _)] at e1
  rw [Nat.mod_eq_of_lt hM] at h1
  rw [mod_succ]
  generalize 2 ^ (64 * (i + b)) = A at *
  grind

/-- the steps of the product at one place -/
theorem prod_digit (x y p c hi lo l1 c1 l2 c2 t : Nat) (hx : x < 18446744073709551616) (hy : y < 18446744073709551616) (hp : p < 18446744073709551616) (hc : c < 18446744073709551616)
    (h0 : hi = x * y / 18446744073709551616) (h0' : lo = x * y % 18446744073709551616) (h1 : lo + p = l1 + c1 * 18446744073709551616) (h2 : l1 + c = l2 + c2 * 18446744073709551616) (hl1 : l1 < 18446744073709551616) (hl2 : l2 < 18446744073709551616)
    (ht : t = x * y + p + c) : l2 = t % 18446744073709551616 ∧ hi + c1 + c2 = t / 18446744073709551616 ∧ hi + c1 + c2 < 18446744073709551616 ∧ hi + c1 < 18446744073709551616 := by
  have hxy : x * y ≤ 18446744073709551615 * 18446744073709551615 := Nat.mul_le_mul (by omega) (by omega)
  generalize x * y = z at *
  omega

theorem dg_shift (k S q j : Nat) : dg k (S * 2 ^ (k * q)) (q + j) = dg k S j := by
  unfold dg
  rw [Nat.mul_add, Nat.pow_add, Nat.mul_comm S, Nat.mul_div_mul_left _ _ (pow_pos2 _)]

/-- one round of the raising -/
theorem raise_step (N q r j : Nat) (hr : r < 64) :
    setDg 64 (setDg 64 (N % 2 ^ (64 * j) * 2 ^ (64 * q + r)) (q + j) (dg 64 (N % 2 ^ (64 * j) * 2 ^ (64 * q + r)) (q + j) ||| (dg 64 N j * 2 ^ r % 18446744073709551616))) (q + j + 1) (dg 64 N j / 2 ^ (64 - r))
      = N % 2 ^ (64 * (j + 1)) * 2 ^ (64 * q + r) ∧
    dg 64 (N % 2 ^ (64 * j) * 2 ^ (64 * q + r)) (q + j) ||| (dg 64 N j * 2 ^ r % 18446744073709551616) < 18446744073709551616 ∧
    dg 64 (setDg 64 (N % 2 ^ (64 * j) * 2 ^ (64 * q + r)) (q + j) (dg 64 (N % 2 ^ (64 * j) * 2 ^ (64 * q + r)) (q + j) ||| (dg 64 N j * 2 ^ r % 18446744073709551616))) (q + j + 1) = 0 := by
  have hx := dg64_lt N j
  have hm := Nat.mod_lt N (pow_pos2 (64 * j))
  have hP : (2 : Nat) ^ (64 * q + r) = 2 ^ (64 * q) * 2 ^ r := Nat.pow_add _ _ _
  obtain ⟨t, ht⟩ : ∃ t, 64 = r + t := ⟨64 - r, by omega⟩
  have ht' : 64 - r = t := by omega
  have h64 : (18446744073709551616 : Nat) = 2 ^ t * 2 ^ r := by rw [← Nat.pow_add, show t + r = 64 from by omega]
  -- the digit that stands there
  have hp : dg 64 (N % 2 ^ (64 * j) * 2 ^ (64 * q + r)) (q + j) < 2 ^ r := by
    have e : N % 2 ^ (64 * j) * 2 ^ (64 * q + r) = N % 2 ^ (64 * j) * 2 ^ r * 2 ^ (64 * q) := by rw [hP]; grind
    rw [e, dg_shift]
    unfold dg
    refine Nat.lt_of_le_of_lt (Nat.mod_le _ _) ?_
    rw [Nat.div_lt_iff_lt_mul (pow_pos2 _), Nat.mul_comm (2 ^ r)]
    exact Nat.mul_lt_mul_of_pos_right hm (pow_pos2 r)
  have hhigh : dg 64 (N % 2 ^ (64 * j) * 2 ^ (64 * q + r)) (q + j + 1) = 0 := by
    refine dg_high 64 _ _ (q + j + 1) ?_ (Nat.le_refl _)
    rw [hP, show 64 * (q + j + 1) = 64 * q + 64 * j + 64 from by omega, Nat.pow_add, Nat.pow_add]
    have h1 : N % 2 ^ (64 * j) * 2 ^ r < 2 ^ (64 * j) * 2 ^ 64 := by
      have h2 := Nat.mul_lt_mul_of_pos_right hm (pow_pos2 r)
      have h3 : 2 ^ (64 * j) * 2 ^ r ≤ 2 ^ (64 * j) * 2 ^ 64 := Nat.mul_le_mul_left _ (Nat.pow_le_pow_right (by decide) (by omega))
      omega
    have h4 := Nat.mul_lt_mul_of_pos_right h1 (pow_pos2 (64 * q))
    generalize 2 ^ (64 * q) = a at *
    generalize 2 ^ (64 * j) = b at *
    generalize 2 ^ r = c at *
    grind
  have hor : dg 64 (N % 2 ^ (64 * j) * 2 ^ (64 * q + r)) (q + j) ||| (dg 64 N j * 2 ^ r % 18446744073709551616) = dg 64 (N % 2 ^ (64 * j) * 2 ^ (64 * q + r)) (q + j) + dg 64 N j * 2 ^ r % 18446744073709551616 := by
    have e : dg 64 N j * 2 ^ r % 18446744073709551616 = 2 ^ r * (dg 64 N j % 2 ^ t) := by rw [h64, Nat.mul_mod_mul_right, Nat.mul_comm]
    rw [e, Nat.or_comm, ← Nat.two_pow_add_eq_or_of_lt hp, Nat.add_comm]
  have hlt : dg 64 (N % 2 ^ (64 * j) * 2 ^ (64 * q + r)) (q + j) ||| (dg 64 N j * 2 ^ r % 18446744073709551616) < 18446744073709551616 := by
    rw [hor]
    have e : dg 64 N j * 2 ^ r % 18446744073709551616 = dg 64 N j % 2 ^ t * 2 ^ r := by rw [h64, Nat.mul_mod_mul_right]
    have h2 : dg 64 N j % 2 ^ t < 2 ^ t := Nat.mod_lt _ (pow_pos2 t)
    have h3 : (dg 64 N j % 2 ^ t + 1) * 2 ^ r ≤ 2 ^ t * 2 ^ r := Nat.mul_le_mul_right _ h2
    rw [e, h64]
    rw [Nat.add_mul] at h3
    omega
  have hz : dg 64 (setDg 64 (N % 2 ^ (64 * j) * 2 ^ (64 * q + r)) (q + j) (dg 64 (N % 2 ^ (64 * j) * 2 ^ (64 * q + r)) (q + j) ||| (dg 64 N j * 2 ^ r % 18446744073709551616))) (q + j + 1) = 0 := by
    rw [dg_setDg_other 64 _ _ _ _ hlt (by omega), hhigh]
  refine ⟨?_, hlt, hz⟩
  have e1 := setDg_add 64 (N % 2 ^ (64 * j) * 2 ^ (64 * q + r)) (q + j) (dg 64 (N % 2 ^ (64 * j) * 2 ^ (64 * q + r)) (q + j) ||| (dg 64 N j * 2 ^ r % 18446744073709551616))
  have e2 := setDg_add 64 (setDg 64 (N % 2 ^ (64 * j) * 2 ^ (64 * q + r)) (q + j) (dg 64 (N % 2 ^ (64 * j) * 2 ^ (64 * q + r)) (q + j) ||| (dg 64 N j * 2 ^ r % 18446744073709551616))) (q + j + 1) (dg 64 N j / 2 ^ (64 - r))
  rw [hz] at e2
  rw [hor] at e1 e2 ⊢
  rw [mod_succ]
  have e3 : dg 64 N j / 2 ^ (64 - r) = dg 64 N j * 2 ^ r / 18446744073709551616 := by
    rw [h64, ht', Nat.mul_div_mul_right _ _ (pow_pos2 r)]
  have e4 : dg 64 N j * 2 ^ r = 18446744073709551616 * (dg 64 N j * 2 ^ r / 18446744073709551616) + dg 64 N j * 2 ^ r % 18446744073709551616 := (Nat.div_add_mod _ _).symm
  rw [e3] at e2 ⊢
  have e5 : 2 ^ (64 * (q + j + 1)) = 2 ^ (64 * q) * 2 ^ (64 * j) * 18446744073709551616 := by
    rw [show 64 * (q + j + 1) = 64 * q + 64 * j + 64 from by omega, Nat.pow_add, Nat.pow_add]
  have e6 : 2 ^ (64 * (q + j)) = 2 ^ (64 * q) * 2 ^ (64 * j) := by rw [Nat.mul_add, Nat.pow_add]
  rw [e5] at e2
  rw [e6] at e1
  generalize dg 64 (N % 2 ^ (64 * j) * 2 ^ (64 * q + r)) (q + j) = p at *
  generalize setDg 64 (N % 2 ^ (64 * j) * 2 ^ (64 * q + r)) (q + j) (p + dg 64 N j * 2 ^ r % 18446744073709551616) = S1 at *
  generalize setDg 64 S1 (q + j + 1) (dg 64 N j * 2 ^ r / 18446744073709551616) = S2 at *
  rw [hP] at *
  generalize dg 64 N j * 2 ^ r / 18446744073709551616 = hi at *
  generalize dg 64 N j * 2 ^ r % 18446744073709551616 = lo at *
  generalize N % 2 ^ (64 * j) = n0 at *
  generalize dg 64 N j = x at *
  generalize 2 ^ (64 * q) = Q at *
  generalize 2 ^ (64 * j) = J at *
  generalize 2 ^ r = R at *
  have e7 : x * R * (Q * J) = (18446744073709551616 * hi + lo) * (Q * J) := by rw [← e4]
  grind

theorem setDg_self (k N i : Nat) (h : dg k N i = 0) : setDg k N i 0 = N := by
  have := setDg_add k N i 0
  rw [h] at this; omega

end Go.Proofs.YtakjbmlkcbedmaaDoor

/- Walks of layer 2: trim, copied, Trim, Len, Cmp. -/
namespace Go.Proofs.YtakjbmlkcbedmaaDoor
set_option linter.unusedVariables false
open Go.RowKit

set_option maxHeartbeats 400000 in
theorem trim_core (v : Value) (k N n : Nat) (w : World) (hk : 0 < k) (h : Rd k w v N n) :
    Calls Tryd.prog 65 #[v] w fun e w' => ∃ v', e = .returned v' ∧ (∀ w0, Rd k w0 v N n → Rd k w0 v' N (nd k N)) ∧ (∀ B w0, Fr B w0 v → Fr B w0 v') ∧ w = w' := by
  obtain ⟨A, c, rfl, hc, hn, hN, hr⟩ := id h
  go_enter Tryd.func65, Tryd.ntmps65
  go_wp2
  go_loop [3] (fun x => ∃ m : Nat, m ≤ n ∧ x = .int .i64 m ∧ N < 2 ^ (k * m)) (fun x => (intOf x).toNat)
  case atStart => exact ⟨n, Nat.le_refl _, rfl, hN⟩
  case round =>
    obtain ⟨m, hm, rfl, hNm⟩ := hrel
    rcases Nat.eq_zero_or_pos m with rfl | hpos
    · go_wp2
      go_ret
      have e : nd k N = 0 := nd_unique k N 0 hk hNm (Or.inl rfl)
      exact ⟨_, rfl, fun w0 h => by rw [e]; exact h.cut (Nat.zero_le _) hNm, fun B w0 hf => hf.cut (by omega), rfl⟩
    · obtain ⟨b, o, rfl, hb, hcell⟩ := hr (by omega)
      have hck := hcell (m - 1) (by omega)
      by_cases hz : dg k N (m-1) = 0
      · rw [hz] at hck
        have hlt : N < 2 ^ (k * (m - 1)) := lt_of_top k N (m - 1) (by rw [show m - 1 + 1 = m from by omega]; exact hNm) hz
        clear hz
        go_wp2
        go_round
        case rel => exact ⟨m - 1, by omega, by go_num, hlt⟩
        case measure => simp [intOf]; omega
      · have hz' : (((dg k N (m-1) : Nat) : Int) == 0) = false := by rw [beq_eq_false_iff_ne]; omega
        have e : nd k N = m := nd_unique k N m hk hNm (Or.inr (ge_of_top k N (m - 1) hz))
        have H := Lib.hid e
        clear e hz
        generalize dg k N (m-1) = x at *
        go_wp2
        go_ret
        exact ⟨_, rfl, fun w0 h => by rw [H.out]; exact h.cut hm hNm, fun B w0 hf => hf.cut (by omega), rfl⟩

theorem trim_any (v : Value) (k N n B : Nat) (w : World) (hk : 0 < k) (h : Rd k w v N n) :
    Calls Tryd.prog 65 #[v] w fun e w' => ∃ v', e = .returned v' ∧ Rd k w v' N (nd k N) ∧ (Fr B w v → Fr B w v') ∧ w = w' :=
  (trim_core v k N n w hk h).mono fun e w' ⟨v', he, h1, h2, hw⟩ => ⟨v', he, h1 w h, h2 B w, hw⟩

set_option maxHeartbeats 400000 in
theorem copied_own (v : Value) (N n : Nat) (w : World) (h : Rd 64 w v N n) :
    Calls Tryd.prog 64 #[v] w fun e w' => e = .returned (.slice (some ⟨w.heap.size, 0, none⟩) (nd 64 N) (nd 64 N)) ∧ Own 64 w' w.heap.size N (nd 64 N) ∧ Below w.heap.size w w' := by
  have hd : nd 64 N ≤ 35184372088832 := Nat.le_trans (nd_le 64 N n (by decide) h.lt) h.len
  have hmk := fun wx => make_words (nd 64 N) hd wx
  go_enter Tryd.func64, Tryd.ntmps64
  go_wp2_with fail
  refine (trim_any v 64 N n 0 w (by decide) h).mono ?_
  rintro e w1 ⟨v1, rfl, h1, _, rfl⟩
  obtain ⟨A, c, rfl, hc, hcm⟩ := h1.form
  go_wp2_with (with_reducible refine wpList_copy_rd rfl (.tmp 9) (.tmp 10) rfl w.heap.size (nd 64 N) A (nd 64 N) c rfl rfl 64 N (Own.make _) (h1.alloc _) (Nat.le_refl _) w.heap.size w ((Below.refl _ _).alloc (Nat.le_refl _) _) (Nat.le_refl _) ?_)
  intro w2 ho hb2
  go_wp2
  go_ret
  exact ⟨rfl, ho, hb2⟩

theorem copied_any (v : Value) (N n : Nat) (w : World) (h : Rd 64 w v N n) :
    Calls Tryd.prog 64 #[v] w fun e w' => ∃ v', e = .returned v' ∧ Rd 64 w' v' N (nd 64 N) ∧ Fr w.heap.size w' v' ∧ Below w.heap.size w w' :=
  (copied_own v N n w h).mono fun e w' ⟨he, ho, hb⟩ => ⟨_, he, ho.rd (Nat.le_trans (nd_le 64 N n (by decide) h.lt) h.len), ho.fr (Nat.le_refl _), hb⟩

set_option maxHeartbeats 400000 in
theorem Trim_any (v : Value) (N n : Nat) (w : World) (h : Rd 64 w v N n) :
    Calls Tryd.prog 33 #[v] w fun e w' => ∃ v', e = .returned v' ∧ Rd 64 w' v' N (nd 64 N) ∧ Fr w.heap.size w' v' ∧ Below w.heap.size w w' := by
  go_enter Tryd.func33, Tryd.ntmps33
  go_wp2_with fail
  refine (copied_any v N n w h).mono ?_
  rintro e w1 ⟨v1, rfl, h1, h2, h3⟩
  go_wp2
  go_ret
  exact ⟨_, rfl, h1, h2, h3⟩

theorem log2_div_add (N a : Nat) (h : N / 2 ^ a ≠ 0) : N.log2 = a + (N / 2 ^ a).log2 := by
  have h0 : N ≠ 0 := by rintro rfl; simp at h
  have h1 := (Nat.le_log2 h).1 (Nat.le_refl _)
  have h2 := (Nat.log2_lt h).1 (Nat.lt_succ_self _)
  generalize (N / 2 ^ a).log2 = l at *
  have h3 : 2 ^ (a + l) ≤ N := by
    rw [Nat.pow_add]
    have := (Nat.le_div_iff_mul_le (pow_pos2 a)).1 h1
    rw [Nat.mul_comm]; exact this
  have h4 : N < 2 ^ (a + l + 1) := by
    have := (Nat.div_lt_iff_lt_mul (pow_pos2 a)).1 h2
    rw [Nat.add_assoc, Nat.pow_add, Nat.mul_comm]; exact this
  have h5 := (Nat.le_log2 h0).2 h3
  have h6 := (Nat.log2_lt h0).2 h4
  omega

theorem bl_le (N a : Nat) (h : N < 2 ^ a) : bl N ≤ a := by
  unfold bl
  split
  · omega
  · rename_i h0; have := (Nat.log2_lt h0).2 h; omega

theorem bl_top (N : Nat) (h : N ≠ 0) : bl N = 64 * (nd 64 N - 1) + bl (dg 64 N (nd 64 N - 1)) := by
  obtain ⟨m, hm⟩ : ∃ m, nd 64 N = m + 1 := ⟨nd 64 N - 1, by have := nd_pos 64 N h; omega⟩
  have h1 := lt_nd 64 N (by decide)
  have h2 := nd_le_pow 64 N h
  rw [hm, Nat.add_sub_cancel] at *
  have e := div_succ 64 N m
  rw [Nat.div_eq_of_lt h1, Nat.zero_mul, Nat.zero_add] at e
  have hd : dg 64 N m ≠ 0 := by
    intro h0
    have := lt_of_top 64 N m h1 h0
    omega
  unfold bl
  rw [if_neg h, if_neg hd]
  have e2 : N.log2 = 64 * m + (dg 64 N m).log2 := by
    rw [← e]
    exact log2_div_add N (64 * m) (by rw [e]; exact hd)
  omega

set_option maxHeartbeats 400000 in
theorem Len_any (v : Value) (N n : Nat) (w : World) (h : Rd 64 w v N n) :
    Calls Tryd.prog 37 #[v] w fun e w' => e = .returned (.int .i64 (bl N)) ∧ w = w' := by
  by_cases h0 : N = 0
  · subst h0
    go_enter Tryd.func37, Tryd.ntmps37
    go_wp2_with fail
    refine (trim_any v 64 0 n 0 w (by decide) h).mono ?_
    rintro e w1 ⟨v1, rfl, h1, _, rfl⟩
    rw [nd_zero] at h1
    obtain ⟨A, c, rfl, hc, hcm⟩ := h1.form
    go_wp2
    go_ret
    exact ⟨rfl, rfl⟩
  · have hb := Lib.hid (bl_top N h0)
    have hp := nd_pos 64 N h0
    have hl := Nat.le_trans (nd_le 64 N n (by decide) h.lt) h.len
    have hbl : bl (dg 64 N (nd 64 N - 1)) ≤ 64 := bl_le _ 64 (dg_lt 64 N _)
    have hdl := dg64_lt N (nd 64 N - 1)
    have hz : (((nd 64 N : Nat) : Int) == 0) = false := by rw [beq_eq_false_iff_ne]; omega
    go_enter Tryd.func37, Tryd.ntmps37
    go_wp2_with fail
    refine (trim_any v 64 N n 0 w (by decide) h).mono ?_
    rintro e w1 ⟨v1, rfl, h1, _, rfl⟩
    obtain ⟨A, c, rfl, hc, hcm⟩ := h1.form
    obtain ⟨_, _, _, hr⟩ := h1.at_
    obtain ⟨b, o, rfl, hb', hcell⟩ := hr hp
    have hck := hcell (nd 64 N - 1) (by omega)
    clear h1 h hr hcell h0
    generalize dg 64 N (nd 64 N - 1) = x at *
    generalize nd 64 N = m at *
    go_wp2_with fail
    refine (len64_any x w hdl).mono ?_
    rintro e w1 ⟨rfl, rfl⟩
    go_wp2
    go_ret
    exact ⟨by rw [hb.out]; go_num, rfl⟩

end Go.Proofs.YtakjbmlkcbedmaaDoor

/- Walks of layer 2: Cmp, Add. -/
namespace Go.Proofs.YtakjbmlkcbedmaaDoor
set_option linter.unusedVariables false
open Go.RowKit

set_option maxHeartbeats 1000000 in
theorem Cmp_any (v u : Value) (N n M m : Nat) (w : World) (hv : Rd 64 w v N n) (hu : Rd 64 w u M m) :
    Calls Tryd.prog 55 #[v, u] w fun e w' => e = .returned (.int .i64 (cmpN N M)) ∧ ∃ d, w' = w.drewN d := by
  go_enter Tryd.func55, Tryd.ntmps55
  go_wp2_with fail
  refine (trim_any v 64 N n 0 w (by decide) hv).mono ?_
  rintro e w1 ⟨v1, rfl, hv1, _, rfl⟩
  obtain ⟨A1, c1, rfl, hc1, hcm1⟩ := hv1.form
  go_wp2_with fail
  refine (trim_any u 64 M m 0 w (by decide) hu).mono ?_
  rintro e w1 ⟨u1, rfl, hu1, _, rfl⟩
  obtain ⟨A2, c2, rfl, hc2, hcm2⟩ := hu1.form
  obtain ⟨_, _, _, hr1⟩ := hv1.at_
  obtain ⟨_, _, _, hr2⟩ := hu1.at_
  have HN := Lib.hid (lt_nd 64 N (by decide))
  have HM := Lib.hid (lt_nd 64 M (by decide))
  rcases Nat.lt_trichotomy (nd 64 N) (nd 64 M) with hlt | heq | hgt
  · have H := Lib.hid (cmpN_lt (nd_lt 64 N M (by decide) hlt))
    generalize nd 64 N = a at *
    generalize nd 64 M = b at *
    go_wp2
    go_ret
    exact ⟨by rw [H.out]; rfl, 0, rfl⟩
  · rw [← heq] at hu1 hr2 HM hc2 ⊢
    generalize nd 64 N = a at *
    clear heq
    go_wp2
    go_loopw [5] (fun x wr => ∃ i : Nat, i ≤ a ∧ x = .int .i64 ((i : Int) - 1) ∧ N / 2 ^ (64 * i) = M / 2 ^ (64 * i) ∧ ∃ d, wr = w.drewN d) (fun x _ => (intOf x + 1).toNat)
    case atStart => exact ⟨a, Nat.le_refl _, rfl, by rw [Nat.div_eq_of_lt HN.out, Nat.div_eq_of_lt HM.out], 0, rfl⟩
    case round =>
      obtain ⟨i, hi, rfl, hq, d, rfl⟩ := hrel
      rcases Nat.eq_zero_or_pos i with rfl | hpos
      · have H := Lib.hid (cmpN_eq (a := N) (b := M) (by simpa using hq))
        clear hq
        go_wp2
        go_ret
        exact ⟨by rw [H.out]; rfl, d, rfl⟩
      · obtain ⟨b1, o1, rfl, hb1, hcell1⟩ := hr1 (by omega)
        obtain ⟨b2, o2, rfl, hb2, hcell2⟩ := hr2 (by omega)
        obtain ⟨j, rfl⟩ : ∃ j, i = j + 1 := ⟨i - 1, by omega⟩
        have hk1 : w.cell? ⟨b1, o1 + j, none⟩ = _ := hcell1 j (by omega)
        have hk2 : w.cell? ⟨b2, o2 + j, none⟩ = _ := hcell2 j (by omega)
        have Hlt := fun h => Lib.hid (cmpN_lt (lt_of_dg 64 N M j hq h))
        have Hgt := fun h => Lib.hid (cmpN_gt (lt_of_dg 64 M N j hq.symm h))
        have Heq := fun h => Lib.hid (eq_of_dg 64 N M j hq h)
        clear hq hcell1 hcell2 hr1 hr2
        have ej : ((j + 1 : Nat) : Int) - 1 = j := by omega
        rw [ej]
        generalize dg 64 N j = x at *
        generalize dg 64 M j = y at *
        rcases Nat.lt_trichotomy x y with hxy | hxy | hxy
        · have H := Hlt hxy
          clear Hlt Hgt Heq
          have t1 : decide (x < y) = true := by simpa using hxy
          go_wp2
          go_quiet (fail)
          go_wp2
          go_ret
          exact ⟨by rw [H.out]; rfl, by first | exact ⟨_, rfl⟩ | (simp only [World.drewN_drewN]; exact ⟨_, rfl⟩)⟩
        · have H := Heq hxy
          clear Hlt Hgt Heq
          subst hxy
          have t1 : decide (x < x) = false := by simp
          go_wp2
          go_quiet (fail)
          go_wp2
          go_quiet (fail)
          go_wp2
          go_roundw
          case rel => exact ⟨j, by omega, rfl, H.out, by first | exact ⟨_, rfl⟩ | (simp only [World.drewN_drewN]; exact ⟨_, rfl⟩)⟩
          case measure => simp [intOf]
        · have H := Hgt hxy
          clear Hlt Hgt Heq
          have t1 : decide (x < y) = false := by simp; omega
          have t2 : decide (y < x) = true := by simp; omega
          go_wp2
          go_quiet (fail)
          go_wp2
          go_quiet (fail)
          go_wp2
          go_ret
          exact ⟨by rw [H.out]; rfl, by first | exact ⟨_, rfl⟩ | (simp only [World.drewN_drewN]; exact ⟨_, rfl⟩)⟩
  · have H := Lib.hid (cmpN_gt (nd_lt 64 M N (by decide) hgt))
    generalize nd 64 N = a at *
    generalize nd 64 M = b at *
    go_wp2
    go_ret
    exact ⟨by rw [H.out]; rfl, 0, rfl⟩

set_option maxRecDepth 100000 in
set_option maxHeartbeats 1000000 in
theorem Add_any (v u : Value) (N n M m : Nat) (w : World) (hv : Rd 64 w v N n) (hu : Rd 64 w u M m) (hn : n < 35184372088832) (hm : m < 35184372088832) :
    Calls Tryd.prog 54 #[v, u] w fun e w' => ∃ v', e = .returned v' ∧ Rd 64 w' v' (N + M) (nd 64 (N + M)) ∧ Fr w.heap.size w' v' ∧ Below w.heap.size w w' := by
  have hdN := nd_le 64 N n (by decide) hv.lt
  have hdM := nd_le 64 M m (by decide) hu.lt
  obtain ⟨T, hT⟩ : ∃ T, T = N + M := ⟨_, rfl⟩
  rw [← hT]
  have HT := Lib.hid hT
  clear hT
  have hmkN := fun wx => make_words1 (nd 64 N) (by omega) wx
  have hmkM := fun wx => make_words1 (nd 64 M) (by omega) wx
  go_enter Tryd.func54, Tryd.ntmps54
  go_wp2_with fail
  refine (trim_any v 64 N n 0 w (by decide) hv).mono ?_
  rintro e w1 ⟨v1, rfl, hv1, _, rfl⟩
  obtain ⟨AX, cX, rfl, hc1, hcm1⟩ := hv1.form
  go_wp2_with fail
  refine (trim_any u 64 M m 0 w (by decide) hu).mono ?_
  rintro e w1 ⟨u1, rfl, hu1, _, rfl⟩
  obtain ⟨AY, cY, rfl, hc2, hcm2⟩ := hu1.form
  have HX := Lib.hid (lt_nd 64 N (by decide))
  have HY := Lib.hid (lt_nd 64 M (by decide))
  clear hv hu
  rcases Nat.lt_or_ge (nd 64 N) (nd 64 M) with hlt | hge
  · have t1 : decide (nd 64 N < nd 64 M) = true := by simpa using hlt
    have HT2 : Hid (T = M + N) := by rw [HT.out]; exact Nat.add_comm _ _
    clear HT hmkN
    go_wp2_with (with_reducible refine wpList_copy_rd rfl (.tmp 24) (.tmp 25) rfl w.heap.size (nd 64 M + 1) AY (nd 64 M) cY rfl rfl 64 M (Own.make _) (hu1.alloc _) (Nat.le_succ _) w.heap.size w ((Below.refl _ _).alloc (Nat.le_refl _) _) (Nat.le_refl _) ?_)
    intro w2 ho hb2
    obtain ⟨_, _, _, hrX⟩ := hu1.at_
    obtain ⟨_, _, _, hrY⟩ := hv1.at_
    have ho1 := ho.lt
    generalize hsz : nd 64 M = a at *
    generalize hsy : nd 64 N = b at *
    clear hsz hsy
    go_wp2
    go_loopw [6, 29] (fun c i wr => ∃ j cr S : Nat, j ≤ a ∧ i = .int .i64 j ∧ c = .int .u64 cr ∧ AddInv M N S cr j ∧ Own 64 wr w.heap.size S (a + 1) ∧ Below w.heap.size w wr) (fun _ i _ => a - (intOf i).toNat)
    case atStart => exact ⟨0, 0, _, Nat.zero_le _, rfl, rfl, AddInv.start _ _, ho, hb2⟩
    case round =>
      obtain ⟨j, cr, S, hj, rfl, rfl, hinv, hown, hbw⟩ := hrel
      have hcr := hinv.1
      have hf := hown.free j
      by_cases hja : j < a
      · obtain ⟨b1, o1, rfl, hb1, hcell1⟩ := hrX (by omega)
        have hk1 : wr.cell? ⟨b1, o1 + j, none⟩ = _ := (hbw.cell (p := ⟨b1, o1 + j, none⟩) hb1).trans (hcell1 j hja)
        have hst := Lib.hid hinv.step
        have hd1 := dg64_lt M j
        have hos := Lib.hid (hown.set (j := j) (by omega) (d := (dg 64 M j + dg 64 N j + cr) % 18446744073709551616) (Nat.mod_lt _ (by decide)))
        have hoc := hown.cell (j := j) (by omega)
        by_cases hjb : j < b
        · obtain ⟨b2, o2, rfl, hb2', hcell2⟩ := hrY (by omega)
          have hk2 : wr.cell? ⟨b2, o2 + j, none⟩ = _ := (hbw.cell (p := ⟨b2, o2 + j, none⟩) hb2').trans (hcell2 j hjb)
          clear hrX hrY hcell1 hcell2 hinv
          generalize dg 64 M j = x at *
          generalize dg 64 N j = y at *
          have hadd := fun wx => add64_run x y cr hcr wx
          go_wp2
          go_roundw
          case rel => exact ⟨j + 1, _, _, by omega, by go_num, rfl, hst.out, hos.out, hbw.setCell (Nat.le_refl _) _⟩
          case measure => simp [intOf]; omega
        · have hy0 : dg 64 N j = 0 := dg_high 64 _ j b HX.out (by omega)
          rw [hy0] at hst hos
          clear hrX hrY hcell1 hinv hy0
          generalize dg 64 M j = x at *
          have hadd := fun wx => add64_run0 x cr hcr wx
          go_wp2
          go_roundw
          case rel => exact ⟨j + 1, _, _, by omega, by go_num, rfl, hst.out, hos.out, hbw.setCell (Nat.le_refl _) _⟩
          case measure => simp [intOf]; omega
      · obtain rfl : j = a := by omega
        have hlast := hinv.last HY.out (Nat.lt_of_lt_of_le HX.out (Nat.pow_le_pow_right (by decide) (by omega)))
        have hos := hown.set (j := j) (by omega) (d := cr) (by omega)
        rw [hlast] at hos
        have Hos := Lib.hid hos
        have hoc := hown.cell (j := j) (by omega)
        clear hos hlast hinv hrX hrY
        generalize dg 64 S j = z at *
        go_wp2_with fail
        refine (trim_any _ 64 (M + N) (j + 1) w.heap.size _ (by decide) (Hos.out.rd (by omega))).mono ?_
        rintro e w3 ⟨v3, rfl, h3, h3f, rfl⟩
        go_wp2
        go_ret
        rw [HT2.out]
        exact ⟨_, rfl, h3, h3f (Hos.out.fr (Nat.le_refl _)), hbw.setCell (Nat.le_refl _) _⟩
  · have t1 : decide (nd 64 N < nd 64 M) = false := by simp; omega
    have HT2 : Hid (T = N + M) := HT.out
    clear HT hmkM
    go_wp2_with (with_reducible refine wpList_copy_rd rfl (.tmp 24) (.tmp 25) rfl w.heap.size (nd 64 N + 1) AX (nd 64 N) cX rfl rfl 64 N (Own.make _) (hv1.alloc _) (Nat.le_succ _) w.heap.size w ((Below.refl _ _).alloc (Nat.le_refl _) _) (Nat.le_refl _) ?_)
    intro w2 ho hb2
    obtain ⟨_, _, _, hrX⟩ := hv1.at_
    obtain ⟨_, _, _, hrY⟩ := hu1.at_
    have ho1 := ho.lt
    generalize hsz : nd 64 N = a at *
    generalize hsy : nd 64 M = b at *
    clear hsz hsy
    go_wp2
    go_loopw [6, 29] (fun c i wr => ∃ j cr S : Nat, j ≤ a ∧ i = .int .i64 j ∧ c = .int .u64 cr ∧ AddInv N M S cr j ∧ Own 64 wr w.heap.size S (a + 1) ∧ Below w.heap.size w wr) (fun _ i _ => a - (intOf i).toNat)
    case atStart => exact ⟨0, 0, _, Nat.zero_le _, rfl, rfl, AddInv.start _ _, ho, hb2⟩
    case round =>
      obtain ⟨j, cr, S, hj, rfl, rfl, hinv, hown, hbw⟩ := hrel
      have hcr := hinv.1
      have hf := hown.free j
      by_cases hja : j < a
      · obtain ⟨b1, o1, rfl, hb1, hcell1⟩ := hrX (by omega)
        have hk1 : wr.cell? ⟨b1, o1 + j, none⟩ = _ := (hbw.cell (p := ⟨b1, o1 + j, none⟩) hb1).trans (hcell1 j hja)
        have hst := Lib.hid hinv.step
        have hd1 := dg64_lt N j
        have hos := Lib.hid (hown.set (j := j) (by omega) (d := (dg 64 N j + dg 64 M j + cr) % 18446744073709551616) (Nat.mod_lt _ (by decide)))
        have hoc := hown.cell (j := j) (by omega)
        by_cases hjb : j < b
        · obtain ⟨b2, o2, rfl, hb2', hcell2⟩ := hrY (by omega)
          have hk2 : wr.cell? ⟨b2, o2 + j, none⟩ = _ := (hbw.cell (p := ⟨b2, o2 + j, none⟩) hb2').trans (hcell2 j hjb)
          clear hrX hrY hcell1 hcell2 hinv
          generalize dg 64 N j = x at *
          generalize dg 64 M j = y at *
          have hadd := fun wx => add64_run x y cr hcr wx
          go_wp2
          go_roundw
          case rel => exact ⟨j + 1, _, _, by omega, by go_num, rfl, hst.out, hos.out, hbw.setCell (Nat.le_refl _) _⟩
          case measure => simp [intOf]; omega
        · have hy0 : dg 64 M j = 0 := dg_high 64 _ j b HY.out (by omega)
          rw [hy0] at hst hos
          clear hrX hrY hcell1 hinv hy0
          generalize dg 64 N j = x at *
          have hadd := fun wx => add64_run0 x cr hcr wx
          go_wp2
          go_roundw
          case rel => exact ⟨j + 1, _, _, by omega, by go_num, rfl, hst.out, hos.out, hbw.setCell (Nat.le_refl _) _⟩
          case measure => simp [intOf]; omega
      · obtain rfl : j = a := by omega
        have hlast := hinv.last HX.out (Nat.lt_of_lt_of_le HY.out (Nat.pow_le_pow_right (by decide) (by omega)))
        have hos := hown.set (j := j) (by omega) (d := cr) (by omega)
        rw [hlast] at hos
        have Hos := Lib.hid hos
        have hoc := hown.cell (j := j) (by omega)
        clear hos hlast hinv hrX hrY
        generalize dg 64 S j = z at *
        go_wp2_with fail
        refine (trim_any _ 64 (N + M) (j + 1) w.heap.size _ (by decide) (Hos.out.rd (by omega))).mono ?_
        rintro e w3 ⟨v3, rfl, h3, h3f, rfl⟩
        go_wp2
        go_ret
        rw [HT2.out]
        exact ⟨_, rfl, h3, h3f (Hos.out.fr (Nat.le_refl _)), hbw.setCell (Nat.le_refl _) _⟩

end Go.Proofs.YtakjbmlkcbedmaaDoor

/- Walks of layer 2: less, Sub, right, Shr. -/
namespace Go.Proofs.YtakjbmlkcbedmaaDoor
set_option linter.unusedVariables false
open Go.RowKit

set_option maxHeartbeats 1000000 in
theorem less_any (u : Value) (g N n M m : Nat) (w0 w : World) (hown : Own 64 w g N n) (hn : n ≤ 35184372088832) (hu : Rd 64 w0 u M m) (hb : Below w0.heap.size w0 w) (hg : w0.heap.size ≤ g) (hle : M ≤ N) :
    Calls Tryd.prog 72 #[.slice (some ⟨g, 0, none⟩) n n, u] w fun e w' => ∃ v', e = .returned v' ∧ Rd 64 w' v' (N - M) (nd 64 (N - M)) ∧ Fr g w' v' ∧ Below w0.heap.size w0 w' := by
  obtain ⟨A2, c2, rfl, hc2, hcm2⟩ := hu.form
  obtain ⟨_, _, _, hr⟩ := hu.at_
  have HM := Lib.hid hu.lt
  have HN := Lib.hid hown.num
  go_enter Tryd.func72, Tryd.ntmps72
  go_wp2
  go_loopw [5, 10] (fun c i wr => ∃ j cr S : Nat, j ≤ n ∧ i = .int .i64 j ∧ c = .int .u64 cr ∧ SubInv N M S cr j ∧ Own 64 wr g S n ∧ Below w0.heap.size w0 wr) (fun _ i _ => n - (intOf i).toNat)
  case atStart => exact ⟨0, 0, _, Nat.zero_le _, rfl, rfl, SubInv.start _ _, hown, hb⟩
  case round =>
    obtain ⟨j, cr, S, hj, rfl, rfl, hinv, hown, hbw⟩ := hrel
    have hcr := hinv.1
    have hf := hown.free j
    by_cases hja : j < n
    · have hst := Lib.hid hinv.step
      have hd1 := dg64_lt N j
      have hdS : dg 64 S j = dg 64 N j := dg_of_div 64 _ _ j j hinv.2.1 (Nat.le_refl _)
      have hos := Lib.hid (hown.set (j := j) hja (d := (dg 64 N j + 18446744073709551616 - dg 64 M j - cr) % 18446744073709551616) (Nat.mod_lt _ (by decide)))
      have hoc := hown.cell (j := j) hja
      rw [hdS] at hoc
      clear hdS
      by_cases hjb : j < m
      · obtain ⟨b2, o2, rfl, hb2', hcell2⟩ := hr (by omega)
        have hk2 : wr.cell? ⟨b2, o2 + j, none⟩ = _ := (hbw.cell (p := ⟨b2, o2 + j, none⟩) hb2').trans (hcell2 j hjb)
        clear hr hcell2 hinv
        generalize dg 64 N j = x at *
        generalize dg 64 M j = y at *
        have hsub := fun wx => sub64_run x y cr hcr wx
        go_wp2
        go_roundw
        case rel => exact ⟨j + 1, _, _, by omega, by go_num, rfl, hst.out, hos.out, hbw.setCell hg _⟩
        case measure => simp [intOf]; omega
      · have hy0 : dg 64 M j = 0 := dg_high 64 _ j m HM.out (by omega)
        rw [hy0, Nat.zero_add] at hst
        rw [hy0] at hos
        clear hr hinv hy0
        generalize dg 64 N j = x at *
        have hsub := fun wx => sub64_run0 x cr hcr wx
        go_wp2
        go_roundw
        case rel => exact ⟨j + 1, _, _, by omega, by go_num, rfl, hst.out, hos.out, hbw.setCell hg _⟩
        case measure => simp [intOf]; omega
    · obtain rfl : j = n := by omega
      have Hlast := Lib.hid (hinv.last HN.out (Nat.lt_of_le_of_lt hle HN.out) hle)
      clear hinv hr
      go_wp2_with fail
      refine (trim_any _ 64 S j g _ (by decide) (hown.rd hn)).mono ?_
      rintro e w3 ⟨v3, rfl, h3, h3f, rfl⟩
      go_wp2
      go_ret
      rw [← Hlast.out]
      exact ⟨_, rfl, h3, h3f (hown.fr (Nat.le_refl _)), hbw⟩

set_option maxHeartbeats 400000 in
theorem Sub_ok (v u : Value) (N n M m : Nat) (w : World) (hv : Rd 64 w v N n) (hu : Rd 64 w u M m) (hle : M ≤ N) :
    Calls Tryd.prog 56 #[v, u] w fun e w' => ∃ v', e = .returned (.tuple #[v', .int .i64 0]) ∧ Rd 64 w' v' (N - M) (nd 64 (N - M)) ∧ Fr w.heap.size w' v' ∧ Below w.heap.size w w' := by
  have hd : nd 64 N ≤ 35184372088832 := Nat.le_trans (nd_le 64 N n (by decide) hv.lt) hv.len
  have hcmp : decide (cmpN N M < 0) = false := by unfold cmpN; simp; split <;> (try split) <;> omega
  go_enter Tryd.func56, Tryd.ntmps56
  go_wp2_with fail
  refine (Cmp_any v u N n M m w hv hu).mono ?_
  rintro e w1 ⟨rfl, d, rfl⟩
  generalize cmpN N M = cc at *
  go_wp2_with fail
  refine (copied_own v N n _ (hv.drewN d)).mono ?_
  rintro e w2 ⟨rfl, ho, hb2⟩
  go_wp2_with fail
  refine (trim_core u 64 M m w2 (by decide) ((hu.drewN d).below hb2)).mono ?_
  rintro e w3 ⟨u3, rfl, hu3, _, rfl⟩
  go_wp2_with fail
  refine (less_any u3 (w.drewN d).heap.size N (nd 64 N) M (nd 64 M) (w.drewN d) w2 ho hd (hu3 _ (hu.drewN d)) hb2 (Nat.le_refl _) hle).mono ?_
  rintro e w3 ⟨v3, rfl, h3, h3f, hb3⟩
  go_wp2
  go_ret2
  exact ⟨_, rfl, h3, h3f, (show Below w.heap.size w (w.drewN d) from ⟨rfl, rfl, rfl, Nat.le_refl _, fun _ _ => rfl⟩).trans hb3⟩

end Go.Proofs.YtakjbmlkcbedmaaDoor

/- Walks of layer 2: right, Shr. -/
namespace Go.Proofs.YtakjbmlkcbedmaaDoor
set_option linter.unusedVariables false
open Go.RowKit

set_option maxRecDepth 100000 in
set_option maxHeartbeats 1000000 in
theorem right_any (v : Value) (N n s : Nat) (w : World) (hv : Rd 64 w v N n) (hs : s ≤ 9223372036854775807) :
    Calls Tryd.prog 73 #[v, .int .i64 s] w fun e w' => ∃ v', e = .returned v' ∧ Rd 64 w' v' (N / 2 ^ s) (nd 64 (N / 2 ^ s)) ∧ Fr w.heap.size w' v' ∧ Below w.heap.size w w' := by
  have HN := Lib.hid (lt_nd 64 N (by decide))
  have hnN := Nat.le_trans (nd_le 64 N n (by decide) hv.lt) hv.len
  by_cases hw : nd 64 N ≤ s / 64
  · have hz : N / 2 ^ s = 0 := by
      apply Nat.div_eq_of_lt
      refine Nat.lt_of_lt_of_le HN.out (Nat.pow_le_pow_right (by decide) ?_)
      have := Nat.div_mul_le_self s 64
      omega
    have Hz := Lib.hid hz
    clear hz
    go_enter Tryd.func73, Tryd.ntmps73
    go_wp2_with fail
    refine (trim_any v 64 N n 0 w (by decide) hv).mono ?_
    rintro e w1 ⟨v1, rfl, hv1, _, rfl⟩
    obtain ⟨A1, c1, rfl, hc1, hcm1⟩ := hv1.form
    have t1 : decide (((nd 64 N : Nat) : Int) ≤ ((s : Int) / 64)) = true := by simp; omega
    generalize nd 64 N = a at *
    go_wp2
    go_ret
    rw [Hz.out, nd_zero]
    exact ⟨_, rfl, Rd.nil_, Fr.none_, Below.refl _ _⟩
  · obtain ⟨q, r, hqr, hr⟩ : ∃ q r, s = 64 * q + r ∧ r < 64 := ⟨s / 64, s % 64, by omega, by omega⟩
    have Hqr := Lib.hid hqr
    have hq : (s : Int) / 64 = (q : Int) := by omega
    have hr' : (s : Int) % 64 = (r : Int) := by omega
    have hqa : q < nd 64 N := by omega
    obtain ⟨L, hL⟩ : ∃ L, nd 64 N = q + L := ⟨nd 64 N - q, by omega⟩
    have HL := Lib.hid hL
    have hmk := fun wx => make_words L (by omega) wx
    rw [show ((L : Nat) : Int) = (nd 64 N : Int) - (q : Int) from by omega] at hmk
    have hRL : N / 2 ^ s < 2 ^ (64 * L) := by
      rw [Nat.div_lt_iff_lt_mul (pow_pos2 s), ← Nat.pow_add]
      refine Nat.lt_of_lt_of_le HN.out (Nat.pow_le_pow_right (by decide) (by omega))
    have HRL := Lib.hid hRL
    have hLL : L ≤ 35184372088832 := by omega
    clear hqr hL hRL hw
    go_enter Tryd.func73, Tryd.ntmps73
    go_wp2_with fail
    refine (trim_any v 64 N n 0 w (by decide) hv).mono ?_
    rintro e w1 ⟨v1, rfl, hv1, _, rfl⟩
    obtain ⟨A1, c1, rfl, hc1, hcm1⟩ := hv1.form
    obtain ⟨_, _, _, hrX⟩ := hv1.at_
    generalize nd 64 N = a at *
    have t1 : decide (a ≤ q) = false := by simp; omega
    go_wp2
    simp only [hr']
    clear hq hr'
    go_loopw [26] (fun i wr => ∃ j : Nat, j ≤ L ∧ i = .int .i64 j ∧ Own 64 wr w.heap.size (N / 2 ^ s % 2 ^ (64 * j)) L ∧ Below w.heap.size w wr) (fun i _ => L - (intOf i).toNat)
    case atStart => exact ⟨0, Nat.zero_le _, rfl, by simpa [Nat.mod_one] using Own.make L, (Below.refl _ _).alloc (Nat.le_refl _) _⟩
    case round =>
      obtain ⟨j, hj, rfl, hown, hbw⟩ := hrel
      by_cases hjL : j < L
      · have hf := hown.free j
        have hoc := hown.cell hjL
        obtain ⟨b1, o1, rfl, hb1, hcell1⟩ := hrX (by omega)
        have hk1 : wr.cell? ⟨b1, o1 + (q + j), none⟩ = _ := (hbw.cell (p := ⟨b1, o1 + (q + j), none⟩) hb1).trans (hcell1 (q + j) (by have := HL.out; omega))
        have hqj : (q : Int) + j < a := by have := HL.out; omega
        have hx := dg64_lt N (q + j)
        obtain ⟨d1, hd1, Hd1⟩ : ∃ d1 : Nat, ((dg 64 N (q + j) : Nat) : Int) / 2 ^ r = (d1 : Int) ∧ Hid (d1 = dg 64 N (q + j) / 2 ^ r) := ⟨_, by simp, rfl⟩
        have hd1l : d1 < 18446744073709551616 := by rw [Hd1.out]; exact Nat.lt_of_le_of_lt (Nat.div_le_self _ _) hx
        have hos := hown.set (j := j) hjL (d := d1) hd1l
        by_cases hq1 : q + j + 1 < a
        · have hk2 : wr.cell? ⟨b1, o1 + (q + j + 1), none⟩ = _ := (hbw.cell (p := ⟨b1, o1 + (q + j + 1), none⟩) hb1).trans (hcell1 (q + j + 1) hq1)
          have hq1' : (q : Int) + j + 1 < a := by omega
          go_wp2
          go_region
          go_wp2
          go_roundw
          case rel =>
            refine ⟨j + 1, by omega, by go_num, ?_, ((hbw.setCell (Nat.le_refl _) _).setCell (Nat.le_refl _) _).drew⟩
            rw [right_step N q r j d1 hr Hd1.out, ← Hqr.out, ← setDg_build, ← setDg_setDg 64 _ j d1 _ hd1l]
            exact (hos.set hjL (dg_lt 64 _ j)).drew
          case measure => simp [intOf]; omega
        · have hq1' : decide ((q : Int) + j + 1 < a) = false := by simp; omega
          go_wp2
          go_roundw
          case rel =>
            refine ⟨j + 1, by omega, by go_num, ?_, hbw.setCell (Nat.le_refl _) _⟩
            have e : dg 64 (N / 2 ^ s) j = d1 := by
              rw [Hqr.out, shr_digit N q r j hr, dg_high 64 N (q + j + 1) a HN.out (by omega), Hd1.out]; simp
            rw [← setDg_build, e]
            exact hos
          case measure => simp [intOf]; omega
      · obtain rfl : j = L := by omega
        rw [Nat.mod_eq_of_lt HRL.out] at hown
        go_wp2_with fail
        refine (trim_any _ 64 (N / 2 ^ s) j w.heap.size _ (by decide) (hown.rd hLL)).mono ?_
        rintro e w3 ⟨v3, rfl, h3, h3f, rfl⟩
        go_wp2
        go_ret
        exact ⟨_, rfl, h3, h3f (hown.fr (Nat.le_refl _)), hbw⟩

set_option maxHeartbeats 400000 in
theorem Shr_any (v : Value) (N n s : Nat) (w : World) (hv : Rd 64 w v N n) (hs : s ≤ 9223372036854775807) :
    Calls Tryd.prog 58 #[v, .int .i64 s] w fun e w' => ∃ v', e = .returned (.tuple #[v', .int .i64 0]) ∧ Rd 64 w' v' (N / 2 ^ s) (nd 64 (N / 2 ^ s)) ∧ Fr w.heap.size w' v' ∧ Below w.heap.size w w' := by
  go_enter Tryd.func58, Tryd.ntmps58
  go_wp2_with fail
  refine (right_any v N n s w hv hs).mono ?_
  rintro e w1 ⟨v1, rfl, h1, h2, h3⟩
  go_wp2
  go_ret2
  exact ⟨_, rfl, h1, h2, h3⟩

end Go.Proofs.YtakjbmlkcbedmaaDoor

/- Walks of layer 2: product. -/
namespace Go.Proofs.YtakjbmlkcbedmaaDoor
set_option linter.unusedVariables false
open Go.RowKit

set_option maxRecDepth 100000 in
set_option maxHeartbeats 2000000 in
theorem product_any (v u : Value) (N n M m : Nat) (w : World) (hv : Rd 64 w v N n) (hu : Rd 64 w u M m) (hn : nd 64 N + nd 64 M ≤ 35184372088832) :
    Calls Tryd.prog 77 #[v, u] w fun e w' => ∃ v', e = .returned v' ∧ Rd 64 w' v' (N * M) (nd 64 (N * M)) ∧ Fr w.heap.size w' v' ∧ Below w.heap.size w w' := by
  have HN := Lib.hid (lt_nd 64 N (by decide))
  have HM := Lib.hid (lt_nd 64 M (by decide))
  have hmk := fun wx => make_words2 (nd 64 N) (nd 64 M) hn wx
  go_enter Tryd.func77, Tryd.ntmps77
  go_wp2_with fail
  refine (trim_any v 64 N n 0 w (by decide) hv).mono ?_
  rintro e w1 ⟨v1, rfl, hv1, _, rfl⟩
  obtain ⟨A1, c1, rfl, hc1, hcm1⟩ := hv1.form
  go_wp2_with fail
  refine (trim_any u 64 M m 0 w (by decide) hu).mono ?_
  rintro e w1 ⟨u1, rfl, hu1, _, rfl⟩
  obtain ⟨A2, c2, rfl, hc2, hcm2⟩ := hu1.form
  obtain ⟨_, _, _, hrX⟩ := hv1.at_
  obtain ⟨_, _, _, hrY⟩ := hu1.at_
  clear hv hu
  generalize nd 64 N = a at *
  generalize nd 64 M = b at *
  go_wp2
  clear hmk
  go_loopw [26] (fun i wr => ∃ j : Nat, j ≤ a ∧ i = .int .i64 j ∧ Own 64 wr w.heap.size (N % 2 ^ (64 * j) * M) (a + b) ∧ Below w.heap.size w wr) (fun i _ => a - (intOf i).toNat)
  case atStart => exact ⟨0, Nat.zero_le _, rfl, by simpa [Nat.mod_one] using Own.make (a + b), (Below.refl _ _).alloc (Nat.le_refl _) _⟩
  case round =>
    obtain ⟨i, hi, rfl, hown, hbw⟩ := hrel
    by_cases hia : i < a
    · obtain ⟨b1, o1, rfl, hb1, hcell1⟩ := hrX (by omega)
      have hk1 : wr.cell? ⟨b1, o1 + i, none⟩ = _ := (hbw.cell (p := ⟨b1, o1 + i, none⟩) hb1).trans (hcell1 i hia)
      have hst := Lib.hid (ProdInv.start N M b _ i rfl HM.out)
      have hx := dg64_lt N i
      obtain ⟨x, hxe⟩ : ∃ x, x = dg 64 N i := ⟨_, rfl⟩
      rw [← hxe] at hk1 hx
      have Hx := Lib.hid hxe
      clear hxe hrX hcell1
      obtain ⟨wo, rfl⟩ : ∃ wo : World, wo = wr := ⟨_, rfl⟩
      obtain ⟨P0, hP0⟩ : ∃ P0, P0 = N % 2 ^ (64 * i) * M := ⟨_, rfl⟩
      rw [← hP0] at hown hst
      clear hP0
      go_wp2
      go_loopw [8, 33] (fun c k wr => ∃ j cr P : Nat, j ≤ b ∧ k = .int .i64 j ∧ c = .int .u64 cr ∧ ProdInv N M b P i j cr ∧ Own 64 wr w.heap.size P (a + b) ∧ Below w.heap.size w wr) (fun _ k _ => b - (intOf k).toNat)
      case atStart => exact ⟨0, 0, _, Nat.zero_le _, rfl, rfl, hst.out, hown, hbw⟩
      case round =>
        obtain ⟨j, cr, P, hj, rfl, rfl, hinv, hown, hbw⟩ := hrel
        have hcr := hinv.2.1
        by_cases hjb : j < b
        · obtain ⟨b2, o2, rfl, hb2, hcell2⟩ := hrY (by omega)
          have hk2 : wr.cell? ⟨b2, o2 + j, none⟩ = _ := (hbw.cell (p := ⟨b2, o2 + j, none⟩) hb2).trans (hcell2 j hjb)
          have hoc := hown.cell (j := i + j) (by omega)
          have hf := hown.free (i + j)
          have hy := dg64_lt M j
          have hp := dg64_lt P (i + j)
          obtain ⟨hi0, hhi⟩ : ∃ h, h = x * dg 64 M j / 18446744073709551616 := ⟨_, rfl⟩
          obtain ⟨lo0, hlo⟩ : ∃ h, h = x * dg 64 M j % 18446744073709551616 := ⟨_, rfl⟩
          have hlol : lo0 < 18446744073709551616 := by rw [hlo]; exact Nat.mod_lt _ (by decide)
          obtain ⟨l1, k1, hadd1, he1, hl1, hk1'⟩ := add64c_ex lo0 (dg 64 P (i + j)) hlol hp
          obtain ⟨l2, k2, hadd2, he2, hl2, hk2'⟩ := add64c_ex l1 cr hl1 hcr
          obtain ⟨t, ht⟩ : ∃ t, t = x * dg 64 M j + dg 64 P (i + j) + cr := ⟨_, rfl⟩
          obtain ⟨g1, g2, g3, g4⟩ := prod_digit x (dg 64 M j) (dg 64 P (i + j)) cr hi0 lo0 l1 k1 l2 k2 t hx hy hp hcr hhi hlo he1.out he2.out hl1 hl2 ht
          have hst2 := Lib.hid (hinv.step (t := t) hjb (by rw [← Hx.out]; exact ht))
          have hos := Lib.hid (hown.set (j := i + j) (by omega) hl2)
          have G1 := Lib.hid g1
          have G2 := Lib.hid g2
          have Hhi := Lib.hid hhi
          have Hlo := Lib.hid hlo
          have hmul := mul64_any x (dg 64 M j)
          rw [← hhi, ← hlo] at hmul
          clear g1 g2 hhi hlo ht hcell2 hrY hinv hown
          generalize dg 64 M j = y at *
          generalize dg 64 P (i + j) = p at *
          go_wp2_with fail
          refine (hmul _ hx hy).mono ?_
          rintro e w3 ⟨rfl, rfl⟩
          clear hmul
          go_wp2
          go_roundw
          case rel =>
            refine ⟨j + 1, hi0 + k1 + k2, _, by omega, by go_num, by go_num, ?_, hos.out, hbw.setCell (Nat.le_refl _) _⟩
            rw [G1.out, G2.out]
            exact hst2.out
          case measure => simp [intOf]; omega
        · obtain rfl : j = b := by omega
          have hoc := hown.cell (j := i + j) (by omega)
          have hf := hown.free (i + j)
          have hos := hown.set (j := i + j) (by omega) (d := cr) hcr
          rw [hinv.last HM.out] at hos
          have Hos := Lib.hid hos
          clear hos hinv hown hst hrY
          generalize dg 64 P (i + j) = p at *
          go_wp2
          go_roundw
          case rel => exact ⟨i + 1, by omega, by go_num, Hos.out, hbw.setCell (Nat.le_refl _) _⟩
          case measure => simp [intOf]; omega
    · obtain rfl : i = a := by omega
      rw [Nat.mod_eq_of_lt HN.out] at hown
      go_wp2_with fail
      refine (trim_any _ 64 (N * M) (i + b) w.heap.size _ (by decide) (hown.rd hn)).mono ?_
      rintro e w3 ⟨v3, rfl, h3, h3f, rfl⟩
      go_wp2
      go_ret
      exact ⟨_, rfl, h3, h3f (hown.fr (Nat.le_refl _)), hbw⟩

end Go.Proofs.YtakjbmlkcbedmaaDoor

/- Walks of layer 2: great, Mul. -/
namespace Go.Proofs.YtakjbmlkcbedmaaDoor
set_option linter.unusedVariables false
open Go.RowKit

/-- has one of the first k too many words? -/
def anyBig (Ns : Nat → Nat) (k : Nat) : Bool := (List.range k).any fun j => decide (1024 < nd 64 (Ns j))

theorem anyBig_true {Ns : Nat → Nat} {k j : Nat} (hj : j < k) (h : 1024 < nd 64 (Ns j)) : anyBig Ns k = true := by
  unfold anyBig; rw [List.any_eq_true]; exact ⟨j, by simpa using hj, by simpa using h⟩

theorem anyBig_false {Ns : Nat → Nat} {k : Nat} (h : ∀ j, j < k → nd 64 (Ns j) ≤ 1024) : anyBig Ns k = false := by
  unfold anyBig
  rw [Bool.eq_false_iff]
  intro h'
  rw [List.any_eq_true] at h'
  obtain ⟨j, hj, hb⟩ := h'
  have := h j (by simpa using hj)
  simp at hb; omega

set_option maxHeartbeats 400000 in
theorem great_any (b c k : Nat) (V : Nat → Value) (Ns ns : Nat → Nat) (w : World) (hk : k ≤ 1000000)
    (hc : ∀ j, j < k → w.cell? ⟨b, j, none⟩ = some (V j)) (hV : ∀ j, j < k → Rd 64 w (V j) (Ns j) (ns j)) :
    Calls Tryd.prog 76 #[.slice (some ⟨b, 0, none⟩) k c] w fun e w' => e = .returned (.bool (anyBig Ns k)) ∧ w = w' := by
  go_enter Tryd.func76, Tryd.ntmps76
  go_wp2
  go_loop [7] (fun i => ∃ j : Nat, j ≤ k ∧ i = .int .i64 j ∧ Hid (∀ x, x < j → nd 64 (Ns x) ≤ 1024)) (fun i => k - (intOf i).toNat)
  case atStart => exact ⟨0, Nat.zero_le _, rfl, fun x hx => by omega⟩
  case round =>
    obtain ⟨j, hj, rfl, hall⟩ := hrel
    by_cases hjk : j < k
    · have hcj := hc j hjk
      have hVj := hV j hjk
      have Hc := Lib.hid hc
      have HV := Lib.hid hV
      clear hc hV
      generalize hv : V j = v at *
      clear hv
      go_wp2_with fail
      refine (trim_any v 64 (Ns j) (ns j) 0 w (by decide) hVj).mono ?_
      rintro e w1 ⟨v1, rfl, hv1, _, rfl⟩
      obtain ⟨A1, c1, rfl, hc1, hcm1⟩ := hv1.form
      by_cases hbig : 1024 < nd 64 (Ns j)
      · have H := Lib.hid (anyBig_true hjk hbig)
        generalize nd 64 (Ns j) = x at *
        have hb' : (1024 : Int) < x := by omega
        go_wp2
        go_ret
        exact ⟨by rw [H.out]; rfl, rfl⟩
      · have hb2 : nd 64 (Ns j) ≤ 1024 := by omega
        have hnext : Hid (∀ x, x < j + 1 → nd 64 (Ns x) ≤ 1024) := fun x hx => by
          rcases Nat.lt_or_ge x j with h | h
          · exact hall.out x h
          · have : x = j := by omega
            rw [this]; exact hb2
        clear hall hbig hVj hv1
        generalize nd 64 (Ns j) = x at *
        have hb' : decide ((1024 : Int) < x) = false := by simp; omega
        go_wp2
        go_round
        case rel => exact ⟨j + 1, by omega, by go_num, hnext⟩
        case measure => simp [intOf]; omega
    · obtain rfl : j = k := by omega
      have H := Lib.hid (anyBig_false hall.out)
      clear hall hc hV
      go_wp2
      go_ret
      exact ⟨by rw [H.out]; rfl, rfl⟩

/-- what Mul answers -/
def mulN (N M : Nat) : Nat × Int := if 1024 < nd 64 N ∨ 1024 < nd 64 M ∨ 1024 < nd 64 (N * M) then (0, 5) else (N * M, 0)

def pick2 {α : Type} (a b : α) : Nat → α | 0 => a | _ => b

set_option maxHeartbeats 1000000 in
theorem Mul_any (v u : Value) (N n M m : Nat) (w : World) (hv : Rd 64 w v N n) (hu : Rd 64 w u M m) :
    Calls Tryd.prog 67 #[v, u] w fun e w' => ∃ v', e = .returned (.tuple #[v', .int .i64 (mulN N M).2]) ∧ Rd 64 w' v' (mulN N M).1 (nd 64 (mulN N M).1) ∧ Fr w.heap.size w' v' ∧ Below w.heap.size w w' := by
  obtain ⟨A1, c1, rfl, hc1, hcm1⟩ := hv.form
  obtain ⟨A2, c2, rfl, hc2, hcm2⟩ := hu.form
  go_enter Tryd.func67, Tryd.ntmps67
  go_wp2_with fail
  have hal : Below w.heap.size w (w.alloc (Obj.cells #[Value.slice A1 n c1, Value.slice A2 m c2] 24)) := (Below.refl _ _).alloc (Nat.le_refl _) _
  have hcs : ∀ j, j < 2 → (w.alloc (Obj.cells #[Value.slice A1 n c1, Value.slice A2 m c2] 24)).cell? ⟨w.heap.size, j, none⟩ = some (pick2 (Value.slice A1 n c1) (Value.slice A2 m c2) j) := fun j hj => by
    rw [World.cell?_alloc_at _ _ _ _ rfl]
    match j, hj with
    | 0, _ => rfl
    | 1, _ => rfl
  have hVs : ∀ j, j < 2 → Rd 64 (w.alloc (Obj.cells #[Value.slice A1 n c1, Value.slice A2 m c2] 24)) (pick2 (Value.slice A1 n c1) (Value.slice A2 m c2) j) (pick2 N M j) (pick2 n m j) := fun j hj => by
    match j, hj with
    | 0, _ => exact hv.below hal
    | 1, _ => exact hu.below hal
  refine (great_any w.heap.size 2 2 (pick2 (Value.slice A1 n c1) (Value.slice A2 m c2)) (pick2 N M) (pick2 n m) _ (by omega) hcs hVs).mono ?_
  rintro e w1 ⟨rfl, rfl⟩
  clear hcs hVs
  by_cases hbig : 1024 < nd 64 N ∨ 1024 < nd 64 M
  · have hb : anyBig (pick2 N M) 2 = true := by
      rcases hbig with h | h
      · exact anyBig_true (j := 0) (by omega) h
      · exact anyBig_true (j := 1) (by omega) h
    have e1 : mulN N M = (0, 5) := by
      unfold mulN; rw [if_pos]; rcases hbig with h | h
      · exact Or.inl h
      · exact Or.inr (Or.inl h)
    have E1 := Lib.hid e1
    clear e1 hbig
    rw [hb]
    go_wp2
    go_ret2
    rw [E1.out, nd_zero]
    exact ⟨_, rfl, Rd.nil_, Fr.none_, hal⟩
  · have hb : anyBig (pick2 N M) 2 = false := anyBig_false fun j hj => by
      match j, hj with
      | 0, _ => show nd 64 N ≤ 1024; omega
      | 1, _ => show nd 64 M ≤ 1024; omega
    rw [hb]
    have hbN : nd 64 N ≤ 1024 := by omega
    have hbM : nd 64 M ≤ 1024 := by omega
    go_wp2_with fail
    refine (product_any (.slice A1 n c1) (.slice A2 m c2) N n M m _ (hv.below hal) (hu.below hal) (by omega)).mono ?_
    rintro e w1 ⟨v1, rfl, h1, hf1, hb1⟩
    obtain ⟨A3, c3, rfl, hc3, hcm3⟩ := h1.form
    have hb1' := hal.trans (hb1.mono hal.size)
    go_wp2_with fail
    have hal3 : Below w1.heap.size w1 (w1.alloc (Obj.cells #[Value.slice A3 (nd 64 (N * M)) c3] 24)) := (Below.refl _ _).alloc (Nat.le_refl _) _
    have hcs : ∀ j, j < 1 → (w1.alloc (Obj.cells #[Value.slice A3 (nd 64 (N * M)) c3] 24)).cell? ⟨w1.heap.size, j, none⟩ = some ((fun _ => Value.slice A3 (nd 64 (N * M)) c3) j) := fun j hj => by
      rw [World.cell?_alloc_at _ _ _ _ rfl]
      match j, hj with
      | 0, _ => rfl
    refine (great_any w1.heap.size 1 1 (fun _ => Value.slice A3 (nd 64 (N * M)) c3) (fun _ => N * M) (fun _ => nd 64 (N * M)) _ (by omega) hcs (fun j hj => h1.below hal3)).mono ?_
    rintro e w2 ⟨rfl, rfl⟩
    clear hcs
    have hb2 := hb1'.trans (hal3.mono hb1'.size)
    by_cases hp : 1024 < nd 64 (N * M)
    · have hb : anyBig (fun _ => N * M) 1 = true := anyBig_true (j := 0) (by omega) hp
      have E1 : Hid (mulN N M = (0, 5)) := by show _ = _; unfold mulN; rw [if_pos (Or.inr (Or.inr hp))]
      clear hp hbig
      rw [hb]
      go_wp2
      go_ret2
      rw [E1.out, nd_zero]
      exact ⟨_, rfl, Rd.nil_, Fr.none_, hb2⟩
    · have hb : anyBig (fun _ => N * M) 1 = false := anyBig_false fun j hj => by show nd 64 (N * M) ≤ 1024; omega
      have E1 : Hid (mulN N M = (N * M, 0)) := by show _ = _; unfold mulN; rw [if_neg]; omega
      clear hp hbig
      rw [hb]
      go_wp2
      go_ret2
      rw [E1.out]
      exact ⟨_, rfl, h1.below hal3, (hf1.below hal3).mono hal.size, hb2⟩

end Go.Proofs.YtakjbmlkcbedmaaDoor
