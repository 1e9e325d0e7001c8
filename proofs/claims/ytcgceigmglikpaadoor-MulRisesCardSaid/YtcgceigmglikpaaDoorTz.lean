/- Exact numbers as plain data: sign, natural, exponent; the canonical form; sums. -/
import Derived.Test.YtcgceigmglikpaaDoorNatMath
namespace Go.Proofs.YtcgceigmglikpaaDoor
set_option linter.unusedVariables false

/-- how many zero bits stand at the beginning of N (0 of 0) -/
def tzN (N : Nat) : Nat := if h : N = 0 then 0 else if N % 2 = 1 then 0 else 1 + tzN (N / 2)
termination_by N
decreasing_by omega

theorem tzN_zero : tzN 0 = 0 := by rw [tzN]; simp

theorem tzN_spec (N : Nat) (h : N ≠ 0) : ∃ m, N = 2 ^ tzN N * (2 * m + 1) := by
  induction N using Nat.strongRecOn with
  | _ N ih =>
    rw [tzN, dif_neg h]
    by_cases h1 : N % 2 = 1
    · rw [if_pos h1]; exact ⟨N / 2, by omega⟩
    · rw [if_neg h1]
      obtain ⟨m, hm⟩ := ih (N / 2) (by omega) (by omega)
      refine ⟨m, ?_⟩
      rw [Nat.add_comm 1, Nat.pow_succ]
      generalize 2 ^ tzN (N / 2) = p at *
      grind

theorem odd_part_unique {a b m k : Nat} (h : 2 ^ a * (2 * m + 1) = 2 ^ b * (2 * k + 1)) : a = b ∧ m = k := by
  rcases Nat.lt_trichotomy a b with hab | hab | hab
  · exfalso
    obtain ⟨t, rfl⟩ : ∃ t, b = a + t + 1 := ⟨b - a - 1, by omega⟩
    rw [Nat.pow_succ, Nat.pow_add, Nat.mul_assoc, Nat.mul_assoc] at h
    have := Nat.eq_of_mul_eq_mul_left (Nat.pow_pos (n := a) (by decide : 0 < 2)) h
    have e : 2 ^ t * (2 * (2 * k + 1)) = 2 * (2 ^ t * (2 * k + 1)) := by grind
    omega
  · subst hab
    have := Nat.eq_of_mul_eq_mul_left (Nat.pow_pos (n := a) (by decide : 0 < 2)) h
    omega
  · exfalso
    obtain ⟨t, rfl⟩ : ∃ t, a = b + t + 1 := ⟨a - b - 1, by omega⟩
    rw [Nat.pow_succ, Nat.pow_add, Nat.mul_assoc, Nat.mul_assoc] at h
    have := Nat.eq_of_mul_eq_mul_left (Nat.pow_pos (n := b) (by decide : 0 < 2)) h
    have e : 2 ^ t * (2 * (2 * m + 1)) = 2 * (2 ^ t * (2 * m + 1)) := by grind
    omega

theorem tzN_unique {N z m : Nat} (h : N = 2 ^ z * (2 * m + 1)) : tzN N = z := by
  have h0 : N ≠ 0 := by
    rw [h]; exact Nat.ne_of_gt (Nat.mul_pos (pow_pos2 z) (by omega))
  obtain ⟨k, hk⟩ := tzN_spec N h0
  rw [h] at hk
  have := (odd_part_unique hk).1
  rw [← h] at this
  exact this.symm

/-- the first digit that is not 0, at place i: the zeros before it and in it -/
theorem tzN_digits (N i m t : Nat) (h0 : N % 2 ^ (64 * i) = 0) (hd : dg 64 N i = 2 ^ t * (2 * m + 1)) (ht : t < 64) : tzN N = 64 * i + t := by
  have e1 := Nat.div_add_mod N (2 ^ (64 * i))
  rw [h0, Nat.add_zero] at e1
  have e2 := div_succ 64 N i
  rw [hd] at e2
  have e3 : N = 2 ^ (64 * i + t) * (2 * (N / 2 ^ (64 * (i + 1)) * 2 ^ (63 - t) + m) + 1) := by
    have e4 : (2 : Nat) ^ 64 = 2 ^ t * (2 * 2 ^ (63 - t)) := by
      rw [← Nat.pow_succ', ← Nat.pow_add]; congr 1; omega
    rw [e4] at e2
    rw [e2] at e1
    rw [Nat.pow_add]
    generalize N / 2 ^ (64 * (i + 1)) = R at *
    generalize 2 ^ (64 * i) = A at *
    generalize 2 ^ t = T at *
    generalize 2 ^ (63 - t) = U at *
    grind
  exact tzN_unique e3

theorem tzN_le (N n : Nat) (h : N < 2 ^ n) (h0 : N ≠ 0) : tzN N < n := by
  obtain ⟨m, hm⟩ := tzN_spec N h0
  rcases Nat.lt_or_ge (tzN N) n with hlt | hge
  · exact hlt
  · exfalso
    have h1 : 2 ^ n ≤ 2 ^ tzN N := Nat.pow_le_pow_right (by decide) hge
    have h2 : 2 ^ tzN N ≤ N := by
      have : 2 ^ tzN N * 1 ≤ 2 ^ tzN N * (2 * m + 1) := Nat.mul_le_mul_left _ (by omega)
      rw [← hm, Nat.mul_one] at this
      exact this
    omega

/-- an exact number: n * 2^e, below zero where s -/
structure D where
  s : Bool
  n : Nat
  e : Int

def D.zero : D := ⟨false, 0, 0⟩

/-- the canonical number, within no limits -/
def oddD (d : D) : D := if d.n = 0 then D.zero else ⟨d.s, d.n / 2 ^ tzN d.n, d.e + tzN d.n⟩

/-- the canonical number, or the answer's error -/
def ansD (d : D) : D × Int := if 1024 < nd 64 (oddD d).n then (D.zero, 5) else if (oddD d).e < -40000 ∨ 40000 < (oddD d).e then (D.zero, 30) else (oddD d, 0)

/-- the sum of two numbers at one exponent -/
def addXY (s1 s2 : Bool) (X Y : Nat) (m : Int) : D := if s1 = s2 then oddD ⟨s1, X + Y, m⟩ else if X < Y then oddD ⟨s2, Y - X, m⟩ else oddD ⟨s1, X - Y, m⟩

/-- the sum of two canonical numbers -/
def sumD (a b : D) : D :=
  if a.n = 0 then b else if b.n = 0 then a else
  addXY a.s b.s (a.n * 2 ^ (a.e - min a.e b.e).toNat) (b.n * 2 ^ (b.e - min a.e b.e).toNat) (min a.e b.e)

theorem sumD_nz {a b : D} (ha : a.n ≠ 0) (hb : b.n ≠ 0) : sumD a b = addXY a.s b.s (a.n * 2 ^ (a.e - min a.e b.e).toNat) (b.n * 2 ^ (b.e - min a.e b.e).toNat) (min a.e b.e) := by
  unfold sumD; rw [if_neg ha, if_neg hb]

/-- the argument's error: of n words, exponent e -/
def refD (n : Nat) (e : Int) : Int := if 1024 < n then 5 else if e < -40000 ∨ 40000 < e then 30 else 0

theorem oddD_zero (s : Bool) (e : Int) : oddD ⟨s, 0, e⟩ = D.zero := by simp [oddD]

/-- Canon: of n words -/
def canonD (n : Nat) (d : D) : D × Int := if refD n d.e = 0 then ansD d else (D.zero, refD n d.e)

/-- the errors of two arguments -/
def twoD (n1 : Nat) (e1 : Int) (n2 : Nat) (e2 : Int) : Int := if refD n1 e1 = 0 then refD n2 e2 else refD n1 e1

theorem refD_zero {n : Nat} {e : Int} (h : refD n e = 0) : n ≤ 1024 ∧ -40000 ≤ e ∧ e ≤ 40000 := by
  unfold refD at h; split at h
  · omega
  · split at h <;> omega

theorem refD_cases (n : Nat) (e : Int) : refD n e = 0 ∨ refD n e = 5 ∨ refD n e = 30 := by
  unfold refD; split
  · omega
  · split <;> omega

theorem oddD_le (d : D) : (oddD d).n ≤ d.n := by
  unfold oddD; split
  · exact Nat.zero_le _
  · exact Nat.div_le_self _ _

theorem oddD_e (d : D) (L : Nat) (h : d.n < 2 ^ L) (lo hi : Int) (h1 : lo ≤ d.e) (h2 : d.e + L ≤ hi) (h3 : lo ≤ 0) (h4 : 0 ≤ hi) : lo ≤ (oddD d).e ∧ (oddD d).e ≤ hi := by
  unfold oddD; split
  · exact ⟨h3, h4⟩
  · rename_i h0
    have := tzN_le d.n L h h0
    show lo ≤ d.e + tzN d.n ∧ d.e + tzN d.n ≤ hi
    omega

theorem pow_shift_lt {N L s : Nat} (h : N < 2 ^ L) : N * 2 ^ s < 2 ^ (L + s) := by
  rw [Nat.pow_add]; exact Nat.mul_lt_mul_of_pos_right h (pow_pos2 s)

theorem sumD_e (a b : D) (L : Nat) (R : Int) (ha : a.n < 2 ^ L) (hb : b.n < 2 ^ L) (h1 : -R ≤ a.e ∧ a.e ≤ R) (h2 : -R ≤ b.e ∧ b.e ≤ R) (h3 : 0 ≤ R) :
    -(3 * R + L + 1) ≤ (sumD a b).e ∧ (sumD a b).e ≤ 3 * R + L + 1 := by
  unfold sumD; split
  · omega
  · split
    · omega
    · have hX : a.n * 2 ^ (a.e - min a.e b.e).toNat < 2 ^ (L + (2 * R).toNat) := Nat.lt_of_lt_of_le (pow_shift_lt ha) (Nat.pow_le_pow_right (by decide) (by omega))
      have hY : b.n * 2 ^ (b.e - min a.e b.e).toNat < 2 ^ (L + (2 * R).toNat) := Nat.lt_of_lt_of_le (pow_shift_lt hb) (Nat.pow_le_pow_right (by decide) (by omega))
      generalize a.n * 2 ^ (a.e - min a.e b.e).toNat = X at *
      generalize b.n * 2 ^ (b.e - min a.e b.e).toNat = Y at *
      have e : 2 ^ (L + (2 * R).toNat + 1) = 2 ^ (L + (2 * R).toNat) + 2 ^ (L + (2 * R).toNat) := by rw [Nat.pow_succ]; omega
      unfold addXY
      split
      · exact oddD_e _ (L + (2 * R).toNat + 1) (by show X + Y < _; omega) _ _ (by show _ ≤ min a.e b.e; omega) (by show min a.e b.e + _ ≤ _; omega) (by omega) (by omega)
      · split
        · exact oddD_e _ (L + (2 * R).toNat + 1) (by show Y - X < _; omega) _ _ (by show _ ≤ min a.e b.e; omega) (by show min a.e b.e + _ ≤ _; omega) (by omega) (by omega)
        · exact oddD_e _ (L + (2 * R).toNat + 1) (by show X - Y < _; omega) _ _ (by show _ ≤ min a.e b.e; omega) (by show min a.e b.e + _ ≤ _; omega) (by omega) (by omega)

end Go.Proofs.YtcgceigmglikpaaDoor
