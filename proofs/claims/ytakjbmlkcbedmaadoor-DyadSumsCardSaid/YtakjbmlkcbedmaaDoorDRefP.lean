/- Layer 3 by the document, as plain numbers: its answers are the program's. -/
import Derived.Test.YtakjbmlkcbedmaaDoorDRS
import Derived.Test.YtakjbmlkcbedmaaDoorPackC
namespace Go.Proofs.YtakjbmlkcbedmaaDoor
set_option linter.unusedVariables false
set_option linter.unusedSimpArgs false

theorem two_ref {n1 n2 : Nat} {e1 e2 : Int} (h : twoD n1 e1 n2 e2 = 0) : refD n1 e1 = 0 ∧ refD n2 e2 = 0 := twoD_zero h

theorem add_ref {n1 n2 : Nat} {a b : D} (h : twoD n1 a.e n2 b.e = 0) : addD n1 a n2 b = ansD (sumR a b) := by
  obtain ⟨h1, h2⟩ := twoD_zero h
  obtain ⟨d, e1, e2, e3⟩ := addD_ans (-40000) (Int.le_refl _) h1 h2
  obtain ⟨s1, s2⟩ := sumR_i (x := a) (y := b) (L := -40000) (refD_zero h1).2.1 (refD_zero h2).2.1
  rw [e1]
  exact ansD_eq (-40000) e2 s2 (by decide) (by rw [e3, s1])

/-- the opposite -/
def oppD (d : D) : D := ⟨!d.s, d.n, d.e⟩

theorem sub_ref {n1 n2 : Nat} {a b : D} (h : twoD n1 a.e n2 b.e = 0) : subD n1 a n2 b = ansD (sumR a (oppD b)) := add_ref (b := oppD b) h

theorem mul_ref {n1 n2 : Nat} {a b : D} (h : twoD n1 a.e n2 b.e = 0) (ha : a.n < 2 ^ (64 * n1)) (hb : b.n < 2 ^ (64 * n2)) : mulD n1 a n2 b = ansD ⟨a.s != b.s, a.n * b.n, a.e + b.e⟩ := by
  obtain ⟨h1, h2⟩ := twoD_zero h
  obtain ⟨d, e1, e2, e3⟩ := mulD_ans (-40000) (Int.le_refl _) h1 h2 ha hb
  have r1 := refD_zero h1
  have r2 := refD_zero h2
  rw [e1]
  refine ansD_eq (-40000 + -40000) e2 (show -40000 + -40000 ≤ a.e + b.e by omega) (by decide) ?_
  rw [e3]
  unfold D.i
  simp only
  have ee : (a.e + b.e - (-40000 + -40000)).toNat = (a.e - -40000).toNat + (b.e - -40000).toNat := by omega
  rw [ee, Int.pow_add]
  generalize (2 : Int) ^ (a.e - -40000).toNat = x
  generalize (2 : Int) ^ (b.e - -40000).toNat = y
  have key : ∀ p q : Int, p * x * (q * y) = p * q * (x * y) := by intro p q; simp only [Int.mul_assoc, Int.mul_left_comm]
  rw [key]
  congr 1
  cases a.s <;> cases b.s <;> simp [Int.neg_mul, Int.mul_neg]

/-- -1, 0 or 1 -/
def sgnD (d : D) : Int := if d.n = 0 then 0 else if d.s then -1 else 1

theorem sgn_i (d : D) (L : Int) : sgnD d = sgI (d.i L) := by
  unfold sgnD sgI D.i
  have hp := ipow_pos (d.e - L).toNat
  by_cases h : d.n = 0
  · rw [if_pos h, h]; simp
  · rw [if_neg h]
    have hn : (0 : Int) < d.n := by omega
    cases hs : d.s
    · have := Int.mul_pos hn hp
      simp only [Bool.false_eq_true, if_false]
      rw [if_neg (by omega), if_neg (by omega)]
    · have := Int.mul_pos hn hp
      simp only [if_true, Int.neg_mul]
      rw [if_neg (by omega), if_pos (by omega)]

theorem cmp_ref {n1 n2 : Nat} {a b : D} (h : twoD n1 a.e n2 b.e = 0) : cmpD n1 a n2 b = (sgnD (sumR a (oppD b)), 0) := by
  obtain ⟨h1, h2⟩ := twoD_zero h
  obtain ⟨s1, s2⟩ := sumR_i (x := a) (y := oppD b) (L := -40000) (refD_zero h1).2.1 (refD_zero h2).2.1
  rw [cmpD_val _ _ _ _ (-40000) (Int.le_refl _) h1 h2, sgn_i _ (-40000), s1]
  have : (oppD b).i (-40000) = -b.i (-40000) := by
    unfold oppD D.i
    cases b.s <;> simp [Int.neg_mul]
  rw [this, Int.sub_eq_add_neg]

/-- how far the document shifts -/
def clampR (n : Int) : Int := max (min n 1000000) (-1000000)

theorem ansD_out {d d' : D} (hn : (oddD d).n = (oddD d').n) (h1 : (oddD d).e < -40000 ∨ 40000 < (oddD d).e) (h2 : (oddD d').e < -40000 ∨ 40000 < (oddD d').e) : ansD d = ansD d' := by
  unfold ansD
  rw [hn, if_pos h1, if_pos h2]

theorem scale_ref {n : Nat} {d : D} {k : Int} (h : refD n d.e = 0) (hd : d.n < 2 ^ (64 * n)) : scaleD n d k = if d.n = 0 then (D.zero, 0) else ansD ⟨d.s, d.n, d.e + clampR k⟩ := by
  obtain ⟨r1, r2, r3⟩ := refD_zero h
  unfold scaleD
  rw [if_pos h]
  by_cases h0 : d.n = 0
  · have e : oddD d = D.zero := by unfold oddD; rw [if_pos h0]
    rw [e, if_pos (show D.zero.n = 0 from rfl), if_pos h0]
  · have e : oddD d = ⟨d.s, d.n / 2 ^ tzN d.n, d.e + tzN d.n⟩ := by unfold oddD; rw [if_neg h0]
    have hodd := (oddD_can d).resolve_left (by
      intro h1
      have h2 : d.n / 2 ^ tzN d.n = 0 := by rw [e] at h1; exact congrArg D.n h1
      have h3 := tzN_spec d.n h0
      obtain ⟨m, hm⟩ := h3
      have h4 : d.n / 2 ^ tzN d.n = 2 * m + 1 := by
        conv => lhs; rw [hm]
        have : tzN (2 ^ tzN d.n * (2 * m + 1)) = tzN d.n := by rw [← hm]
        rw [this]
        exact Nat.mul_div_cancel_left _ (pow_pos2 _)
      omega)
    have hn0 : (oddD d).n ≠ 0 := by omega
    rw [if_neg hn0, if_neg h0]
    have o1 : oddD ⟨(oddD d).s, (oddD d).n, (oddD d).e + clampD k⟩ = ⟨(oddD d).s, (oddD d).n, (oddD d).e + clampD k⟩ := can_odd _ (Or.inr hodd)
    have o2 : oddD ⟨d.s, d.n, d.e + clampR k⟩ = ⟨d.s, d.n / 2 ^ tzN d.n, d.e + clampR k + tzN d.n⟩ := by unfold oddD; rw [if_neg h0]
    have ht : tzN d.n < 65536 := Nat.lt_of_lt_of_le (tzN_le d.n (64 * n) hd h0) (by omega)
    by_cases hk : clampD k = clampR k
    · have : oddD ⟨(oddD d).s, (oddD d).n, (oddD d).e + clampD k⟩ = oddD ⟨d.s, d.n, d.e + clampR k⟩ := by
        rw [o1, o2, e, hk]
        simp only [D.mk.injEq, true_and]
        omega
      unfold ansD
      rw [this]
    · refine ansD_out (by rw [o1, o2, e]) ?_ ?_
      · rw [o1, e]
        show _ ∨ _
        simp only
        unfold clampD clampR at *
        omega
      · rw [o2]
        simp only
        unfold clampD clampR at *
        omega

/-- the document's floor, before its answer -/
def floorR (d : D) : D := if 0 ≤ d.e ∨ d.n = 0 then d else ⟨d.s, d.n / 2 ^ (-d.e).toNat + (if d.s = true ∧ d.n / 2 ^ (-d.e).toNat * 2 ^ (-d.e).toNat ≠ d.n then 1 else 0), 0⟩

theorem floor_ref {n : Nat} {d : D} (h : refD n d.e = 0) : floorD n d = ansD (floorR d) := by
  obtain ⟨r1, r2, r3⟩ := refD_zero h
  unfold floorD
  rw [if_pos h]
  unfold floorR
  by_cases h0 : d.n = 0
  · have e : oddD d = D.zero := by unfold oddD; rw [if_pos h0]
    rw [if_pos (Or.inr h0), e]
    unfold ansD
    rw [e]
    rfl
  have e : oddD d = ⟨d.s, d.n / 2 ^ tzN d.n, d.e + tzN d.n⟩ := by unfold oddD; rw [if_neg h0]
  obtain ⟨m, hm⟩ := tzN_spec d.n h0
  have hmm : d.n / 2 ^ tzN d.n = 2 * m + 1 := by
    conv => lhs; rw [hm]
    have : tzN (2 ^ tzN d.n * (2 * m + 1)) = tzN d.n := by rw [← hm]
    rw [this]
    exact Nat.mul_div_cancel_left _ (pow_pos2 _)
  rw [hmm] at e
  generalize tzN d.n = z at *
  by_cases he : 0 ≤ d.e
  · rw [if_pos (Or.inl he)]
    have : floorN (oddD d) = oddD d := by unfold floorN; rw [e, if_neg (by simp only; omega)]
    rw [this]
    unfold ansD
    rw [can_odd _ (oddD_can d)]
  rw [if_neg (by omega)]
  by_cases hz : 0 ≤ d.e + z
  · -- a whole number all the same
    have hf : floorN (oddD d) = oddD d := by unfold floorN; rw [e, if_neg (by simp only; omega)]
    have hdiv : d.n / 2 ^ (-d.e).toNat * 2 ^ (-d.e).toNat = d.n := by
      refine Nat.div_mul_cancel ?_
      rw [hm]
      exact Nat.dvd_trans (Nat.pow_dvd_pow 2 (by omega)) (Nat.dvd_mul_right _ _)
    rw [hf, if_neg (by intro hh; exact hh.2 hdiv), Nat.add_zero]
    refine ansD_eq (-40000) (oddD_low d _ r2 (by decide)) (show (-40000 : Int) ≤ 0 by decide) (by decide) ?_
    rw [i_odd d _ r2]
    unfold D.i
    simp only
    have e2 : (d.e - -40000).toNat + (-d.e).toNat = (0 - (-40000 : Int)).toNat := by omega
    rw [← e2, Int.pow_add]
    generalize hq : d.n / 2 ^ (-d.e).toNat = q at *
    have hc : (d.n : Int) = (q : Int) * 2 ^ (-d.e).toNat := by rw [← hdiv]; push_cast; rfl
    rw [hc]
    generalize (2 : Int) ^ (-d.e).toNat = u
    generalize (2 : Int) ^ (d.e - -40000).toNat = v
    cases d.s <;> simp [Int.mul_assoc, Int.mul_comm u v, Int.neg_mul]
  · have hf : floorN (oddD d) = ⟨d.s, if d.s then (2 * m + 1) / 2 ^ (-(d.e + z)).toNat + 1 else (2 * m + 1) / 2 ^ (-(d.e + z)).toNat, 0⟩ := by unfold floorN; rw [e, if_pos (by simp only; omega)]
    have hq : d.n / 2 ^ (-d.e).toNat = (2 * m + 1) / 2 ^ (-(d.e + z)).toNat := by
      rw [hm, show (-d.e).toNat = z + (-(d.e + z)).toNat by omega, Nat.pow_add, ← Nat.div_div_eq_div_mul, Nat.mul_div_cancel_left _ (pow_pos2 _)]
    have hne : d.n / 2 ^ (-d.e).toNat * 2 ^ (-d.e).toNat ≠ d.n := by
      intro hh
      have h1 : 2 ^ (-d.e).toNat ∣ d.n := ⟨_, by rw [Nat.mul_comm]; exact hh.symm⟩
      rw [hm] at h1
      have h2 : 2 ^ (z + 1) ∣ 2 ^ z * (2 * m + 1) := Nat.dvd_trans (Nat.pow_dvd_pow 2 (by omega)) h1
      rw [Nat.pow_succ] at h2
      have := Nat.dvd_of_mul_dvd_mul_left (pow_pos2 z) h2
      omega
    rw [hf, ← hq]
    congr 1
    congr 1
    cases d.s
    · simp
    · simp [hne]

end Go.Proofs.YtakjbmlkcbedmaaDoor
