/- Sums of lists of exact numbers, as plain numbers: the program's answer is the document's. -/
import Derived.Test.YtakjbmlkcbedmaaDoorDRefP
namespace Go.Proofs.YtakjbmlkcbedmaaDoor
set_option linter.unusedVariables false
set_option linter.unusedSimpArgs false

/-- the first argument's error -/
def errF (f : Nat → Nat × D) : Nat → Int
  | 0 => 0
  | i + 1 => if errF f i ≠ 0 then errF f i else refD (f i).1 (f i).2.e

/-- the program's sum so far -/
def sumF (f : Nat → Nat × D) : Nat → D
  | 0 => D.zero
  | i + 1 => sumD (sumF f i) (oddD (f i).2)

/-- Sum -/
def SumLs (n : Nat) (f : Nat → Nat × D) : D × Int := if 65536 < n then (D.zero, 5) else if errF f n ≠ 0 then (D.zero, errF f n) else ansD (sumF f n)

theorem errF_zero {f : Nat → Nat × D} {n : Nat} (h : errF f n = 0) : ∀ i, i < n → refD (f i).1 (f i).2.e = 0 := by
  induction n with
  | zero => intro i hi; omega
  | succ n ih =>
    unfold errF at h
    by_cases h1 : errF f n = 0
    · rw [if_neg (by simpa using h1)] at h
      intro i hi
      rcases Nat.lt_or_ge i n with h2 | h2
      · exact ih h1 i h2
      · obtain rfl : i = n := by omega
        exact h
    · rw [if_pos h1] at h; exact absurd h h1

theorem errF_of {f : Nat → Nat × D} {n : Nat} (h : ∀ i, i < n → refD (f i).1 (f i).2.e = 0) : errF f n = 0 := by
  induction n with
  | zero => rfl
  | succ n ih =>
    unfold errF
    rw [if_neg (by simpa using ih fun i hi => h i (by omega))]
    exact h n (by omega)

theorem errF_first {f : Nat → Nat × D} {i : Nat} (h : errF f i = 0) (hi : refD (f i).1 (f i).2.e ≠ 0) : ∀ k, errF f (i + 1 + k) = refD (f i).1 (f i).2.e := by
  intro k
  induction k with
  | zero => show errF f (i + 1) = _; unfold errF; rw [if_neg (by simpa using h)]
  | succ k ih =>
    show errF f (i + 1 + k + 1) = _
    unfold errF
    rw [ih, if_pos hi]

theorem errF_at {f : Nat → Nat × D} {i n : Nat} (h : errF f i = 0) (hi : refD (f i).1 (f i).2.e ≠ 0) (hn : i < n) : errF f n = refD (f i).1 (f i).2.e := by
  have := errF_first h hi (n - i - 1)
  rwa [show i + 1 + (n - i - 1) = n by omega] at this

/-- what the numbers come to, in places of 2^-40000 -/
def valF (f : Nat → Nat × D) : Nat → Int
  | 0 => 0
  | i + 1 => valF f i + (f i).2.i (-40000)

theorem sumF_can (f : Nat → Nat × D) : ∀ n, (sumF f n).can
  | 0 => Or.inl rfl
  | n + 1 => sumD_can (sumF_can f n) (oddD_can _)

theorem sumF_val {f : Nat → Nat × D} : ∀ {n : Nat}, (∀ i, i < n → -40000 ≤ (f i).2.e) → (sumF f n).i (-40000) = valF f n ∧ -40000 ≤ (sumF f n).e := by
  intro n
  induction n with
  | zero => intro _; exact ⟨D.i_zero _, show (-40000 : Int) ≤ 0 by decide⟩
  | succ n ih =>
    intro h
    obtain ⟨h1, h2⟩ := ih fun i hi => h i (by omega)
    have h3 := h n (by omega)
    have h4 := oddD_low (f n).2 (-40000) h3 (by decide)
    refine ⟨?_, sumD_low _ _ _ h2 h4 (by decide)⟩
    show (sumD (sumF f n) (oddD (f n).2)).i (-40000) = valF f n + _
    rw [i_sum _ _ _ h2 h4, h1, i_odd _ _ h3]

/-- how great a number of 1024 words is -/
theorem val_abs {d : D} {n K : Nat} (h : refD n d.e = 0) (hd : d.n < 2 ^ (64 * n)) (hK : K = 145536) : (d.i (-40000)).natAbs ≤ 2 ^ K := by
  obtain ⟨r1, r2, r3⟩ := refD_zero h
  unfold D.i
  have e1 : ((if d.s then -(d.n : Int) else (d.n : Int)) * 2 ^ (d.e - -40000).toNat).natAbs = d.n * 2 ^ (d.e - -40000).toNat := by
    rw [Int.natAbs_mul]
    have : ((2 : Int) ^ (d.e - -40000).toNat).natAbs = 2 ^ (d.e - -40000).toNat := by rw [Int.natAbs_pow]; rfl
    rw [this]
    congr 1
    split <;> simp
  rw [e1]
  have h2 : d.n * 2 ^ (d.e - -40000).toNat ≤ 2 ^ (64 * n) * 2 ^ (d.e - -40000).toNat := Nat.mul_le_mul_right _ (Nat.le_of_lt hd)
  refine Nat.le_trans h2 ?_
  rw [← Nat.pow_add]
  exact Nat.pow_le_pow_right (by decide) (by omega)

theorem valF_abs {f : Nat → Nat × D} {K : Nat} (hK : K = 145536) : ∀ {n : Nat}, (∀ i, i < n → refD (f i).1 (f i).2.e = 0 ∧ (f i).2.n < 2 ^ (64 * (f i).1)) → (valF f n).natAbs ≤ n * 2 ^ K := by
  intro n
  induction n with
  | zero => intro _; simp [valF]
  | succ n ih =>
    intro h
    have h1 := ih fun i hi => h i (by omega)
    have h2 := val_abs (h n (by omega)).1 (h n (by omega)).2 hK
    show (valF f n + _).natAbs ≤ _
    have h3 := Int.natAbs_add_le (valF f n) ((f n).2.i (-40000))
    rw [Nat.add_mul, Nat.one_mul]
    omega

theorem small_of {d : D} {K : Nat} (hc : d.can) (hl : -40000 ≤ d.e) (h : (d.i (-40000)).natAbs ≤ 2 ^ K) (hK : K ≤ 200000) : nd 64 d.n ≤ 4000 ∧ -100000 ≤ d.e ∧ d.e ≤ 200000 := by
  rcases hc with rfl | ho
  · exact ⟨by show nd 64 0 ≤ 4000; rw [nd_zero]; omega, by show (-100000 : Int) ≤ 0; decide, by show (0 : Int) ≤ 200000; decide⟩
  have e1 : (d.i (-40000)).natAbs = d.n * 2 ^ (d.e - -40000).toNat := by
    unfold D.i
    rw [Int.natAbs_mul]
    have : ((2 : Int) ^ (d.e - -40000).toNat).natAbs = 2 ^ (d.e - -40000).toNat := by rw [Int.natAbs_pow]; rfl
    rw [this]
    congr 1
    split <;> simp
  rw [e1] at h
  have hn : 0 < d.n := by omega
  have hp := pow_pos2 (d.e - -40000).toNat
  have h1 : d.n ≤ 2 ^ K := Nat.le_trans (Nat.le_mul_of_pos_right _ hp) h
  have h2 : 2 ^ (d.e - -40000).toNat ≤ 2 ^ K := Nat.le_trans (Nat.le_mul_of_pos_left _ hn) h
  have h3 : (d.e - -40000).toNat ≤ K := (Nat.pow_le_pow_iff_right (by decide)).1 h2
  refine ⟨?_, by omega, by omega⟩
  refine Nat.le_trans (nd_le 64 d.n (K / 64 + 1) (by decide) (Nat.lt_of_le_of_lt h1 (Nat.pow_lt_pow_right (by decide) (by omega)))) (by omega)

theorem two16 {n K : Nat} (hn : n ≤ 65536) : n * 2 ^ K ≤ 2 ^ (K + 16) := by
  rw [Nat.pow_add, Nat.mul_comm]
  exact Nat.mul_le_mul_left _ (by omega)

/-- the sums under way are small -/
theorem sumF_small {f : Nat → Nat × D} {n : Nat} (hn : n ≤ 65536) (h : ∀ i, i < n → refD (f i).1 (f i).2.e = 0 ∧ (f i).2.n < 2 ^ (64 * (f i).1)) : nd 64 (sumF f n).n ≤ 4000 ∧ -100000 ≤ (sumF f n).e ∧ (sumF f n).e ≤ 200000 := by
  obtain ⟨K, hK⟩ : ∃ K : Nat, K = 145536 := ⟨_, rfl⟩
  obtain ⟨h1, h2⟩ := sumF_val (f := f) (n := n) fun i hi => (refD_zero (h i hi).1).2.1
  refine small_of (K := K + 16) (sumF_can f n) h2 ?_ (by omega)
  rw [h1]
  exact Nat.le_trans (valF_abs hK h) (two16 hn)

/-- the least exponent, at most 0 -/
def lowF (f : Nat → Nat × D) : Nat → Int
  | 0 => 0
  | i + 1 => min (lowF f i) (f i).2.e

theorem lowF_le {f : Nat → Nat × D} : ∀ {n i : Nat}, i < n → lowF f n ≤ (f i).2.e := by
  intro n
  induction n with
  | zero => intro i hi; omega
  | succ n ih =>
    intro i hi
    show min (lowF f n) (f n).2.e ≤ _
    rcases Nat.lt_or_ge i n with h | h
    · have := ih h; omega
    · obtain rfl : i = n := by omega
      omega

theorem lowF_ge {f : Nat → Nat × D} : ∀ {n : Nat}, (∀ i, i < n → -40000 ≤ (f i).2.e) → -40000 ≤ lowF f n ∧ lowF f n ≤ 0 := by
  intro n
  induction n with
  | zero => intro _; exact ⟨by show (-40000 : Int) ≤ 0; decide, Int.le_refl _⟩
  | succ n ih =>
    intro h
    have h1 := ih fun i hi => h i (by omega)
    have h2 := h n (by omega)
    show -40000 ≤ min (lowF f n) (f n).2.e ∧ min (lowF f n) (f n).2.e ≤ 0
    omega

/-- what is above zero, and what is below, in places of 2^l -/
def abF (f : Nat → Nat × D) (l : Int) : Nat → Nat × Nat
  | 0 => (0, 0)
  | i + 1 => let t := (f i).2.n * 2 ^ ((f i).2.e - l).toNat; if (f i).2.s then ((abF f l i).1, (abF f l i).2 + t) else ((abF f l i).1 + t, (abF f l i).2)

theorem abF_succ (f : Nat → Nat × D) (l : Int) (i : Nat) : abF f l (i + 1) = if (f i).2.s then ((abF f l i).1, (abF f l i).2 + (f i).2.n * 2 ^ ((f i).2.e - l).toNat) else ((abF f l i).1 + (f i).2.n * 2 ^ ((f i).2.e - l).toNat, (abF f l i).2) := rfl

theorem abF_le {f : Nat → Nat × D} {l : Int} {K : Nat} (hK : K = 145536) (hl : -40000 ≤ l) : ∀ {n : Nat}, (∀ i, i < n → l ≤ (f i).2.e ∧ refD (f i).1 (f i).2.e = 0 ∧ (f i).2.n < 2 ^ (64 * (f i).1)) → (abF f l n).1 ≤ n * 2 ^ K ∧ (abF f l n).2 ≤ n * 2 ^ K := by
  intro n
  induction n with
  | zero => intro _; simp [abF]
  | succ n ih =>
    intro h
    obtain ⟨h1, h2⟩ := ih fun i hi => h i (by omega)
    obtain ⟨g1, g2, g3⟩ := h n (by omega)
    have ht : (f n).2.n * 2 ^ ((f n).2.e - l).toNat ≤ 2 ^ K := by
      obtain ⟨r1, r2, r3⟩ := refD_zero g2
      refine Nat.le_trans (Nat.mul_le_mul_right _ (Nat.le_of_lt g3)) ?_
      rw [← Nat.pow_add]
      exact Nat.pow_le_pow_right (by decide) (by omega)
    rw [abF_succ, Nat.add_mul, Nat.one_mul]
    split <;> simp only <;> omega

theorem abF_val {f : Nat → Nat × D} {l : Int} (hl : -40000 ≤ l) : ∀ {n : Nat}, (∀ i, i < n → l ≤ (f i).2.e) → D.i (-40000) ⟨false, (abF f l n).1, l⟩ + D.i (-40000) ⟨true, (abF f l n).2, l⟩ = valF f n := by
  intro n
  induction n with
  | zero => intro _; simp [abF, D.i, valF]
  | succ n ih =>
    intro h
    have h1 := ih fun i hi => h i (by omega)
    show _ = valF f n + (f n).2.i (-40000)
    rw [← h1, abF_succ, i_down hl (h n (by omega))]
    unfold D.i
    simp only [if_true, Bool.false_eq_true, if_false]
    generalize (2 : Int) ^ (l - -40000).toNat = P
    generalize (f n).2.n * 2 ^ ((f n).2.e - l).toNat = t
    cases (f n).2.s
    · simp only [Bool.false_eq_true, if_false, Int.natCast_add]; grind
    · simp only [if_true, Int.natCast_add]; grind

/-- the document's total -/
def totF (n : Nat) (f : Nat → Nat × D) : D := sumR ⟨false, (abF f (lowF f n) n).1, lowF f n⟩ ⟨true, (abF f (lowF f n) n).2, lowF f n⟩

theorem total_ref {n : Nat} {f : Nat → Nat × D} (hn : n ≤ 65536) (h : ∀ i, i < n → refD (f i).1 (f i).2.e = 0) : ansD (sumF f n) = ansD (totF n f) := by
  have hl := lowF_ge (f := f) (n := n) fun i hi => (refD_zero (h i hi)).2.1
  obtain ⟨h1, h2⟩ := sumF_val (f := f) (n := n) fun i hi => (refD_zero (h i hi)).2.1
  obtain ⟨s1, s2⟩ := sumR_i (x := ⟨false, (abF f (lowF f n) n).1, lowF f n⟩) (y := ⟨true, (abF f (lowF f n) n).2, lowF f n⟩) (L := -40000) hl.1 hl.1
  refine ansD_eq (-40000) h2 s2 (by decide) ?_
  unfold totF
  rw [h1, s1, abF_val hl.1 fun i hi => lowF_le hi]

/-- from behind -/
theorem valF_split (f : Nat → Nat × D) (n : Nat) : ∀ m, valF f (n + m) = valF f n + valF (fun i => f (n + i)) m := by
  intro m
  induction m with
  | zero => simp [valF]
  | succ m ih =>
    show valF f (n + m) + _ = valF f n + (valF _ m + _)
    rw [ih, Int.add_assoc]
    rfl

theorem valF_congr {f g : Nat → Nat × D} : ∀ {n : Nat}, (∀ i, i < n → f i = g i) → valF f n = valF g n := by
  intro n
  induction n with
  | zero => intro _; rfl
  | succ n ih =>
    intro h
    show valF f n + _ = valF g n + _
    rw [ih fun i hi => h i (by omega), h n (by omega)]

theorem valF_rev (f : Nat → Nat × D) : ∀ n, valF (fun i => f (n - 1 - i)) n = valF f n := by
  intro n
  induction n with
  | zero => rfl
  | succ n ih =>
    have h1 := valF_split (fun i => f (n + 1 - 1 - i)) 1 n
    rw [show 1 + n = n + 1 by omega] at h1
    rw [h1]
    have h2 : valF (fun i => (fun i => f (n + 1 - 1 - i)) (1 + i)) n = valF (fun i => f (n - 1 - i)) n := valF_congr fun i hi => by simp only; congr 1; omega
    rw [h2, ih]
    show (0 + (f (n + 1 - 1 - 0)).2.i (-40000)) + valF f n = valF f n + (f n).2.i (-40000)
    rw [show n + 1 - 1 - 0 = n by omega]
    omega

theorem sumF_rev {n : Nat} {f : Nat → Nat × D} (h : errF f n = 0) : SumLs n (fun i => f (n - 1 - i)) = SumLs n f := by
  have hz := errF_zero h
  have hz' : ∀ i, i < n → refD (f (n - 1 - i)).1 (f (n - 1 - i)).2.e = 0 := fun i hi => hz _ (by omega)
  have he : errF (fun i => f (n - 1 - i)) n = 0 := errF_of hz'
  unfold SumLs
  rw [he, h]
  congr 2
  obtain ⟨h1, h2⟩ := sumF_val (f := f) (n := n) fun i hi => (refD_zero (hz i hi)).2.1
  obtain ⟨h3, h4⟩ := sumF_val (f := fun i => f (n - 1 - i)) (n := n) fun i hi => (refD_zero (hz' i hi)).2.1
  exact ansD_eq (-40000) h4 h2 (by decide) (by rw [h3, h1, valF_rev])

end Go.Proofs.YtakjbmlkcbedmaaDoor
