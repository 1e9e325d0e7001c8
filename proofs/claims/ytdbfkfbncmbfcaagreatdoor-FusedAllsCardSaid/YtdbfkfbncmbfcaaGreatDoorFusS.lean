/- Fused sums of products, as plain numbers. -/
import Derived.Test.YtdbfkfbncmbfcaaGreatDoorBetwD
namespace Go.Proofs.YtdbfkfbncmbfcaaGreatDoor
set_option linter.unusedVariables false

/-- a summand -/
structure Pt where
  nan : Bool
  sig : Bool
  inv : Bool
  inf : Bool
  neg : Bool
  d : D

/-- one float -/
def singleP (F : Fm) (a : Nat) : Pt := ⟨F.isNan a, F.isSig a, false, F.isInf a, F.neg a, if F.isNan a || F.isInf a then D.zero else valD F a⟩

/-- a product of two parts -/
def timesP (x y : Pt) : Pt :=
  if x.nan || y.nan then ⟨true, x.sig || y.sig, false, false, x.neg != y.neg, D.zero⟩
  else ⟨false, x.sig || y.sig, (x.inf && !y.inf && decide (y.d.n = 0)) || (y.inf && !x.inf && decide (x.d.n = 0)), x.inf || y.inf, x.neg != y.neg,
    if x.inf || y.inf then D.zero else (mulD (nd 64 x.d.n) x.d (nd 64 y.d.n) y.d).1⟩

def sumP (x y : Pt) : D := (addD (nd 64 x.d.n) x.d (nd 64 y.d.n) y.d).1

/-- the sum of two parts: bits and flags -/
def fuseS (F : Fm) (m : Nat) (x y : Pt) : Nat × Nat :=
  if x.sig || y.sig || x.inv || y.inv then (F.nan, 1)
  else if x.nan || y.nan then (F.nan, 0)
  else if x.inf && y.inf && (x.neg != y.neg) then (F.nan, 1)
  else if x.inf then (F.inf + F.sg x.neg, 0)
  else if y.inf then (F.inf + F.sg y.neg, 0)
  else if (sumP x y).n = 0 then (F.sg (if decide (x.d.n = 0) && decide (y.d.n = 0) && (x.neg == y.neg) then x.neg else m == 4), 0)
  else intoS F m (sumP x y).s (sumP x y).n (sumP x y).e false

/-- a small canonical number -/
structure Sm (d : D) : Prop where
  can : d.can
  lo : -5000 ≤ d.e
  hi : d.e ≤ 5000
  lt : d.n < 2 ^ 128

theorem Sm.zero : Sm D.zero := ⟨Or.inl rfl, by decide, by decide, by decide⟩

theorem Sm.sz {d : D} (h : Sm d) : nd 64 d.n ≤ 2 := small_nd h.lt

theorem Sm.ref {d : D} (h : Sm d) : refD (nd 64 d.n) d.e = 0 := by
  have h1 := h.sz
  have h2 := h.lo
  have h3 := h.hi
  unfold refD
  rw [if_neg (by omega), if_neg (by omega)]

theorem i_natAbs (d : D) (L : Int) : (d.i L).natAbs = d.n * 2 ^ (d.e - L).toNat := by
  unfold D.i
  rw [Int.natAbs_mul, Int.natAbs_pow]
  cases d.s <;> simp

/-- a number less than 2^K in units of 2^L is not too great -/
theorem size_of {d : D} {L : Int} {K : Nat} (hL : L ≤ d.e) (h : (d.i L).natAbs < 2 ^ K) : d.n < 2 ^ K ∧ (d.n ≠ 0 → d.e < L + K) := by
  rw [i_natAbs] at h
  have h1 : d.n ≤ d.n * 2 ^ (d.e - L).toNat := Nat.le_mul_of_pos_right _ (pow_pos2 _)
  refine ⟨Nat.lt_of_le_of_lt h1 h, fun h0 => ?_⟩
  have h2 : 2 ^ (d.e - L).toNat ≤ d.n * 2 ^ (d.e - L).toNat := Nat.le_mul_of_pos_left _ (Nat.pos_of_ne_zero h0)
  have h3 := (Nat.pow_lt_pow_iff_right (show 1 < 2 by decide)).1 (Nat.lt_of_le_of_lt h2 h)
  omega

/-- what may be handed on: a canonical number within the limits -/
structure Cn (d : D) : Prop where
  can : d.can
  sz : nd 64 d.n ≤ 1024
  lo : -40000 ≤ d.e
  hi : d.e ≤ 40000
  own : canonD (nd 64 d.n) d = (d, 0)
  ref : refD (nd 64 d.n) d.e = 0

theorem Cn.of {d : D} (h1 : d.can) (h2 : nd 64 d.n ≤ 1024) (h3 : -40000 ≤ d.e) (h4 : d.e ≤ 40000) : Cn d := by
  have hr : refD (nd 64 d.n) d.e = 0 := by unfold refD; rw [if_neg (by omega), if_neg (by omega)]
  exact ⟨h1, h2, h3, h4, by unfold canonD; rw [if_pos hr]; exact ansD_can h1 h2 h3 h4, hr⟩

theorem sum_small_any {a b : D} (ha : Sm a) (hb : Sm b) (K : Nat) (hK : K = 10129) (L : Int) (hL : L = -5000) : (a.i L + b.i L).natAbs < 2 ^ K := by
  have h1 : ∀ d : D, Sm d → (d.i L).natAbs < 2 ^ (K - 1) := by
    intro d hd
    rw [i_natAbs]
    have e1 : d.n * 2 ^ (d.e - L).toNat ≤ d.n * 2 ^ (K - 129) := Nat.mul_le_mul_left _ (Nat.pow_le_pow_right (by decide) (by have := hd.hi; omega))
    have e2 : d.n * 2 ^ (K - 129) < 2 ^ 128 * 2 ^ (K - 129) := Nat.mul_lt_mul_of_pos_right hd.lt (pow_pos2 _)
    rw [← Nat.pow_add, show 128 + (K - 129) = K - 1 by omega] at e2
    omega
  have h2 := h1 a ha
  have h3 := h1 b hb
  have h4 := Int.natAbs_add_le (a.i L) (b.i L)
  have h5 := pow_split K (by omega)
  omega

theorem addD_sm {a b : D} (ha : Sm a) (hb : Sm b) : ∃ s, addD (nd 64 a.n) a (nd 64 b.n) b = (s, 0) ∧ Cn s ∧ -5000 ≤ s.e ∧ s.i (-5000) = a.i (-5000) + b.i (-5000) := by
  have hca := can_odd a ha.can
  have hcb := can_odd b hb.can
  have hs : addD (nd 64 a.n) a (nd 64 b.n) b = ansD (sumD a b) := by
    unfold addD
    rw [if_pos (by unfold twoD; rw [if_pos ha.ref]; exact hb.ref), hca, hcb]
  have hcan := sumD_can ha.can hb.can
  have hlow := sumD_low a b (-5000) ha.lo hb.lo (by decide)
  have hi := i_sum a b (-5000) ha.lo hb.lo
  obtain ⟨K, hK⟩ : ∃ K, K = 10129 := ⟨_, rfl⟩
  have hsz := sum_small_any ha hb K hK (-5000) rfl
  rw [← hi] at hsz
  obtain ⟨z1, z2⟩ := size_of hlow hsz
  obtain ⟨M, hM⟩ : ∃ M, M = 159 := ⟨_, rfl⟩
  have hnd : nd 64 (sumD a b).n ≤ M := nd_le 64 _ M (by decide) (Nat.lt_of_lt_of_le z1 (Nat.pow_le_pow_right (by decide) (by omega)))
  have hei : (sumD a b).e ≤ 40000 := by
    by_cases h0 : (sumD a b).n = 0
    · rcases hcan with h | h
      · rw [h]; decide
      · rw [h0] at h; cases h
    · have := z2 h0; omega
  exact ⟨sumD a b, by rw [hs, ansD_can hcan (by omega) (by omega) hei], Cn.of hcan (by omega) (by omega) hei, hlow, hi⟩

section
variable {F : Fm}

theorem valD_sm (ok : F.Ok) {a : Nat} (h : F.abs a < F.inf) : Sm (valD F a) := by
  have h1 := low_ge ok
  have h2 := ex_range ok h
  have h3 := mag_lt ok a
  have hle : (valD F a).n ≤ F.mag a := odd_le _
  refine ⟨oddD_can _, ?_, ?_, by omega⟩
  · exact oddD_low _ (-5000) (by show -5000 ≤ F.ex a; omega) (by decide)
  · unfold valD oddD
    simp only
    split
    · decide
    · rename_i h4
      have := tz_tzN (n := F.mag a) (by omega) h4
      show F.ex a + (tzN (F.mag a) : Int) ≤ 5000
      omega

theorem single_sm (ok : F.Ok) (a : Nat) : Sm (singleP F a).d := by
  unfold singleP
  simp only
  split
  · exact Sm.zero
  · rename_i h
    simp only [Bool.or_eq_true, not_or, Bool.not_eq_true] at h
    exact valD_sm ok (fin_of h.1 h.2)

theorem i_of_val (ok : F.Ok) {a : Nat} (h : F.abs a < F.inf) (L : Int) (hL : L ≤ -5000) : (valD F a).i L = F.val L a := by
  have h1 := low_ge ok
  have h2 := ex_range ok h
  rw [val_i]
  exact i_odd _ L (by show L ≤ F.ex a; omega)

/-- the exact product of two values -/
theorem prod_eq (ok : F.Ok) {a b : Nat} (fa : F.abs a < F.inf) (fb : F.abs b < F.inf) :
    mulD (nd 64 (valD F a).n) (valD F a) (nd 64 (valD F b).n) (valD F b) = (oddD ⟨F.neg a != F.neg b, F.mag a * F.mag b, F.ex a + F.ex b⟩, 0) := by
  obtain ⟨x, hx, hr, hi⟩ := prod_val ok fa fb
  obtain ⟨r1, l1, v1, _⟩ := valD_facts ok fa
  obtain ⟨r2, l2, v2, _⟩ := valD_facts ok fb
  have h1 := low_ge ok
  have ha := ex_range ok fa
  have hb := ex_range ok fb
  have hok := mul_ok (a := valD F a) (b := valD F b) (-40000) (by decide) l1 l2 (by rw [hx])
  rw [hx] at hok
  have hok : OkD x _ _ := hok
  rw [hx]
  have hlow : -80000 ≤ (oddD ⟨F.neg a != F.neg b, F.mag a * F.mag b, F.ex a + F.ex b⟩).e := oddD_low _ (-80000) (by show -80000 ≤ F.ex a + F.ex b; omega) (by decide)
  have := can_inj (L := -80000) hok.can (oddD_can ⟨F.neg a != F.neg b, F.mag a * F.mag b, F.ex a + F.ex b⟩) (by have := hok.low; omega) hlow
    (by rw [hi, i_odd _ _ (by show -80000 ≤ F.ex a + F.ex b; omega), sI_i])
  rw [this]

theorem prod_sm (ok : F.Ok) {a b : Nat} (fa : F.abs a < F.inf) (fb : F.abs b < F.inf) : Sm (oddD ⟨F.neg a != F.neg b, F.mag a * F.mag b, F.ex a + F.ex b⟩) := by
  have h1 := low_ge ok
  have ha := ex_range ok fa
  have hb := ex_range ok fb
  have hma := mag_lt ok a
  have hmb := mag_lt ok b
  have hn : F.mag a * F.mag b < 2 ^ 106 := Nat.lt_of_lt_of_le (Nat.mul_lt_mul'' hma hmb) (by decide)
  have hle : (oddD ⟨F.neg a != F.neg b, F.mag a * F.mag b, F.ex a + F.ex b⟩).n ≤ F.mag a * F.mag b := odd_le _
  refine ⟨oddD_can _, oddD_low _ (-5000) (by show -5000 ≤ F.ex a + F.ex b; omega) (by decide), ?_, by omega⟩
  unfold oddD
  simp only
  split
  · decide
  · rename_i h4
    have h5 := tzN_spec (F.mag a * F.mag b) h4
    have : tzN (F.mag a * F.mag b) < 128 := by
      rcases Nat.lt_or_ge (tzN (F.mag a * F.mag b)) 128 with h | h
      · exact h
      · exfalso
        obtain ⟨q, hq⟩ := h5
        have := Nat.pow_le_pow_right (show 0 < 2 by decide) h
        have h8 : 2 ^ tzN (F.mag a * F.mag b) ≤ F.mag a * F.mag b := by
          conv => rhs; rw [hq]
          exact Nat.le_mul_of_pos_right _ (by omega)
        omega
    show F.ex a + F.ex b + (tzN (F.mag a * F.mag b) : Int) ≤ 5000
    omega

theorem prod_i (ok : F.Ok) {a b : Nat} (fa : F.abs a < F.inf) (fb : F.abs b < F.inf) : (oddD ⟨F.neg a != F.neg b, F.mag a * F.mag b, F.ex a + F.ex b⟩).i (-5000) = F.val (-2500) a * F.val (-2500) b := by
  have h1 := low_ge ok
  have ha := ex_range ok fa
  have hb := ex_range ok fb
  rw [i_odd _ _ (by show -5000 ≤ F.ex a + F.ex b; omega), val_i, val_i, show (-5000 : Int) = -2500 + -2500 by decide, i_mul _ _ _ _ _ _ _ (by omega) (by omega)]

/-- a part that comes of floats -/
structure Ps (x : Pt) : Prop where
  sm : Sm x.d
  sig : x.sig = true → x.nan = true

theorem single_ps (ok : F.Ok) (a : Nat) : Ps (singleP F a) := ⟨single_sm ok a, fun h => by
  unfold singleP at h ⊢
  simp only at h ⊢
  unfold Fm.isSig at h
  simp only [Bool.and_eq_true] at h
  exact h.1⟩

theorem times_d (ok : F.Ok) (a b : Nat) (h1 : F.isNan a = false) (h2 : F.isInf a = false) (h3 : F.isNan b = false) (h4 : F.isInf b = false) :
    mulD (nd 64 (singleP F a).d.n) (singleP F a).d (nd 64 (singleP F b).d.n) (singleP F b).d = ((timesP (singleP F a) (singleP F b)).d, 0) := by
  have hm := prod_eq ok (fin_of h1 h2) (fin_of h3 h4)
  unfold timesP singleP
  simp only [h1, h2, h3, h4, Bool.or_self, Bool.false_eq_true, if_false]
  rw [hm]

theorem times_ps (ok : F.Ok) (a b : Nat) : Ps (timesP (singleP F a) (singleP F b)) := by
  have key : Sm (timesP (singleP F a) (singleP F b)).d := by
    cases h1 : F.isNan a
    · cases h3 : F.isNan b
      · cases h2 : F.isInf a
        · cases h4 : F.isInf b
          · have := times_d ok a b h1 h2 h3 h4
            have hm := prod_eq ok (fin_of h1 h2) (fin_of h3 h4)
            have hs := prod_sm ok (fin_of h1 h2) (fin_of h3 h4)
            unfold timesP singleP
            simp only [h1, h2, h3, h4, Bool.or_self, Bool.false_eq_true, if_false]
            rw [hm]
            exact hs
          · unfold timesP singleP; simp [h1, h2, h3, h4]; exact Sm.zero
        · unfold timesP singleP; simp [h1, h2, h3]; exact Sm.zero
      · unfold timesP singleP; simp [h1, h3]; exact Sm.zero
    · unfold timesP singleP; simp [h1]; exact Sm.zero
  refine ⟨key, ?_⟩
  unfold timesP singleP
  simp only
  split
  · intro _; rfl
  · rename_i h
    simp only [Bool.or_eq_true, not_or, Bool.not_eq_true] at h
    simp [Fm.isSig, h.1, h.2]

end
end Go.Proofs.YtdbfkfbncmbfcaaGreatDoor
