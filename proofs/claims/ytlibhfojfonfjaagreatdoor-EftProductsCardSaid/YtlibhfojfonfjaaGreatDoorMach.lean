/- The machine's product is the product rounded to the nearest. -/
import Derived.Test.YtlibhfojfonfjaaGreatDoorIeee
import Derived.Test.YtlibhfojfonfjaaGreatDoorPackR
import Derived.Test.YtlibhfojfonfjaaGreatDoorFlt
namespace Go.Proofs.YtlibhfojfonfjaaGreatDoor
set_option linter.unusedVariables false
set_option linter.unusedSimpArgs false

section
variable {f : Ieee.Format} {F : Fm}

theorem Same.bin (h : Same f F) : f.binade = 2 ^ (F.p - 1) := by unfold Ieee.Format.binade; rw [h.p, Nat.add_sub_cancel]
theorem Same.sgw (h : Same f F) : f.signWeight = 2 ^ (F.w - 1) := by unfold Ieee.Format.signWeight; rw [h.w, Nat.add_sub_cancel]
theorem Same.width (h : Same f F) : f.width = F.w := by unfold Ieee.Format.width; rw [h.w]; omega

theorem read_eq (h : Same f F) (ok : F.Ok) {a : Nat} (ha : a < 2 ^ F.w) :
    f.read a = if F.isNan a then .nan (F.neg a) (F.abs a - F.inf) else if F.isInf a then .infinity (F.neg a) else .number (F.neg a) (F.mag a) (F.ex a) := by
  have hw := w_two ok
  have hb := h.bin
  have hs := h.sgw
  have hi := h.inf
  have hl := h.low
  have hp1 := pow_pos2 (F.p - 1)
  have hbi : 2 ^ (F.p - 1) ≤ F.inf := by
    have := inf_emax (F := F) ok
    rw [this]
    exact Nat.le_mul_of_pos_left _ (by omega)
  have hn : (a / f.signWeight % 2 == 1) = F.neg a := by
    unfold Fm.neg
    rw [hs]
    have hpos := pow_pos2 (F.w - 1)
    have hq : a / 2 ^ (F.w - 1) < 2 := by rw [Nat.div_lt_iff_lt_mul hpos]; omega
    by_cases h1 : 2 ^ (F.w - 1) ≤ a
    · have : 1 ≤ a / 2 ^ (F.w - 1) := (Nat.le_div_iff_mul_le hpos).2 (by omega)
      have e : a / 2 ^ (F.w - 1) = 1 := by omega
      rw [e]; simp [h1]
    · have e : a / 2 ^ (F.w - 1) = 0 := Nat.div_eq_of_lt (by omega)
      rw [e]; simp [h1]
  have hr : a % f.signWeight = F.abs a := by unfold Fm.abs; rw [hs]
  unfold Ieee.Format.read
  simp only [hn, hr, hb, hi]
  unfold Fm.isNan Fm.isInf Fm.mag Fm.ex Fm.sig Fm.xp
  generalize F.abs a = x at *
  generalize F.neg a = s at *
  by_cases h1 : x < 2 ^ (F.p - 1)
  · rw [if_pos h1, if_neg (by simp; omega), if_neg (by simp; omega)]
    have : x / 2 ^ (F.p - 1) = 0 := Nat.div_eq_of_lt h1
    rw [if_pos this, if_pos this, hl]
  · have h0 : 1 ≤ x / 2 ^ (F.p - 1) := (Nat.le_div_iff_mul_le hp1).2 (by omega)
    rw [if_neg h1]
    by_cases h2 : x < F.inf
    · rw [if_pos h2, if_neg (by simp; omega), if_neg (by simp; omega), if_neg (by omega), if_neg (by omega), hl]
      congr 1
      omega
    · rw [if_neg h2]
      by_cases h3 : x = F.inf
      · rw [if_pos h3, if_neg (by simp; omega), if_pos (by simpa using h3)]
      · rw [if_neg h3, if_pos (by simp; omega)]

theorem read_nan (h : Same f F) (ok : F.Ok) {a : Nat} (ha : a < 2 ^ F.w) : (f.read a).isNaN = F.isNan a := by
  rw [read_eq h ok ha]
  cases F.isNan a
  · rw [if_neg (by simp)]; split <;> rfl
  · rfl

theorem mul_eq (h : Same f F) (ok : F.Ok) {a b : Nat} (ha : a < 2 ^ F.w) (hb : b < 2 ^ F.w) :
    match f.mul a b with
    | some r => (mulS F 0 a b).1 = r ∧ F.isNan r = false
    | none => (mulS F 0 a b).1 = F.nan := by
  have hp : 1 ≤ F.p := by have := ok.p8; omega
  have hil := inf_lt ok
  have hsame : ∀ x (s : Bool), x ≤ F.inf → F.isNan (x + F.sg s) = false := by
    intro x s hx
    unfold Fm.isNan
    rw [abs_mk (by omega)]
    simpa using hx
  have hsame0 : ∀ (s : Bool), F.isNan (F.sg s) = false := by
    intro s; have := hsame 0 s (Nat.zero_le _); rwa [Nat.zero_add] at this
  have hz : ∀ x, F.isZero x = decide (F.mag x = 0) := by
    intro x
    by_cases h0 : F.isZero x = true
    · rw [h0]
      have : F.abs x = 0 := by simpa [Fm.isZero] using h0
      unfold Fm.mag
      rw [this]
      simp [Fm.sig]
    · have h0 : F.isZero x = false := by simpa using h0
      rw [h0]
      have := mag_ne hp h0
      simpa using this
  have hx : ∀ s t : Bool, (s ^^ t) = (s != t) := by intro s t; cases s <;> cases t <;> rfl
  unfold Ieee.Format.mul
  rw [read_eq h ok ha, read_eq h ok hb]
  unfold mulS
  rw [hz a, hz b]
  by_cases na : F.isNan a = true
  · simp [na, Ieee.Datum.product]
  · by_cases nb : F.isNan b = true
    · have na : F.isNan a = false := by simpa using na
      simp only [na, nb, Bool.or_true, if_true, Bool.false_eq_true, if_false]
      cases F.isInf a <;> exact trivial
    · have na : F.isNan a = false := by simpa using na
      have nb : F.isNan b = false := by simpa using nb
      have oa : F.isInf a = true → decide (F.mag a = 0) = false := by
        intro hi
        rw [← hz]
        unfold Fm.isInf at hi
        unfold Fm.isZero
        have := inf_eq F ok
        simp at hi ⊢
        have h2 := pow_pos2 (F.p - 1)
        have h3 := inf_emax (F := F) ok
        have : 2 ^ (F.p - 1) ≤ F.inf := by rw [h3]; exact Nat.le_mul_of_pos_left _ (by omega)
        omega
      have ob : F.isInf b = true → decide (F.mag b = 0) = false := by
        intro hi
        rw [← hz]
        unfold Fm.isInf at hi
        unfold Fm.isZero
        simp at hi ⊢
        have h2 := pow_pos2 (F.p - 1)
        have h3 := inf_emax (F := F) ok
        have : 2 ^ (F.p - 1) ≤ F.inf := by rw [h3]; exact Nat.le_mul_of_pos_left _ (by omega)
        omega
      simp only [na, nb, Bool.or_false, if_false, Bool.false_eq_true]
      cases ia : F.isInf a <;> cases ib : F.isInf b
      · simp only [if_false, Bool.false_eq_true, Bool.false_and, Bool.and_false, Bool.or_false, Ieee.Datum.product, Option.map_some, Ieee.Format.write, hx]
        by_cases h0 : (decide (F.mag a = 0) || decide (F.mag b = 0)) = true
        · rw [if_pos h0]
          have hm : F.mag a * F.mag b = 0 := by
            simp only [Bool.or_eq_true, decide_eq_true_eq] at h0
            rcases h0 with h0 | h0 <;> rw [h0] <;> simp
          unfold Ieee.Format.nearest
          rw [if_pos hm, h.word, Nat.zero_add]
          exact ⟨rfl, hsame0 _⟩
        · rw [if_neg h0]
          simp only [Bool.or_eq_true, decide_eq_true_eq, not_or] at h0
          have hm := Nat.mul_ne_zero h0.1 h0.2
          rw [nearest_eq h ok _ _ _ hm]
          refine ⟨rfl, ?_⟩
          have hc : (intoS F 0 (F.neg a != F.neg b) (F.mag a * F.mag b) (F.ex a + F.ex b) false).1 = magS F 0 (F.neg a != F.neg b) (F.mag a * F.mag b) (F.ex a + F.ex b) false + F.sg (F.neg a != F.neg b) ∧ magS F 0 (F.neg a != F.neg b) (F.mag a * F.mag b) (F.ex a + F.ex b) false ≤ F.inf := ⟨into_bits F ok 0 _ _ _ false hm, mag_le F ok _ _ _ _ _ hm⟩
          rw [hc.1]
          exact hsame _ _ hc.2
      · have h0 := ob ib
        simp only [if_true, if_false, Bool.false_eq_true, Bool.false_and, Bool.and_true, Bool.true_and, Bool.or_true, Bool.false_or, Bool.and_false, Ieee.Datum.product, hx]
        by_cases h1 : F.mag a = 0
        · simp [h1]
        · simp only [h1, if_false, decide_false, Bool.false_eq_true, Option.map_some, Ieee.Format.write]
          rw [h.word, h.inf]
          have e : (F.neg b != F.neg a) = (F.neg a != F.neg b) := by cases F.neg a <;> cases F.neg b <;> rfl
          rw [e]
          exact ⟨rfl, hsame _ _ (Nat.le_refl _)⟩
      · simp only [if_true, if_false, Bool.false_eq_true, Bool.false_and, Bool.and_true, Bool.true_and, Bool.or_true, Bool.true_or, Bool.or_false, Bool.false_or, Bool.and_false, Ieee.Datum.product, hx]
        by_cases h1 : F.mag b = 0
        · simp [h1]
        · simp only [h1, if_false, decide_false, Bool.false_eq_true, Option.map_some, Ieee.Format.write]
          rw [h.word, h.inf]
          exact ⟨rfl, hsame _ _ (Nat.le_refl _)⟩
      · simp only [if_true, if_false, Bool.false_eq_true, Bool.false_and, Bool.and_true, Bool.true_and, Bool.or_true, Bool.true_or, Bool.or_false, Bool.false_or, Bool.and_false, Ieee.Datum.product, hx, oa ia, ob ib, Option.map_some, Ieee.Format.write]
        rw [h.word, h.inf]
        exact ⟨rfl, hsame _ _ (Nat.le_refl _)⟩

/-- what the machine's product may be -/
theorem mach_mul {k : FloatKind} {a b r : Nat} (ha : a < 2 ^ k.format.width) (hb : b < 2 ^ k.format.width) (h : FOp .mul k a b r) :
    (nanB k r = true ∧ (mulS (fm (kindOf k)) 0 a b).1 = (fm (kindOf k)).nan) ∨ (nanB k r = false ∧ (mulS (fm (kindOf k)) 0 a b).1 = r) := by
  have hs := same_of k
  have ok : (fm (kindOf k)).Ok := fm_ok _
  rw [hs.width] at ha hb
  have hm := mul_eq hs ok ha hb
  cases e : floatBits .mul k a b with
  | none =>
    have e' : k.format.mul a b = none := e
    rw [e'] at hm
    exact Or.inl ⟨h.none e, hm⟩
  | some x =>
    have e' : k.format.mul a b = some x := e
    rw [e'] at hm
    have hx := h.some e
    subst hx
    refine Or.inr ⟨?_, hm.1⟩
    have hl := h.lt
    rw [hs.width] at hl
    unfold nanB
    rw [read_nan hs ok hl]
    exact hm.2

theorem order_self {k : FloatKind} (r : Nat) : (k.format.order r r != some .eq) = nanB k r := by
  unfold nanB Ieee.Format.order
  cases hx : k.format.read r with
  | nan s f => rfl
  | number s m i => 
    simp [Ieee.Datum.order, Ieee.Datum.isNaN]
  | infinity s => 
    simp [Ieee.Datum.order, Ieee.Datum.isNaN]

end
end Go.Proofs.YtlibhfojfonfjaaGreatDoor
