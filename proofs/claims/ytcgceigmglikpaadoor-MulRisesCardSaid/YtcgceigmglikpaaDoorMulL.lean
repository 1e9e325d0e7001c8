/- Laws of products as plain numbers: by 1, by 2; order. -/
import Derived.Test.YtcgceigmglikpaaDoorMulS
namespace Go.Proofs.YtcgceigmglikpaaDoor
set_option linter.unusedVariables false

section
variable {F : Fm}

theorem low_xp (b : Nat) : F.low ≤ F.xp b := by
  unfold Fm.xp; split
  · exact Int.le_refl _
  · rename_i h; have := Nat.pos_of_ne_zero h; omega

/-- a number of the format is rounded to itself -/
theorem into_self (ok : F.Ok) (m : Nat) (neg : Bool) {b : Nat} (h0 : b ≠ 0) (hb : b < F.inf) : intoS F m neg (F.sig b) (F.xp b) false = (b + F.sg neg, 0) := by
  have hp : 1 ≤ F.p := by have := ok.p8; omega
  have hs := sig_ne hp h0
  have hl := low_xp (F := F) b
  have hf : floS F (F.sig b) (F.xp b) = b := floS_unique F hp _ _ F.low hs hl (Int.le_refl _) (Nat.le_refl _) (vl_lt F hp F.low (Int.le_refl _) (Nat.lt_succ_self b))
  have hr : rst (F.sig b) false (quE F (F.sig b) (F.xp b) - F.xp b) = 0 := (floS_exact F hp _ _ F.low hs hl (Int.le_refl _)).2 (by rw [hf]; rfl)
  have ht : ¬ F.emax < topE (F.sig b) (F.xp b) := by rw [top_inf F ok _ _ hs, hf]; omega
  refine Prod.ext ?_ ((into_exact F ok m neg _ _ false hs).2 ⟨ht, hr⟩)
  rw [into_bits F ok m neg _ _ false hs]
  unfold magS
  rw [if_neg ht, goesUp_exact hr, hf]; rfl

theorem zero_sg (s : Bool) : F.abs (F.sg s) = 0 ∧ F.neg (F.sg s) = s := by
  have h1 := abs_mk (F := F) (x := 0) (s := s) (pow_pos2 _)
  have h2 := neg_mk (F := F) (x := 0) (s := s) (pow_pos2 _)
  rw [Nat.zero_add] at h1 h2
  exact ⟨h1, h2⟩

/-- a power of two: its bits -/
theorem two_pow (ok : F.Ok) (k : Nat) (hk : 1 ≤ k) (hk2 : k * 2 ^ (F.p - 1) < F.inf) : F.abs (k * 2 ^ (F.p - 1)) = k * 2 ^ (F.p - 1) ∧ F.neg (k * 2 ^ (F.p - 1)) = false ∧ F.mag (k * 2 ^ (F.p - 1)) = 2 ^ (F.p - 1) ∧ F.ex (k * 2 ^ (F.p - 1)) = F.low + k - 1 := by
  have h := Nat.lt_trans hk2 (inf_lt ok)
  have h1 := abs_mk (F := F) (s := false) h
  have h2 := neg_mk (F := F) (s := false) h
  simp only [Fm.sg, Bool.false_eq_true, if_false, Nat.add_zero] at h1 h2
  refine ⟨h1, h2, ?_, ?_⟩
  · unfold Fm.mag Fm.sig
    rw [h1, Nat.mul_div_cancel _ (pow_pos2 _), if_neg (by omega), Nat.mul_mod_left]; rfl
  · unfold Fm.ex Fm.xp
    rw [h1, Nat.mul_div_cancel _ (pow_pos2 _), if_neg (by omega)]

def Fm.one (F : Fm) : Nat := F.emax.toNat * 2 ^ (F.p - 1)
def Fm.two (F : Fm) : Nat := (F.emax.toNat + 1) * 2 ^ (F.p - 1)

theorem inf_emax (ok : F.Ok) : F.inf = (2 * F.emax.toNat + 1) * 2 ^ (F.p - 1) := by
  obtain ⟨p8, p53, pw, w64, emx, emn, b16, b1023⟩ := ok
  unfold Fm.inf
  congr 1
  obtain ⟨t, ht⟩ : ∃ t, F.w - F.p = t + 1 := ⟨F.w - F.p - 1, by omega⟩
  rw [show F.w - F.p - 1 = t by omega] at emx
  have h2 : (2 : Int) ^ t = ((2 ^ t : Nat) : Int) := by simp
  rw [h2] at emx
  rw [ht, Nat.pow_succ]
  have := pow_pos2 t
  omega

theorem one_ok (ok : F.Ok) : F.abs F.one = F.one ∧ F.neg F.one = false ∧ F.mag F.one = 2 ^ (F.p - 1) ∧ F.ex F.one = 1 - F.p ∧ F.one ≠ 0 ∧ F.one < F.inf := by
  have hi := inf_emax ok
  have hP := pow_pos2 (F.p - 1)
  have h1 : 1 ≤ F.emax.toNat := by have := ok.b16; omega
  have hlt : F.emax.toNat * 2 ^ (F.p - 1) < F.inf := by rw [hi]; exact Nat.mul_lt_mul_of_pos_right (by omega) hP
  obtain ⟨a, b, c, d⟩ := two_pow ok F.emax.toNat h1 hlt
  refine ⟨a, b, c, ?_, ?_, hlt⟩
  · unfold Fm.one; rw [d]; have := ok.emn; have := ok.b16; unfold Fm.low; omega
  · unfold Fm.one; exact Nat.ne_of_gt (Nat.mul_pos h1 hP)

theorem two_ok (ok : F.Ok) : F.abs F.two = F.two ∧ F.neg F.two = false ∧ F.mag F.two = 2 ^ (F.p - 1) ∧ F.ex F.two = 2 - F.p ∧ F.two ≠ 0 ∧ F.two < F.inf := by
  have hi := inf_emax ok
  have hP := pow_pos2 (F.p - 1)
  have h1 : 15 ≤ F.emax.toNat := by have := ok.b16; omega
  have hlt : (F.emax.toNat + 1) * 2 ^ (F.p - 1) < F.inf := by rw [hi]; exact Nat.mul_lt_mul_of_pos_right (by omega) hP
  obtain ⟨a, b, c, d⟩ := two_pow ok (F.emax.toNat + 1) (by omega) hlt
  refine ⟨a, b, c, ?_, ?_, hlt⟩
  · unfold Fm.two; rw [d]; have := ok.emn; have := ok.b16; unfold Fm.low; omega
  · unfold Fm.two; exact Nat.ne_of_gt (Nat.mul_pos (by omega) hP)

theorem fin_of {a : Nat} (h1 : F.isNan a = false) (h2 : F.isInf a = false) : F.abs a < F.inf := by
  unfold Fm.isNan at h1; unfold Fm.isInf at h2
  simp at h1 h2; omega

theorem mul_one_S (ok : F.Ok) (m : Nat) {a : Nat} (ha : a < 2 ^ F.w) : mulS F m F.one a = if F.isNan a then (F.nan, if F.isSig a then 1 else 0) else (a, 0) := by
  have hp : 1 ≤ F.p := by have := ok.p8; omega
  obtain ⟨h1, h2, h3, h4, h5, h6⟩ := one_ok ok
  have n1 : F.isNan F.one = false := by unfold Fm.isNan; rw [h1]; simp; omega
  have n2 : F.isSig F.one = false := by unfold Fm.isSig; rw [n1]; rfl
  have n3 : F.isInf F.one = false := by unfold Fm.isInf; rw [h1]; simp; omega
  have n4 : F.isZero F.one = false := by unfold Fm.isZero; rw [h1]; simp; exact h5
  have hpart := parts_mk ok ha
  unfold mulS
  simp only [n1, n2, n3, n4, h2, h3, h4, Bool.false_or, Bool.false_and, Bool.or_false]
  by_cases c1 : F.isNan a = true
  · rw [if_pos c1, if_pos c1]
  rw [if_neg c1, if_neg c1, if_neg (by simp)]
  by_cases c2 : F.isInf a = true
  · rw [if_pos c2]
    unfold Fm.isInf at c2
    simp at c2
    rw [c2] at hpart
    simp [← hpart]
  rw [if_neg c2]
  by_cases c3 : F.isZero a = true
  · rw [if_pos c3]
    unfold Fm.isZero at c3
    simp at c3
    rw [c3, Nat.zero_add] at hpart
    simp [← hpart]
  rw [if_neg c3]
  have hf := fin_of (by simpa using c1) (by simpa using c2)
  have h0 : F.abs a ≠ 0 := by unfold Fm.isZero at c3; simpa using c3
  rw [show (2 ^ (F.p - 1) * F.mag a) = F.mag a * 2 ^ (F.p - 1) from Nat.mul_comm _ _, show (1 - (F.p : Int) + F.ex a) = F.ex a - ((F.p - 1 : Nat) : Int) by omega, into_scale _ _ _ _ _ _ (mag_ne hp (by simpa using c3))]
  unfold Fm.mag Fm.ex
  rw [into_self ok m _ h0 hf]
  simp [← hpart]

theorem val_nz (hp : 1 ≤ F.p) {a : Nat} (L : Int) (h : F.abs a ≠ 0) : 0 < F.vl L (F.abs a) := Nat.mul_pos (Nat.pos_of_ne_zero (sig_ne hp h)) (pow_pos2 _)

theorem val_neg (hp : 1 ≤ F.p) {a : Nat} (L : Int) (h : F.abs a ≠ 0) : decide (F.val L a < 0) = F.neg a ∧ (F.val L a).natAbs = F.vl L (F.abs a) ∧ F.val L a ≠ 0 := by
  have := val_nz hp L h
  unfold Fm.val
  cases F.neg a <;> simp <;> omega

theorem val_zero {a : Nat} (L : Int) (h : F.abs a = 0) : F.val L a = 0 := by
  unfold Fm.val Fm.vl Fm.sig uN; rw [h]; simp

theorem mul_two_S (ok : F.Ok) (m : Nat) {a : Nat} (ha : a < 2 ^ F.w) : mulS F m F.two a = addS F m a a := by
  have hp : 1 ≤ F.p := by have := ok.p8; omega
  obtain ⟨h1, h2, h3, h4, h5, h6⟩ := two_ok ok
  have n1 : F.isNan F.two = false := by unfold Fm.isNan; rw [h1]; simp; omega
  have n2 : F.isSig F.two = false := by unfold Fm.isSig; rw [n1]; rfl
  have n3 : F.isInf F.two = false := by unfold Fm.isInf; rw [h1]; simp; omega
  have n4 : F.isZero F.two = false := by unfold Fm.isZero; rw [h1]; simp; exact h5
  have hpart := parts_mk ok ha
  unfold mulS addS
  simp only [n1, n2, n3, n4, h2, h3, h4, Bool.false_or, Bool.false_and, Bool.or_self, Bool.and_self, bne_self_eq_false, Bool.and_false, Bool.false_eq_true, if_false]
  by_cases c0 : F.isSig a = true
  · have c1 : F.isNan a = true := by unfold Fm.isSig at c0; rw [Bool.and_eq_true] at c0; exact c0.1
    rw [if_pos c0, if_pos c1, if_pos c0]
  by_cases c1 : F.isNan a = true
  · rw [if_pos c1, if_neg c0, if_neg c0, if_pos c1]
  rw [if_neg c1, if_neg c0, if_neg c1]
  by_cases c2 : F.isInf a = true
  · rw [if_pos c2, if_pos c2]
    unfold Fm.isInf at c2
    simp at c2
    rw [c2] at hpart
    simp [← hpart]
  rw [if_neg c2, if_neg c2, if_neg c2]
  by_cases c3 : F.isZero a = true
  · rw [if_pos c3]
    have c4 := c3
    unfold Fm.isZero at c3
    simp at c3
    rw [val_zero _ c3, if_pos (by rfl)]
    simp [c4]
  rw [if_neg c3]
  have h0 : F.abs a ≠ 0 := by unfold Fm.isZero at c3; simpa using c3
  obtain ⟨v1, v2, v3⟩ := val_neg hp F.low h0
  rw [if_neg (by omega)]
  unfold rndZ
  have e1 : decide (F.val F.low a + F.val F.low a < 0) = F.neg a := by rw [← v1]; congr 1; apply propext; omega
  have e2 : (F.val F.low a + F.val F.low a).natAbs = 2 * F.vl F.low (F.abs a) := by omega
  rw [e1, e2]
  have hne : F.mag a ≠ 0 := mag_ne hp (by simpa using c3)
  rw [show (2 ^ (F.p - 1) * F.mag a) = F.mag a * 2 ^ (F.p - 1) from Nat.mul_comm _ _, show (2 - (F.p : Int) + F.ex a) = (F.ex a + 1) - ((F.p - 1 : Nat) : Int) by omega, into_scale _ _ _ _ _ _ hne]
  have hl := low_xp (F := F) (F.abs a)
  rw [show (false != F.neg a) = F.neg a by cases F.neg a <;> rfl]
  refine into_eq F m _ _ _ _ _ hne F.low (by unfold Fm.ex; omega) (Int.le_refl _) ?_
  rw [uN_self]
  unfold Fm.vl uN Fm.mag Fm.ex
  rw [show (F.xp (F.abs a) + 1 - F.low).toNat = (F.xp (F.abs a) - F.low).toNat + 1 by omega, Nat.pow_succ]
  generalize 2 ^ (F.xp (F.abs a) - F.low).toNat = q
  grind

/-- the magnitude of what is answered -/
theorem into_abs (ok : F.Ok) (m : Nat) (neg : Bool) (n : Nat) (e : Int) (more : Bool) (h0 : n ≠ 0) : F.abs (intoS F m neg n e more).1 = magS F m neg n e more := by
  obtain ⟨h1, h2⟩ := cut_lt ok m neg n e more h0
  rw [h1, abs_mk h2]

theorem mag_units (ok : F.Ok) (m : Nat) (neg : Bool) (n : Nat) (e L : Int) (h0 : n ≠ 0) (hL : L ≤ e) : magS F m neg n e false = magS F m neg (uN L n e) L false := by
  rw [← into_abs ok m neg n e false h0, ← into_abs ok m neg (uN L n e) L false (uN_ne L n e h0)]
  rw [into_eq F m neg n (uN L n e) e L h0 L hL (Int.le_refl _) (by rw [uN_self])]

theorem vl_of_le (hp : 1 ≤ F.p) (L : Int) (hL : L ≤ F.low) {a b : Nat} (h : a ≤ b) : uN L (F.sig a) (F.xp a) ≤ uN L (F.sig b) (F.xp b) := vl_le F hp L hL h

theorem uN_mul (L M : Int) (n k : Nat) (e d : Int) (h1 : L ≤ e) (h2 : M ≤ d) : uN (L + M) (n * k) (e + d) = uN L n e * uN M k d := by
  unfold uN
  rw [show (e + d - (L + M)).toNat = (e - L).toNat + (d - M).toNat by omega, Nat.pow_add]
  generalize 2 ^ (e - L).toNat = x
  generalize 2 ^ (d - M).toNat = y
  grind

theorem mul_rises (ok : F.Ok) (m : Nat) {a b c : Nat} (ha : F.neg a = false) (hb : F.neg b = false) (fa : F.abs a < F.inf) (fb : F.abs b < F.inf) (fc : F.abs c < F.inf) (h : F.abs a ≤ F.abs b) : F.abs (mulS F m a c).1 ≤ F.abs (mulS F m b c).1 := by
  have hp : 1 ≤ F.p := by have := ok.p8; omega
  have nn : ∀ x, F.abs x < F.inf → F.isNan x = false ∧ F.isInf x = false := fun x hx => ⟨by unfold Fm.isNan; simp; omega, by unfold Fm.isInf; simp; omega⟩
  obtain ⟨a1, a2⟩ := nn a fa
  obtain ⟨b1, b2⟩ := nn b fb
  obtain ⟨c1, c2⟩ := nn c fc
  unfold mulS
  simp only [a1, a2, b1, b2, c1, c2, ha, hb, Bool.or_self, Bool.false_and, Bool.and_false, Bool.false_eq_true, if_false]
  by_cases z1 : (F.isZero a || F.isZero c) = true
  · rw [if_pos z1]; simp only; rw [(zero_sg _).1]; exact Nat.zero_le _
  rw [if_neg z1]
  simp only [Bool.or_eq_true, not_or, Bool.not_eq_true] at z1
  have za : F.abs a ≠ 0 := by have := z1.1; unfold Fm.isZero at this; simpa using this
  have z2 : F.isZero b = false := by unfold Fm.isZero; simp; omega
  rw [if_neg (by rw [z2, z1.2]; simp)]
  have ma := mag_ne hp z1.1
  have mb := mag_ne hp z2
  have mc := mag_ne hp z1.2
  have la := low_xp (F := F) (F.abs a)
  have lb := low_xp (F := F) (F.abs b)
  have lc := low_xp (F := F) (F.abs c)
  rw [into_abs ok _ _ _ _ _ (Nat.mul_ne_zero ma mc), into_abs ok _ _ _ _ _ (Nat.mul_ne_zero mb mc)]
  unfold Fm.ex
  rw [mag_units ok m _ _ _ (F.low + F.low) (Nat.mul_ne_zero ma mc) (by omega), mag_units ok m _ _ _ (F.low + F.low) (Nat.mul_ne_zero mb mc) (by omega)]
  refine mag_mono F ok m _ _ (uN_ne _ _ _ (Nat.mul_ne_zero ma mc)) ?_
  rw [uN_mul _ _ _ _ _ _ la lc, uN_mul _ _ _ _ _ _ lb lc]
  exact Nat.mul_le_mul_right _ (vl_of_le hp F.low (Int.le_refl _) h)

end

end Go.Proofs.YtcgceigmglikpaaDoor
