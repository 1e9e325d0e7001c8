/- The rest of a rounded sum, found by six roundings (Knuth, Moller) or by three (Dekker), as whole numbers. -/
import Derived.Test.YtlibhfojfonfjaaGreatDoorVelt
namespace Go.Proofs.YtlibhfojfonfjaaGreatDoor
set_option linter.unusedVariables false

theorem i2_pos (k : Nat) : (0 : Int) < 2 ^ k := Int.pow_pos (by decide)
theorem i2_dvd {a b : Nat} (h : a ≤ b) : (2 : Int) ^ a ∣ 2 ^ b := ⟨2 ^ (b - a), by rw [← Int.pow_add]; congr 1; omega⟩
theorem i2_le {a b : Nat} (h : a ≤ b) : (2 : Int) ^ a ≤ 2 ^ b := by
  obtain ⟨c, hc⟩ := i2_dvd h
  have h1 := i2_pos a
  have h2 := i2_pos b
  rw [hc] at h2 ⊢
  have h3 : 0 < c := by
    by_cases h' : 0 < c
    · exact h'
    · have := Int.mul_nonpos_of_nonneg_of_nonpos (Int.le_of_lt h1) (show c ≤ 0 by omega); omega
  have := Int.mul_le_mul_of_nonneg_left (show 1 ≤ c by omega) (Int.le_of_lt h1)
  omega
theorem i2_cast (k : Nat) : ((2 ^ k : Nat) : Int) = 2 ^ k := by simp
theorem i2_succ (k : Nat) : (2 : Int) ^ (k + 1) = 2 ^ k * 2 := Int.pow_succ 2 k

/-- places: the last one of a number of p digits -/
def qe (p : Nat) (z : Int) : Nat := bl z.natAbs - p
/-- z has p digits -/
def Fl' (p : Nat) (z : Int) : Prop := (2 : Int) ^ qe p z ∣ z
/-- r is z rounded to p digits, to one of the nearest -/
def NearI (p : Nat) (z r : Int) : Prop := (2 : Int) ^ qe p z ∣ r ∧ 2 * (r - z) ≤ 2 ^ qe p z ∧ 2 * (z - r) ≤ 2 ^ qe p z

theorem abs_lt_bl (z : Int) : z < 2 ^ bl z.natAbs ∧ -z < 2 ^ bl z.natAbs := by
  have := bl_lt z.natAbs
  rw [← i2_cast]
  omega
theorem abs_ge_bl {z : Int} (h : z ≠ 0) : 2 ^ (bl z.natAbs - 1) ≤ z ∨ 2 ^ (bl z.natAbs - 1) ≤ -z := by
  have := bl_ge z.natAbs (by omega)
  rw [← i2_cast]
  omega
theorem bl_le_abs {z : Int} {k : Nat} (h1 : z < 2 ^ k) (h2 : -z < 2 ^ k) : bl z.natAbs ≤ k := by
  rw [← i2_cast] at h1 h2
  exact bl_le_of_lt (by omega)
theorem bl_abs_mono {x y : Int} (h1 : x ≤ y ∨ x ≤ -y) (h2 : -x ≤ y ∨ -x ≤ -y) : bl x.natAbs ≤ bl y.natAbs := bl_mono (by omega)

theorem fl_of {p k : Nat} {z : Int} (hp : 1 ≤ p) (hd : (2 : Int) ^ k ∣ z) (h1 : z ≤ 2 ^ (p + k)) (h2 : -z ≤ 2 ^ (p + k)) : Fl' p z := by
  unfold Fl' qe
  by_cases h : z = 2 ^ (p + k) ∨ -z = 2 ^ (p + k)
  · have e : bl z.natAbs = p + k + 1 := by
      obtain ⟨N, hN⟩ : ∃ N : Nat, N = 2 ^ (p + k) := ⟨_, rfl⟩
      have hc : (N : Int) = 2 ^ (p + k) := by rw [hN]; exact i2_cast _
      have : z.natAbs = N := by rw [← hc] at h; omega
      rw [this, hN]
      exact bl_unique (Nat.le_refl _) (Nat.pow_lt_pow_right (by decide) (by omega))
    rw [e, show p + k + 1 - p = k + 1 by omega]
    have := i2_dvd (show k + 1 ≤ p + k by omega)
    rcases h with h | h
    · rw [h]; exact this
    · rw [show z = -(2 ^ (p + k)) by omega]; exact Int.dvd_neg.2 this
  · have := bl_le_abs (z := z) (k := p + k) (by omega) (by omega)
    exact Int.dvd_trans (i2_dvd (by omega)) hd

/-- of two multiples the lesser lies a whole step below -/
theorem istep {P a b : Int} (hP : 0 < P) (h1 : P ∣ a) (h2 : P ∣ b) (h : a < b) : a + P ≤ b := by
  obtain ⟨x, rfl⟩ := h1
  obtain ⟨y, rfl⟩ := h2
  have hxy : x < y := Int.lt_of_mul_lt_mul_left h (Int.le_of_lt hP)
  have := Int.mul_le_mul_of_nonneg_left (show x + 1 ≤ y by omega) (Int.le_of_lt hP)
  rw [Int.mul_add, Int.mul_one] at this
  exact this

theorem fl_most {p : Nat} {z : Int} (h : Fl' p z) : z ≤ 2 ^ (p + qe p z) - 2 ^ qe p z ∧ -z ≤ 2 ^ (p + qe p z) - 2 ^ qe p z := by
  obtain ⟨h1, h2⟩ := abs_lt_bl z
  have h3 : (2 : Int) ^ bl z.natAbs ≤ 2 ^ (p + qe p z) := i2_le (by unfold qe; omega)
  have h4 : (2 : Int) ^ qe p z ∣ 2 ^ (p + qe p z) := i2_dvd (by omega)
  have a1 := istep (i2_pos _) h h4 (by omega)
  have a2 := istep (i2_pos _) (Int.dvd_neg.2 h) h4 (by omega)
  omega

theorem nearI_exact {p : Nat} {z r : Int} (h : NearI p z r) (hz : Fl' p z) : r = z := by
  obtain ⟨h1, h2, h3⟩ := h
  have hq := i2_pos (qe p z)
  rcases Int.lt_trichotomy r z with h4 | h4 | h4
  · have := istep hq h1 hz h4; omega
  · exact h4
  · have := istep hq hz h1 h4; omega

theorem near_mult {p k : Nat} {z r : Int} (h : NearI p z r) (hz : (2 : Int) ^ k ∣ z) : (2 : Int) ^ k ∣ r := by
  rcases Nat.le_total k (qe p z) with h1 | h1
  · exact Int.dvd_trans (i2_dvd h1) h.1
  · rw [nearI_exact h (Int.dvd_trans (i2_dvd h1) hz)]; exact hz

theorem near_step {p : Nat} {z r f : Int} (h : NearI p z r) (hf : (2 : Int) ^ qe p z ∣ f) : (r - z ≤ f - z ∨ r - z ≤ z - f) ∧ (z - r ≤ f - z ∨ z - r ≤ z - f) ∧ (f ≤ z → f ≤ r) ∧ (z ≤ f → r ≤ f) := by
  obtain ⟨h1, h2, h3⟩ := h
  have hq := i2_pos (qe p z)
  rcases Int.lt_trichotomy r f with h4 | h4 | h4
  · have := istep hq h1 hf h4
    refine ⟨by omega, by omega, by omega, by omega⟩
  · subst h4; refine ⟨by omega, by omega, fun _ => Int.le_refl _, fun _ => Int.le_refl _⟩
  · have := istep hq hf h1 h4
    refine ⟨by omega, by omega, by omega, by omega⟩

theorem near_zero {p : Nat} {r : Int} (h : NearI p 0 r) : r = 0 := nearI_exact h (by unfold Fl'; exact Int.dvd_zero _)

/-- no number of p digits is nearer -/
theorem near_best {p : Nat} {z r f : Int} (hp : 1 ≤ p) (h : NearI p z r) (hf : Fl' p f) : (r - z ≤ f - z ∨ r - z ≤ z - f) ∧ (z - r ≤ f - z ∨ z - r ≤ z - f) := by
  by_cases hz : z = 0
  · subst hz; rw [near_zero h]; omega
  rcases Nat.lt_or_ge (bl f.natAbs) (bl z.natAbs) with hb | hb
  · obtain ⟨f1, f2⟩ := abs_lt_bl f
    have f3 : (2 : Int) ^ bl f.natAbs ≤ 2 ^ (bl z.natAbs - 1) := i2_le (by omega)
    have hd : (2 : Int) ^ qe p z ∣ 2 ^ (bl z.natAbs - 1) := i2_dvd (by unfold qe; omega)
    rcases abs_ge_bl hz with hg | hg
    · obtain ⟨a1, a2, a3, a4⟩ := near_step h hd
      omega
    · obtain ⟨a1, a2, a3, a4⟩ := near_step h (Int.dvd_neg.2 hd)
      omega
  · have hd : (2 : Int) ^ qe p z ∣ f := Int.dvd_trans (i2_dvd (by unfold qe; omega)) hf
    obtain ⟨a1, a2, -, -⟩ := near_step h hd
    exact ⟨a1, a2⟩

/-- what is rounded has p digits, and keeps the order -/
theorem near_fl {p : Nat} {z r : Int} (hp : 1 ≤ p) (h : NearI p z r) : Fl' p r := by
  obtain ⟨z1, z2⟩ := abs_lt_bl z
  have hd : (2 : Int) ^ qe p z ∣ 2 ^ bl z.natAbs := i2_dvd (by unfold qe; omega)
  have a1 := (near_step h hd).2.2.2 (by omega)
  have a2 := (near_step h (Int.dvd_neg.2 hd)).2.2.1 (by omega)
  exact fl_of hp h.1 (Int.le_trans a1 (i2_le (by unfold qe; omega))) (Int.le_trans (show -r ≤ 2 ^ bl z.natAbs by omega) (i2_le (by unfold qe; omega)))

theorem near_ge {p : Nat} {z r f : Int} (hp : 1 ≤ p) (h : NearI p z r) (hf : Fl' p f) (h1 : f ≤ z) : f ≤ r := by
  by_cases h2 : f ≤ r
  · exact h2
  · have h3 := (near_best hp h hf); omega
theorem near_le' {p : Nat} {z r f : Int} (hp : 1 ≤ p) (h : NearI p z r) (hf : Fl' p f) (h1 : z ≤ f) : r ≤ f := by
  by_cases h2 : r ≤ f
  · exact h2
  · have h3 := (near_best hp h hf); omega

/-- the sum less the greater summand -/
theorem fast_exact {p : Nat} {a b s : Int} (hp : 1 ≤ p) (ha : Fl' p a) (hb : Fl' p b) (h1 : b ≤ a ∨ b ≤ -a) (h2 : -b ≤ a ∨ -b ≤ -a) (hs : NearI p (a + b) s) : Fl' p (s - a) := by
  have hba := bl_abs_mono h1 h2
  have hq : qe p b ≤ qe p a := by unfold qe; omega
  have da : (2 : Int) ^ qe p b ∣ a := Int.dvd_trans (i2_dvd hq) ha
  obtain ⟨b1, b2⟩ := fl_most hb
  obtain ⟨a1, a2⟩ := fl_most ha
  by_cases hQ : qe p (a + b) ≤ qe p b
  · have e := nearI_exact hs (Int.dvd_trans (i2_dvd hQ) (Int.dvd_add da hb))
    rw [e, show a + b - a = b by omega]; exact hb
  obtain ⟨s1, s2, s3⟩ := hs
  have pb := i2_pos (qe p b)
  by_cases hQa : qe p (a + b) ≤ qe p a
  · refine fl_of hp (k := qe p (a + b)) (Int.dvd_sub s1 (Int.dvd_trans (i2_dvd hQa) ha)) ?_ ?_
    all_goals
      have e1 : (2 : Int) ^ (p + qe p b + 1) ≤ 2 ^ (p + qe p (a + b)) := i2_le (by omega)
      rw [i2_succ] at e1
      have e2 : (2 : Int) ^ (qe p (a + b)) ≤ 2 ^ (p + qe p (a + b)) := i2_le (by omega)
      omega
  · have e0 : qe p (a + b) = qe p a + 1 := by
      have := bl_le_abs (z := a + b) (k := bl a.natAbs + 1) (by rw [i2_succ]; have := abs_lt_bl a; omega) (by rw [i2_succ]; have := abs_lt_bl a; omega)
      unfold qe at *
      omega
    rw [e0, i2_succ] at s2 s3
    rw [e0] at s1
    refine fl_of hp (k := qe p a) (Int.dvd_sub (Int.dvd_trans (i2_dvd (Nat.le_succ _)) s1) ha) ?_ ?_
    all_goals omega

/-- what a rounded sum lacks -/
theorem rest_fl {p : Nat} {a b s : Int} (hp : 1 ≤ p) (ha : Fl' p a) (hb : Fl' p b) (h1 : b ≤ a ∨ b ≤ -a) (h2 : -b ≤ a ∨ -b ≤ -a) (hs : NearI p (a + b) s) : Fl' p (a + b - s) := by
  have hba := bl_abs_mono h1 h2
  have hq : qe p b ≤ qe p a := by unfold qe; omega
  have dab : (2 : Int) ^ qe p b ∣ a + b := Int.dvd_add (Int.dvd_trans (i2_dvd hq) ha) hb
  obtain ⟨b1, b2⟩ := fl_most hb
  have pb := i2_pos (qe p b)
  have hn := near_best hp hs ha
  exact fl_of hp (k := qe p b) (Int.dvd_sub dab (near_mult hs dab)) (by omega) (by omega)

theorem fl_neg {p : Nat} {z : Int} (h : Fl' p z) : Fl' p (-z) := by
  unfold Fl' qe at *
  rw [Int.natAbs_neg]
  exact Int.dvd_neg.2 h

/-- FastTwoSum: three roundings -/
theorem fastSum {p : Nat} {a b s t r : Int} (hp : 1 ≤ p) (ha : Fl' p a) (hb : Fl' p b) (h1 : b ≤ a ∨ b ≤ -a) (h2 : -b ≤ a ∨ -b ≤ -a) (hs : NearI p (a + b) s) (ht : NearI p (s - a) t) (hr : NearI p (b - t) r) : s + r = a + b := by
  have e1 := nearI_exact ht (fast_exact hp ha hb h1 h2 hs)
  have hf := rest_fl hp ha hb h1 h2 hs
  rw [e1] at hr
  have e2 := nearI_exact hr (by rw [show b - (s - a) = a + b - s by omega]; exact hf)
  omega

/-- TwoSum: six roundings -/
theorem twoSum' {p : Nat} {a b s t u v w r : Int} (hp : 1 ≤ p) (ha : Fl' p a) (hb : Fl' p b) (hs : NearI p (a + b) s) (ht : NearI p (s - a) t) (hu : NearI p (s - t) u) (hv : NearI p (b - t) v) (hw : NearI p (a - u) w) (hr : NearI p (w + v) r) : s + r = a + b := by
  have hf : Fl' p (a + b - s) := by
    by_cases h : (b ≤ a ∨ b ≤ -a) ∧ (-b ≤ a ∨ -b ≤ -a)
    · exact rest_fl hp ha hb h.1 h.2 hs
    · rw [show a + b - s = b + a - s by omega]
      exact rest_fl hp hb ha (by omega) (by omega) (by rw [Int.add_comm]; exact hs)
  by_cases hx : Fl' p (s - a)
  · have e1 := nearI_exact ht hx
    rw [e1, show s - (s - a) = a by omega] at hu
    have e2 := nearI_exact hu ha
    rw [e2, Int.sub_self] at hw
    have e3 := near_zero hw
    rw [e1] at hv
    have e4 := nearI_exact hv (by rw [show b - (s - a) = a + b - s by omega]; exact hf)
    rw [e3, e4] at hr
    have e5 := nearI_exact hr (by rw [show 0 + (b - (s - a)) = a + b - s by omega]; exact hf)
    omega
  · -- b is the greater
    have hab : (a ≤ b ∨ a ≤ -b) ∧ (-a ≤ b ∨ -a ≤ -b) := by
      by_cases h : (b ≤ a ∨ b ≤ -a) ∧ (-b ≤ a ∨ -b ≤ -a)
      · exact absurd (fast_exact hp ha hb h.1 h.2 hs) hx
      · omega
    have hbl := bl_abs_mono hab.1 hab.2
    have hq : qe p a ≤ qe p b := by unfold qe; omega
    have db : (2 : Int) ^ qe p a ∣ b := Int.dvd_trans (i2_dvd hq) hb
    have dab : (2 : Int) ^ qe p a ∣ a + b := Int.dvd_add ha db
    obtain ⟨a1, a2⟩ := fl_most ha
    have pa := i2_pos (qe p a)
    have fs := near_fl hp hs
    -- the sum is no less than a
    have hsa : (a ≤ s ∨ a ≤ -s) ∧ (-a ≤ s ∨ -a ≤ -s) := by
      by_cases h : (a ≤ s ∨ a ≤ -s) ∧ (-a ≤ s ∨ -a ≤ -s)
      · exact h
      · exfalso
        apply hx
        have hz : a + b ≤ 2 ^ (p + qe p a) ∧ -(a + b) ≤ 2 ^ (p + qe p a) := by
          have g1 := fun h => near_ge hp hs ha h
          have g2 := fun h => near_ge hp hs (fl_neg ha) h
          have g3 := fun h => near_le' hp hs ha h
          have g4 := fun h => near_le' hp hs (fl_neg ha) h
          omega
        have e := nearI_exact hs (fl_of hp dab hz.1 hz.2)
        rw [e, show a + b - a = b by omega]; exact hb
    have ht' : NearI p (s + -a) t := by rw [← Int.sub_eq_add_neg]; exact ht
    have fna := fl_neg ha
    have e1 := nearI_exact hu (by
      have := fast_exact hp fs fna (by omega) (by omega) ht'
      have := fl_neg this
      rwa [show -(t - s) = s - t by omega] at this)
    have e2 := nearI_exact hw (by
      have := rest_fl hp fs fna (by omega) (by omega) ht'
      have := fl_neg this
      rw [e1]
      rwa [show -(s + -a - t) = a - (s - t) by omega] at this)
    have e3 : Fl' p (b - t) := by
      have n1 := near_best hp hs hb
      have n2 := near_best hp ht hb
      have ds : (2 : Int) ^ qe p a ∣ s - a := Int.dvd_sub (near_mult hs dab) ha
      have hQ1 : qe p a + 1 ≤ qe p (s - a) := by
        rcases Nat.lt_or_ge (qe p a) (qe p (s - a)) with h | h
        · exact h
        · exact absurd (Int.dvd_trans (i2_dvd h) ds) hx
      rcases Nat.lt_or_ge (qe p a) (qe p b) with hqq | hqq
      · have d1 : (2 : Int) ^ (qe p a + 1) ∣ b - t := Int.dvd_sub (Int.dvd_trans (i2_dvd hqq) hb) (Int.dvd_trans (i2_dvd hQ1) ht.1)
        have e : (2 : Int) ^ (p + (qe p a + 1)) = 2 ^ (p + qe p a) * 2 := by rw [← Nat.add_assoc, i2_succ]
        exact fl_of hp d1 (by omega) (by omega)
      · have d1 : (2 : Int) ^ (qe p a) ∣ b - t := Int.dvd_sub db (Int.dvd_trans (i2_dvd (by omega)) ht.1)
        have e0 : qe p (a + b) ≤ qe p b + 1 := by
          have := bl_le_abs (z := a + b) (k := bl b.natAbs + 1) (by rw [i2_succ]; have := abs_lt_bl b; omega) (by rw [i2_succ]; have := abs_lt_bl b; omega)
          unfold qe at *
          omega
        have e1 : (2 : Int) ^ qe p (a + b) ≤ 2 ^ (qe p a + 1) := i2_le (by omega)
        have e2 : (2 : Int) ^ (qe p a + 1) ≤ 2 ^ (p + qe p a) := i2_le (by omega)
        rw [i2_succ] at e1 e2
        obtain ⟨_, s2, s3⟩ := hs
        exact fl_of hp d1 (by omega) (by omega)
    have e4 := nearI_exact hv e3
    rw [e2, e1, e4] at hr
    have e5 := nearI_exact hr (by rw [show a - (s - t) + (b - t) = a + b - s by omega]; exact hf)
    omega

end Go.Proofs.YtlibhfojfonfjaaGreatDoor
