/- What addsub.sum reckons, as plain numbers. -/
import Derived.Test.YtlibhfojfonfjaaGreatDoorPackU
namespace Go.Proofs.YtlibhfojfonfjaaGreatDoor
set_option linter.unusedVariables false
set_option linter.unusedSimpArgs false

/-- the sum of two numbers, rounded -/
def sumN (F : Fm) (m : Nat) (s1 : Bool) (n1 : Nat) (e1 : Int) (s2 : Bool) (n2 : Nat) (e2 : Int) : Nat × Nat :=
  if D.i (-5000) ⟨s1, n1, e1⟩ + D.i (-5000) ⟨s2, n2, e2⟩ = 0 then (F.sg (if n1 = 0 ∧ n2 = 0 ∧ s1 = s2 then s1 else m == 4), 0)
  else rndZ F m (D.i (-5000) ⟨s1, n1, e1⟩ + D.i (-5000) ⟨s2, n2, e2⟩) (-5000)

/-- two numbers laid for the sum: the first one is the higher -/
structure Laid2 (s : Bool) (n : Nat) (e : Int) (t : Bool) (k : Nat) (g : Int) : Prop where
  le : g ≤ e
  lo : -2000 ≤ g
  hi : e ≤ 2000
  n53 : n < 2 ^ 53
  k53 : k < 2 ^ 53
  zero : n = 0 → k = 0 ∧ s ≠ t

section
variable {F : Fm}

theorem units_g {s t : Bool} {n k : Nat} {e g : Int} (m : Nat) (h1 : g ≤ e) (h2 : -2000 ≤ g) (hz : D.i g ⟨s, n, e⟩ + D.i g ⟨t, k, g⟩ ≠ 0) :
    rndZ F m (D.i g ⟨s, n, e⟩ + D.i g ⟨t, k, g⟩) g = rndZ F m (D.i (-5000) ⟨s, n, e⟩ + D.i (-5000) ⟨t, k, g⟩) (-5000) ∧ D.i (-5000) ⟨s, n, e⟩ + D.i (-5000) ⟨t, k, g⟩ ≠ 0 := by
  have e1 := i_scale ⟨s, n, e⟩ (-5000) g (by omega) h1
  have e2 := i_scale ⟨t, k, g⟩ (-5000) g (by omega) (Int.le_refl _)
  rw [e1, e2, ← Int.add_mul]
  exact ⟨(rndZ_scale m _ g (-5000) hz (by omega)).symm, Int.mul_ne_zero hz (by have := ipow_pos (g - -5000).toNat; omega)⟩

theorem units_g0 {s t : Bool} {n k : Nat} {e g : Int} (h1 : g ≤ e) (h2 : -2000 ≤ g) (hz : D.i g ⟨s, n, e⟩ + D.i g ⟨t, k, g⟩ = 0) : D.i (-5000) ⟨s, n, e⟩ + D.i (-5000) ⟨t, k, g⟩ = 0 := by
  have e1 := i_scale ⟨s, n, e⟩ (-5000) g (by omega) h1
  have e2 := i_scale ⟨t, k, g⟩ (-5000) g (by omega) (Int.le_refl _)
  rw [e1, e2, ← Int.add_mul, hz, Int.zero_mul]

structure Shifts (e g : Int) (up down : Nat) : Prop where
  eq : e - g = up + down
  far : down ≠ 0 → up = 70
  le : up ≤ 70
  lt : down ≤ 4000

theorem shifts_of {e g : Int} (h1 : g ≤ e) (h2 : -2000 ≤ g) (h3 : e ≤ 2000) : Shifts e g (min (e - g).toNat 70) ((e - g).toNat - min (e - g).toNat 70) := ⟨by omega, by omega, by omega, by omega⟩

theorem high_lt {n up : Nat} (h : n < 2 ^ 53) (hu : up ≤ 70) : n * 2 ^ up < 2 ^ 123 := by
  calc n * 2 ^ up ≤ n * 2 ^ 70 := Nat.mul_le_mul_left _ (Nat.pow_le_pow_right (by decide) hu)
    _ < 2 ^ 53 * 2 ^ 70 := Nat.mul_lt_mul_of_pos_right h (pow_pos2 _)
    _ = 2 ^ 123 := by rw [← Nat.pow_add]

theorem more_far {k down up : Nat} {e g : Int} (hs : Shifts e g up down) (h : k / 2 ^ down * 2 ^ down ≠ k) : up = 70 ∧ k ≠ 0 := by
  refine ⟨hs.far ?_, ?_⟩
  · rintro rfl; simp at h
  · rintro rfl; simp at h

theorem sum_same (ok : F.Ok) (m : Nat) {s : Bool} {n k up down : Nat} {e g : Int} (h : Laid2 s n e s k g) (hs : Shifts e g up down) :
    n * 2 ^ up + k / 2 ^ down ≠ 0 ∧ n * 2 ^ up + k / 2 ^ down < 2 ^ 124 ∧ (decide (k / 2 ^ down * 2 ^ down ≠ k) = true → F.p + 2 ≤ bl (n * 2 ^ up + k / 2 ^ down)) ∧
    intoS F m s (n * 2 ^ up + k / 2 ^ down) (e - up) (decide (k / 2 ^ down * 2 ^ down ≠ k)) = rndZ F m (D.i (-5000) ⟨s, n, e⟩ + D.i (-5000) ⟨s, k, g⟩) (-5000) ∧ D.i (-5000) ⟨s, n, e⟩ + D.i (-5000) ⟨s, k, g⟩ ≠ 0 := by
  have hn0 : n ≠ 0 := fun h0 => (h.zero h0).2 rfl
  have hh := high_lt h.n53 hs.le
  have hk : k / 2 ^ down < 2 ^ 53 := Nat.lt_of_le_of_lt (Nat.div_le_self _ _) h.k53
  have hne : n * 2 ^ up + k / 2 ^ down ≠ 0 := Nat.ne_of_gt (Nat.lt_of_lt_of_le (Nat.mul_pos (Nat.pos_of_ne_zero hn0) (pow_pos2 up)) (Nat.le_add_right _ _))
  have hbl : decide (k / 2 ^ down * 2 ^ down ≠ k) = true → F.p + 2 ≤ bl (n * 2 ^ up + k / 2 ^ down) := by
    intro hm
    obtain ⟨h70, _⟩ := more_far hs (by simpa using hm)
    have h1 : 2 ^ 70 ≤ n * 2 ^ up := by rw [h70]; exact Nat.le_mul_of_pos_left _ (Nat.pos_of_ne_zero hn0)
    have := lt_bl_of_le (N := n * 2 ^ up + k / 2 ^ down) (a := 70) (Nat.le_trans h1 (Nat.le_add_right _ _))
    have := ok.p53
    omega
  obtain ⟨r1, r2⟩ := add_same (F := F) m s n k e g h.le up down hs.eq _ rfl _ rfl hne (fun hm => by have := hbl hm; omega)
  obtain ⟨r3, r4⟩ := units_g (F := F) m h.le h.lo r2
  exact ⟨hne, by generalize k / 2 ^ down = lo at *; omega, hbl, r1.trans r3, r4⟩

theorem sum_diff (ok : F.Ok) (m : Nat) {s : Bool} {n k up down : Nat} {e g : Int} (h : Laid2 s n e (!s) k g) (hs : Shifts e g up down) (hle : k / 2 ^ down ≤ n * 2 ^ up) :
    (decide (k / 2 ^ down * 2 ^ down ≠ k) = true → k / 2 ^ down + 1 ≤ n * 2 ^ up ∧ n * 2 ^ up - k / 2 ^ down - 1 ≠ 0 ∧ F.p + 2 ≤ bl (n * 2 ^ up - k / 2 ^ down - 1) ∧
      intoS F m s (n * 2 ^ up - k / 2 ^ down - 1) (e - up) true = rndZ F m (D.i (-5000) ⟨s, n, e⟩ + D.i (-5000) ⟨!s, k, g⟩) (-5000) ∧ D.i (-5000) ⟨s, n, e⟩ + D.i (-5000) ⟨!s, k, g⟩ ≠ 0) ∧
    (decide (k / 2 ^ down * 2 ^ down ≠ k) = false → (n * 2 ^ up - k / 2 ^ down = 0 → D.i (-5000) ⟨s, n, e⟩ + D.i (-5000) ⟨!s, k, g⟩ = 0) ∧
      (n * 2 ^ up - k / 2 ^ down ≠ 0 → intoS F m s (n * 2 ^ up - k / 2 ^ down) (e - up) false = rndZ F m (D.i (-5000) ⟨s, n, e⟩ + D.i (-5000) ⟨!s, k, g⟩) (-5000) ∧ D.i (-5000) ⟨s, n, e⟩ + D.i (-5000) ⟨!s, k, g⟩ ≠ 0)) := by
  have hh := high_lt h.n53 hs.le
  have hk : k / 2 ^ down < 2 ^ 53 := Nat.lt_of_le_of_lt (Nat.div_le_self _ _) h.k53
  constructor
  · intro hm
    obtain ⟨h70, hk0⟩ := more_far hs (by simpa using hm)
    have hn0 : n ≠ 0 := fun h0 => hk0 (h.zero h0).1
    have h1 : 2 ^ 70 ≤ n * 2 ^ up := by rw [h70]; exact Nat.le_mul_of_pos_left _ (Nat.pos_of_ne_zero hn0)
    have h2 : 2 ^ 69 ≤ n * 2 ^ up - k / 2 ^ down - 1 := by omega
    have h3 := lt_bl_of_le h2
    have hp := ok.p53
    have hd0 : n * 2 ^ up - k / 2 ^ down - 1 ≠ 0 := by omega
    obtain ⟨r1, r2⟩ := add_diff (F := F) m s n k e g h.le up down hs.eq _ rfl true hm.symm (n * 2 ^ up - k / 2 ^ down - 1) (by simp; omega) hd0 (fun _ => by omega)
    obtain ⟨r3, r4⟩ := units_g (F := F) m h.le h.lo r2
    exact ⟨by omega, hd0, by omega, r1.trans r3, r4⟩
  · intro hm
    have he : k / 2 ^ down * 2 ^ down = k := by simpa using hm
    constructor
    · intro h0
      refine units_g0 h.le h.lo ?_
      have e1 : n * 2 ^ (e - g).toNat = k := by
        rw [show (e - g).toNat = up + down by have := hs.eq; omega, Nat.pow_add, ← Nat.mul_assoc, show n * 2 ^ up = k / 2 ^ down by omega]
        exact he
      rw [i_up, i_at, e1]
      cases s <;> simp <;> omega
    · intro h0
      obtain ⟨r1, r2⟩ := add_diff (F := F) m s n k e g h.le up down hs.eq _ rfl false hm.symm (n * 2 ^ up - k / 2 ^ down) (by simp; omega) h0 (fun h => by cases h)
      obtain ⟨r3, r4⟩ := units_g (F := F) m h.le h.lo r2
      exact ⟨r1.trans r3, r4⟩

/-- the second one is greater: then nothing of it was lost -/
theorem sum_turn (ok : F.Ok) (m : Nat) {s : Bool} {n k up down : Nat} {e g : Int} (h : Laid2 s n e (!s) k g) (hs : Shifts e g up down) (hlt : n * 2 ^ up < k / 2 ^ down) :
    decide (k / 2 ^ down * 2 ^ down ≠ k) = false ∧ k / 2 ^ down - n * 2 ^ up ≠ 0 ∧
    intoS F m (!s) (k / 2 ^ down - n * 2 ^ up) (e - up) false = rndZ F m (D.i (-5000) ⟨s, n, e⟩ + D.i (-5000) ⟨!s, k, g⟩) (-5000) ∧ D.i (-5000) ⟨s, n, e⟩ + D.i (-5000) ⟨!s, k, g⟩ ≠ 0 := by
  have hk : k / 2 ^ down < 2 ^ 53 := Nat.lt_of_le_of_lt (Nat.div_le_self _ _) h.k53
  have hd0 : down = 0 := by
    rcases Nat.eq_zero_or_pos down with h0 | h0
    · exact h0
    · exfalso
      have h70 := hs.far (by omega)
      have hn0 : n ≠ 0 := by
        intro h0
        have := (h.zero h0).1
        rw [this] at hlt
        simp at hlt
      have h1 : 2 ^ 70 ≤ n * 2 ^ up := by rw [h70]; exact Nat.le_mul_of_pos_left _ (Nat.pos_of_ne_zero hn0)
      omega
  subst hd0
  rw [Nat.pow_zero, Nat.div_one] at *
  have heg : e - up = g := by have := hs.eq; omega
  have hz : D.i g ⟨s, n, e⟩ + D.i g ⟨!s, k, g⟩ = if !s then -((k - n * 2 ^ up : Nat) : Int) else ((k - n * 2 ^ up : Nat) : Int) := by
    rw [i_up, i_at, show (e - g).toNat = up by have := hs.eq; omega]
    generalize n * 2 ^ up = X at *
    cases s <;> simp <;> omega
  have hne : k - n * 2 ^ up ≠ 0 := by omega
  have hzn : D.i g ⟨s, n, e⟩ + D.i g ⟨!s, k, g⟩ ≠ 0 := by
    rw [hz]; cases s <;> simp <;> omega
  obtain ⟨r3, r4⟩ := units_g (F := F) m h.le h.lo hzn
  refine ⟨by simp, hne, ?_, r4⟩
  rw [← r3, hz, heg, rndZ_mk m (!s) _ g hne]

/-- the sum of two floats -/
theorem sumN_add (ok : F.Ok) (m : Nat) {a b : Nat} (ha : a < 2 ^ F.w) (hb : b < 2 ^ F.w) (fa : F.abs a < F.inf) (fb : F.abs b < F.inf) :
    sumN F m (F.neg a) (F.mag a) (F.ex a) (F.neg b) (F.mag b) (F.ex b) = addS F m a b := by
  have hp : 1 ≤ F.p := by have := ok.p8; omega
  rw [← sum_z ok m ha hb]
  have na : F.isNan a = false := by unfold Fm.isNan; simp; omega
  have nb : F.isNan b = false := by unfold Fm.isNan; simp; omega
  have ia : F.isInf a = false := by unfold Fm.isInf; simp; omega
  have ib : F.isInf b = false := by unfold Fm.isInf; simp; omega
  rw [fuseZ_fin m (by unfold oneZ; simp [na, ia, sig_nan]) (by unfold oneZ; simp [nb, ib, sig_nan])]
  have za : (oneZ F a).z = D.i (-5000) ⟨F.neg a, F.mag a, F.ex a⟩ := by unfold oneZ; simp [na, ia, val_i]
  have zb : (oneZ F b).z = D.i (-5000) ⟨F.neg b, F.mag b, F.ex b⟩ := by unfold oneZ; simp [nb, ib, val_i]
  rw [za, zb]
  unfold sumN
  have h1 : decide (D.i (-5000) ⟨F.neg a, F.mag a, F.ex a⟩ = 0) = decide (F.mag a = 0) := by congr 1; exact propext (i_zero_iff (d := ⟨F.neg a, F.mag a, F.ex a⟩))
  have h2 : decide (D.i (-5000) ⟨F.neg b, F.mag b, F.ex b⟩ = 0) = decide (F.mag b = 0) := by congr 1; exact propext (i_zero_iff (d := ⟨F.neg b, F.mag b, F.ex b⟩))
  rw [h1, h2]
  have h3 : (oneZ F a).neg = F.neg a := rfl
  have h4 : (oneZ F b).neg = F.neg b := rfl
  rw [h3, h4]
  split
  · congr 2
    by_cases c : F.mag a = 0 ∧ F.mag b = 0 ∧ F.neg a = F.neg b
    · rw [if_pos c]; simp [c]
    · rw [if_neg c, if_neg]
      simp
      intro h5 h6 h7
      exact c ⟨h5, h6, h7⟩
  · rfl

/-- the sum does not hang on the order -/
theorem sumN_comm (m : Nat) (s1 s2 : Bool) (n1 n2 : Nat) (e1 e2 : Int) : sumN F m s1 n1 e1 s2 n2 e2 = sumN F m s2 n2 e2 s1 n1 e1 := by
  unfold sumN
  rw [Int.add_comm]
  split
  · congr 2
    by_cases c : n1 = 0 ∧ n2 = 0 ∧ s1 = s2
    · obtain ⟨c1, c2, c3⟩ := c
      simp [c1, c2, c3]
    · rw [if_neg c, if_neg (fun h => c ⟨h.2.1, h.1, h.2.2.symm⟩)]
  · rfl

/-- a zero's exponent does not count -/
theorem sumN_zero (m : Nat) (s t : Bool) (n : Nat) (e g g' : Int) : sumN F m s n e t 0 g = sumN F m s n e t 0 g' := by
  have : ∀ g, D.i (-5000) ⟨t, 0, g⟩ = 0 := fun g => i_of_zero rfl _
  unfold sumN
  rw [this g, this g']

end
end Go.Proofs.YtlibhfojfonfjaaGreatDoor
