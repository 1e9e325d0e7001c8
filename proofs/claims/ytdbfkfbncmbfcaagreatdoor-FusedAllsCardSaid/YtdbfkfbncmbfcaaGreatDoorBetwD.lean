/- A product's bounds as exact numbers. -/
import Derived.Test.YtdbfkfbncmbfcaaGreatDoorBetw
import Derived.Test.YtdbfkfbncmbfcaaGreatDoorPackC
import Derived.Test.YtdbfkfbncmbfcaaGreatDoorPackF
namespace Go.Proofs.YtdbfkfbncmbfcaaGreatDoor
set_option linter.unusedVariables false
set_option linter.unusedSimpArgs false

section
variable {F : Fm}

theorem low_ge (ok : F.Ok) : -1074 ≤ F.low ∧ F.low ≤ 0 := by
  obtain ⟨p8, p53, pw, w64, emx, emn, b16, b1023⟩ := ok
  unfold Fm.low; omega

theorem ex_range (ok : F.Ok) {a : Nat} (h : F.abs a < F.inf) : F.low ≤ F.ex a ∧ F.ex a ≤ 1024 := by
  have h1 := inf_emax ok
  have hp := pow_pos2 (F.p - 1)
  obtain ⟨p8, p53, pw, w64, emx, emn, b16, b1023⟩ := ok
  have hd : F.abs a / 2 ^ (F.p - 1) < 2 * F.emax.toNat + 1 := by rw [Nat.div_lt_iff_lt_mul hp]; omega
  unfold Fm.ex Fm.xp
  unfold Fm.low
  generalize F.abs a / 2 ^ (F.p - 1) = q at *
  clear h h1 hp
  split <;> omega

theorem mag_lt (ok : F.Ok) (a : Nat) : F.mag a < 2 ^ 53 := by
  obtain ⟨p8, p53, pw, w64, emx, emn, b16, b1023⟩ := ok
  have hp := pow_pos2 (F.p - 1)
  have h2 : (2 : Nat) ^ (F.p - 1) ≤ 2 ^ 52 := Nat.pow_le_pow_right (by decide) (by omega)
  unfold Fm.mag Fm.sig
  split
  · rename_i h
    have := Nat.lt_of_div_eq_zero hp h
    omega
  · have := Nat.mod_lt (F.abs a) hp
    omega

theorem small_nd {n : Nat} (h : n < 2 ^ 128) : nd 64 n ≤ 2 := nd_le 64 n 2 (by decide) h

/-- a value: its size and its units -/
theorem valD_facts (ok : F.Ok) {a : Nat} (h : F.abs a < F.inf) : refD (nd 64 (valD F a).n) (valD F a).e = 0 ∧ (valD F a).n < 2 ^ (64 * nd 64 (valD F a).n) ∧ (∀ L, L ≤ -40000 → (valD F a).i L = F.val L a) ∧ (F.abs a ≠ 0 ↔ (valD F a).n ≠ 0) := by
  have h1 := low_ge ok
  have h2 := ex_range ok h
  have h3 := mag_lt ok a
  have hle : (valD F a).n ≤ F.mag a := odd_le _
  have hmz : F.abs a ≠ 0 ↔ F.mag a ≠ 0 := by
    constructor
    · intro h0; exact mag_ne (by have := ok.p8; omega) (by unfold Fm.isZero; simpa using h0)
    · intro h0 h4; apply h0; unfold Fm.mag; rw [h4]; simp [Fm.sig]
  have hz : F.mag a ≠ 0 ↔ (valD F a).n ≠ 0 := by
    unfold valD oddD
    simp only
    split
    · rename_i h4; simp [h4, D.zero]
    · rename_i h4
      exact ⟨fun _ => odd_part_ne h4, fun _ => h4⟩
  have he : -1100 ≤ (valD F a).e ∧ (valD F a).e ≤ 1200 := by
    unfold valD oddD
    simp only
    split
    · simp [D.zero]
    · rename_i h4
      have : tzN (F.mag a) < 64 := by
        have := (tz_tzN (n := F.mag a) (by omega) h4).1
        have := (tz_tzN (n := F.mag a) (by omega) h4).2
        omega
      simp only
      omega
  refine ⟨?_, lt_nd 64 _ (by decide), ?_, hmz.trans hz⟩
  · unfold refD
    have := small_nd (n := (valD F a).n) (by omega)
    rw [if_neg (by omega), if_neg (by omega)]
  · intro L hL
    rw [val_i]
    exact i_odd _ L (by show L ≤ F.ex a; omega)

theorem sI_i (s : Bool) (n : Nat) (e L : Int) : D.i L ⟨s, n, e⟩ = sI s (uN L n e) := i_up s n e L

/-- the exact product of two values -/
theorem prod_val (ok : F.Ok) {a b : Nat} (fa : F.abs a < F.inf) (fb : F.abs b < F.inf) :
    ∃ x, mulD (nd 64 (valD F a).n) (valD F a) (nd 64 (valD F b).n) (valD F b) = (x, 0) ∧ refD (nd 64 x.n) x.e = 0 ∧ x.i (-80000) = sI (F.neg a != F.neg b) (uN (-80000) (F.mag a * F.mag b) (F.ex a + F.ex b)) := by
  obtain ⟨r1, l1, v1, _⟩ := valD_facts ok fa
  obtain ⟨r2, l2, v2, _⟩ := valD_facts ok fb
  have h1 := low_ge ok
  have ha := ex_range ok fa
  have hb := ex_range ok fb
  have hma := mag_lt ok a
  have hmb := mag_lt ok b
  obtain ⟨d, hd, hde, hdi⟩ := mulD_ans (-40000) (by omega) r1 r2 l1 l2
  have e2 : (-40000 : Int) + -40000 = -80000 := by decide
  rw [e2] at hde hdi
  rw [v1 _ (by omega), v2 _ (by omega), val_i, val_i, ← i_mul _ _ _ _ _ _ _ (by omega) (by omega), e2] at hdi
  have hq : ansD d = ansD ⟨F.neg a != F.neg b, F.mag a * F.mag b, F.ex a + F.ex b⟩ := ansD_eq (-80000) hde (by show -80000 ≤ F.ex a + F.ex b; omega) (by omega) hdi
  have hn : F.mag a * F.mag b < 2 ^ 106 := Nat.lt_of_lt_of_le (Nat.mul_lt_mul'' hma hmb) (by decide)
  obtain ⟨y, hy⟩ : ∃ y, y = oddD ⟨F.neg a != F.neg b, F.mag a * F.mag b, F.ex a + F.ex b⟩ := ⟨_, rfl⟩
  have hyn : y.n ≤ F.mag a * F.mag b := by rw [hy]; exact odd_le _
  have hnd := small_nd (n := y.n) (by omega)
  have hye : -4000 ≤ y.e ∧ y.e ≤ 4000 := by
    rw [hy]
    unfold oddD
    simp only
    split
    · simp [D.zero]
    · rename_i h4
      have h5 := tzN_spec (F.mag a * F.mag b) h4
      have : tzN (F.mag a * F.mag b) < 128 := by
        rcases Nat.lt_or_ge (tzN (F.mag a * F.mag b)) 128 with h | h
        · exact h
        · exfalso
          obtain ⟨q, hq⟩ := h5
          have := Nat.pow_le_pow_right (show 0 < 2 by decide) h
          have h8 : 2 ^ tzN (F.mag a * F.mag b) ≤ F.mag a * F.mag b := by
            conv => rhs; rw [hq]
            exact Nat.le_mul_of_pos_right _ (by omega)
          omega
      simp only
      omega
  refine ⟨y, ?_, ?_, ?_⟩
  · rw [hd, hq]
    unfold ansD
    rw [← hy, if_neg (by omega), if_neg (by omega)]
  · unfold refD
    rw [if_neg (by omega), if_neg (by omega)]
  · rw [hy, i_odd _ _ (by show -80000 ≤ F.ex a + F.ex b; omega), sI_i]

structure BetwD (F : Fm) (g : Nat) (c A B : Nat) (x : D) : Prop where
  fl : g = 0 ∨ g = 16 ∨ g = 20 ∨ g = 24
  one : c = A ∨ c = B
  lt : A < 2 ^ F.w ∧ B < 2 ^ F.w
  down : F.abs A < F.inf → cmpD (nd 64 (valD F A).n) (valD F A) (nd 64 x.n) x = (if A = B then 0 else -1, 0) ∧ (A = B ↔ g &&& 16 = 0)
  up : F.abs B < F.inf → cmpD (nd 64 x.n) x (nd 64 (valD F B).n) (valD F B) = (if A = B then 0 else -1, 0)
  over : F.abs A < F.inf → F.abs B < F.inf → g &&& 4 = 0
  fin : F.abs A < F.inf ∨ F.abs B < F.inf
  minf : ¬ F.abs A < F.inf → A = F.inf + F.sg true
  pinf : ¬ F.abs B < F.inf → B = F.inf + F.sg false

theorem sgI_le {x : Int} {p : Prop} [Decidable p] (h : x ≤ 0) (hp : x = 0 ↔ p) : sgI x = if p then 0 else -1 := by
  unfold sgI
  by_cases hx : x = 0
  · rw [if_pos hx, if_pos (hp.1 hx)]
  · rw [if_neg hx, if_pos (by omega), if_neg (fun h => hx (hp.2 h))]

theorem mul_between (ok : F.Ok) (m : Nat) {a b : Nat} (fa : F.abs a < F.inf) (fb : F.abs b < F.inf) (za : F.abs a ≠ 0) (zb : F.abs b ≠ 0) :
    ∃ x, mulD (nd 64 (valD F a).n) (valD F a) (nd 64 (valD F b).n) (valD F b) = (x, 0) ∧ BetwD F (mulS F m a b).2 (mulS F m a b).1 (mulS F 4 a b).1 (mulS F 3 a b).1 x := by
  obtain ⟨x, hx, hr, hi⟩ := prod_val ok fa fb
  refine ⟨x, hx, ?_⟩
  have hp : 1 ≤ F.p := by have := ok.p8; omega
  have hlow := low_ge ok
  have hea := ex_range ok fa
  have heb := ex_range ok fb
  have hma : F.mag a ≠ 0 := mag_ne hp (by unfold Fm.isZero; simpa using za)
  have hmb : F.mag b ≠ 0 := mag_ne hp (by unfold Fm.isZero; simpa using zb)
  have H := into_betw ok m (F.neg a != F.neg b) (F.mag a * F.mag b) (F.ex a + F.ex b) (-80000) (Nat.mul_ne_zero hma hmb) (by omega) (by omega)
  have hfl := into_flags F m (F.neg a != F.neg b) (F.mag a * F.mag b) (F.ex a + F.ex b) false
  rw [mul_into ok m fa fb za zb, mul_into ok 4 fa fb za zb, mul_into ok 3 fa fb za zb]
  generalize (intoS F m (F.neg a != F.neg b) (F.mag a * F.mag b) (F.ex a + F.ex b) false) = r at *
  generalize (intoS F 4 (F.neg a != F.neg b) (F.mag a * F.mag b) (F.ex a + F.ex b) false).1 = A at *
  generalize (intoS F 3 (F.neg a != F.neg b) (F.mag a * F.mag b) (F.ex a + F.ex b) false).1 = B at *
  generalize sI (F.neg a != F.neg b) (uN (-80000) (F.mag a * F.mag b) (F.ex a + F.ex b)) = X at *
  refine ⟨hfl, H.one, H.lt, ?_, ?_, H.over, H.fin, H.minf, H.pinf⟩
  · intro hA
    obtain ⟨r1, l1, v1, _⟩ := valD_facts ok hA
    obtain ⟨d1, d2, d3⟩ := H.down hA
    refine ⟨?_, d2.symm.trans d3⟩
    rw [cmpD_val _ _ _ _ (-80000) (by omega) r1 hr, v1 _ (by omega), hi, sgI_le (p := A = B) (show F.val (-80000) A - X ≤ 0 by omega) (by rw [← d2]; omega)]
  · intro hB
    obtain ⟨r1, l1, v1, _⟩ := valD_facts ok hB
    obtain ⟨d1, d2⟩ := H.up hB
    rw [cmpD_val _ _ _ _ (-80000) (by omega) hr r1, v1 _ (by omega), hi, sgI_le (p := A = B) (show X - F.val (-80000) B ≤ 0 by omega) (by rw [← d2]; omega)]

end
end Go.Proofs.YtdbfkfbncmbfcaaGreatDoor
