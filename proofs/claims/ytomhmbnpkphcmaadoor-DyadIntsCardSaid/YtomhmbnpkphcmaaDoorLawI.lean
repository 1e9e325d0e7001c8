/- The plain laws of integers. -/
import Derived.Test.YtomhmbnpkphcmaaDoorLawR
namespace Go.Proofs.YtomhmbnpkphcmaaDoor
set_option linter.unusedVariables false

theorem fromInt_i (x L : Int) (hL : L ≤ 0) : (fromIntD x).i L = x * 2 ^ (0 - L).toNat := by
  unfold fromIntD
  rw [i_odd _ L hL]
  unfold D.i
  simp only [decide_eq_true_eq]
  split <;> congr 1 <;> omega

theorem fromInt_can (x : Int) : (fromIntD x).can := oddD_can _

theorem fromInt_ok {x : Int} (h1 : -9223372036854775808 ≤ x) (h2 : x ≤ 9223372036854775807) :
    nd 64 (fromIntD x).n ≤ 1 ∧ 0 ≤ (fromIntD x).e ∧ (fromIntD x).e ≤ 64 := by
  have hN : x.natAbs < 2 ^ (64 * 1) := by
    show x.natAbs < 18446744073709551616
    omega
  refine ⟨odd_nd ⟨decide (x < 0), x.natAbs, 0⟩ 1 hN, oddD_low _ 0 (Int.le_refl _) (Int.le_refl _), ?_⟩
  have := oddD_e ⟨decide (x < 0), x.natAbs, 0⟩ 64 hN 0 64 (Int.le_refl _) (by show (0 : Int) + _ ≤ _; omega) (by omega) (by omega)
  exact this.2

theorem fromInt_ref {x : Int} (h1 : -9223372036854775808 ≤ x) (h2 : x ≤ 9223372036854775807) : refD (nd 64 (fromIntD x).n) (fromIntD x).e = 0 := by
  obtain ⟨g1, g2, g3⟩ := fromInt_ok h1 h2
  unfold refD
  rw [if_neg (by omega), if_neg (by omega)]

theorem fromInt_ans {x : Int} (h1 : -9223372036854775808 ≤ x) (h2 : x ≤ 9223372036854775807) : ansD (fromIntD x) = (fromIntD x, 0) := by
  obtain ⟨g1, g2, g3⟩ := fromInt_ok h1 h2
  exact ansD_can (fromInt_can x) (by omega) (by omega) (by omega)

theorem fromInt_lt (x : Int) : (fromIntD x).n < 2 ^ (64 * nd 64 (fromIntD x).n) := lt_nd 64 _ (by decide)

/-- an answer whose value is an integer -/
theorem ans_int {d : D} {x L : Int} (hL : L ≤ 0) (h : L ≤ d.e) (hx : d.i L = x * 2 ^ (0 - L).toNat) (h1 : -9223372036854775808 ≤ x) (h2 : x ≤ 9223372036854775807) : ansD d = (fromIntD x, 0) := by
  have g := fromInt_ok h1 h2
  rw [ansD_eq (d2 := fromIntD x) L h (by omega) hL (by rw [hx, fromInt_i x L hL])]
  exact fromInt_ans h1 h2

theorem int_add {m n : Int} (hm : -2147483648 < m ∧ m < 2147483648) (hn : -2147483648 < n ∧ n < 2147483648) :
    addD (nd 64 (fromIntD m).n) (fromIntD m) (nd 64 (fromIntD n).n) (fromIntD n) = (fromIntD (m + n), 0) := by
  obtain ⟨d, e1, e2, e3⟩ := addD_ans (-1000000) (by omega) (fromInt_ref (x := m) (by omega) (by omega)) (fromInt_ref (x := n) (by omega) (by omega))
  rw [e1]
  refine ans_int (by omega) e2 ?_ (by omega) (by omega)
  rw [e3, fromInt_i _ _ (by omega), fromInt_i _ _ (by omega), Int.add_mul]

theorem int_sub {m n : Int} (hm : -2147483648 < m ∧ m < 2147483648) (hn : -2147483648 < n ∧ n < 2147483648) :
    subD (nd 64 (fromIntD m).n) (fromIntD m) (nd 64 (fromIntD n).n) (fromIntD n) = (fromIntD (m - n), 0) := by
  obtain ⟨d, e1, e2, e3⟩ := subD_ans (-1000000) (by omega) (fromInt_ref (x := m) (by omega) (by omega)) (fromInt_ref (x := n) (by omega) (by omega))
  rw [e1]
  refine ans_int (by omega) e2 ?_ (by omega) (by omega)
  rw [e3, fromInt_i _ _ (by omega), fromInt_i _ _ (by omega), Int.sub_mul]

theorem mul_small {m n : Int} (hm : -2147483648 < m ∧ m < 2147483648) (hn : -2147483648 < n ∧ n < 2147483648) : -4611686018427387904 ≤ m * n ∧ m * n ≤ 4611686018427387904 := by
  have h : (m * n).natAbs ≤ 2147483648 * 2147483648 := by
    rw [Int.natAbs_mul]
    exact Nat.mul_le_mul (by omega) (by omega)
  omega

theorem int_mul {m n : Int} (hm : -2147483648 < m ∧ m < 2147483648) (hn : -2147483648 < n ∧ n < 2147483648) :
    mulD (nd 64 (fromIntD m).n) (fromIntD m) (nd 64 (fromIntD n).n) (fromIntD n) = (fromIntD (m * n), 0) := by
  have hb := mul_small hm hn
  obtain ⟨d, e1, e2, e3⟩ := mulD_ans (-1000000) (by omega) (fromInt_ref (x := m) (by omega) (by omega)) (fromInt_ref (x := n) (by omega) (by omega)) (fromInt_lt m) (fromInt_lt n)
  rw [e1]
  refine ans_int (by omega) e2 ?_ (by omega) (by omega)
  rw [e3, fromInt_i _ _ (by omega), fromInt_i _ _ (by omega), show (0 - (-1000000 + -1000000 : Int)).toNat = (0 - (-1000000 : Int)).toNat + (0 - (-1000000 : Int)).toNat from by omega, Int.pow_add]
  generalize (2 : Int) ^ (0 - (-1000000 : Int)).toNat = p
  grind

theorem sgI_mul (x p : Int) (hp : 0 < p) : sgI (x * p) = sgI x := by
  unfold sgI
  rcases Int.lt_trichotomy x 0 with h | h | h
  · have := Int.mul_neg_of_neg_of_pos h hp
    rw [if_neg (by omega), if_pos this, if_neg (by omega), if_pos h]
  · subst h; simp
  · have := Int.mul_pos h hp
    rw [if_neg (by omega), if_neg (by omega), if_neg (by omega), if_neg (by omega)]

theorem int_cmp {x y : Int} (h1 : -9223372036854775808 ≤ x ∧ x ≤ 9223372036854775807) (h2 : -9223372036854775808 ≤ y ∧ y ≤ 9223372036854775807) :
    cmpD (nd 64 (fromIntD x).n) (fromIntD x) (nd 64 (fromIntD y).n) (fromIntD y) = (sgI (x - y), 0) := by
  rw [cmpD_val _ _ _ _ (-1000000) (by omega) (fromInt_ref h1.1 h1.2) (fromInt_ref h2.1 h2.2), fromInt_i _ _ (by omega), fromInt_i _ _ (by omega), ← Int.sub_mul, sgI_mul _ _ (ipow_pos _)]

theorem int_sign (x : Int) : sgD (fromIntD x).s (fromIntD x).n = sgI x := by
  rw [sgD_i (fromIntD x) 0, fromInt_i x 0 (Int.le_refl _)]
  simp

/-- half of an integer, rounded down -/
def halfI (x : Int) : Int := if x.tmod 2 < 0 then x.tdiv 2 - 1 else x.tdiv 2

theorem halfI_eq (x : Int) : halfI x = x / 2 := by
  unfold halfI
  have h1 := Int.tmod_add_mul_tdiv x 2
  have h2 : -2 < x.tmod 2 := Int.lt_tmod_of_pos x (by decide)
  have h3 : x.tmod 2 < 2 := Int.tmod_lt_of_pos x (by decide)
  split
  · omega
  · rename_i h
    by_cases hx : x.tmod 2 = 0
    · omega
    · omega

theorem int_scale {x : Int} (h : -9223372036854775808 ≤ x ∧ x ≤ 9223372036854775807) : (scaleD (nd 64 (fromIntD x).n) (fromIntD x) (-1)).2 = 0 := by
  have hr := fromInt_ref h.1 h.2
  obtain ⟨g1, g2, g3⟩ := fromInt_ok h.1 h.2
  unfold scaleD
  rw [if_pos hr, can_odd _ (fromInt_can x)]
  split
  · rfl
  · rename_i hn
    have hc : D.can ⟨(fromIntD x).s, (fromIntD x).n, (fromIntD x).e + clampD (-1)⟩ := by
      rcases fromInt_can x with hz | ho
      · exfalso; apply hn; rw [hz]; rfl
      · exact Or.inr ho
    have hcl : clampD (-1) = -1 := by decide
    rw [ansD_can hc (by show nd 64 (fromIntD x).n ≤ 1024; omega) (by show -40000 ≤ (fromIntD x).e + clampD (-1); omega) (by show (fromIntD x).e + clampD (-1) ≤ 40000; omega)]

theorem int_half {x : Int} (h : -9223372036854775808 ≤ x ∧ x ≤ 9223372036854775807) (m : Nat) (hm : m = nd 64 (scaleD (nd 64 (fromIntD x).n) (fromIntD x) (-1)).1.n) :
    floorD m (scaleD (nd 64 (fromIntD x).n) (fromIntD x) (-1)).1 = (fromIntD (halfI x), 0) := by
  subst hm
  have h0 := int_scale h
  have hs := scaleD_res (nd 64 (fromIntD x).n) (fromIntD x) (-1) (-1000000) (by omega) h0
  rw [show (-1000000 : Int) + clampD (-1) = -1000001 from by decide] at hs
  generalize (scaleD (nd 64 (fromIntD x).n) (fromIntD x) (-1)).1 = d at *
  obtain ⟨c1, c2, c3, c4, c5⟩ := hs
  rw [fromInt_i x _ (by omega)] at c5
  have hr : refD (nd 64 d.n) d.e = 0 := by unfold refD; rw [if_neg (by omega), if_neg (by omega)]
  have hb := floorN_bounds d (-1000001) c1 (by omega) (by omega)
  have hfe := floorN_e d
  unfold floorD
  rw [if_pos hr, can_odd d c1]
  -- the floor is a whole number
  obtain ⟨z, hz⟩ : ∃ z, (floorN d).i (-1000001) = z * 2 ^ 1000001 := by
    refine ⟨(floorN d).i 0, ?_⟩
    have := i_deep (floorN d) 0 1000001 hfe
    rwa [show (0 : Int) - (1000001 : Nat) = -1000001 from by omega] at this
  have hzx : z = halfI x := by
    rw [halfI_eq]
    rw [hz, c5] at hb
    have e1 : (2 : Int) ^ (0 - (-1000000 : Int)).toNat = 2 ^ 1000000 := by congr 1
    have e2 : (2 : Int) ^ (-(-1000001 : Int)).toNat = 2 * 2 ^ 1000000 := by
      rw [show (-(-1000001 : Int)).toNat = 1 + 1000000 from by omega, Int.pow_add]
      congr 1
    have e3 : (2 : Int) ^ (1000001 : Nat) = 2 * 2 ^ 1000000 := by
      rw [show (1000001 : Nat) = 1 + 1000000 from rfl, Int.pow_add]
      congr 1
    rw [e1, e2, e3] at hb
    have hp := ipow_pos 1000000
    generalize (2 : Int) ^ (1000000 : Nat) = p at *
    obtain ⟨b1, b2⟩ := hb
    have b1' : (2 * z) * p ≤ x * p := by grind
    have b2' : x * p < (2 * z + 2) * p := by grind
    have q1 := Int.le_of_mul_le_mul_right b1' hp
    have q2 := Int.lt_of_mul_lt_mul_right b2' (by omega)
    omega
  refine ans_int (L := -1000001) (by omega) (by omega) ?_ ?_ ?_
  · rw [hz, hzx]
    congr 2
  · rw [halfI_eq]; omega
  · rw [halfI_eq]; omega

end Go.Proofs.YtomhmbnpkphcmaaDoor
