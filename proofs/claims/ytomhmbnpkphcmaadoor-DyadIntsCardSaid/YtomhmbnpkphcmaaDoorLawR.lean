/- The plain laws of sums and products: what one value is is answered in one way. -/
import Derived.Test.YtomhmbnpkphcmaaDoorLawP
import Derived.Test.YtomhmbnpkphcmaaDoorLawQ
import Derived.Test.YtomhmbnpkphcmaaDoorLawB
import Derived.Test.YtomhmbnpkphcmaaDoorDyadK
namespace Go.Proofs.YtomhmbnpkphcmaaDoor
set_option linter.unusedVariables false

theorem ansD_eq {d1 d2 : D} (L : Int) (h1 : L ≤ d1.e) (h2 : L ≤ d2.e) (h0 : L ≤ 0) (h : d1.i L = d2.i L) : ansD d1 = ansD d2 := by
  have e : oddD d1 = oddD d2 := can_inj (oddD_can _) (oddD_can _) (oddD_low d1 L h1 h0) (oddD_low d2 L h2 h0) (by rw [i_odd _ L h1, i_odd _ L h2]; exact h)
  unfold ansD
  rw [e]

theorem ansD_can {d : D} (hc : d.can) (hn : nd 64 d.n ≤ 1024) (h1 : -40000 ≤ d.e) (h2 : d.e ≤ 40000) : ansD d = (d, 0) := by
  unfold ansD
  rw [can_odd d hc, if_neg (by omega), if_neg (by omega)]

theorem i_deep (d : D) (L : Int) (k : Nat) (h : L ≤ d.e) : d.i (L - k) = d.i L * 2 ^ k := by
  unfold D.i
  have : (d.e - (L - k)).toNat = (d.e - L).toNat + k := by omega
  rw [this, Int.pow_add, Int.mul_assoc]

theorem addD_ans {n1 n2 : Nat} {a b : D} (L : Int) (hL : L ≤ -40000) (h1 : refD n1 a.e = 0) (h2 : refD n2 b.e = 0) : ∃ d, addD n1 a n2 b = ansD d ∧ L ≤ d.e ∧ d.i L = a.i L + b.i L := by
  have g1 := refD_zero h1
  have g2 := refD_zero h2
  refine ⟨sumD (oddD a) (oddD b), ?_, ?_, ?_⟩
  · unfold addD
    rw [if_pos (by unfold twoD; rw [if_pos h1]; exact h2)]
  · exact sumD_low _ _ L (oddD_low a L (by omega) (by omega)) (oddD_low b L (by omega) (by omega)) (by omega)
  · rw [i_sum _ _ L (oddD_low a L (by omega) (by omega)) (oddD_low b L (by omega) (by omega)), i_odd a L (by omega), i_odd b L (by omega)]

theorem subD_ans {n1 n2 : Nat} {a b : D} (L : Int) (hL : L ≤ -40000) (h1 : refD n1 a.e = 0) (h2 : refD n2 b.e = 0) : ∃ d, subD n1 a n2 b = ansD d ∧ L ≤ d.e ∧ d.i L = a.i L - b.i L := by
  obtain ⟨d, e1, e2, e3⟩ := addD_ans (a := a) (b := ⟨!b.s, b.n, b.e⟩) L hL h1 h2
  refine ⟨d, e1, e2, ?_⟩
  rw [e3, D.i_neg]
  rfl

theorem odd_le (d : D) : (oddD d).n ≤ d.n := by
  unfold oddD
  split
  · exact Nat.zero_le _
  · exact Nat.div_le_self _ _

theorem odd_nd (d : D) (n : Nat) (h : d.n < 2 ^ (64 * n)) : nd 64 (oddD d).n ≤ n := nd_le 64 _ n (by decide) (Nat.lt_of_le_of_lt (odd_le d) h)

theorem i_mul (s1 s2 : Bool) (x y : Nat) (e1 e2 L : Int) (h1 : L ≤ e1) (h2 : L ≤ e2) : D.i (L + L) ⟨s1 != s2, x * y, e1 + e2⟩ = D.i L ⟨s1, x, e1⟩ * D.i L ⟨s2, y, e2⟩ := by
  unfold D.i
  simp only
  have e : (e1 + e2 - (L + L)).toNat = (e1 - L).toNat + (e2 - L).toNat := by omega
  rw [e, Int.pow_add]
  have ec : ((x * y : Nat) : Int) = (x : Int) * y := by simp
  rw [ec]
  generalize (2 : Int) ^ (e1 - L).toNat = p
  generalize (2 : Int) ^ (e2 - L).toNat = q
  cases s1 <;> cases s2 <;> simp <;> grind

theorem mulD_ans {n1 n2 : Nat} {a b : D} (L : Int) (hL : L ≤ -40000) (h1 : refD n1 a.e = 0) (h2 : refD n2 b.e = 0) (ha : a.n < 2 ^ (64 * n1)) (hb : b.n < 2 ^ (64 * n2)) :
    ∃ d, mulD n1 a n2 b = ansD d ∧ L + L ≤ d.e ∧ d.i (L + L) = a.i L * b.i L := by
  have g1 := refD_zero h1
  have g2 := refD_zero h2
  have l1 := oddD_low a L (by omega) (by omega)
  have l2 := oddD_low b L (by omega) (by omega)
  refine ⟨⟨(oddD a).s != (oddD b).s, (oddD a).n * (oddD b).n, (oddD a).e + (oddD b).e⟩, ?_, ?_, ?_⟩
  · unfold mulD
    rw [if_pos (by unfold twoD; rw [if_pos h1]; exact h2)]
    have q1 := odd_nd a n1 ha
    have q2 := odd_nd b n2 hb
    by_cases hp : 1024 < nd 64 ((oddD a).n * (oddD b).n)
    · have hm : mulN (oddD a).n (oddD b).n = (0, 5) := by unfold mulN; rw [if_pos (Or.inr (Or.inr hp))]
      rw [hm, if_neg (by decide)]
      have hz : (oddD a).n * (oddD b).n ≠ 0 := by
        intro h; rw [h, nd_zero] at hp; omega
      have o1 : (oddD a).n % 2 = 1 := by
        rcases oddD_can a with h | h
        · exfalso; apply hz; rw [h]; simp [D.zero]
        · exact h
      have o2 : (oddD b).n % 2 = 1 := by
        rcases oddD_can b with h | h
        · exfalso; apply hz; rw [h]; simp [D.zero]
        · exact h
      have hc : D.can ⟨(oddD a).s != (oddD b).s, (oddD a).n * (oddD b).n, (oddD a).e + (oddD b).e⟩ := Or.inr (by show (oddD a).n * (oddD b).n % 2 = 1; rw [Nat.mul_mod, o1, o2])
      unfold ansD
      rw [can_odd _ hc, if_pos hp]
    · have hm : mulN (oddD a).n (oddD b).n = ((oddD a).n * (oddD b).n, 0) := by unfold mulN; rw [if_neg (by omega)]
      rw [hm, if_pos rfl]
  · show L + L ≤ (oddD a).e + (oddD b).e
    omega
  · rw [i_mul _ _ _ _ _ _ L l1 l2]
    have e1 := i_odd a L (by omega)
    have e2 := i_odd b L (by omega)
    rw [show D.i L ⟨(oddD a).s, (oddD a).n, (oddD a).e⟩ = (oddD a).i L from rfl, show D.i L ⟨(oddD b).s, (oddD b).n, (oddD b).e⟩ = (oddD b).i L from rfl, e1, e2]

structure OkD (d : D) (L x : Int) : Prop where
  can : d.can
  ref : refD (nd 64 d.n) d.e = 0
  val : d.i L = x
  own : ansD d = (d, 0)
  low : -40000 ≤ d.e
  lt : d.n < 2 ^ (64 * nd 64 d.n)

theorem okD {r : D × Int} {d : D} {L x : Int} (hL : L ≤ -40000) (e : r = ansD d) (h : L ≤ d.e) (hx : d.i L = x) (h0 : r.2 = 0) : OkD r.1 L x := by
  subst e
  obtain ⟨c1, c2, c3, c4, c5⟩ := ansD_res d L h h0
  refine ⟨c1, ?_, c5.trans hx, ansD_can c1 c2 c3 c4, c3, lt_nd 64 _ (by decide)⟩
  unfold refD
  rw [if_neg (by omega), if_neg (by omega)]

theorem addD_okref {n1 n2 : Nat} {a b : D} (h : (addD n1 a n2 b).2 = 0) : refD n1 a.e = 0 ∧ refD n2 b.e = 0 := by
  unfold addD at h
  split at h
  · rename_i h1; exact twoD_zero h1
  · rename_i h1; exact absurd h h1

theorem mulD_okref {n1 n2 : Nat} {a b : D} (h : (mulD n1 a n2 b).2 = 0) : refD n1 a.e = 0 ∧ refD n2 b.e = 0 := by
  unfold mulD at h
  split at h
  · rename_i h1; exact twoD_zero h1
  · rename_i h1; exact absurd h h1

theorem add_ok {n1 n2 : Nat} {a b : D} (L : Int) (hL : L ≤ -40000) (h : (addD n1 a n2 b).2 = 0) : OkD (addD n1 a n2 b).1 L (a.i L + b.i L) := by
  obtain ⟨h1, h2⟩ := addD_okref h
  obtain ⟨d, e1, e2, e3⟩ := addD_ans L hL h1 h2
  exact okD hL e1 e2 e3 h

theorem mul_ok {n1 n2 : Nat} {a b : D} (L : Int) (hL : L ≤ -40000) (ha : a.n < 2 ^ (64 * n1)) (hb : b.n < 2 ^ (64 * n2)) (h : (mulD n1 a n2 b).2 = 0) : OkD (mulD n1 a n2 b).1 (L + L) (a.i L * b.i L) := by
  obtain ⟨h1, h2⟩ := mulD_okref h
  obtain ⟨d, e1, e2, e3⟩ := mulD_ans L hL h1 h2 ha hb
  exact okD (by omega) e1 e2 e3 h

theorem one_i (L : Int) : (fromIntD 1).i L = 2 ^ (0 - L).toNat := by
  rw [show fromIntD 1 = ⟨false, 1, 0⟩ from odd1 0]
  exact i_one 0 L

theorem one_ref : refD (nd 64 (fromIntD 1).n) (fromIntD 1).e = 0 ∧ (fromIntD 1).n < 2 ^ (64 * nd 64 (fromIntD 1).n) := by
  rw [show fromIntD 1 = ⟨false, 1, 0⟩ from odd1 0]
  rw [nd_small 1 (by decide) (by decide)]
  exact ⟨by decide, by decide⟩

/-- a number less itself, one times it -/
theorem ring1 {n : Nat} {a : D} (ha : a.n < 2 ^ (64 * n)) (h : (canonD n a).2 = 0) :
    refD n a.e = 0 ∧ subD n a n a = (D.zero, 0) ∧ mulD (nd 64 (fromIntD 1).n) (fromIntD 1) n a = canonD n a ∧ (canonD n a).1.can := by
  have hc := canonD_res n a (-1000000) (by omega) h
  have hr : refD n a.e = 0 := by
    unfold canonD at h
    split at h
    · assumption
    · rename_i h1; exact absurd h h1
  have g := refD_zero hr
  refine ⟨hr, ?_, ?_, hc.1⟩
  · obtain ⟨d, e1, e2, e3⟩ := subD_ans (-1000000) (by omega) hr hr
    rw [e1, ansD_eq (d2 := D.zero) (-1000000) e2 (by show (-1000000 : Int) ≤ 0; decide) (by decide) (by rw [e3, D.i_zero]; omega)]
    exact ansD_can (Or.inl rfl) (by rw [show D.zero.n = 0 from rfl, nd_zero]; omega) (by decide) (by decide)
  · obtain ⟨d, e1, e2, e3⟩ := mulD_ans (-1000000) (by omega) one_ref.1 hr one_ref.2 ha
    have hcan : canonD n a = ansD a := by unfold canonD; rw [if_pos hr]
    rw [e1, hcan]
    refine ansD_eq (-1000000 + -1000000) e2 (by omega) (by decide) ?_
    rw [e3, one_i]
    have := i_deep a (-1000000) 1000000 (by omega)
    rw [show (-1000000 : Int) - (1000000 : Nat) = -1000000 + -1000000 from by omega] at this
    rw [this, show (0 - (-1000000 : Int)).toNat = 1000000 from by omega, Int.mul_comm]

theorem twoD_left {n1 n2 : Nat} {e1 e2 : Int} (h : refD n1 e1 = 0) : twoD n1 e1 n2 e2 = refD n2 e2 ∧ twoD n2 e2 n1 e1 = refD n2 e2 := by
  unfold twoD
  refine ⟨by rw [if_pos h], ?_⟩
  split
  · rename_i h2; rw [h, h2]
  · rfl

theorem ring2a {n1 n2 : Nat} {a b : D} (h : refD n1 a.e = 0) : addD n2 b n1 a = addD n1 a n2 b := by
  by_cases h2 : refD n2 b.e = 0
  · obtain ⟨d, e1, e2, e3⟩ := addD_ans (-1000000) (by omega) h h2
    obtain ⟨d', f1, f2, f3⟩ := addD_ans (-1000000) (by omega) h2 h
    rw [e1, f1]
    exact ansD_eq (-1000000) f2 e2 (by decide) (by rw [e3, f3]; omega)
  · obtain ⟨t1, t2⟩ := twoD_left (n2 := n2) (e2 := b.e) h
    unfold addD
    rw [t1, t2, if_neg h2, if_neg h2]

theorem ring2b {n1 n2 : Nat} {a b : D} (ha : a.n < 2 ^ (64 * n1)) (hb : b.n < 2 ^ (64 * n2)) (h : refD n1 a.e = 0) : mulD n2 b n1 a = mulD n1 a n2 b := by
  by_cases h2 : refD n2 b.e = 0
  · obtain ⟨d, e1, e2, e3⟩ := mulD_ans (-1000000) (by omega) h h2 ha hb
    obtain ⟨d', f1, f2, f3⟩ := mulD_ans (-1000000) (by omega) h2 h hb ha
    rw [e1, f1]
    exact ansD_eq _ f2 e2 (by decide) (by rw [e3, f3, Int.mul_comm])
  · obtain ⟨t1, t2⟩ := twoD_left (n2 := n2) (e2 := b.e) h
    unfold mulD
    rw [t1, t2, if_neg h2, if_neg h2]

/-- (a + b) + c = a + (b + c); (a + b) + c - c = a + b -/
theorem ring3 {n1 n2 n3 : Nat} {a b c x s l : D} {m k q : Nat} (hx : addD n1 a n2 b = (x, 0)) (hs : addD n2 b n3 c = (s, 0)) (hl : addD (nd 64 x.n) x n3 c = (l, 0)) :
    addD n1 a (nd 64 s.n) s = (l, 0) ∧ subD (nd 64 l.n) l n3 c = (x, 0) := by
  have ox := add_ok (n1 := n1) (n2 := n2) (a := a) (b := b) (-1000000) (by omega) (by rw [hx])
  have os := add_ok (n1 := n2) (n2 := n3) (a := b) (b := c) (-1000000) (by omega) (by rw [hs])
  have ol := add_ok (n1 := nd 64 x.n) (n2 := n3) (a := x) (b := c) (-1000000) (by omega) (by rw [hl])
  rw [hx] at ox
  rw [hs] at os
  rw [hl] at ol
  have ra := (addD_okref (n1 := n1) (n2 := n2) (a := a) (b := b) (by rw [hx])).1
  have rc := (addD_okref (n1 := n2) (n2 := n3) (a := b) (b := c) (by rw [hs])).2
  simp only at ox os ol
  constructor
  · obtain ⟨d, e1, e2, e3⟩ := addD_ans (-1000000) (by omega) ra os.ref
    rw [e1, ansD_eq (d2 := l) (-1000000) e2 (by have := ol.low; omega) (by decide) (by rw [e3, ol.val, ox.val, os.val]; omega)]
    exact ol.own
  · obtain ⟨d, e1, e2, e3⟩ := subD_ans (-1000000) (by omega) ol.ref rc
    rw [e1, ansD_eq (d2 := x) (-1000000) e2 (by have := ox.low; omega) (by decide) (by rw [e3, ol.val]; omega)]
    exact ox.own

/-- (a + b) * c = a * c + b * c -/
theorem ring4 {n1 n2 n3 : Nat} {a b c x u v w : D} (ha : a.n < 2 ^ (64 * n1)) (hb : b.n < 2 ^ (64 * n2)) (hc : c.n < 2 ^ (64 * n3)) (hx : addD n1 a n2 b = (x, 0)) (hu : mulD (nd 64 x.n) x n3 c = (u, 0)) (hv : mulD n1 a n3 c = (v, 0)) (hw : mulD n2 b n3 c = (w, 0)) :
    addD (nd 64 v.n) v (nd 64 w.n) w = (u, 0) ∧ u.can := by
  have ox := add_ok (n1 := n1) (n2 := n2) (a := a) (b := b) (-1000000) (by omega) (by rw [hx])
  rw [hx] at ox
  simp only at ox
  have ou := mul_ok (n1 := nd 64 x.n) (n2 := n3) (a := x) (b := c) (-1000000) (by omega) ox.lt hc (by rw [hu])
  have ov := mul_ok (n1 := n1) (n2 := n3) (a := a) (b := c) (-1000000) (by omega) ha hc (by rw [hv])
  have ow := mul_ok (n1 := n2) (n2 := n3) (a := b) (b := c) (-1000000) (by omega) hb hc (by rw [hw])
  rw [hu] at ou
  rw [hv] at ov
  rw [hw] at ow
  simp only at ou ov ow
  refine ⟨?_, ou.can⟩
  obtain ⟨d, e1, e2, e3⟩ := addD_ans (-1000000 + -1000000) (by omega) ov.ref ow.ref
  rw [e1, ansD_eq (d2 := u) (-1000000 + -1000000) e2 (by have := ou.low; omega) (by decide) (by rw [e3, ov.val, ow.val, ou.val, ox.val, Int.add_mul])]
  exact ou.own

end Go.Proofs.YtomhmbnpkphcmaaDoor
