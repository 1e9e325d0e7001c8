/- Layer 18: what the program's calls answer is what the document's steps answer, as plain numbers. -/
import Derived.Test.YtlibhfojfonfjaaGreatDoorFltG
namespace Go.Proofs.YtlibhfojfonfjaaGreatDoor
set_option linter.unusedVariables false
set_option linter.unusedSimpArgs false
open Go.RowKit

/-- the error of the arguments -/
def knownE (n : Nat) (xs : List Nat) : Int := if xs.all (fun a => decide (a < 2 ^ (fm n).w)) = true then (if xs.all (finP (fm n)) = true then 0 else 40) else 4
def knownR (f : Int) (xs : List Nat) : Int := if f = 2 ∨ f = 3 then knownE f.toNat xs else 2

/-- two patterns and an error -/
def tupE (x : Nat × Nat × Int) : Value := .tuple #[.int .u64 (x.1 : Int), .int .u64 (x.2.1 : Int), .int .i64 x.2.2]
def kq (n : Nat) : Nat := if n = 2 then 1166018560 else 4728779608772575232
def sumE (n a b : Nat) : Nat × Nat × Int :=
  if knownE n [a, b] ≠ 0 then (0, 0, knownE n [a, b]) else if (sumL (fm n) a b).all (finP (fm n)) = true then (addR (fm n) a b, sR (fm n) a b, 0) else (0, 0, 7)
def fastE (n a b : Nat) : Nat × Nat × Int :=
  if knownE n [a, b] ≠ 0 then (0, 0, knownE n [a, b]) else if (fm n).abs a < (fm n).abs b then (0, 0, 7) else if (fastL (fm n) a b).all (finP (fm n)) = true then (addR (fm n) a b, qR (fm n) a b, 0) else (0, 0, 7)
def splitE (n a : Nat) : Nat × Nat × Int :=
  if knownE n [a] ≠ 0 then (0, 0, knownE n [a]) else if (halfL (fm n) (kq n) a).all (finP (fm n)) = true then (hH (fm n) (kq n) a, hL (fm n) (kq n) a, 0) else (0, 0, 7)
def prodE (n a b : Nat) : Nat × Nat × Int :=
  if knownE n [a, b] ≠ 0 then (0, 0, knownE n [a, b]) else if prodOk (fm n) (kq n) a b = true then (mulR (fm n) a b, pR (fm n) (kq n) a b, 0) else (0, 0, 7)

theorem knownE_ok {n : Nat} {xs : List Nat} (h : knownE n xs = 0) : ∀ x ∈ xs, x < 2 ^ (fm n).w ∧ finP (fm n) x = true := by
  unfold knownE at h
  split at h
  · rename_i h1
    split at h
    · rename_i h2
      intro x hx
      have e1 := List.all_eq_true.1 h1 x hx
      exact ⟨of_decide_eq_true e1, List.all_eq_true.1 h2 x hx⟩
    · omega
  · omega

theorem isZero_abs (F : Fm) (a : Nat) : F.isZero a = decide (F.abs a = 0) := rfl
theorem kq_lt (n : Nat) (hn : n = 2 ∨ n = 3) : kq n < 2 ^ (fm n).w := by
  rcases hn with rfl | rfl <;> decide

/-! ### the order of sizes -/
theorem xor_top (n a : Nat) (h : a < 2 ^ (n + 1)) : a ^^^ 2 ^ n = a % 2 ^ n + (if 2 ^ n ≤ a then 0 else 2 ^ n) := by
  have hp := pow_pos2 n
  have h2 : 2 ^ (n + 1) = 2 ^ n * 2 := Nat.pow_succ 2 n
  have hm : a % 2 ^ n < 2 ^ n := Nat.mod_lt _ hp
  have key : ∀ x, x < 2 ^ n → x ^^^ 2 ^ n = 2 ^ n + x := by
    intro x hx
    apply Nat.eq_of_testBit_eq
    intro i
    rw [Nat.testBit_xor, Nat.testBit_two_pow]
    rcases Nat.lt_trichotomy i n with hi | hi | hi
    · rw [Nat.testBit_two_pow_add_gt hi, decide_eq_false (by omega), Bool.xor_false]
    · subst hi
      rw [Nat.testBit_two_pow_add_eq, Nat.testBit_lt_two_pow hx]; simp
    · have e1 : 2 ^ n + x < 2 ^ i := by
        have := Nat.pow_le_pow_right (show 0 < 2 by decide) (show n + 1 ≤ i by omega)
        omega
      rw [Nat.testBit_lt_two_pow e1, Nat.testBit_lt_two_pow (show x < 2 ^ i by omega), decide_eq_false (by omega)]; rfl
  by_cases hx : 2 ^ n ≤ a
  · rw [if_pos hx, Nat.add_zero]
    have e1 : a = 2 ^ n + (a - 2 ^ n) := by omega
    have e2 : a % 2 ^ n = a - 2 ^ n := by rw [Nat.mod_eq_sub_mod hx, Nat.mod_eq_of_lt (by omega)]
    rw [e2]
    have e3 := key (a - 2 ^ n) (by omega)
    rw [← e1] at e3
    have e4 : a ^^^ 2 ^ n = ((a - 2 ^ n) ^^^ 2 ^ n) ^^^ 2 ^ n := by rw [e3]
    rw [e4, Nat.xor_assoc, Nat.xor_self, Nat.xor_zero]
  · rw [if_neg hx, Nat.mod_eq_of_lt (by omega), key a (by omega), Nat.add_comm]

section
variable {k : FloatKind}

theorem neg_flipF {a : Nat} (la : a < 2 ^ k.format.width) : Op.negFloat k a = (fm (kindOf k)).flip a := by
  have h1 : (fm (kindOf k)).w - 1 = k.format.exponentBits + k.format.fractionBits := by rw [(same_of k).w]; omega
  unfold Op.negFloat Fm.flip Fm.abs Fm.sg Fm.neg
  rw [h1, xor_top _ _ (by rw [(same_of k).width, (same_of k).w] at la; exact la)]
  by_cases h : 2 ^ (k.format.exponentBits + k.format.fractionBits) ≤ a <;> simp [h]

theorem fin_zero : finB k 0 = true := by cases k <;> rfl
theorem zero_lt_w : 0 < 2 ^ k.format.width := pow_pos2 _

theorem val_abs_pos {F : Fm} {L : Int} {a : Nat} (h : F.neg a = false) : F.val L a = (F.vl L (F.abs a) : Int) := by unfold Fm.val; rw [h]; rfl

theorem neg_zero (F : Fm) : F.neg 0 = false := by
  have := pow_pos2 (F.w - 1)
  unfold Fm.neg; simp

theorem val_nought {F : Fm} (ok : F.Ok) (L : Int) : F.val L 0 = 0 := (val_zero_iff ok L).2 (by unfold Fm.abs; simp)

theorem neB_zero {a : Nat} (la : a < 2 ^ k.format.width) (fa : finB k a = true) : neB k a = !(fm (kindOf k)).isZero a := by
  unfold neB
  rw [(order_fin la zero_lt_w fa fin_zero).2, val_nought (fm_ok _)]
  unfold Fm.isZero
  congr 1
  congr 1
  exact propext (val_zero_iff (fm_ok _) _)

/-- what abs answers -/
theorem absF_facts {a : Nat} (la : a < 2 ^ k.format.width) (fa : finB k a = true) :
    absF k a < 2 ^ k.format.width ∧ finB k (absF k a) = true ∧ (fm (kindOf k)).val (fm (kindOf k)).low (absF k a) = ((fm (kindOf k)).vl (fm (kindOf k)).low ((fm (kindOf k)).abs a) : Int) := by
  have ok := fm_ok (kindOf k)
  have hw := (same_of k).width
  have h0 := (order_fin la zero_lt_w fa fin_zero).1
  rw [val_nought ok] at h0
  unfold absF
  rw [h0]
  by_cases h : (fm (kindOf k)).val (fm (kindOf k)).low a < 0
  · rw [if_pos (decide_eq_true h), neg_flipF la]
    have hn : (fm (kindOf k)).neg a = true := by
      cases hx : (fm (kindOf k)).neg a
      · rw [val_abs_pos hx] at h; omega
      · rfl
    have l1 : (fm (kindOf k)).flip a < 2 ^ k.format.width := by rw [hw]; exact flip_lt ok a
    refine ⟨l1, ?_, ?_⟩
    · rw [fin_abs l1, abs_flip, ← fin_abs la]; exact fa
    · rw [val_abs_pos (by rw [neg_flip, hn]; rfl), abs_flip]
  · rw [if_neg (by simpa using h)]
    refine ⟨la, fa, ?_⟩
    cases hx : (fm (kindOf k)).neg a
    · exact val_abs_pos hx
    · have e1 : (fm (kindOf k)).val (fm (kindOf k)).low a = -((fm (kindOf k)).vl (fm (kindOf k)).low ((fm (kindOf k)).abs a) : Int) := by unfold Fm.val; rw [hx]; rfl
      omega

theorem ltB_abs {a b : Nat} (la : a < 2 ^ k.format.width) (lb : b < 2 ^ k.format.width) (fa : finB k a = true) (fb : finB k b = true) :
    ltB k (absF k a) (absF k b) = decide ((fm (kindOf k)).abs a < (fm (kindOf k)).abs b) := by
  have ok := fm_ok (kindOf k)
  have hp : 1 ≤ (fm (kindOf k)).p := by have := ok.p8; omega
  obtain ⟨a1, a2, a3⟩ := absF_facts la fa
  obtain ⟨b1, b2, b3⟩ := absF_facts lb fb
  unfold ltB
  rw [(order_fin a1 b1 a2 b2).1, a3, b3]
  congr 1
  apply propext
  constructor
  · intro h; exact lt_of_vl _ hp _ (Int.le_refl _) (by omega)
  · intro h; have := vl_lt (fm (kindOf k)) hp _ (Int.le_refl _) h; omega

/-- the least product that is not too small -/
def leastF (k : FloatKind) : Nat := ((fm (kindOf k)).p + 2) * 2 ^ ((fm (kindOf k)).p - 1)

theorem least_facts : leastF k < 2 ^ k.format.width ∧ finB k (leastF k) = true ∧ (fm (kindOf k)).val (fm (kindOf k)).low (leastF k) = ((2 ^ (2 * (fm (kindOf k)).p) : Nat) : Int) := by
  have ok := fm_ok (kindOf k)
  have hp : 1 ≤ (fm (kindOf k)).p := by have := ok.p8; omega
  have l1 : leastF k < 2 ^ k.format.width := by cases k <;> decide
  have hn : (fm (kindOf k)).neg (leastF k) = false := by cases k <;> decide
  have ha : (fm (kindOf k)).abs (leastF k) = leastF k := by cases k <;> decide
  refine ⟨l1, by cases k <;> rfl, ?_⟩
  rw [val_abs_pos hn, ha]
  unfold leastF
  have e1 : ((fm (kindOf k)).p + 2) * 2 ^ ((fm (kindOf k)).p - 1) = ((fm (kindOf k)).p + 1) * 2 ^ ((fm (kindOf k)).p - 1) + 2 ^ ((fm (kindOf k)).p - 1) := by
    rw [← Nat.succ_mul]
  rw [e1, vl_bits (fm (kindOf k)) hp _ _ _ (Int.le_refl _) (Nat.pow_le_pow_right (by decide) (by omega)) (Or.inr (Nat.le_refl _)), ← Nat.pow_add]
  congr 2
  omega

theorem ltB_least {a : Nat} (la : a < 2 ^ k.format.width) (fa : finB k a = true) : ltB k (absF k a) (leastF k) = smallP (fm (kindOf k)) a := by
  have ok := fm_ok (kindOf k)
  have hp : 1 ≤ (fm (kindOf k)).p := by have := ok.p8; omega
  obtain ⟨a1, a2, a3⟩ := absF_facts la fa
  obtain ⟨b1, b2, b3⟩ := least_facts (k := k)
  unfold ltB
  rw [(order_fin a1 b1 a2 b2).1, a3, b3]
  unfold smallP
  generalize hF : fm (kindOf k) = F at *
  by_cases hz : F.abs a = 0
  · have e1 : F.isZero a = true := by rw [isZero_abs]; exact decide_eq_true hz
    rw [e1, Bool.true_or]
    have e2 := (val_zero_iff ok F.low (a := a)).2 hz
    have e3 : F.vl F.low (F.abs a) = 0 := by unfold Fm.val at e2; split at e2 <;> omega
    rw [e3]
    have := pow_pos2 (2 * F.p)
    exact decide_eq_true (by omega)
  · have e1 : F.isZero a = false := by rw [isZero_abs]; exact decide_eq_false hz
    rw [e1, Bool.false_or]
    congr 1
    apply propext
    obtain ⟨t1, t2⟩ := top_units (F.mag a) (F.ex a) F.low (mag_ne hp e1) (low_xp _)
    have e4 : F.vl F.low (F.abs a) = uN F.low (F.mag a) (F.ex a) := rfl
    have e5 := topE_ge (F.mag a) (F.ex a) (mag_ne hp e1)
    have e6 : F.low ≤ F.ex a := low_xp _
    rw [e4]
    have elow : F.low = F.emin - F.p + 1 := rfl
    constructor
    · intro h
      have h1 : 2 ^ (topE (F.mag a) (F.ex a) - F.low).toNat < 2 ^ (2 * F.p) := by omega
      have := (Nat.pow_lt_pow_iff_right (show 1 < 2 by decide)).1 h1
      omega
    · intro h
      have h1 := Nat.pow_le_pow_right (show 0 < 2 by decide) (show (topE (F.mag a) (F.ex a) - F.low).toNat + 1 ≤ 2 * F.p by omega)
      omega

/-! ### the answers -/
theorem fin_of_p {a : Nat} (la : a < 2 ^ (fm (kindOf k)).w) (h : finP (fm (kindOf k)) a = true) : a < 2 ^ k.format.width ∧ finB k a = true := by
  rw [← (same_of k).width] at la
  exact ⟨la, by rw [fin_abs la]; exact h⟩

theorem ans_err {e : Int} {x y : Nat} (h : e ≠ 0) : ansB e x y = tupE (0, 0, e) := by unfold ansB tupE; rw [if_neg h, if_neg h]
theorem ans_ok (x y : Nat) : ansB 0 x y = tupE (x, y, 0) := rfl

theorem sum_tup {a b a' b' : Nat} {er e : Int} {x y : Nat} (h : SumAns k a' b' er e x y) (her : er = knownE (kindOf k) [a, b]) (h0 : er = 0 → a' = a ∧ b' = b) : ansB e x y = tupE (sumE (kindOf k) a b) := by
  unfold sumE
  rw [← her]
  rcases h with ⟨h1, h2⟩ | ⟨h1, s, t, u, v, z, r, hS, h2⟩
  · rw [if_pos (by rw [← h2]; exact h1), ans_err h1, h2]
  · rw [if_neg (by omega)]
    obtain ⟨rfl, rfl⟩ := h0 h1
    have hk := knownE_ok (show knownE (kindOf k) [a', b'] = 0 by rw [← her, h1])
    obtain ⟨la, fa⟩ := fin_of_p (hk a' (by simp)).1 (hk a' (by simp)).2
    obtain ⟨lb, fb⟩ := fin_of_p (hk b' (by simp)).1 (hk b' (by simp)).2
    obtain ⟨c1, c2⟩ := chain_sum la lb fa fb hS
    rw [← c1]
    rcases h2 with ⟨g1, rfl, rfl, rfl⟩ | ⟨g1, rfl⟩
    · rw [if_pos g1, ans_ok, (c2 g1).1, (c2 g1).2]
    · rw [if_neg (by rw [g1]; simp), ans_err (by decide)]

theorem fast_tup {a b a' b' : Nat} {er e : Int} {x y : Nat} (h : FastAns k a' b' er e x y) (her : er = knownE (kindOf k) [a, b]) (h0 : er = 0 → a' = a ∧ b' = b) : ansB e x y = tupE (fastE (kindOf k) a b) := by
  unfold fastE
  rw [← her]
  rcases h with ⟨h1, h2⟩ | ⟨h1, s, r, ok, hS, h2⟩
  · rw [if_pos (by rw [← h2]; exact h1), ans_err h1, h2]
  · rw [if_neg (by omega)]
    obtain ⟨rfl, rfl⟩ := h0 h1
    have hk := knownE_ok (show knownE (kindOf k) [a', b'] = 0 by rw [← her, h1])
    obtain ⟨la, fa⟩ := fin_of_p (hk a' (by simp)).1 (hk a' (by simp)).2
    obtain ⟨lb, fb⟩ := fin_of_p (hk b' (by simp)).1 (hk b' (by simp)).2
    unfold FastR at hS
    rw [ltB_abs la lb fa fb] at hS
    rcases hS with ⟨s1, s2⟩ | ⟨s1, t, hC, s2⟩
    · rw [if_pos (of_decide_eq_true s1)]
      rcases h2 with ⟨g1, _⟩ | ⟨g1, rfl⟩
      · rw [s2] at g1; cases g1
      · exact ans_err (by decide)
    · rw [if_neg (of_decide_eq_false s1)]
      obtain ⟨c1, c2⟩ := chain_fast la lb fa fb hC
      rw [← c1]
      rcases h2 with ⟨g1, rfl, rfl, rfl⟩ | ⟨g1, rfl⟩
      · rw [s2] at g1
        rw [if_pos g1, ans_ok, (c2 g1).1, (c2 g1).2]
      · rw [s2] at g1
        rw [if_neg (by rw [g1]; simp), ans_err (by decide)]

theorem kq_facts : kq (kindOf k) < 2 ^ k.format.width ∧ finB k (kq (kindOf k)) = true := by
  cases k
  · exact ⟨by decide, rfl⟩
  · exact ⟨by decide, rfl⟩

theorem half_tup {a a' : Nat} {er e : Int} {x y : Nat} (h : HalfAns k (kq (kindOf k)) a' er e x y) (her : er = knownE (kindOf k) [a]) (h0 : er = 0 → a' = a) : ansB e x y = tupE (splitE (kindOf k) a) := by
  unfold splitE
  rw [← her]
  rcases h with ⟨h1, h2⟩ | ⟨h1, c, d, p, q, hS, h2⟩
  · rw [if_pos (by rw [← h2]; exact h1), ans_err h1, h2]
  · rw [if_neg (by omega)]
    obtain rfl := h0 h1
    have hk := knownE_ok (show knownE (kindOf k) [a'] = 0 by rw [← her, h1])
    obtain ⟨la, fa⟩ := fin_of_p (hk a' (by simp)).1 (hk a' (by simp)).2
    obtain ⟨c1, c2⟩ := chain_half kq_facts.1 la kq_facts.2 fa hS
    rw [← c1]
    rcases h2 with ⟨g1, rfl, rfl, rfl⟩ | ⟨g1, rfl⟩
    · rw [if_pos g1, ans_ok, (c2 g1).1, (c2 g1).2.1]
    · rw [if_neg (by rw [g1]; simp), ans_err (by decide)]

theorem prod_tup {a b a' b' : Nat} {er e : Int} {x y : Nat} (h : ProdAns k (kq (kindOf k)) (leastF k) a' b' er e x y) (her : er = knownE (kindOf k) [a, b]) (h0 : er = 0 → a' = a ∧ b' = b) : ansB e x y = tupE (prodE (kindOf k) a b) := by
  unfold prodE
  rw [← her]
  rcases h with ⟨h1, h2⟩ | ⟨h1, p, r, ok, hS, h2⟩
  · rw [if_pos (by rw [← h2]; exact h1), ans_err h1, h2]
  rw [if_neg (by omega)]
  obtain ⟨rfl, rfl⟩ := h0 h1
  have hk := knownE_ok (show knownE (kindOf k) [a', b'] = 0 by rw [← her, h1])
  obtain ⟨la, fa⟩ := fin_of_p (hk a' (by simp)).1 (hk a' (by simp)).2
  obtain ⟨lb, fb⟩ := fin_of_p (hk b' (by simp)).1 (hk b' (by simp)).2
  have key : prodOk (fm (kindOf k)) (kq (kindOf k)) a' b' = ok ∧ (ok = true → p = mulR (fm (kindOf k)) a' b' ∧ r = pR (fm (kindOf k)) (kq (kindOf k)) a' b') := by
    obtain ⟨hp, c, d, g, l, hA, hS⟩ := hS
    obtain ⟨c1, c2⟩ := chain_half kq_facts.1 la kq_facts.2 fa hA
    unfold prodOk
    rcases hS with ⟨s1, rfl⟩ | ⟨s1, c', d', i, j, hB, hS⟩
    · rw [← c1, s1]; exact ⟨by simp, by simp⟩
    obtain ⟨b1, b2⟩ := chain_half kq_facts.1 lb kq_facts.2 fb hB
    rcases hS with ⟨s2, rfl⟩ | ⟨s2, g', hj, li, lj, v, x', y', hL, rfl⟩
    · rw [← b1, s2]; exact ⟨by simp, by simp⟩
    obtain ⟨m1, m2, m3, m4⟩ := c2 s1
    obtain ⟨n1, n2, n3, n4⟩ := b2 s2
    obtain ⟨e1, e2, e3⟩ := chain_last la lb fa fb hp hA hB m1 m2 n1 n2 m3 m4 n3 n4 hL
    rw [← c1, s1, ← b1, s2, ← e1, neB_zero la fa, neB_zero lb fb, ← e2]
    by_cases fp : finB k p = true
    · rw [ltB_least hp.lt fp]
      refine ⟨by simp [Bool.and_assoc], fun hh => ⟨rfl, e3 ?_⟩⟩
      rw [Bool.and_eq_true] at hh
      exact hh.1
    · have : [p, g', hj, li, lj, v, x', y', r].all (finB k) = false := by simp [fp]
      rw [this]
      exact ⟨by simp, by simp⟩
  obtain ⟨k1, k2⟩ := key
  rw [k1]
  rcases h2 with ⟨g1, rfl, rfl, rfl⟩ | ⟨g1, rfl⟩
  · rw [if_pos g1, ans_ok, ← (k2 g1).1, ← (k2 g1).2]
  · rw [if_neg (by rw [g1]; simp), ans_err (by decide)]

end

/-! ### the errors -/
theorem fin64 {a : Nat} (la : a < 18446744073709551616) : finB .f64 a = finP (fm 3) a := fin_abs (k := .f64) la
theorem fin32 {a : Nat} (la : a < 4294967296) : finB .f32 a = finP (fm 2) a := fin_abs (k := .f32) la

theorem err3_known {a b : Nat} (la : a < 18446744073709551616) (lb : b < 18446744073709551616) : err3 a b = knownE 3 [a, b] := by
  unfold err3 knownE
  rw [if_pos (c := ([a, b].all fun x => decide (x < 2 ^ (fm 3).w)) = true) (by simp only [List.all_cons, List.all_nil, Bool.and_true, Bool.and_eq_true, decide_eq_true_eq]; exact ⟨la, lb⟩)]
  simp only [List.all_cons, List.all_nil, fin64 la, fin64 lb]
  rfl
theorem err31_known {a : Nat} (la : a < 18446744073709551616) : err31 a = knownE 3 [a] := by
  unfold err31 knownE
  rw [if_pos (c := ([a].all fun x => decide (x < 2 ^ (fm 3).w)) = true) (by simp only [List.all_cons, List.all_nil, Bool.and_true, decide_eq_true_eq]; exact la)]
  simp only [List.all_cons, List.all_nil, fin64 la]
  rfl
theorem err2_known (a b : Nat) : err2 a b = knownE 2 [a, b] := by
  unfold err2 knownE
  have e : ([a, b].all fun x => decide (x < 4294967296)) = ([a, b].all fun x => decide (x < 2 ^ (fm 2).w)) := rfl
  rw [← e]
  by_cases h : ([a, b].all fun x => decide (x < 4294967296)) = true
  · rw [if_pos h, if_pos h]
    simp only [List.all_cons, List.all_nil, Bool.and_true, Bool.and_eq_true, decide_eq_true_eq] at h
    simp only [List.all_cons, List.all_nil, Nat.mod_eq_of_lt h.1, Nat.mod_eq_of_lt h.2, fin32 h.1, fin32 h.2]
    rfl
  · rw [if_neg h, if_neg h]
theorem err21_known (a : Nat) : err21 a = knownE 2 [a] := by
  unfold err21 knownE
  have e : ([a].all fun x => decide (x < 4294967296)) = ([a].all fun x => decide (x < 2 ^ (fm 2).w)) := rfl
  rw [← e]
  by_cases h : ([a].all fun x => decide (x < 4294967296)) = true
  · rw [if_pos h, if_pos h]
    simp only [List.all_cons, List.all_nil, Bool.and_true, Bool.and_eq_true, decide_eq_true_eq] at h
    simp only [List.all_cons, List.all_nil, Nat.mod_eq_of_lt h, fin32 h]
    rfl
  · rw [if_neg h, if_neg h]

theorem lt32 {x : Nat} (h : x < 2 ^ (fm 2).w) : x % 4294967296 = x := Nat.mod_eq_of_lt h

/-! ### the calls -/

theorem TwoSum_c3 (a b : Nat) (w : World) (ha : a < 18446744073709551616) (hb : b < 18446744073709551616) :
    Calls Tryz.prog 16 #[.int .i64 (3 : Nat), .int .u64 a, .int .u64 b] w fun e w' => e = .returned (tupE (sumE 3 a b)) ∧ Below w.heap.size w w' := by
  refine (TwoSum_three a b w).mono ?_
  rintro _ w1 ⟨e, x, y, rfl, hB, hA⟩
  exact ⟨by rw [sum_tup (k := .f64) hA (err3_known ha hb) fun _ => ⟨rfl, rfl⟩]; rfl, hB⟩

theorem least64 : leastF .f64 = pw 968 := by decide

theorem least32 : leastF .f32 = 218103808 := by decide

theorem TwoProd_c3 (a b : Nat) (w : World) (ha : a < 18446744073709551616) (hb : b < 18446744073709551616) :
    Calls Tryz.prog 8 #[.int .i64 (3 : Nat), .int .u64 a, .int .u64 b] w fun e w' => e = .returned (tupE (prodE 3 a b)) ∧ Below w.heap.size w w' := by
  refine (TwoProd_three a b w).mono ?_
  rintro _ w1 ⟨e, x, y, rfl, hB, hA⟩
  rw [← least64] at hA
  exact ⟨by rw [prod_tup (k := .f64) hA (err3_known ha hb) fun _ => ⟨rfl, rfl⟩]; rfl, hB⟩

theorem known2 {a b : Nat} (h : knownE 2 [a, b] = 0) : a % 4294967296 = a ∧ b % 4294967296 = b :=
  ⟨lt32 (knownE_ok h a (by simp)).1, lt32 (knownE_ok h b (by simp)).1⟩

theorem TwoSum_c2 (a b : Nat) (w : World) :
    Calls Tryz.prog 16 #[.int .i64 (2 : Nat), .int .u64 a, .int .u64 b] w fun e w' => e = .returned (tupE (sumE 2 a b)) ∧ Below w.heap.size w w' := by
  refine (TwoSum_two a b w).mono ?_
  rintro _ w1 ⟨e, x, y, rfl, hB, hA⟩
  exact ⟨by rw [sum_tup (k := .f32) hA (err2_known a b) fun h => known2 (by rw [← err2_known]; exact h)]; rfl, hB⟩

theorem TwoProd_c2 (a b : Nat) (w : World) :
    Calls Tryz.prog 8 #[.int .i64 (2 : Nat), .int .u64 a, .int .u64 b] w fun e w' => e = .returned (tupE (prodE 2 a b)) ∧ Below w.heap.size w w' := by
  refine (TwoProd_two a b w).mono ?_
  rintro _ w1 ⟨e, x, y, rfl, hB, hA⟩
  rw [← least32] at hA
  exact ⟨by rw [prod_tup (k := .f32) hA (err2_known a b) fun h => known2 (by rw [← err2_known]; exact h)]; rfl, hB⟩

end Go.Proofs.YtlibhfojfonfjaaGreatDoor
