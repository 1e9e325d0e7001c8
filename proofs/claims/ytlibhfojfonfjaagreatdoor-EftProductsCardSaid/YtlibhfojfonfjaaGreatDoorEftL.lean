/- Layer 18 by the document, as plain numbers: the machine's steps are the same. -/
import Derived.Test.YtlibhfojfonfjaaGreatDoorMachA
import Derived.Test.YtlibhfojfonfjaaGreatDoorFltD
namespace Go.Proofs.YtlibhfojfonfjaaGreatDoor
set_option linter.unusedVariables false
set_option linter.unusedSimpArgs false

def addR (F : Fm) (a b : Nat) : Nat := (addS F 0 a b).1
def subR (F : Fm) (a b : Nat) : Nat := (addS F 0 a (F.flip b)).1
def mulR (F : Fm) (a b : Nat) : Nat := (mulS F 0 a b).1
def finP (F : Fm) (a : Nat) : Bool := decide (F.abs a < F.inf)

def sT (F : Fm) (a b : Nat) : Nat := subR F (addR F a b) a
def sU (F : Fm) (a b : Nat) : Nat := subR F (addR F a b) (sT F a b)
def sV (F : Fm) (a b : Nat) : Nat := subR F b (sT F a b)
def sW (F : Fm) (a b : Nat) : Nat := subR F a (sU F a b)
def sR (F : Fm) (a b : Nat) : Nat := addR F (sW F a b) (sV F a b)
/-- TwoSum's steps -/
def sumL (F : Fm) (a b : Nat) : List Nat := [addR F a b, sT F a b, sU F a b, sV F a b, sW F a b, sR F a b]
def qR (F : Fm) (a b : Nat) : Nat := subR F b (sT F a b)
/-- FastTwoSum's steps -/
def fastL (F : Fm) (a b : Nat) : List Nat := [addR F a b, sT F a b, qR F a b]
def hC (F : Fm) (q a : Nat) : Nat := mulR F q a
def hD (F : Fm) (q a : Nat) : Nat := subR F (hC F q a) a
def hH (F : Fm) (q a : Nat) : Nat := subR F (hC F q a) (hD F q a)
def hL (F : Fm) (q a : Nat) : Nat := subR F a (hH F q a)
/-- Split's steps -/
def halfL (F : Fm) (q a : Nat) : List Nat := [hC F q a, hD F q a, hH F q a, hL F q a]
def pG (F : Fm) (q a b : Nat) : Nat := mulR F (hH F q a) (hH F q b)
def pHJ (F : Fm) (q a b : Nat) : Nat := mulR F (hH F q a) (hL F q b)
def pLI (F : Fm) (q a b : Nat) : Nat := mulR F (hL F q a) (hH F q b)
def pLJ (F : Fm) (q a b : Nat) : Nat := mulR F (hL F q a) (hL F q b)
def pW (F : Fm) (q a b : Nat) : Nat := subR F (pG F q a b) (mulR F a b)
def pX (F : Fm) (q a b : Nat) : Nat := addR F (pW F q a b) (pHJ F q a b)
def pY (F : Fm) (q a b : Nat) : Nat := addR F (pX F q a b) (pLI F q a b)
def pR (F : Fm) (q a b : Nat) : Nat := addR F (pY F q a b) (pLJ F q a b)
/-- TwoProd's last steps -/
def prodL (F : Fm) (q a b : Nat) : List Nat := [mulR F a b, pG F q a b, pW F q a b, pHJ F q a b, pX F q a b, pLI F q a b, pY F q a b, pLJ F q a b, pR F q a b]
/-- is the product too near to zero? -/
def smallP (F : Fm) (p : Nat) : Bool := F.isZero p || decide (topE (F.mag p) (F.ex p) < F.emin + F.p + 1)
def prodOk (F : Fm) (q a b : Nat) : Bool := (halfL F q a).all (finP F) && (halfL F q b).all (finP F) && (prodL F q a b).all (finP F) && !(!F.isZero a && !F.isZero b && smallP F (mulR F a b))

section
variable {F : Fm}
theorem e_rndZ_lt (ok : F.Ok) (m : Nat) (z L : Int) (h : z ≠ 0) : (rndZ F m z L).1 < 2 ^ F.w := by
  unfold rndZ
  obtain ⟨h1, h2⟩ := cut_lt ok m (decide (z < 0)) z.natAbs L false (by omega)
  have h3 := sg_lt ok (decide (z < 0))
  have h4 := w_two ok
  omega

theorem addR_lt (ok : F.Ok) {a b : Nat} (ha : a < 2 ^ F.w) (hb : b < 2 ^ F.w) : addR F a b < 2 ^ F.w := by
  have h1 := nan_lt ok
  have h3 := w_two ok
  have h4 := fun s => sg_lt ok s
  have h5 := pow_pos2 (F.w - 1)
  unfold addR addS
  split
  · show F.nan < _; omega
  split
  · show F.nan < _; omega
  split
  · show F.nan < _; omega
  split
  · exact ha
  split
  · exact hb
  split
  · have := h4 (if F.isZero a && F.isZero b && F.neg a == F.neg b then F.neg a else (0 : Nat) == 4); show F.sg _ < _; omega
  · rename_i h; exact e_rndZ_lt ok 0 _ _ h

theorem subR_lt (ok : F.Ok) {a b : Nat} (ha : a < 2 ^ F.w) (hb : b < 2 ^ F.w) : subR F a b < 2 ^ F.w := addR_lt ok ha (flip_lt ok b)

theorem mulR_lt (ok : F.Ok) {a b : Nat} (ha : a < 2 ^ F.w) (hb : b < 2 ^ F.w) : mulR F a b < 2 ^ F.w := by
  have hp : 1 ≤ F.p := by have := ok.p8; omega
  have hw := w_two ok
  have h1 := nan_lt ok
  have h2 := inf_lt ok
  have key : ∀ x s, x < 2 ^ (F.w - 1) → x + F.sg s < 2 ^ F.w := by
    intro x s hx; have := sg_lt ok s; omega
  unfold mulR mulS
  split
  · show F.nan < _; omega
  · split
    · show F.nan < _; omega
    · split
      · exact key _ _ h2
      · split
        · have := key 0 (F.neg a != F.neg b) (pow_pos2 _)
          simpa using this
        · rename_i h4
          simp only [Bool.or_eq_true, not_or, Bool.not_eq_true] at h4
          obtain ⟨h5, h6⟩ := cut_lt ok 0 (F.neg a != F.neg b) (F.mag a * F.mag b) (F.ex a + F.ex b) false (Nat.mul_ne_zero (mag_ne hp h4.1) (mag_ne hp h4.2))
          rw [h5]; exact key _ _ h6
end

section
variable {k : FloatKind}

theorem fin_cons {x X : Nat} {xs XS : List Nat} (lx : x < 2 ^ k.format.width) (e : x = X) (h : finB k x = true → xs.all (finB k) = XS.all (finP (fm (kindOf k)))) :
    (x :: xs).all (finB k) = (X :: XS).all (finP (fm (kindOf k))) := by
  subst e
  have e1 : finP (fm (kindOf k)) x = finB k x := (fin_abs lx).symm
  rw [List.all_cons, List.all_cons, e1]
  cases hb : finB k x
  · rfl
  · rw [h hb]

theorem chain_sum {a b s t u v z r : Nat} (la : a < 2 ^ k.format.width) (lb : b < 2 ^ k.format.width) (fa : finB k a = true) (fb : finB k b = true) (h : SumC k a b s t u v z r) :
    [s, t, u, v, z, r].all (finB k) = (sumL (fm (kindOf k)) a b).all (finP (fm (kindOf k))) ∧ ([s, t, u, v, z, r].all (finB k) = true → s = addR (fm (kindOf k)) a b ∧ r = sR (fm (kindOf k)) a b) := by
  obtain ⟨h1, h2, h3, h4, h5, h6⟩ := h
  have e1 : s = addR (fm (kindOf k)) a b := fop_add la lb fa fb h1
  have e2 : finB k s = true → t = sT (fm (kindOf k)) a b := fun f1 => (fop_sub h1.lt la f1 fa h2).trans (by rw [e1]; rfl)
  have e3 : finB k s = true → finB k t = true → u = sU (fm (kindOf k)) a b := fun f1 f2 => (fop_sub h1.lt h2.lt f1 f2 h3).trans (by rw [e2 f1, e1]; rfl)
  have e4 : finB k s = true → finB k t = true → v = sV (fm (kindOf k)) a b := fun f1 f2 => (fop_sub lb h2.lt fb f2 h4).trans (by rw [e2 f1]; rfl)
  have e5 : finB k s = true → finB k t = true → finB k u = true → z = sW (fm (kindOf k)) a b := fun f1 f2 f3 => (fop_sub la h3.lt fa f3 h5).trans (by rw [e3 f1 f2]; rfl)
  have e6 : finB k s = true → finB k t = true → finB k u = true → finB k v = true → finB k z = true → r = sR (fm (kindOf k)) a b := fun f1 f2 f3 f4 f5 => (fop_add h5.lt h4.lt f5 f4 h6).trans (by rw [e5 f1 f2 f3, e4 f1 f2]; rfl)
  refine ⟨fin_cons h1.lt e1 fun f1 => fin_cons h2.lt (e2 f1) fun f2 => fin_cons h3.lt (e3 f1 f2) fun f3 => fin_cons h4.lt (e4 f1 f2) fun f4 => fin_cons h5.lt (e5 f1 f2 f3) fun f5 => fin_cons h6.lt (e6 f1 f2 f3 f4 f5) fun _ => rfl, fun hall => ?_⟩
  simp only [List.all_cons, List.all_nil, Bool.and_true, Bool.and_eq_true] at hall
  obtain ⟨f1, f2, f3, f4, f5, f6⟩ := hall
  exact ⟨e1, e6 f1 f2 f3 f4 f5⟩

/-- the steps of FastTwoSum -/
def FastC (k : FloatKind) (a b s t r : Nat) : Prop := FOp .add k a b s ∧ FOp .sub k s a t ∧ FOp .sub k b t r

theorem chain_fast {a b s t r : Nat} (la : a < 2 ^ k.format.width) (lb : b < 2 ^ k.format.width) (fa : finB k a = true) (fb : finB k b = true) (h : FastC k a b s t r) :
    [s, t, r].all (finB k) = (fastL (fm (kindOf k)) a b).all (finP (fm (kindOf k))) ∧ ([s, t, r].all (finB k) = true → s = addR (fm (kindOf k)) a b ∧ r = qR (fm (kindOf k)) a b) := by
  obtain ⟨h1, h2, h3⟩ := h
  have e1 : s = addR (fm (kindOf k)) a b := fop_add la lb fa fb h1
  have e2 : finB k s = true → t = sT (fm (kindOf k)) a b := fun f1 => (fop_sub h1.lt la f1 fa h2).trans (by rw [e1]; rfl)
  have e3 : finB k s = true → finB k t = true → r = qR (fm (kindOf k)) a b := fun f1 f2 => (fop_sub lb h2.lt fb f2 h3).trans (by rw [e2 f1]; rfl)
  refine ⟨fin_cons h1.lt e1 fun f1 => fin_cons h2.lt (e2 f1) fun f2 => fin_cons h3.lt (e3 f1 f2) fun _ => rfl, fun hall => ?_⟩
  simp only [List.all_cons, List.all_nil, Bool.and_true, Bool.and_eq_true] at hall
  obtain ⟨f1, f2, f3⟩ := hall
  exact ⟨e1, e3 f1 f2⟩

theorem chain_half {q a c d h l : Nat} (lq : q < 2 ^ k.format.width) (la : a < 2 ^ k.format.width) (fq : finB k q = true) (fa : finB k a = true) (hh : HalfC k q a c d h l) :
    [c, d, h, l].all (finB k) = (halfL (fm (kindOf k)) q a).all (finP (fm (kindOf k))) ∧ ([c, d, h, l].all (finB k) = true → h = hH (fm (kindOf k)) q a ∧ l = hL (fm (kindOf k)) q a ∧ finB k h = true ∧ finB k l = true) := by
  obtain ⟨h1, h2, h3, h4⟩ := hh
  have e1 : c = hC (fm (kindOf k)) q a := fop_mul lq la fq fa h1
  have e2 : finB k c = true → d = hD (fm (kindOf k)) q a := fun f1 => (fop_sub h1.lt la f1 fa h2).trans (by rw [e1]; rfl)
  have e3 : finB k c = true → finB k d = true → h = hH (fm (kindOf k)) q a := fun f1 f2 => (fop_sub h1.lt h2.lt f1 f2 h3).trans (by rw [e2 f1, e1]; rfl)
  have e4 : finB k c = true → finB k d = true → finB k h = true → l = hL (fm (kindOf k)) q a := fun f1 f2 f3 => (fop_sub la h3.lt fa f3 h4).trans (by rw [e3 f1 f2]; rfl)
  refine ⟨fin_cons h1.lt e1 fun f1 => fin_cons h2.lt (e2 f1) fun f2 => fin_cons h3.lt (e3 f1 f2) fun f3 => fin_cons h4.lt (e4 f1 f2 f3) fun _ => rfl, fun hall => ?_⟩
  simp only [List.all_cons, List.all_nil, Bool.and_true, Bool.and_eq_true] at hall
  obtain ⟨f1, f2, f3, f4⟩ := hall
  exact ⟨e3 f1 f2, e4 f1 f2 f3, f3, f4⟩

theorem fin_eq {x X : Nat} (lx : x < 2 ^ k.format.width) (e : x = X) : finP (fm (kindOf k)) X = finB k x := by
  subst e; exact (fin_abs lx).symm

theorem chain_last {q a b p c d h l c' d' i j g hj li lj v x y r : Nat} (la : a < 2 ^ k.format.width) (lb : b < 2 ^ k.format.width) (fa : finB k a = true) (fb : finB k b = true) (hp : FOp .mul k a b p)
    (hA : HalfC k q a c d h l) (hB : HalfC k q b c' d' i j)
    (eh : h = hH (fm (kindOf k)) q a) (el : l = hL (fm (kindOf k)) q a) (ei : i = hH (fm (kindOf k)) q b) (ej : j = hL (fm (kindOf k)) q b) (fh : finB k h = true) (fl : finB k l = true) (fi : finB k i = true) (fj : finB k j = true)
    (hL' : LastC k p h l i j g hj li lj v x y r) :
    [p, g, hj, li, lj, v, x, y, r].all (finB k) = (prodL (fm (kindOf k)) q a b).all (finP (fm (kindOf k))) ∧ p = mulR (fm (kindOf k)) a b ∧ ([p, g, hj, li, lj, v, x, y, r].all (finB k) = true → r = pR (fm (kindOf k)) q a b) := by
  obtain ⟨h1, h2, h3, h4, h5, h6, h7, h8⟩ := hL'
  have lh := hA.2.2.1.lt
  have ll := hA.2.2.2.lt
  have li' := hB.2.2.1.lt
  have lj' := hB.2.2.2.lt
  have e0 : p = mulR (fm (kindOf k)) a b := fop_mul la lb fa fb hp
  have e1 : g = pG (fm (kindOf k)) q a b := (fop_mul lh li' fh fi h1).trans (by rw [eh, ei]; rfl)
  have e2 : hj = pHJ (fm (kindOf k)) q a b := (fop_mul lh lj' fh fj h2).trans (by rw [eh, ej]; rfl)
  have e3 : li = pLI (fm (kindOf k)) q a b := (fop_mul ll li' fl fi h3).trans (by rw [el, ei]; rfl)
  have e4 : lj = pLJ (fm (kindOf k)) q a b := (fop_mul ll lj' fl fj h4).trans (by rw [el, ej]; rfl)
  have e5 : finB k g = true → finB k p = true → v = pW (fm (kindOf k)) q a b := fun f1 f2 => (fop_sub h1.lt hp.lt f1 f2 h5).trans (by rw [e1, e0]; rfl)
  have e6 : finB k g = true → finB k p = true → finB k v = true → finB k hj = true → x = pX (fm (kindOf k)) q a b := fun f1 f2 f3 f4 => (fop_add h5.lt h2.lt f3 f4 h6).trans (by rw [e5 f1 f2, e2]; rfl)
  have e7 : finB k g = true → finB k p = true → finB k v = true → finB k hj = true → finB k x = true → finB k li = true → y = pY (fm (kindOf k)) q a b := fun f1 f2 f3 f4 f5 f6 => (fop_add h6.lt h3.lt f5 f6 h7).trans (by rw [e6 f1 f2 f3 f4, e3]; rfl)
  have e8 : finB k g = true → finB k p = true → finB k v = true → finB k hj = true → finB k x = true → finB k li = true → finB k y = true → finB k lj = true → r = pR (fm (kindOf k)) q a b := fun f1 f2 f3 f4 f5 f6 f7 f8 => (fop_add h7.lt h4.lt f7 f8 h8).trans (by rw [e7 f1 f2 f3 f4 f5 f6, e4]; rfl)
  refine ⟨?_, e0, fun hall => ?_⟩
  · unfold prodL
    simp only [List.all_cons, List.all_nil, Bool.and_true]
    rw [fin_eq hp.lt e0, fin_eq h1.lt e1, fin_eq h2.lt e2, fin_eq h3.lt e3, fin_eq h4.lt e4]
    by_cases f0 : finB k p = true
    · by_cases f1 : finB k g = true
      · rw [fin_eq h5.lt (e5 f1 f0)]
        by_cases f2 : finB k hj = true
        · by_cases f3 : finB k v = true
          · rw [fin_eq h6.lt (e6 f1 f0 f3 f2)]
            by_cases f4 : finB k x = true
            · by_cases f5 : finB k li = true
              · rw [fin_eq h7.lt (e7 f1 f0 f3 f2 f4 f5)]
                by_cases f6 : finB k y = true
                · by_cases f7 : finB k lj = true
                  · rw [fin_eq h8.lt (e8 f1 f0 f3 f2 f4 f5 f6 f7)]
                    simp only [f0, f1, f2, f3, f4, f5, f6, f7, Bool.true_and]
                  · simp [f7]
                · simp [f6]
              · simp [f5]
            · simp [f4]
          · simp [f3]
        · simp [f2]
      · simp [f1]
    · simp [f0]
  · simp only [List.all_cons, List.all_nil, Bool.and_true, Bool.and_eq_true] at hall
    obtain ⟨f0, f1, f2, f3, f4, f5, f6, f7, f8⟩ := hall
    exact e8 f1 f0 f5 f2 f6 f3 f7 f4

/-- the order of finite floats -/
theorem order_fin {x y : Nat} (lx : x < 2 ^ k.format.width) (ly : y < 2 ^ k.format.width) (fx : finB k x = true) (fy : finB k y = true) :
    (k.format.order x y == some .lt) = decide ((fm (kindOf k)).val (fm (kindOf k)).low x < (fm (kindOf k)).val (fm (kindOf k)).low y) ∧ (k.format.order x y != some .eq) = !decide ((fm (kindOf k)).val (fm (kindOf k)).low x = (fm (kindOf k)).val (fm (kindOf k)).low y) := by
  have hs := same_of k
  have ok : (fm (kindOf k)).Ok := fm_ok _
  rw [fin_abs lx] at fx
  rw [fin_abs ly] at fy
  rw [hs.width] at lx ly
  have lx' := low_xp (F := fm (kindOf k)) ((fm (kindOf k)).abs x)
  have ly' := low_xp (F := fm (kindOf k)) ((fm (kindOf k)).abs y)
  unfold Ieee.Format.order
  rw [read_num hs ok lx (of_decide_eq_true fx), read_num hs ok ly (of_decide_eq_true fy)]
  simp only [Ieee.Datum.order, signed_i]
  rw [val_i, val_i]
  unfold Fm.ex
  generalize (fm (kindOf k)).xp ((fm (kindOf k)).abs x) = e at *
  generalize (fm (kindOf k)).xp ((fm (kindOf k)).abs y) = g at *
  obtain ⟨M, hM⟩ : ∃ M, M = min e g := ⟨_, rfl⟩
  rw [← hM]
  rw [i_scale ⟨_, _, e⟩ (fm (kindOf k)).low M (by omega) (show M ≤ e by omega), i_scale ⟨_, _, g⟩ (fm (kindOf k)).low M (by omega) (show M ≤ g by omega)]
  generalize D.i M _ = p
  generalize D.i M _ = q
  have hp := ipow_pos (M - (fm (kindOf k)).low).toNat
  generalize (2 : Int) ^ (M - (fm (kindOf k)).low).toNat = c at *
  have e1 : p * c < q * c ↔ p < q := ⟨fun h => Int.lt_of_mul_lt_mul_right h (Int.le_of_lt hp), fun h => Int.mul_lt_mul_of_pos_right h hp⟩
  have e2 : p * c = q * c ↔ p = q := ⟨fun h => Int.eq_of_mul_eq_mul_right (by omega) h, fun h => by rw [h]⟩
  simp only [e1, e2]
  rcases Int.lt_trichotomy p q with h | h | h
  · have : compare p q = .lt := by show compareOfLessAndEq p q = _; unfold compareOfLessAndEq; rw [if_pos h]
    rw [this, decide_eq_true h, decide_eq_false (by omega)]; exact ⟨rfl, rfl⟩
  · have : compare p q = .eq := by show compareOfLessAndEq p q = _; unfold compareOfLessAndEq; rw [if_neg (by omega), if_pos h]
    rw [this, decide_eq_false (by omega), decide_eq_true h]; exact ⟨rfl, rfl⟩
  · have : compare p q = .gt := by show compareOfLessAndEq p q = _; unfold compareOfLessAndEq; rw [if_neg (by omega), if_neg (by omega)]
    rw [this, decide_eq_false (by omega), decide_eq_false (by omega)]; exact ⟨rfl, rfl⟩

end
end Go.Proofs.YtlibhfojfonfjaaGreatDoor
