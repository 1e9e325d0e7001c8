/- Layer 18: of opposite numbers the steps are opposite, as plain numbers. -/
import Derived.Test.YtlibhfojfonfjaaGreatDoorEftM
namespace Go.Proofs.YtlibhfojfonfjaaGreatDoor
set_option linter.unusedVariables false
set_option linter.unusedSimpArgs false
open Go.RowKit

/-- of one size; of one sign (s = false) or of opposite signs (s = true), where they are not zero -/
def Tw (F : Fm) (s : Bool) (x y : Nat) : Prop := F.abs y = F.abs x ∧ (F.neg y = (F.neg x ^^ s) ∨ F.abs x = 0)

section
variable {F : Fm}

theorem Tw.refl (x : Nat) : Tw F false x x := ⟨rfl, Or.inl (by simp)⟩
theorem Tw.flipped (x : Nat) : Tw F true x (F.flip x) := ⟨abs_flip x, Or.inl (by rw [neg_flip]; simp)⟩
theorem Tw.symm {s : Bool} {x y : Nat} (h : Tw F s x y) : Tw F s y x := by
  obtain ⟨h1, h2⟩ := h
  refine ⟨h1.symm, ?_⟩
  rcases h2 with h2 | h2
  · left; rw [h2]; cases s <;> cases F.neg x <;> rfl
  · right; rw [h1, h2]
theorem Tw.fin {s : Bool} {x y : Nat} (h : Tw F s x y) : finP F y = finP F x := by unfold finP; rw [h.1]
theorem Tw.flip {s : Bool} {x y : Nat} (h : Tw F s x y) : Tw F s (F.flip x) (F.flip y) := by
  refine ⟨by rw [abs_flip, abs_flip, h.1], ?_⟩
  rw [neg_flip, neg_flip, abs_flip]
  rcases h.2 with h2 | h2
  · left; rw [h2]; cases s <;> cases F.neg x <;> rfl
  · right; exact h2
theorem Tw.val (ok : F.Ok) {s : Bool} {x y : Nat} (h : Tw F s x y) (L : Int) : F.val L y = if s then -F.val L x else F.val L x := by
  rcases h.2 with h2 | h2
  · unfold Fm.val
    rw [h.1, h2]
    cases s <;> cases F.neg x <;> simp
  · rw [(val_zero_iff ok L).2 h2, (val_zero_iff ok L).2 (h.1.trans h2)]; cases s <;> rfl
theorem Tw.isZero {s : Bool} {x y : Nat} (h : Tw F s x y) : F.isZero y = F.isZero x := by unfold Fm.isZero; rw [h.1]

theorem sg_zero (ok : F.Ok) (s : Bool) : F.abs (F.sg s) = 0 := by
  have := abs_mk (F := F) (x := 0) (s := s) (pow_pos2 _)
  rwa [Nat.zero_add] at this

theorem add_tw (ok : F.Ok) {s : Bool} {a b a' b' : Nat} (ha : Tw F s a a') (hb : Tw F s b b') (fa : finP F a = true) (fb : finP F b = true) : Tw F s (addR F a b) (addR F a' b') := by
  have fa' : finP F a' = true := by rw [ha.fin]; exact fa
  have fb' : finP F b' = true := by rw [hb.fin]; exact fb
  unfold addR
  rw [addS_fin ok (of_decide_eq_true fa) (of_decide_eq_true fb), addS_fin ok (of_decide_eq_true fa') (of_decide_eq_true fb'), ha.val ok, hb.val ok]
  generalize F.val F.low a = x
  generalize F.val F.low b = y
  by_cases hz : x + y = 0
  · have hz' : (if s = true then -x else x) + (if s = true then -y else y) = 0 := by cases s <;> simp <;> omega
    rw [if_pos hz, if_pos hz']
    exact ⟨by rw [sg_zero ok, sg_zero ok], Or.inr (sg_zero ok _)⟩
  · have hz' : ¬ ((if s = true then -x else x) + (if s = true then -y else y) = 0) := by cases s <;> simp <;> omega
    rw [if_neg hz, if_neg hz']
    cases s
    · exact Tw.refl _
    · have e : (if true = true then -x else x) + (if true = true then -y else y) = -(x + y) := by simp; omega
      rw [e]
      have := rndZ_mir ok 0 (x + y) F.low hz
      rw [show mir 0 = 0 from rfl] at this
      rw [this]
      exact Tw.flipped _
theorem sub_tw (ok : F.Ok) {s : Bool} {a b a' b' : Nat} (ha : Tw F s a a') (hb : Tw F s b b') (fa : finP F a = true) (fb : finP F b = true) : Tw F s (subR F a b) (subR F a' b') :=
  add_tw ok ha hb.flip fa (by unfold finP at *; rw [abs_flip]; exact fb)

theorem mulS_fin {a b : Nat} (fa : finP F a = true) (fb : finP F b = true) (m : Nat) : mulS F m a b = if F.isZero a || F.isZero b then (F.sg (F.neg a != F.neg b), 0) else intoS F m (F.neg a != F.neg b) (F.mag a * F.mag b) (F.ex a + F.ex b) false := by
  have h1 : ∀ x, finP F x = true → F.isNan x = false ∧ F.isInf x = false := by
    intro x h
    have h := of_decide_eq_true h
    unfold Fm.isNan Fm.isInf
    constructor
    · simpa using Nat.le_of_lt h
    · simp; omega
  obtain ⟨a1, a2⟩ := h1 a fa
  obtain ⟨b1, b2⟩ := h1 b fb
  unfold mulS
  rw [a1, a2, b1, b2]
  simp

theorem mul_tw (ok : F.Ok) {s t : Bool} {a b a' b' : Nat} (ha : Tw F s a a') (hb : Tw F t b b') (fa : finP F a = true) (fb : finP F b = true) : Tw F (s ^^ t) (mulR F a b) (mulR F a' b') := by
  have fa' : finP F a' = true := by rw [ha.fin]; exact fa
  have fb' : finP F b' = true := by rw [hb.fin]; exact fb
  unfold mulR
  rw [mulS_fin fa fb, mulS_fin fa' fb', ha.isZero, hb.isZero]
  by_cases hz : (F.isZero a || F.isZero b) = true
  · rw [if_pos hz, if_pos hz]
    exact ⟨by rw [sg_zero ok, sg_zero ok], Or.inr (sg_zero ok _)⟩
  · rw [if_neg hz, if_neg hz]
    have hp : 1 ≤ F.p := by have := ok.p8; omega
    simp only [Bool.or_eq_true, not_or, Bool.not_eq_true] at hz
    have na : F.neg a' = (F.neg a ^^ s) := ha.2.resolve_right (by have := hz.1; unfold Fm.isZero at this; exact of_decide_eq_false this)
    have nb : F.neg b' = (F.neg b ^^ t) := hb.2.resolve_right (by have := hz.2; unfold Fm.isZero at this; exact of_decide_eq_false this)
    have ma : F.mag a' = F.mag a := by unfold Fm.mag; rw [ha.1]
    have mb : F.mag b' = F.mag b := by unfold Fm.mag; rw [hb.1]
    have ea : F.ex a' = F.ex a := by unfold Fm.ex; rw [ha.1]
    have eb : F.ex b' = F.ex b := by unfold Fm.ex; rw [hb.1]
    rw [ma, mb, ea, eb, na, nb]
    have h0 : F.mag a * F.mag b ≠ 0 := Nat.mul_ne_zero (mag_ne hp hz.1) (mag_ne hp hz.2)
    have e : ((F.neg a ^^ s) != (F.neg b ^^ t)) = ((F.neg a != F.neg b) ^^ (s ^^ t)) := by cases F.neg a <;> cases F.neg b <;> cases s <;> cases t <;> rfl
    rw [e]
    cases hst : (s ^^ t)
    · rw [Bool.xor_false]; exact Tw.refl _
    · rw [Bool.xor_true]
      have := into_mir ok 0 (F.neg a != F.neg b) (F.mag a * F.mag b) (F.ex a + F.ex b) false h0
      rw [show mir 0 = 0 from rfl] at this
      rw [this]
      exact Tw.flipped _

/-- a chain of steps: as long as all are finite they are of one size -/
theorem tw_sum (ok : F.Ok) {s : Bool} {a b a' b' : Nat} (ha : Tw F s a a') (hb : Tw F s b b') (fa : finP F a = true) (fb : finP F b = true) (h : (sumL F a b).all (finP F) = true) :
    (sumL F a' b').all (finP F) = true ∧ Tw F s (addR F a b) (addR F a' b') ∧ Tw F s (sR F a b) (sR F a' b') := by
  unfold sumL at h ⊢
  simp only [List.all_cons, List.all_nil, Bool.and_true, Bool.and_eq_true] at h ⊢
  obtain ⟨f1, f2, f3, f4, f5, f6⟩ := h
  have t1 := add_tw ok ha hb fa fb
  have t2 : Tw F s (sT F a b) (sT F a' b') := sub_tw ok t1 ha f1 fa
  have t3 : Tw F s (sU F a b) (sU F a' b') := sub_tw ok t1 t2 f1 f2
  have t4 : Tw F s (sV F a b) (sV F a' b') := sub_tw ok hb t2 fb f2
  have t5 : Tw F s (sW F a b) (sW F a' b') := sub_tw ok ha t3 fa f3
  have t6 : Tw F s (sR F a b) (sR F a' b') := add_tw ok t5 t4 f5 f4
  exact ⟨⟨by rw [t1.fin]; exact f1, by rw [t2.fin]; exact f2, by rw [t3.fin]; exact f3, by rw [t4.fin]; exact f4, by rw [t5.fin]; exact f5, by rw [t6.fin]; exact f6⟩, t1, t6⟩

theorem tw_half (ok : F.Ok) {s : Bool} {q a a' : Nat} (ha : Tw F s a a') (fq : finP F q = true) (fa : finP F a = true) (h : (halfL F q a).all (finP F) = true) :
    (halfL F q a').all (finP F) = true ∧ Tw F s (hH F q a) (hH F q a') ∧ Tw F s (hL F q a) (hL F q a') ∧ finP F (hH F q a) = true ∧ finP F (hL F q a) = true := by
  unfold halfL at h ⊢
  simp only [List.all_cons, List.all_nil, Bool.and_true, Bool.and_eq_true] at h ⊢
  obtain ⟨f1, f2, f3, f4⟩ := h
  have t1 : Tw F s (hC F q a) (hC F q a') := by
    have := mul_tw ok (Tw.refl q) ha fq fa
    rwa [Bool.false_xor] at this
  have t2 : Tw F s (hD F q a) (hD F q a') := sub_tw ok t1 ha f1 fa
  have t3 : Tw F s (hH F q a) (hH F q a') := sub_tw ok t1 t2 f1 f2
  have t4 : Tw F s (hL F q a) (hL F q a') := sub_tw ok ha t3 fa f3
  exact ⟨⟨by rw [t1.fin]; exact f1, by rw [t2.fin]; exact f2, by rw [t3.fin]; exact f3, by rw [t4.fin]; exact f4⟩, t3, t4, f3, f4⟩

theorem smallP_tw {s : Bool} {x y : Nat} (h : Tw F s x y) : smallP F y = smallP F x := by
  unfold smallP Fm.isZero Fm.mag Fm.ex
  rw [h.1]

theorem tw_prod (ok : F.Ok) {s : Bool} {q a b b' : Nat} (hb : Tw F s b b') (fq : finP F q = true) (fa : finP F a = true) (fb : finP F b = true) (h : prodOk F q a b = true) :
    prodOk F q a b' = true ∧ Tw F s (mulR F a b) (mulR F a b') ∧ Tw F s (pR F q a b) (pR F q a b') := by
  unfold prodOk at h ⊢
  simp only [Bool.and_eq_true] at h ⊢
  obtain ⟨⟨⟨hA, hB⟩, hP⟩, hS⟩ := h
  obtain ⟨-, -, -, fh, fl⟩ := tw_half ok (Tw.refl a) fq fa hA
  obtain ⟨b1, b2, b3, fi, fj⟩ := tw_half ok hb fq fb hB
  unfold prodL at hP ⊢
  simp only [List.all_cons, List.all_nil, Bool.and_true, Bool.and_eq_true] at hP ⊢
  obtain ⟨f1, f2, f3, f4, f5, f6, f7, f8, f9⟩ := hP
  have key : ∀ {x y y'}, Tw F s y y' → finP F x = true → finP F y = true → Tw F s (mulR F x y) (mulR F x y') := by
    intro x y y' h1 h2 h3
    have := mul_tw ok (Tw.refl x) h1 h2 h3
    rwa [Bool.false_xor] at this
  have t1 := key (x := a) hb fa fb
  have t2 : Tw F s (pG F q a b) (pG F q a b') := key b2 fh fi
  have t3 : Tw F s (pW F q a b) (pW F q a b') := sub_tw ok t2 t1 f2 f1
  have t4 : Tw F s (pHJ F q a b) (pHJ F q a b') := key b3 fh fj
  have t5 : Tw F s (pX F q a b) (pX F q a b') := add_tw ok t3 t4 f3 f4
  have t6 : Tw F s (pLI F q a b) (pLI F q a b') := key b2 fl fi
  have t7 : Tw F s (pY F q a b) (pY F q a b') := add_tw ok t5 t6 f5 f6
  have t8 : Tw F s (pLJ F q a b) (pLJ F q a b') := key b3 fl fj
  have t9 : Tw F s (pR F q a b) (pR F q a b') := add_tw ok t7 t8 f7 f8
  refine ⟨⟨⟨⟨hA, b1⟩, by rw [t1.fin]; exact f1, by rw [t2.fin]; exact f2, by rw [t3.fin]; exact f3, by rw [t4.fin]; exact f4, by rw [t5.fin]; exact f5, by rw [t6.fin]; exact f6, by rw [t7.fin]; exact f7, by rw [t8.fin]; exact f8, by rw [t9.fin]; exact f9⟩, ?_⟩, t1, t9⟩
  rw [hb.isZero, smallP_tw t1]
  exact hS
end

/-! ### the answers -/
/-- both refuse alike, or both answer, and the answers are opposite -/
def MirE (n : Nat) (x y : Nat × Nat × Int) : Prop := x.2.2 = y.2.2 ∧ (x.2.2 = 0 → (Tw (fm n) true x.1 y.1 ∧ Tw (fm n) true x.2.1 y.2.1) ∧ (finP (fm n) x.1 = true ∧ finP (fm n) x.2.1 = true) ∧ (finP (fm n) y.1 = true ∧ finP (fm n) y.2.1 = true))

theorem knownE_tw {n : Nat} {xs ys : List Nat} (h : ∀ x ∈ xs, x < 2 ^ (fm n).w) (h' : ∀ x ∈ ys, x < 2 ^ (fm n).w) (hf : xs.all (finP (fm n)) = ys.all (finP (fm n))) : knownE n xs = knownE n ys := by
  unfold knownE
  rw [if_pos (List.all_eq_true.2 fun x hx => decide_eq_true (h x hx)), if_pos (List.all_eq_true.2 fun x hx => decide_eq_true (h' x hx)), hf]

theorem fin_flipP {F : Fm} (a : Nat) : finP F (F.flip a) = finP F a := (Tw.flipped a).fin

theorem bool_iff {p q : Bool} (h : p = true → q = true) (h' : q = true → p = true) : p = q := by
  cases p <;> cases q <;> simp_all

theorem sum_mir {n a b : Nat} (la : a < 2 ^ (fm n).w) (lb : b < 2 ^ (fm n).w) : MirE n (sumE n a b) (sumE n ((fm n).flip a) ((fm n).flip b)) := by
  have ok := fm_ok n
  have ek : knownE n [(fm n).flip a, (fm n).flip b] = knownE n [a, b] := by
    refine knownE_tw ?_ ?_ ?_
    · intro x hx; simp at hx; rcases hx with rfl | rfl <;> exact flip_lt ok _
    · intro x hx; simp at hx; rcases hx with rfl | rfl <;> assumption
    · simp only [List.all_cons, List.all_nil, fin_flipP]
  unfold sumE
  rw [ek]
  by_cases hk : knownE n [a, b] ≠ 0
  · rw [if_pos hk, if_pos hk]; exact ⟨rfl, fun h => absurd h hk⟩
  rw [if_neg hk, if_neg hk]
  have hall := knownE_ok (show knownE n [a, b] = 0 by omega)
  have fa := (hall a (by simp)).2
  have fb := (hall b (by simp)).2
  have ta := Tw.flipped (F := fm n) a
  have tb := Tw.flipped (F := fm n) b
  have e : (sumL (fm n) ((fm n).flip a) ((fm n).flip b)).all (finP (fm n)) = (sumL (fm n) a b).all (finP (fm n)) :=
    bool_iff (fun h => (tw_sum ok ta.symm tb.symm (by rw [fin_flipP]; exact fa) (by rw [fin_flipP]; exact fb) h).1) (fun h => (tw_sum ok ta tb fa fb h).1)
  rw [e]
  by_cases hs : (sumL (fm n) a b).all (finP (fm n)) = true
  · rw [if_pos hs, if_pos hs]
    obtain ⟨h1, h2, h3⟩ := tw_sum ok ta tb fa fb hs
    unfold sumL at hs
    simp only [List.all_cons, List.all_nil, Bool.and_true, Bool.and_eq_true] at hs
    exact ⟨rfl, fun _ => ⟨⟨h2, h3⟩, ⟨hs.1, hs.2.2.2.2.2⟩, by rw [h2.fin]; exact hs.1, by rw [h3.fin]; exact hs.2.2.2.2.2⟩⟩
  · rw [if_neg hs, if_neg hs]; exact ⟨rfl, fun h => absurd h (by show (7 : Int) ≠ 0; decide)⟩

theorem kq_fin (n : Nat) (hn : n = 2 ∨ n = 3) : finP (fm n) (kq n) = true := by rcases hn with rfl | rfl <;> decide

theorem split_mir {n a : Nat} (hn : n = 2 ∨ n = 3) (la : a < 2 ^ (fm n).w) : MirE n (splitE n a) (splitE n ((fm n).flip a)) := by
  have ok := fm_ok n
  have fq := kq_fin n hn
  have ek : knownE n [(fm n).flip a] = knownE n [a] := by
    refine knownE_tw ?_ ?_ ?_
    · intro x hx; simp at hx; subst hx; exact flip_lt ok _
    · intro x hx; simp at hx; subst hx; assumption
    · simp only [List.all_cons, List.all_nil, fin_flipP]
  unfold splitE
  rw [ek]
  by_cases hk : knownE n [a] ≠ 0
  · rw [if_pos hk, if_pos hk]; exact ⟨rfl, fun h => absurd h hk⟩
  rw [if_neg hk, if_neg hk]
  have hall := knownE_ok (show knownE n [a] = 0 by omega)
  have fa := (hall a (by simp)).2
  have ta := Tw.flipped (F := fm n) a
  have e : (halfL (fm n) (kq n) ((fm n).flip a)).all (finP (fm n)) = (halfL (fm n) (kq n) a).all (finP (fm n)) :=
    bool_iff (fun h => (tw_half ok ta.symm fq (by rw [fin_flipP]; exact fa) h).1) (fun h => (tw_half ok ta fq fa h).1)
  rw [e]
  by_cases hs : (halfL (fm n) (kq n) a).all (finP (fm n)) = true
  · rw [if_pos hs, if_pos hs]
    obtain ⟨h1, h2, h3, f2, f3⟩ := tw_half ok ta fq fa hs
    exact ⟨rfl, fun _ => ⟨⟨h2, h3⟩, ⟨f2, f3⟩, by rw [h2.fin]; exact f2, by rw [h3.fin]; exact f3⟩⟩
  · rw [if_neg hs, if_neg hs]; exact ⟨rfl, fun h => absurd h (by show (7 : Int) ≠ 0; decide)⟩

theorem prod_mir {n a b : Nat} (hn : n = 2 ∨ n = 3) (la : a < 2 ^ (fm n).w) (lb : b < 2 ^ (fm n).w) : MirE n (prodE n a b) (prodE n a ((fm n).flip b)) := by
  have ok := fm_ok n
  have fq := kq_fin n hn
  have ek : knownE n [a, (fm n).flip b] = knownE n [a, b] := by
    refine knownE_tw ?_ ?_ ?_
    · intro x hx; simp at hx; rcases hx with rfl | rfl
      · exact la
      · exact flip_lt ok _
    · intro x hx; simp at hx; rcases hx with rfl | rfl <;> assumption
    · simp only [List.all_cons, List.all_nil, fin_flipP]
  unfold prodE
  rw [ek]
  by_cases hk : knownE n [a, b] ≠ 0
  · rw [if_pos hk, if_pos hk]; exact ⟨rfl, fun h => absurd h hk⟩
  rw [if_neg hk, if_neg hk]
  have hall := knownE_ok (show knownE n [a, b] = 0 by omega)
  have fa := (hall a (by simp)).2
  have fb := (hall b (by simp)).2
  have tb := Tw.flipped (F := fm n) b
  have e : prodOk (fm n) (kq n) a ((fm n).flip b) = prodOk (fm n) (kq n) a b :=
    bool_iff (fun h => (tw_prod ok tb.symm fq fa (by rw [fin_flipP]; exact fb) h).1) (fun h => (tw_prod ok tb fq fa fb h).1)
  rw [e]
  by_cases hs : prodOk (fm n) (kq n) a b = true
  · rw [if_pos hs, if_pos hs]
    obtain ⟨h1, h2, h3⟩ := tw_prod ok tb fq fa fb hs
    unfold prodOk prodL at hs
    simp only [List.all_cons, List.all_nil, Bool.and_true, Bool.and_eq_true] at hs
    obtain ⟨⟨_, f1, _, _, _, _, _, _, _, f9⟩, _⟩ := hs
    exact ⟨rfl, fun _ => ⟨⟨h2, h3⟩, ⟨f1, f9⟩, by rw [h2.fin]; exact f1, by rw [h3.fin]; exact f9⟩⟩
  · rw [if_neg hs, if_neg hs]; exact ⟨rfl, fun h => absurd h (by show (7 : Int) ≠ 0; decide)⟩

end Go.Proofs.YtlibhfojfonfjaaGreatDoor
