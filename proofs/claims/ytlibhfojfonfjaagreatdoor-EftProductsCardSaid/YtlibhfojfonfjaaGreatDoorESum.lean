/- Layer 18: sum and rest are together just the exact sum; what the law of sums asks, as plain numbers. -/
import Derived.Test.YtlibhfojfonfjaaGreatDoorESplP
import Derived.Test.YtlibhfojfonfjaaGreatDoorTwoS
namespace Go.Proofs.YtlibhfojfonfjaaGreatDoor
set_option linter.unusedVariables false
set_option linter.unusedSimpArgs false
open Go.RowKit

section
variable {F : Fm}

theorem val_abs (a : Nat) : (F.val F.low a).natAbs = F.un a := by
  unfold Fm.val
  show _ = F.vl F.low (F.abs a)
  split <;> simp

theorem val_fl (ok : F.Ok) (a : Nat) : Fl' F.p (F.val F.low a) := by
  unfold Fl' qe
  rw [val_abs]
  by_cases h : F.abs a = 0
  · rw [(val_zero_iff ok _).2 h]; exact Int.dvd_zero _
  · have := un_dvd ok h
    rw [← i2_cast]
    have h2 : ((2 ^ (bl (F.un a) - F.p) : Nat) : Int) ∣ (F.un a : Int) := Int.natCast_dvd_natCast.2 this
    unfold Fm.val
    split
    · exact Int.dvd_neg.2 h2
    · exact h2

theorem nearI_add (ok : F.Ok) {a b : Nat} (fa : finP F a = true) (fb : finP F b = true) (fr : finP F (addR F a b) = true) : NearI F.p (F.val F.low a + F.val F.low b) (F.val F.low (addR F a b)) := by
  obtain ⟨z, hz⟩ : ∃ z, z = F.val F.low a + F.val F.low b := ⟨_, rfl⟩
  rw [← hz]
  by_cases h0 : z = 0
  · rw [h0, (val_zero_iff ok _).2 (add_zero' ok fa fb (by rw [← hz, h0]))]
    exact ⟨Int.dvd_zero _, by simp [qe, bl_zero], by simp [qe, bl_zero]⟩
  · obtain ⟨s, hs⟩ : ∃ s : Bool, z = if s then -(z.natAbs : Int) else (z.natAbs : Int) := by
      rcases Int.lt_trichotomy z 0 with h | h | h
      · exact ⟨true, by simp; omega⟩
      · exact absurd h h0
      · exact ⟨false, by simp; omega⟩
    have hX : z.natAbs ≠ 0 := by omega
    have e := add_pos ok fa fb hX (by rw [← hz]; exact hs)
    obtain ⟨n1, n2⟩ := near_into ok s z.natAbs hX (top_of_fin ok s _ hX (by rw [← e]; exact fr))
    rw [← e] at n1 n2
    have ev : F.val F.low (addR F a b) = if s then -(F.un (addR F a b) : Int) else (F.un (addR F a b) : Int) := by
      unfold Fm.val; rw [n2]; rfl
    obtain ⟨d1, d2, d3⟩ := n1
    have d1' : ((2 ^ (bl z.natAbs - F.p) : Nat) : Int) ∣ (F.un (addR F a b) : Int) := Int.natCast_dvd_natCast.2 d1
    generalize F.un (addR F a b) = r at *
    unfold NearI qe
    rw [ev, ← i2_cast]
    generalize 2 ^ (bl z.natAbs - F.p) = Q at *
    cases s
    · simp only [Bool.false_eq_true, if_false] at hs ⊢
      exact ⟨d1', by omega, by omega⟩
    · simp only [if_true] at hs ⊢
      exact ⟨Int.dvd_neg.2 d1', by omega, by omega⟩

theorem nearI_sub (ok : F.Ok) {a b : Nat} (fa : finP F a = true) (fb : finP F b = true) (fr : finP F (subR F a b) = true) : NearI F.p (F.val F.low a - F.val F.low b) (F.val F.low (subR F a b)) := by
  have := nearI_add ok fa (fin_flip' fb) fr
  rw [val_flip, ← Int.sub_eq_add_neg] at this
  exact this

/-- TwoSum: sum and rest are together just the exact sum -/
theorem sum_exact (ok : F.Ok) {a b : Nat} (fa : finP F a = true) (fb : finP F b = true) (h : (sumL F a b).all (finP F) = true) : F.val F.low (addR F a b) + F.val F.low (sR F a b) = F.val F.low a + F.val F.low b := by
  have hp : 1 ≤ F.p := by have := ok.p8; omega
  unfold sumL at h
  simp only [List.all_cons, List.all_nil, Bool.and_true, Bool.and_eq_true] at h
  obtain ⟨f1, f2, f3, f4, f5, f6⟩ := h
  exact twoSum' hp (val_fl ok a) (val_fl ok b) (nearI_add ok fa fb f1) (nearI_sub ok f1 fa f2) (nearI_sub ok f1 f2 f3) (nearI_sub ok fb f2 f4) (nearI_sub ok fa f3 f5) (nearI_add ok f5 f4 f6)

theorem un_le (ok : F.Ok) {a b : Nat} (h : F.abs b ≤ F.abs a) : F.un b ≤ F.un a := vl_le F (by have := ok.p8; omega) F.low (Int.le_refl _) h

/-- FastTwoSum -/
theorem fast_exact' (ok : F.Ok) {a b : Nat} (fa : finP F a = true) (fb : finP F b = true) (hl : F.abs b ≤ F.abs a) (h : (fastL F a b).all (finP F) = true) : F.val F.low (addR F a b) + F.val F.low (qR F a b) = F.val F.low a + F.val F.low b := by
  have hp : 1 ≤ F.p := by have := ok.p8; omega
  unfold fastL at h
  simp only [List.all_cons, List.all_nil, Bool.and_true, Bool.and_eq_true] at h
  obtain ⟨f1, f2, f3⟩ := h
  have hu := un_le ok hl
  rw [← val_abs, ← val_abs] at hu
  exact fastSum hp (val_fl ok a) (val_fl ok b) (by omega) (by omega) (nearI_add ok fa fb f1) (nearI_sub ok f1 fa f2) (nearI_sub ok fb f2 f3)

/-- adding the rest changes nothing -/
theorem light_ok (ok : F.Ok) {a b s r : Nat} (fa : finP F a = true) (fb : finP F b = true) (fs : finP F s = true) (fr : finP F r = true) (hs : s = addR F a b) (h : F.val F.low s + F.val F.low r = F.val F.low a + F.val F.low b) :
    addR F s r = s ∨ (F.abs s = 0 ∧ F.abs (addR F s r) = 0) := by
  by_cases hz : F.val F.low a + F.val F.low b = 0
  · right
    exact ⟨by rw [hs]; exact add_zero' ok fa fb hz, add_zero' ok fs fr (by rw [h]; exact hz)⟩
  · left
    have hs' : s = (addS F 0 a b).1 := hs
    rw [addS_fin ok (of_decide_eq_true fa) (of_decide_eq_true fb), if_neg hz] at hs'
    show (addS F 0 s r).1 = s
    rw [addS_fin ok (of_decide_eq_true fs) (of_decide_eq_true fr), h, if_neg hz]
    exact hs'.symm

theorem un_lt (ok : F.Ok) {a k : Nat} (hk : 2200 ≤ k) (fa : finP F a = true) : F.un a < 2 ^ k := by
  have hp : 1 ≤ F.p := by have := ok.p8; omega
  have h := vl_lt F hp F.low (Int.le_refl _) (of_decide_eq_true fa)
  rw [vl_inf F ok F.low (Int.le_refl _)] at h
  have := low_ge ok
  have := ok.b1023
  exact Nat.lt_of_lt_of_le h (Nat.pow_le_pow_right (by decide) (by omega))

/-- the exact sum of two values is answered -/
theorem add_vals (ok : F.Ok) {a b : Nat} (fa : finP F a = true) (fb : finP F b = true) : ∃ d, addD (nd 64 (valD F a).n) (valD F a) (nd 64 (valD F b).n) (valD F b) = (d, 0) ∧ cmpD (nd 64 d.n) d (nd 64 d.n) d = (0, 0) ∧
    ∀ s r, finP F s = true → finP F r = true → F.val F.low s + F.val F.low r = F.val F.low a + F.val F.low b → addD (nd 64 (valD F s).n) (valD F s) (nd 64 (valD F r).n) (valD F r) = (d, 0) := by
  obtain ⟨a1, a2, a3, a4⟩ := valD_facts ok (of_decide_eq_true fa)
  obtain ⟨b1, b2, b3, b4⟩ := valD_facts ok (of_decide_eq_true fb)
  have hl := low_ge ok
  obtain ⟨z, hz⟩ : ∃ z, z = F.val F.low a + F.val F.low b := ⟨_, rfl⟩
  obtain ⟨c, hc⟩ : ∃ c : D, c = ⟨decide (z < 0), z.natAbs, F.low⟩ := ⟨_, rfl⟩
  have hce : c.e = F.low := by rw [hc]
  obtain ⟨k, hk⟩ : ∃ k : Nat, k = 2200 := ⟨_, rfl⟩
  have hcn : c.n < 2 ^ (k + 1) := by
    have u1 := un_lt ok (k := k) (by omega) fa
    have u2 := un_lt ok (k := k) (by omega) fb
    rw [← val_abs] at u1 u2
    have e : (2 : Nat) ^ (k + 1) = 2 ^ k * 2 := Nat.pow_succ 2 k
    rw [hc]
    show z.natAbs < _
    rw [e]
    generalize 2 ^ k = B at *
    omega
  have hci : c.i F.low = z := by
    rw [hc]
    unfold D.i
    simp only [Int.sub_self, Int.toNat_zero, Int.pow_zero, Int.mul_one]
    by_cases h : z < 0
    · rw [decide_eq_true h]; simp; omega
    · rw [decide_eq_false h]; simp; omega
  have hall : ∀ s r, finP F s = true → finP F r = true → F.val F.low s + F.val F.low r = z → addD (nd 64 (valD F s).n) (valD F s) (nd 64 (valD F r).n) (valD F r) = ansD c := by
    intro s r fs fr h
    obtain ⟨s1, s2, s3, s4⟩ := valD_facts ok (of_decide_eq_true fs)
    obtain ⟨r1, r2, r3, r4⟩ := valD_facts ok (of_decide_eq_true fr)
    obtain ⟨d, hd, hL, hi⟩ := addD_ans (-40000) (Int.le_refl _) s1 r1
    rw [hd]
    refine ansD_eq (-40000) hL (by rw [hce]; omega) (by decide) ?_
    rw [hi, s3 _ (Int.le_refl _), r3 _ (Int.le_refl _), val_deep s _ (by omega), val_deep r _ (by omega), ← Int.add_mul, h, ← hci]
    exact (i_scale c (-40000) F.low (by omega) (by rw [hce]; exact Int.le_refl _)).symm
  have hans : ansD c = (oddD c, 0) := by
    have h1 : (oddD c).n < 2 ^ (k + 1) := Nat.lt_of_le_of_lt (odd_le c) hcn
    have h3 := oddD_low c F.low (by rw [hce]; exact Int.le_refl _) hl.2
    have h4 : (oddD c).e ≤ 40000 := by
      have := oddD_e c (k + 1) hcn (-40000) 40000 (by rw [hce]; omega) (by rw [hce]; omega) (by omega) (by omega)
      omega
    unfold ansD
    obtain ⟨m, hm⟩ : ∃ m : Nat, m = 36 := ⟨_, rfl⟩
    have h5 := nd_le 64 (oddD c).n m (by decide) (Nat.lt_of_lt_of_le h1 (Nat.pow_le_pow_right (by decide) (by omega)))
    rw [if_neg (by omega), if_neg (by omega)]
  have hres := ansD_res c F.low (by rw [hce]; exact Int.le_refl _)
  rw [hans] at hres
  obtain ⟨-, r1, r2, r3, -⟩ := hres rfl
  have r1 : nd 64 (oddD c).n ≤ 1024 := r1
  have r2 : -40000 ≤ (oddD c).e := r2
  have r3 : (oddD c).e ≤ 40000 := r3
  have href : refD (nd 64 (oddD c).n) (oddD c).e = 0 := by
    unfold refD
    rw [if_neg (by omega), if_neg (by omega)]
  refine ⟨oddD c, by rw [hall a b fa fb hz.symm, hans], ?_, fun s r fs fr h => by rw [hall s r fs fr (by rw [h, hz]), hans]⟩
  rw [cmpD_val _ _ _ _ (-40000) (Int.le_refl _) href href, Int.sub_self]
  rfl
end

/-- an answer that is right -/
def Good (n a b : Nat) (d : D) (s r : Nat) : Prop := s = addR (fm n) a b ∧ s < 2 ^ (fm n).w ∧ r < 2 ^ (fm n).w ∧ finP (fm n) s = true ∧ finP (fm n) r = true ∧
  addD (nd 64 (valA n s).n) (valA n s) (nd 64 (valA n r).n) (valA n r) = (d, 0) ∧ (addR (fm n) s r = s ∨ ((fm n).abs s = 0 ∧ (fm n).abs (addR (fm n) s r) = 0))

theorem sum_lts {n a b : Nat} (la : a < 2 ^ (fm n).w) (lb : b < 2 ^ (fm n).w) : addR (fm n) a b < 2 ^ (fm n).w ∧ sR (fm n) a b < 2 ^ (fm n).w ∧ qR (fm n) a b < 2 ^ (fm n).w := by
  have ok := fm_ok n
  have h1 := addR_lt ok la lb
  have h2 : sT (fm n) a b < 2 ^ (fm n).w := subR_lt ok h1 la
  have h3 : sU (fm n) a b < 2 ^ (fm n).w := subR_lt ok h1 h2
  exact ⟨h1, addR_lt ok (subR_lt ok la h3) (subR_lt ok lb h2), subR_lt ok lb h2⟩

theorem addR_comm {F : Fm} (ok : F.Ok) {a b : Nat} (fa : finP F a = true) (fb : finP F b = true) : addR F a b = addR F b a := by
  unfold addR
  rw [addS_fin ok (of_decide_eq_true fa) (of_decide_eq_true fb), addS_fin ok (of_decide_eq_true fb) (of_decide_eq_true fa), Int.add_comm]
  split
  · show F.sg _ = F.sg _
    congr 1
    cases F.isZero a <;> cases F.isZero b <;> cases F.neg a <;> cases F.neg b <;> rfl
  · rfl

/-- what the law of sums asks -/
theorem sums_law {n a b : Nat} (hn4 : n < 4) (la : a < 2 ^ (fm n).w) (lb : b < 2 ^ (fm n).w) :
    ((finP (fm n) a && finP (fm n) b) = false ∧ sumE n a b = (0, 0, 40) ∧ fastE n a b = (0, 0, 40)) ∨
    (finP (fm n) a = true ∧ finP (fm n) b = true ∧ ∃ d, addD (nd 64 (valA n a).n) (valA n a) (nd 64 (valA n b).n) (valA n b) = (d, 0) ∧ cmpD (nd 64 d.n) d (nd 64 d.n) d = (0, 0) ∧
      (sumE n a b = (0, 0, 7) ∨ ∃ s r, sumE n a b = (s, r, 0) ∧ Good n a b d s r) ∧ (sumE n b a = (0, 0, 7) ∨ ∃ s r, sumE n b a = (s, r, 0) ∧ Good n a b d s r) ∧ (fastE n a b = (0, 0, 7) ∨ ∃ s r, fastE n a b = (s, r, 0) ∧ Good n a b d s r)) := by
  have ok := fm_ok n
  have key : ∀ {x y}, x < 2 ^ (fm n).w → y < 2 ^ (fm n).w → knownE n [x, y] = if (finP (fm n) x && finP (fm n) y) = true then 0 else 40 := by
    intro x y lx ly
    unfold knownE
    rw [if_pos (by simp only [List.all_cons, List.all_nil, Bool.and_true, Bool.and_eq_true, decide_eq_true_eq]; exact ⟨lx, ly⟩)]
    simp only [List.all_cons, List.all_nil, Bool.and_true]
  cases hf : (finP (fm n) a && finP (fm n) b)
  · left
    have ek := key la lb
    rw [hf] at ek
    refine ⟨rfl, ?_, ?_⟩
    · unfold sumE; rw [ek]; rfl
    · unfold fastE; rw [ek]; rfl
  right
  rw [Bool.and_eq_true] at hf
  obtain ⟨fa, fb⟩ := hf
  have ek : knownE n [a, b] = 0 := by rw [key la lb, fa, fb]; rfl
  have ek' : knownE n [b, a] = 0 := by rw [key lb la, fa, fb]; rfl
  obtain ⟨d, hd, hc, hall⟩ := add_vals ok fa fb
  have e1 : valA n a = valD (fm n) a := valA_fin hn4 la (of_decide_eq_true fa)
  have e2 : valA n b = valD (fm n) b := valA_fin hn4 lb (of_decide_eq_true fb)
  have good : ∀ s r, s = addR (fm n) a b → s < 2 ^ (fm n).w → r < 2 ^ (fm n).w → finP (fm n) s = true → finP (fm n) r = true → (fm n).val (fm n).low s + (fm n).val (fm n).low r = (fm n).val (fm n).low a + (fm n).val (fm n).low b → Good n a b d s r := by
    intro s r hs ls lr fs fr h
    refine ⟨hs, ls, lr, fs, fr, ?_, light_ok ok fa fb fs fr hs h⟩
    rw [valA_fin hn4 ls (of_decide_eq_true fs), valA_fin hn4 lr (of_decide_eq_true fr)]
    exact hall s r fs fr h
  obtain ⟨l1, l2, l3⟩ := sum_lts la lb
  obtain ⟨m1, m2, m3⟩ := sum_lts lb la
  refine ⟨fa, fb, d, by rw [e1, e2]; exact hd, hc, ?_, ?_, ?_⟩
  · unfold sumE
    rw [ek, if_neg (by decide)]
    cases h : (sumL (fm n) a b).all (finP (fm n))
    · left; rfl
    · right
      have h' := h
      unfold sumL at h'
      simp only [List.all_cons, List.all_nil, Bool.and_true, Bool.and_eq_true] at h'
      exact ⟨_, _, rfl, good _ _ rfl l1 l2 h'.1 h'.2.2.2.2.2 (sum_exact ok fa fb h)⟩
  · unfold sumE
    rw [ek', if_neg (by decide)]
    cases h : (sumL (fm n) b a).all (finP (fm n))
    · left; rfl
    · right
      have h' := h
      unfold sumL at h'
      simp only [List.all_cons, List.all_nil, Bool.and_true, Bool.and_eq_true] at h'
      exact ⟨_, _, rfl, good _ _ (addR_comm ok fb fa) m1 m2 h'.1 h'.2.2.2.2.2 (by rw [sum_exact ok fb fa h, Int.add_comm])⟩
  · unfold fastE
    rw [ek, if_neg (by decide)]
    by_cases hlt : (fm n).abs a < (fm n).abs b
    · left; rw [if_pos hlt]
    · rw [if_neg hlt]
      cases h : (fastL (fm n) a b).all (finP (fm n))
      · left; rfl
      · right
        have h' := h
        unfold fastL at h'
        simp only [List.all_cons, List.all_nil, Bool.and_true, Bool.and_eq_true] at h'
        exact ⟨_, _, rfl, good _ _ rfl l1 l3 h'.1 h'.2.2 (fast_exact' ok fa fb (by omega) h)⟩

end Go.Proofs.YtlibhfojfonfjaaGreatDoor
