/- The machine's sums, differences and products of finite numbers: rounded to the nearest. -/
import Derived.Test.YtlibhfojfonfjaaGreatDoorMach
import Derived.Test.YtlibhfojfonfjaaGreatDoorPackU
namespace Go.Proofs.YtlibhfojfonfjaaGreatDoor
set_option linter.unusedVariables false
set_option linter.unusedSimpArgs false

section
variable {f : Ieee.Format} {F : Fm}

theorem read_num (h : Same f F) (ok : F.Ok) {a : Nat} (ha : a < 2 ^ F.w) (fa : F.abs a < F.inf) : f.read a = .number (F.neg a) (F.mag a) (F.ex a) := by
  rw [read_eq h ok ha]
  have h1 : F.isNan a = false := by unfold Fm.isNan; simpa using Nat.le_of_lt fa
  have h2 : F.isInf a = false := by unfold Fm.isInf; simp; omega
  rw [h1, h2]; rfl

theorem fin_abs {k : FloatKind} {a : Nat} (ha : a < 2 ^ k.format.width) : finB k a = decide ((fm (kindOf k)).abs a < (fm (kindOf k)).inf) := by
  have hs := same_of k
  have ok : (fm (kindOf k)).Ok := fm_ok _
  rw [hs.width] at ha
  unfold finB
  rw [read_eq hs ok ha]
  unfold Fm.isNan Fm.isInf
  generalize (fm (kindOf k)).abs a = x
  generalize (fm (kindOf k)).inf = i
  by_cases h1 : i < x
  · rw [if_pos (by simpa using h1)]; simp; omega
  · rw [if_neg (by simpa using h1)]
    by_cases h2 : x = i
    · rw [if_pos (by simpa using h2)]; simp; omega
    · rw [if_neg (by simpa using h2)]; simp; omega

theorem signed_i (s : Bool) (n : Nat) (e M : Int) : Ieee.signed s n (e - M).toNat = D.i M ⟨s, n, e⟩ := by
  unfold Ieee.signed D.i
  rw [Nat.shiftLeft_eq]
  cases s <;> simp [Int.neg_mul]

theorem sum_nums (h : Same f F) (ok : F.Ok) (s t : Bool) (n k : Nat) (e g : Int) (he : F.low ≤ e) (hg : F.low ≤ g) :
    f.write (Ieee.Datum.number (if D.i (min e g) ⟨s, n, e⟩ + D.i (min e g) ⟨t, k, g⟩ = 0 then s && t else decide (D.i (min e g) ⟨s, n, e⟩ + D.i (min e g) ⟨t, k, g⟩ < 0)) (D.i (min e g) ⟨s, n, e⟩ + D.i (min e g) ⟨t, k, g⟩).natAbs (min e g)) =
      if D.i F.low ⟨s, n, e⟩ + D.i F.low ⟨t, k, g⟩ = 0 then F.sg (s && t) else (rndZ F 0 (D.i F.low ⟨s, n, e⟩ + D.i F.low ⟨t, k, g⟩) F.low).1 := by
  obtain ⟨M, hM⟩ : ∃ M, M = min e g := ⟨_, rfl⟩
  rw [← hM]
  have h1 : F.low ≤ M := by omega
  rw [i_scale ⟨s, n, e⟩ F.low M h1 (show M ≤ e by omega), i_scale ⟨t, k, g⟩ F.low M h1 (show M ≤ g by omega), ← Int.add_mul]
  generalize D.i M ⟨s, n, e⟩ + D.i M ⟨t, k, g⟩ = z
  have hp := ipow_pos (M - F.low).toNat
  unfold Ieee.Format.write
  by_cases hz : z = 0
  · subst hz
    rw [Int.zero_mul, if_pos rfl, if_pos rfl]
    show f.nearest (s && t) 0 M = _
    unfold Ieee.Format.nearest
    rw [if_pos rfl, h.word, Nat.zero_add]
  · rw [if_neg hz, if_neg (Int.mul_ne_zero hz (by omega)), rndZ_scale 0 z M F.low hz h1]
    show f.nearest (decide (z < 0)) z.natAbs M = _
    rw [nearest_eq h ok _ _ _ (by omega)]
    rfl

theorem addS_fin (ok : F.Ok) {a b : Nat} (fa : F.abs a < F.inf) (fb : F.abs b < F.inf) (m : Nat) :
    addS F m a b = if F.val F.low a + F.val F.low b = 0 then (F.sg (if F.isZero a && F.isZero b && F.neg a == F.neg b then F.neg a else m == 4), 0) else rndZ F m (F.val F.low a + F.val F.low b) F.low := by
  have h1 : ∀ x, F.abs x < F.inf → F.isNan x = false ∧ F.isInf x = false := by
    intro x h
    unfold Fm.isNan Fm.isInf
    constructor
    · simpa using Nat.le_of_lt h
    · simp; omega
  obtain ⟨a1, a2⟩ := h1 a fa
  obtain ⟨b1, b2⟩ := h1 b fb
  unfold addS
  rw [sig_nan a1, sig_nan b1, a1, a2, b1, b2]
  rfl

theorem add_nums (h : Same f F) (ok : F.Ok) {a b : Nat} (ha : a < 2 ^ F.w) (hb : b < 2 ^ F.w) (fa : F.abs a < F.inf) (fb : F.abs b < F.inf) : f.add a b = some (addS F 0 a b).1 := by
  unfold Ieee.Format.add
  rw [read_num h ok ha fa, read_num h ok hb fb]
  simp only [Ieee.Datum.sum, Option.map_some, signed_i]
  rw [sum_nums h ok _ _ _ _ (F.ex a) (F.ex b) (low_xp _) (low_xp _), addS_fin ok fa fb]
  congr 1
  rw [← val_i, ← val_i]
  by_cases hz : F.val F.low a + F.val F.low b = 0
  · rw [if_pos hz, if_pos hz]
    show F.sg _ = F.sg _
    congr 1
    have za : F.isZero a = decide (F.val F.low a = 0) := by unfold Fm.isZero; congr 1; exact propext (val_zero_iff ok _).symm
    have zb : F.isZero b = decide (F.val F.low b = 0) := by unfold Fm.isZero; congr 1; exact propext (val_zero_iff ok _).symm
    rw [za, zb]
    have na : F.neg a = true → F.val F.low a ≤ 0 := by intro e; unfold Fm.val; rw [e, if_pos rfl]; omega
    have nb : F.neg b = true → F.val F.low b ≤ 0 := by intro e; unfold Fm.val; rw [e, if_pos rfl]; omega
    generalize F.val F.low a = x at *
    generalize F.val F.low b = y at *
    cases ea : F.neg a <;> cases eb : F.neg b <;> simp_all
    omega
  · rw [if_neg hz, if_neg hz]

theorem fin_flip {b : Nat} (fb : F.abs b < F.inf) : F.abs (F.flip b) < F.inf := by rw [abs_flip]; exact fb

theorem sub_nums (h : Same f F) (ok : F.Ok) {a b : Nat} (ha : a < 2 ^ F.w) (hb : b < 2 ^ F.w) (fa : F.abs a < F.inf) (fb : F.abs b < F.inf) : f.sub a b = some (addS F 0 a (F.flip b)).1 := by
  rw [← add_nums h ok ha (flip_lt ok b) fa (fin_flip fb)]
  unfold Ieee.Format.sub Ieee.Format.add
  rw [read_num h ok hb fb, read_num h ok (flip_lt ok b) (fin_flip fb), neg_flip, mag_flip, ex_flip]
  rfl

theorem mul_nums (h : Same f F) (ok : F.Ok) {a b : Nat} (ha : a < 2 ^ F.w) (hb : b < 2 ^ F.w) (fa : F.abs a < F.inf) (fb : F.abs b < F.inf) : f.mul a b = some (mulS F 0 a b).1 := by
  have hm := mul_eq h ok ha hb
  have e : f.mul a b = some (f.write (.number (F.neg a ^^ F.neg b) (F.mag a * F.mag b) (F.ex a + F.ex b))) := by
    unfold Ieee.Format.mul
    rw [read_num h ok ha fa, read_num h ok hb fb]
    rfl
  rw [e] at hm ⊢
  rw [hm.1]

end

section
variable {k : FloatKind} {a b r : Nat}

theorem fop_add (ha : a < 2 ^ k.format.width) (hb : b < 2 ^ k.format.width) (fa : finB k a = true) (fb : finB k b = true) (h : FOp .add k a b r) : r = (addS (fm (kindOf k)) 0 a b).1 := by
  have hs := same_of k
  rw [fin_abs ha] at fa
  rw [fin_abs hb] at fb
  rw [hs.width] at ha hb
  exact h.some (add_nums hs (fm_ok _) ha hb (of_decide_eq_true fa) (of_decide_eq_true fb))

theorem fop_sub (ha : a < 2 ^ k.format.width) (hb : b < 2 ^ k.format.width) (fa : finB k a = true) (fb : finB k b = true) (h : FOp .sub k a b r) : r = (addS (fm (kindOf k)) 0 a ((fm (kindOf k)).flip b)).1 := by
  have hs := same_of k
  rw [fin_abs ha] at fa
  rw [fin_abs hb] at fb
  rw [hs.width] at ha hb
  exact h.some (sub_nums hs (fm_ok _) ha hb (of_decide_eq_true fa) (of_decide_eq_true fb))

theorem fop_mul (ha : a < 2 ^ k.format.width) (hb : b < 2 ^ k.format.width) (fa : finB k a = true) (fb : finB k b = true) (h : FOp .mul k a b r) : r = (mulS (fm (kindOf k)) 0 a b).1 := by
  have hs := same_of k
  rw [fin_abs ha] at fa
  rw [fin_abs hb] at fb
  rw [hs.width] at ha hb
  exact h.some (mul_nums hs (fm_ok _) ha hb (of_decide_eq_true fa) (of_decide_eq_true fb))

end
end Go.Proofs.YtlibhfojfonfjaaGreatDoor
