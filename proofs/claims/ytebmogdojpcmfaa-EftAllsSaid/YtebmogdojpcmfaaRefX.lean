/- vernierref09's terms, as plain numbers: they are oneZ and prodZ. -/
import Derived.Test.YtebmogdojpcmfaaRefS
import Derived.Test.YtebmogdojpcmfaaRefO
namespace Go.Proofs.Ytebmogdojpcmfaa
set_option linter.unusedVariables false
set_option linter.unusedSimpArgs false

/-- a float taken apart by the reference -/
structure Fl where
  nan : Bool
  sig : Bool
  inf : Bool
  neg : Bool
  d : D

def openF (F : Fm) (a : Nat) : Fl := ⟨F.isNan a, F.isSig a, F.isInf a, F.neg a, opD F a⟩
def Fl.zero (x : Fl) : Bool := !x.nan && !x.inf && decide (x.d.n = 0)
def oppD (d : D) : D := ⟨!d.s, d.n, d.e⟩
def Fl.turn (x : Fl) (t : Bool) : Fl := if t then { x with neg := !x.neg, d := oppD x.d } else x
def oneT (x : Fl) : Tm := ⟨false, x.nan, x.sig, x.inf, x.neg, x.d⟩
def prodT (x y : Fl) : Tm :=
  if (x.inf && y.zero) || (x.zero && y.inf) then ⟨true, x.nan || y.nan, x.sig || y.sig, false, x.neg != y.neg, ⟨false, 0, 0⟩⟩
  else if x.nan || y.nan then ⟨false, x.nan || y.nan, x.sig || y.sig, false, x.neg != y.neg, ⟨false, 0, 0⟩⟩
  else if x.inf || y.inf then ⟨false, x.nan || y.nan, x.sig || y.sig, true, x.neg != y.neg, ⟨false, 0, 0⟩⟩
  else ⟨false, x.nan || y.nan, x.sig || y.sig, false, x.neg != y.neg, ⟨x.neg != y.neg, x.d.n * y.d.n, x.d.e + y.d.e⟩⟩

theorem fuse_congr {F : Fm} (m : Nat) {x x' y y' : Qt} (h1 : x.inv = x'.inv) (h2 : x.inv = false → x = x') (h3 : y.inv = y'.inv) (h4 : y.inv = false → y = y') : fuseZ F m x y = fuseZ F m x' y' := by
  cases hx : x.inv
  · rw [h2 hx]
    cases hy : y.inv
    · rw [h4 hy]
    · have hy' : y'.inv = true := by rw [← h3]; exact hy
      unfold fuseZ; simp [hy, hy']
  · have hx' : x'.inv = true := by rw [← h1]; exact hx
    unfold fuseZ; simp [hx, hx']

section
variable {F : Fm}

theorem opp_i (d : D) (L : Int) : (oppD d).i L = -d.i L := by
  unfold oppD D.i
  cases d.s <;> simp [Int.neg_mul]

theorem opD_fin {a : Nat} (h : F.abs a < F.inf) : opD F a = ⟨F.neg a, F.mag a, F.ex a⟩ := by unfold opD; rw [if_pos h]
theorem opD_inf {a : Nat} (h : ¬ F.abs a < F.inf) : opD F a = ⟨false, 0, 0⟩ := by unfold opD; rw [if_neg h]

theorem opD_i (ok : F.Ok) (a : Nat) (L : Int) : (opD F a).i L = if F.isNan a || F.isInf a then 0 else F.val L a := by
  by_cases h : F.abs a < F.inf
  · have na : F.isNan a = false := by unfold Fm.isNan; simp; omega
    have ia : F.isInf a = false := by unfold Fm.isInf; simp; omega
    rw [opD_fin h, na, ia]
    simp [val_i]
  · have h2 : (F.isNan a || F.isInf a) = true := by
      unfold Fm.isNan Fm.isInf
      simp only [Bool.or_eq_true, decide_eq_true_eq]; omega
    rw [opD_inf h, h2]
    unfold D.i; simp

theorem openF_zero (ok : F.Ok) (a : Nat) : (openF F a).zero = F.isZero a := by
  have hp : 1 ≤ F.p := by have := ok.p8; omega
  unfold Fl.zero openF
  by_cases h : F.abs a < F.inf
  · have na : F.isNan a = false := by unfold Fm.isNan; simp; omega
    have ia : F.isInf a = false := by unfold Fm.isInf; simp; omega
    simp only [na, ia, opD_fin h, Bool.not_false, Bool.true_and]
    cases hz : F.isZero a
    · exact decide_eq_false (mag_ne hp hz)
    · refine decide_eq_true ?_
      unfold Fm.isZero at hz
      rw [decide_eq_true_eq] at hz
      unfold Fm.mag; rw [hz]; unfold Fm.sig; simp
  · have hi := (inf_eq F ok).1
    have hpp := pow_pos2 F.p
    have h3 : F.isZero a = false := by unfold Fm.isZero; simp; omega
    rw [h3]
    by_cases h4 : F.abs a = F.inf
    · have ia : F.isInf a = true := by unfold Fm.isInf; simp [h4]
      simp [ia]
    · have na : F.isNan a = true := by unfold Fm.isNan; simp; omega
      simp [na]

theorem turn_zero (x : Fl) (t : Bool) : (x.turn t).zero = x.zero := by unfold Fl.turn; cases t <;> rfl

theorem one_q (ok : F.Ok) (a : Nat) (t : Bool) : (oneT ((openF F a).turn t)).q = if t then (oneZ F a).opp else oneZ F a := by
  have h := opD_i ok a (-5000)
  unfold oneT Tm.q Fl.turn openF oneZ Qt.opp
  cases t
  · simp [h]
  · simp [h, opp_i]

theorem mul_i {s t : Bool} {n k : Nat} {e g : Int} (h1 : -2500 ≤ e) (h2 : -2500 ≤ g) : D.i (-5000) ⟨s != t, n * k, e + g⟩ = D.i (-2500) ⟨s, n, e⟩ * D.i (-2500) ⟨t, k, g⟩ := by
  unfold D.i
  have e1 : (e + g - (-5000)).toNat = (e - (-2500)).toNat + (g - (-2500)).toNat := by omega
  simp only
  rw [e1, Int.pow_add]
  generalize (2 : Int) ^ (e - -2500).toNat = A
  generalize (2 : Int) ^ (g - -2500).toNat = B
  cases s <;> cases t <;> simp <;> grind

theorem opD_lo (ok : F.Ok) (a : Nat) : -2500 ≤ (opD F a).e ∧ (opD F a).e ≤ 1100 ∧ (opD F a).n < 2 ^ 53 := by
  by_cases h : F.abs a < F.inf
  · rw [opD_fin h]
    have := fin_bounds ok a
    exact ⟨by show -2500 ≤ F.ex a; omega, this.2.1, this.2.2⟩
  · rw [opD_inf h]; exact ⟨by decide, by decide, by decide⟩

theorem opD_s {a : Nat} (h : F.isNan a = false) (h2 : F.isInf a = false) : (opD F a).s = F.neg a := by
  rw [opD_fin (fin_of h h2)]

theorem inf_nan {a : Nat} (h : F.isInf a = true) : F.isNan a = false := by
  unfold Fm.isInf at h; unfold Fm.isNan
  rw [decide_eq_true_eq] at h; simp; omega

theorem prod_q (ok : F.Ok) (a b : Nat) (t : Bool) : (prodT ((openF F a).turn t) (openF F b)).q.inv = (if t then (prodZ F a b).opp else prodZ F a b).inv ∧
    ((prodT ((openF F a).turn t) (openF F b)).q.inv = false → (prodT ((openF F a).turn t) (openF F b)).q = if t then (prodZ F a b).opp else prodZ F a b) := by
  have hti : ((openF F a).turn t).inf = F.isInf a := by unfold Fl.turn; cases t <;> rfl
  have htn : ((openF F a).turn t).nan = F.isNan a := by unfold Fl.turn; cases t <;> rfl
  have hts : ((openF F a).turn t).sig = F.isSig a := by unfold Fl.turn; cases t <;> rfl
  have htg : ((openF F a).turn t).neg = (F.neg a != t) := by unfold Fl.turn openF; cases t <;> simp
  have htz : ((openF F a).turn t).zero = F.isZero a := by rw [turn_zero, openF_zero ok]
  have htdn : ((openF F a).turn t).d.n = (opD F a).n := by unfold Fl.turn; cases t <;> rfl
  have htde : ((openF F a).turn t).d.e = (opD F a).e := by unfold Fl.turn; cases t <;> rfl
  unfold prodT
  rw [hti, htn, hts, htg, htz, htdn, htde, openF_zero ok]
  have hbi : (openF F b).inf = F.isInf b := rfl
  have hbn : (openF F b).nan = F.isNan b := rfl
  have hbs : (openF F b).sig = F.isSig b := rfl
  have hbg : (openF F b).neg = F.neg b := rfl
  have hbd : (openF F b).d = opD F b := rfl
  rw [hbi, hbn, hbs, hbg, hbd]
  have ia := fun h => inf_nan (F := F) (a := a) h
  have ib := fun h => inf_nan (F := F) (a := b) h
  have za := fun h : F.isInf a = true => (inf_not_zero ok h).1
  have zb := fun h : F.isInf b = true => (inf_not_zero ok h).1
  have zna : F.isZero a = true → F.isNan a = false := by
    intro h; unfold Fm.isZero at h; unfold Fm.isNan
    rw [decide_eq_true_eq] at h; simp; omega
  have znb : F.isZero b = true → F.isNan b = false := by
    intro h; unfold Fm.isZero at h; unfold Fm.isNan
    rw [decide_eq_true_eq] at h; simp; omega
  have hmul := fun (h1 : F.isNan a = false) (h2 : F.isInf a = false) (h3 : F.isNan b = false) (h4 : F.isInf b = false) => mul_i (s := F.neg a) (t := F.neg b) (n := (opD F a).n) (k := (opD F b).n) (opD_lo ok a).1 (opD_lo ok b).1
  have hva := opD_i ok a (-2500)
  have hvb := opD_i ok b (-2500)
  have key : F.isNan a = false → F.isInf a = false → F.isNan b = false → F.isInf b = false → D.i (-5000) ⟨(F.neg a != t) != F.neg b, (opD F a).n * (opD F b).n, (opD F a).e + (opD F b).e⟩ = (if t then -(F.val (-2500) a * F.val (-2500) b) else F.val (-2500) a * F.val (-2500) b) := by
    intro h1 h2 h3 h4
    have e1 : (opD F a) = ⟨F.neg a, (opD F a).n, (opD F a).e⟩ := by rw [← opD_s h1 h2]
    have e2 : (opD F b) = ⟨F.neg b, (opD F b).n, (opD F b).e⟩ := by rw [← opD_s h3 h4]
    rw [h1, h2] at hva
    rw [h3, h4] at hvb
    simp only [Bool.or_self, Bool.false_eq_true, if_false] at hva hvb
    have h5 := hmul h1 h2 h3 h4
    rw [← e1, ← e2, hva, hvb] at h5
    cases t
    · simp only [Bool.bne_false, Bool.false_eq_true, if_false]; exact h5
    · simp only [if_true]
      rw [← h5, ← opp_i]
      unfold oppD
      congr 1
      cases F.neg a <;> cases F.neg b <;> rfl
  have iz : D.i (-5000) ⟨false, 0, 0⟩ = 0 := i_zero rfl
  unfold prodZ Tm.q Qt.opp
  cases nA : F.isNan a <;> cases nB : F.isNan b <;> cases iA : F.isInf a <;> cases iB : F.isInf b <;> cases zA : F.isZero a <;> cases zB : F.isZero b <;> simp_all
  all_goals (cases t <;> cases gA : F.neg a <;> cases gB : F.neg b <;> simp_all)
end
end Go.Proofs.Ytebmogdojpcmfaa
