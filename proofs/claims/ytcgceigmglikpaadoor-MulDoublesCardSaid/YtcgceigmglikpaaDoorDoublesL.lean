/- MulDoubles, as plain numbers. -/
import Derived.Test.YtcgceigmglikpaaDoorAddD
import Derived.Test.YtcgceigmglikpaaDoorTurns
namespace Go.Proofs.YtcgceigmglikpaaDoor
set_option linter.unusedVariables false
open Go.RowKit

theorem two_lt_w {F : Fm} (ok : F.Ok) : F.one < 2 ^ F.w ∧ F.two < 2 ^ F.w := by
  have h1 := (one_ok ok).2.2.2.2.2
  have h1' := (two_ok ok).2.2.2.2.2
  have h2 := inf_lt ok
  have h3 := w_two ok
  omega

theorem errS_of_ok {n : Nat} (hn : n < 4) (m : Int) (x : Nat) (hx : x < 2 ^ (fm n).w) (a : Nat) : errS n m x a = errS n m a a := by
  unfold errS
  rw [chkS_of hn hx]
  by_cases h : rfS n m = 0
  · by_cases h2 : chkS n a = 0
    · simp [h, h2]
    · simp [h, h2]
  · rw [if_pos h, if_pos h]

/-- where the format, the mode or the bits are refused -/
theorem doubles_err {n : Nat} (hn : n < 4) (m : Int) (a : Nat) (he : errS n m a a ≠ 0) :
    mulA n m (fm n).one a = (0, 0, errS n m a a) ∧ mulA n m (fm n).two a = (0, 0, errS n m a a) ∧ addA n m a a = (0, 0, errS n m a a) := by
  have ok := fm_ok n
  obtain ⟨h1, h2⟩ := two_lt_w ok
  unfold mulA addA
  rw [errS_of_ok hn m _ h1, errS_of_ok hn m _ h2]
  simp only [if_neg he]
  exact ⟨trivial, trivial, trivial⟩

/-- where they are not -/
theorem doubles_ok {n : Nat} (hn : n < 4) (m : Int) (a : Nat) (he : errS n m a a = 0) :
    a < 2 ^ (fm n).w ∧ mulA n m (fm n).two a = addA n m a a ∧ (addA n m a a).2.2 = 0 ∧ ((fm n).isNan a = true → mulA n m (fm n).one a = addA n m a a) ∧ ((fm n).isNan a = false → mulA n m (fm n).one a = (a, 0, 0)) := by
  have ok := fm_ok n
  obtain ⟨h1, h2⟩ := two_lt_w ok
  obtain ⟨n', k, e1, _, rfl, hk, ha, _⟩ := errS_ok he
  obtain rfl : n' = n := by omega
  refine ⟨ha, ?_, ?_, ?_, ?_⟩
  · unfold mulA addA
    rw [errS_of_ok hn _ _ h2, if_pos he, if_pos he]
    simp only [Int.toNat_natCast]
    rw [mul_two_S ok k ha]
  · unfold addA; rw [if_pos he]
  · intro hn'
    unfold mulA addA
    rw [errS_of_ok hn _ _ h1, if_pos he, if_pos he]
    simp only [Int.toNat_natCast]
    rw [mul_one_S ok k ha, if_pos hn']
    unfold addS
    by_cases hs : (fm n').isSig a = true
    · simp [hs]
    · simp [hs, hn']
  · intro hn'
    unfold mulA
    rw [errS_of_ok hn _ _ h1, if_pos he]
    simp only [Int.toNat_natCast]
    rw [mul_one_S ok k ha, if_neg (by simp [hn'])]

/-- the patterns of 1 and of 2, as Pack makes them -/
theorem pack_one {F : Fm} (ok : F.Ok) : F.emax.toNat < 2 ^ (F.w - F.p) ∧ F.emax.toNat + 1 < 2 ^ (F.w - F.p) ∧ F.emax.toNat * 2 ^ (F.p - 1) + 0 + F.sg false = F.one ∧ (F.emax.toNat + 1) * 2 ^ (F.p - 1) + 0 + F.sg false = F.two := by
  obtain ⟨p8, p53, pw, w64, emx, emn, b16, b1023⟩ := id ok
  have hs : F.sg false = 0 := by unfold Fm.sg; rfl
  have e : (2 : Int) ^ (F.w - F.p - 1) = ((2 ^ (F.w - F.p - 1) : Nat) : Int) := by simp
  rw [e] at emx
  have h2 := pow_split (F.w - F.p) (by omega)
  refine ⟨by omega, by omega, ?_, ?_⟩
  · rw [hs]; rfl
  · rw [hs]; rfl

end Go.Proofs.YtcgceigmglikpaaDoor
