/- vernierref06.Whole and Round, as plain numbers: they are cutS and intoS. -/
import Derived.Test.YtebmogdojpcmfaaPackR
import Derived.Test.YtebmogdojpcmfaaPackA
namespace Go.Proofs.Ytebmogdojpcmfaa
set_option linter.unusedVariables false

theorem whole_low (m : Nat) (neg : Bool) (n : Nat) {q e : Int} (h : q ≤ e) : cutS m neg n false (q - e) = n * 2 ^ (e - q).toNat ∧ rst n false (q - e) = 0 := by
  have hr : rst n false (q - e) = 0 := by
    unfold rst
    rw [show (q - e).toNat = 0 by omega, Nat.pow_zero, Nat.mod_one]; rfl
  refine ⟨?_, hr⟩
  unfold cutS
  rw [goesUp_exact hr]
  simp only [Bool.false_eq_true, if_false]
  unfold flr
  rw [show (q - e).toNat = 0 by omega, Nat.pow_zero, Nat.div_one, show -(q - e) = e - q by omega]

theorem rst_pos (n s : Nat) : rst n false (s : Int) = cls (n % 2 ^ s) (2 ^ s) false := by
  unfold rst
  rw [show (-(s : Int)).toNat = 0 by omega, Int.toNat_natCast, Nat.pow_zero, Nat.mul_one]

theorem whole_exact (m : Nat) (neg : Bool) {n s : Nat} (h : n % 2 ^ s = 0) : cutS m neg n false (s : Int) = n / 2 ^ s ∧ rst n false (s : Int) = 0 := by
  have hr : rst n false (s : Int) = 0 := by rw [rst_pos, h]; rfl
  refine ⟨?_, hr⟩
  unfold cutS
  rw [goesUp_exact hr, flr_nonneg]; rfl

theorem whole_up (m : Nat) (neg : Bool) {n s : Nat} (h : n % 2 ^ s ≠ 0) : cutS m neg n false (s : Int) = (if upB m neg (decide (n / 2 ^ s % 2 = 1)) (cls (n % 2 ^ s) (2 ^ s) false) then n / 2 ^ s + 1 else n / 2 ^ s) ∧ rst n false (s : Int) ≠ 0 := by
  have hr : rst n false (s : Int) ≠ 0 := by
    rw [rst_pos]; unfold cls; rw [if_neg h]; split
    · decide
    · split <;> decide
  refine ⟨?_, hr⟩
  unfold cutS goesUp
  rw [flr_nonneg, rst_pos]
  rw [rst_pos] at hr
  have : (cls (n % 2 ^ s) (2 ^ s) false != 0) = true := by simpa using hr
  rw [this, Bool.true_and]

theorem cls_cmp {r s : Nat} (hs : 1 ≤ s) (h0 : r ≠ 0) : cls r (2 ^ s) false = (if cmpN r (2 ^ (s - 1)) = -1 then 1 else if cmpN r (2 ^ (s - 1)) = 0 then 2 else 3) := by
  have e := pow_split s hs
  unfold cls
  rw [if_neg h0]
  rcases Nat.lt_trichotomy r (2 ^ (s - 1)) with h | h | h
  · rw [cmpN_lt h, if_pos (by omega), if_pos rfl]
  · rw [cmpN_eq h, if_neg (by omega), if_pos ⟨by omega, rfl⟩, if_neg (by decide), if_pos rfl]
  · rw [cmpN_gt h, if_neg (by omega), if_neg (by omega), if_neg (by decide), if_neg (by decide)]

/-- what a mode does, as the document has it -/
theorem up_ref (neg odd : Bool) {r s : Nat} (hs : 1 ≤ s) (h0 : r ≠ 0) :
    upB 0 neg odd (cls r (2 ^ s) false) = (decide (0 < cmpN r (2 ^ (s - 1))) || (cmpN r (2 ^ (s - 1)) == 0 && odd)) ∧ upB 1 neg odd (cls r (2 ^ s) false) = decide (0 ≤ cmpN r (2 ^ (s - 1))) := by
  rw [cls_cmp hs h0]
  have : cmpN r (2 ^ (s - 1)) = -1 ∨ cmpN r (2 ^ (s - 1)) = 0 ∨ cmpN r (2 ^ (s - 1)) = 1 := by
    unfold cmpN; split
    · left; rfl
    · split
      · right; right; rfl
      · right; left; rfl
  rcases this with h | h | h <;> rw [h] <;> cases odd <;> exact ⟨rfl, rfl⟩

end Go.Proofs.Ytebmogdojpcmfaa
