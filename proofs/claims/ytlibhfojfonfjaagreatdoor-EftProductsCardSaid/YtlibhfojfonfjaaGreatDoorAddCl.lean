/- addsub.Add's ways, by the classes of its two operands. -/
import Derived.Test.YtlibhfojfonfjaaGreatDoorAddS
import Derived.Test.YtlibhfojfonfjaaGreatDoorPackM
namespace Go.Proofs.YtlibhfojfonfjaaGreatDoor
set_option linter.unusedVariables false
section
variable {F : Fm}

theorem ibeq (x y : Int) : (x == y) = decide (x = y) := by by_cases h : x = y <;> simp [h]

theorem cls_neg (ok : F.Ok) (a : Nat) (h : F.isInf a = true) : clsF F a = if F.neg a then 2 else 9 := by
  rw [isInf_iff ok] at h
  unfold clsF
  simp only [Bool.and_eq_true, decide_eq_true_eq] at h
  rw [if_pos h.1, if_pos h.2]

/-- what parts Add's ways -/
structure AddW (F : Fm) (m a b : Nat) (sa sb na nb ia ib ne : Bool) : Prop where
  sg : sa = true ∨ sb = true → addS F m a b = (F.nan, 1)
  qu : sa = false → sb = false → na = true ∨ nb = true → addS F m a b = (F.nan, 0)
  no : sa = false → sb = false → na = false → nb = false → ia = true → ib = true → ne = true → addS F m a b = (F.nan, 1)
  fi : sa = false → sb = false → na = false → nb = false → ia = true → (ib = true → ne = false) → addS F m a b = (a, 0)
  se : sa = false → sb = false → na = false → nb = false → ia = false → ib = true → addS F m a b = (b, 0)
  su : sa = false → sb = false → na = false → nb = false → ia = false → ib = false → sumN F m (F.neg a) (F.mag a) (F.ex a) (F.neg b) (F.mag b) (F.ex b) = addS F m a b

theorem add_ways (ok : F.Ok) (m : Nat) {a b : Nat} (ha : a < 2 ^ F.w) (hb : b < 2 ^ F.w) :
    AddW F m a b (clsF F a == 0) (clsF F b == 0) (clsF F a == 1) (clsF F b == 1) (clsF F a == 2 || clsF F a == 9) (clsF F b == 2 || clsF F b == 9) (clsF F a != clsF F b) := by
  have sa : (clsF F a == 0) = F.isSig a := by rw [cls_sig ok]; exact ibeq _ _
  have sb : (clsF F b == 0) = F.isSig b := by rw [cls_sig ok]; exact ibeq _ _
  have ia : (clsF F a == 2 || clsF F a == 9) = F.isInf a := by rw [cls_inf ok]; simp [ibeq]
  have ib : (clsF F b == 2 || clsF F b == 9) = F.isInf b := by rw [cls_inf ok]; simp [ibeq]
  have na : F.isNan a = ((clsF F a == 1) || F.isSig a) := by rw [cls_nan ok, cls_sig ok]; simp [ibeq]
  have nb : F.isNan b = ((clsF F b == 1) || F.isSig b) := by rw [cls_nan ok, cls_sig ok]; simp [ibeq]
  have ne : F.isInf a = true → F.isInf b = true → (clsF F a != clsF F b) = (F.neg a != F.neg b) := by
    intro h1 h2
    rw [cls_neg ok a h1, cls_neg ok b h2]
    cases F.neg a <;> cases F.neg b <;> rfl
  rw [sa, sb, ia, ib]
  generalize (clsF F a == 1) = qa at *
  generalize (clsF F b == 1) = qb at *
  generalize (clsF F a != clsF F b) = nn at *
  constructor
  · intro h; unfold addS; rw [if_pos]; simpa using h
  · intro h1 h2 h; unfold addS; rw [if_neg (by simp [h1, h2]), if_pos]; rw [na, nb]; simpa [h1, h2] using h
  · intro h1 h2 h3 h4 h5 h6 h7; unfold addS; rw [if_neg (by simp [h1, h2]), if_neg (by simp [na, nb, h1, h2, h3, h4]), if_pos]; rw [← ne h5 h6]; simp [h5, h6, h7]
  · intro h1 h2 h3 h4 h5 h6; unfold addS
    rw [if_neg (by simp [h1, h2]), if_neg (by simp [na, nb, h1, h2, h3, h4]), if_neg, if_pos h5]
    intro h
    simp only [Bool.and_eq_true] at h
    obtain ⟨⟨_, h8⟩, h9⟩ := h
    rw [← ne h5 h8, h6 h8] at h9
    exact absurd h9 (by decide)
  · intro h1 h2 h3 h4 h5 h6; unfold addS; rw [if_neg (by simp [h1, h2]), if_neg (by simp [na, nb, h1, h2, h3, h4]), if_neg (by simp [h5]), if_neg (by simp [h5]), if_pos h6]
  · intro h1 h2 h3 h4 h5 h6
    refine sumN_add ok m ha hb (fin_of ?_ h5) (fin_of ?_ h6)
    · rw [na, h3, h1]; rfl
    · rw [nb, h4, h2]; rfl
end
end Go.Proofs.YtlibhfojfonfjaaGreatDoor
