/- Products and sums of floats, as plain numbers. -/
import Derived.Test.YtcgceigmglikpaaDoorRnd
namespace Go.Proofs.YtcgceigmglikpaaDoor
set_option linter.unusedVariables false

def Fm.neg (F : Fm) (a : Nat) : Bool := decide (2 ^ (F.w - 1) ≤ a)
def Fm.abs (F : Fm) (a : Nat) : Nat := a % 2 ^ (F.w - 1)
/-- the sign turned -/
def Fm.flip (F : Fm) (a : Nat) : Nat := F.abs a + F.sg (!F.neg a)
def Fm.isNan (F : Fm) (a : Nat) : Bool := decide (F.inf < F.abs a)
def Fm.isSig (F : Fm) (a : Nat) : Bool := F.isNan a && decide (F.abs a < F.inf + 2 ^ (F.p - 2))
def Fm.isInf (F : Fm) (a : Nat) : Bool := decide (F.abs a = F.inf)
def Fm.isZero (F : Fm) (a : Nat) : Bool := decide (F.abs a = 0)
def Fm.nan (F : Fm) : Nat := F.inf + 2 ^ (F.p - 2)
def Fm.mag (F : Fm) (a : Nat) : Nat := F.sig (F.abs a)
def Fm.ex (F : Fm) (a : Nat) : Int := F.xp (F.abs a)

/-- the product: bits and flags -/
def mulS (F : Fm) (m : Nat) (a b : Nat) : Nat × Nat :=
  if F.isNan a || F.isNan b then (F.nan, if F.isSig a || F.isSig b then 1 else 0)
  else if (F.isInf a && F.isZero b) || (F.isZero a && F.isInf b) then (F.nan, 1)
  else if F.isInf a || F.isInf b then (F.inf + F.sg (F.neg a != F.neg b), 0)
  else if F.isZero a || F.isZero b then (F.sg (F.neg a != F.neg b), 0)
  else intoS F m (F.neg a != F.neg b) (F.mag a * F.mag b) (F.ex a + F.ex b) false

/-- a whole number of units 2^L, not zero, rounded -/
def rndZ (F : Fm) (m : Nat) (z : Int) (L : Int) : Nat × Nat := intoS F m (decide (z < 0)) z.natAbs L false
/-- the value of finite bits, in units of 2^L -/
def Fm.val (F : Fm) (L : Int) (a : Nat) : Int := if F.neg a then -(F.vl L (F.abs a) : Int) else (F.vl L (F.abs a) : Int)

/-- the sum: bits and flags -/
def addS (F : Fm) (m : Nat) (a b : Nat) : Nat × Nat :=
  if F.isSig a || F.isSig b then (F.nan, 1)
  else if F.isNan a || F.isNan b then (F.nan, 0)
  else if F.isInf a && F.isInf b && F.neg a != F.neg b then (F.nan, 1)
  else if F.isInf a then (a, 0)
  else if F.isInf b then (b, 0)
  else if F.val F.low a + F.val F.low b = 0 then (F.sg (if F.isZero a && F.isZero b && F.neg a == F.neg b then F.neg a else m == 4), 0)
  else rndZ F m (F.val F.low a + F.val F.low b) F.low

section
variable {F : Fm}

theorem sg_lt (ok : F.Ok) (s : Bool) : F.sg s ≤ 2 ^ (F.w - 1) := by
  unfold Fm.sg; split
  · exact Nat.le_refl _
  · exact Nat.zero_le _
theorem inf_lt (ok : F.Ok) : F.inf < 2 ^ (F.w - 1) := by have := (inf_eq F ok).2; have := pow_pos2 (F.p - 1); omega
theorem w_two (ok : F.Ok) : 2 ^ F.w = 2 ^ (F.w - 1) * 2 := pow_split F.w (by have := ok.pw; omega)
theorem abs_lt (a : Nat) : F.abs a < 2 ^ (F.w - 1) := Nat.mod_lt _ (pow_pos2 _)
theorem neg_mk {x : Nat} {s : Bool} (h : x < 2 ^ (F.w - 1)) : F.neg (x + F.sg s) = s := by
  have := pow_pos2 (F.w - 1)
  unfold Fm.neg Fm.sg; cases s <;> simp <;> omega
theorem abs_mk {x : Nat} {s : Bool} (h : x < 2 ^ (F.w - 1)) : F.abs (x + F.sg s) = x := by
  unfold Fm.abs Fm.sg; cases s
  · simp; exact Nat.mod_eq_of_lt h
  · simp; exact Nat.mod_eq_of_lt h
theorem parts_mk (ok : F.Ok) {a : Nat} (h : a < 2 ^ F.w) : a = F.abs a + F.sg (F.neg a) := by
  have hw := w_two ok
  unfold Fm.abs Fm.neg Fm.sg
  by_cases h1 : 2 ^ (F.w - 1) ≤ a
  · rw [decide_eq_true h1, if_pos rfl, Nat.mod_eq_sub_mod h1, Nat.mod_eq_of_lt (by omega)]; omega
  · rw [decide_eq_false h1, Nat.mod_eq_of_lt (by omega)]; simp
theorem abs_flip (a : Nat) : F.abs (F.flip a) = F.abs a := abs_mk (abs_lt a)
theorem neg_flip (a : Nat) : F.neg (F.flip a) = !F.neg a := neg_mk (abs_lt a)
theorem flip_mk {x : Nat} {s : Bool} (h : x < 2 ^ (F.w - 1)) : F.flip (x + F.sg s) = x + F.sg (!s) := by
  unfold Fm.flip; rw [abs_mk h, neg_mk h]
theorem isNan_flip (a : Nat) : F.isNan (F.flip a) = F.isNan a := by unfold Fm.isNan; rw [abs_flip]
theorem isSig_flip (a : Nat) : F.isSig (F.flip a) = F.isSig a := by unfold Fm.isSig; rw [abs_flip, isNan_flip]
theorem isInf_flip (a : Nat) : F.isInf (F.flip a) = F.isInf a := by unfold Fm.isInf; rw [abs_flip]
theorem isZero_flip (a : Nat) : F.isZero (F.flip a) = F.isZero a := by unfold Fm.isZero; rw [abs_flip]
theorem mag_flip (a : Nat) : F.mag (F.flip a) = F.mag a := by unfold Fm.mag; rw [abs_flip]
theorem ex_flip (a : Nat) : F.ex (F.flip a) = F.ex a := by unfold Fm.ex; rw [abs_flip]
theorem flip_lt (ok : F.Ok) (a : Nat) : F.flip a < 2 ^ F.w := by
  have h1 := abs_lt (F := F) a
  have h2 := sg_lt ok (!F.neg a)
  have := w_two ok
  unfold Fm.flip; omega

/-- the mode that does to the opposite what m does -/
def mir (m : Nat) : Nat := if m = 3 then 4 else if m = 4 then 3 else m

theorem upB_mir (m : Nat) (neg odd : Bool) (r : Nat) : upB (mir m) (!neg) odd r = upB m neg odd r := by
  unfold mir
  by_cases h3 : m = 3
  · subst h3; simp [upB]
  · by_cases h4 : m = 4
    · subst h4; simp [upB]
    · rw [if_neg h3, if_neg h4]
      match m, h3, h4 with
      | 0, _, _ => rfl
      | 1, _, _ => rfl
      | 2, _, _ => rfl
      | n + 5, _, _ => rfl
theorem infB_mir (m : Nat) (neg : Bool) : infB (mir m) (!neg) = infB m neg := by
  unfold mir infB
  by_cases h3 : m = 3
  · subst h3; simp
  · by_cases h4 : m = 4
    · subst h4; simp
    · rw [if_neg h3, if_neg h4, beq_false_of_ne h3, beq_false_of_ne h4]; simp
theorem cut_mir (m : Nat) (neg : Bool) (n : Nat) (more : Bool) (d : Int) : cutS (mir m) (!neg) n more d = cutS m neg n more d := by
  unfold cutS goesUp; rw [upB_mir]
theorem beyond_mir (ok : F.Ok) (m : Nat) (neg : Bool) : beyondS F (mir m) (!neg) = F.flip (beyondS F m neg) := by
  unfold beyondS
  rw [infB_mir, flip_mk]
  have := inf_lt ok
  split <;> omega
theorem cut_lt (ok : F.Ok) (m : Nat) (neg : Bool) (n : Nat) (e : Int) (more : Bool) (h0 : n ≠ 0) : (intoS F m neg n e more).1 = magS F m neg n e more + F.sg neg ∧ magS F m neg n e more < 2 ^ (F.w - 1) :=
  ⟨into_bits F ok m neg n e more h0, Nat.lt_of_le_of_lt (mag_le F ok m neg n e more h0) (inf_lt ok)⟩
theorem into_mir (ok : F.Ok) (m : Nat) (neg : Bool) (n : Nat) (e : Int) (more : Bool) (h0 : n ≠ 0) : intoS F (mir m) (!neg) n e more = (F.flip (intoS F m neg n e more).1, (intoS F m neg n e more).2) := by
  obtain ⟨h1, h2⟩ := cut_lt ok m neg n e more h0
  obtain ⟨h3, h4⟩ := cut_lt ok (mir m) (!neg) n e more h0
  have hm : magS F (mir m) (!neg) n e more = magS F m neg n e more := by
    unfold magS goesUp; rw [infB_mir, upB_mir]
  refine Prod.ext ?_ ?_
  · rw [h3, h1, hm, flip_mk h2]
  · unfold intoS
    rw [cut_mir, cut_mir]
    split
    · rfl
    · split <;> rfl

theorem mul_comm_S (m a b : Nat) : mulS F m a b = mulS F m b a := by
  unfold mulS
  rw [Bool.or_comm (F.isNan a), Bool.or_comm (F.isSig a), Bool.or_comm (F.isInf a && F.isZero b), Bool.and_comm (F.isZero a), Bool.and_comm (F.isInf a) (F.isZero b), Bool.or_comm (F.isInf a), Bool.or_comm (F.isZero a), Nat.mul_comm (F.mag a), Int.add_comm (F.ex a), show (F.neg a != F.neg b) = (F.neg b != F.neg a) from bne_comm]

theorem sig_ne (hp : 1 ≤ F.p) {b : Nat} (h : b ≠ 0) : F.sig b ≠ 0 := by
  unfold Fm.sig; split
  · exact h
  · have := pow_pos2 (F.p - 1); omega
theorem mag_ne (hp : 1 ≤ F.p) {a : Nat} (h : F.isZero a = false) : F.mag a ≠ 0 := by
  unfold Fm.isZero at h; unfold Fm.mag
  exact sig_ne hp (by simpa using h)
theorem bne_not (x y : Bool) : (x != !y) = !(x != y) := by cases x <;> cases y <;> rfl
theorem nan_lt (ok : F.Ok) : F.nan < 2 ^ (F.w - 1) := by
  have h1 := (inf_eq F ok).2
  have : 2 ^ (F.p - 1) = 2 ^ (F.p - 2) * 2 := by have := pow_split (F.p - 1) (by have := ok.p8; omega); rw [this]; congr 1
  have := pow_pos2 (F.p - 2)
  unfold Fm.nan; omega
theorem nan_isNan (ok : F.Ok) : F.isNan F.nan = true := by
  have h := abs_mk (F := F) (s := false) (nan_lt ok)
  simp only [Fm.sg, Bool.false_eq_true, if_false, Nat.add_zero] at h
  unfold Fm.isNan; rw [h]; have := pow_pos2 (F.p - 2); simp [Fm.nan]; omega

/-- the opposite of one factor, in the mirrored mode -/
theorem mul_mir (ok : F.Ok) (m a b : Nat) : (mulS F (mir m) a (F.flip b)).2 = (mulS F m a b).2 ∧
    (F.isNan (mulS F m a b).1 = true ∧ (mulS F (mir m) a (F.flip b)).1 = (mulS F m a b).1 ∨ F.isNan (mulS F m a b).1 = false ∧ (mulS F (mir m) a (F.flip b)).1 = F.flip (mulS F m a b).1) := by
  have hp : 1 ≤ F.p := by have := ok.p8; omega
  unfold mulS
  rw [isNan_flip, isSig_flip, isInf_flip, isZero_flip, mag_flip, ex_flip, neg_flip, bne_not]
  by_cases h1 : (F.isNan a || F.isNan b) = true
  · simp only [if_pos h1]; exact ⟨trivial, Or.inl ⟨nan_isNan ok, trivial⟩⟩
  simp only [if_neg h1]
  by_cases h2 : ((F.isInf a && F.isZero b) || (F.isZero a && F.isInf b)) = true
  · simp only [if_pos h2]; exact ⟨trivial, Or.inl ⟨nan_isNan ok, trivial⟩⟩
  simp only [if_neg h2]
  have key : ∀ x s, x ≤ F.inf → F.isNan (x + F.sg s) = false := by
    intro x s hx
    unfold Fm.isNan; rw [abs_mk (Nat.lt_of_le_of_lt hx (inf_lt ok))]; simp; exact hx
  by_cases h3 : (F.isInf a || F.isInf b) = true
  · simp only [if_pos h3]
    exact ⟨trivial, Or.inr ⟨key _ _ (Nat.le_refl _), (flip_mk (inf_lt ok)).symm⟩⟩
  simp only [if_neg h3]
  by_cases h4 : (F.isZero a || F.isZero b) = true
  · simp only [if_pos h4]
    refine ⟨trivial, Or.inr ⟨by have := key 0 (F.neg a != F.neg b) (Nat.zero_le _); simpa using this, ?_⟩⟩
    have := flip_mk (F := F) (x := 0) (s := F.neg a != F.neg b) (pow_pos2 _)
    simp only [Nat.zero_add] at this
    exact this.symm
  simp only [if_neg h4]
  simp only [Bool.or_eq_true, not_or, Bool.not_eq_true] at h4
  have h0 : F.mag a * F.mag b ≠ 0 := Nat.mul_ne_zero (mag_ne hp h4.1) (mag_ne hp h4.2)
  rw [into_mir ok m _ _ _ _ h0]
  refine ⟨rfl, Or.inr ⟨?_, rfl⟩⟩
  show F.isNan (intoS F m _ _ _ _).1 = false
  rw [into_bits F ok m _ _ _ _ h0]
  exact key _ _ (mag_le F ok m _ _ _ _ h0)

end

end Go.Proofs.YtcgceigmglikpaaDoor
