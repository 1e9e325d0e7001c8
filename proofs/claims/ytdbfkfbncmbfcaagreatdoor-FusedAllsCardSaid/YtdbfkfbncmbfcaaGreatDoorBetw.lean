/- What all modes give lies between the bits below and the bits above. -/
import Derived.Test.YtdbfkfbncmbfcaaGreatDoorPackR
import Derived.Test.YtdbfkfbncmbfcaaGreatDoorAddL
namespace Go.Proofs.YtdbfkfbncmbfcaaGreatDoor
set_option linter.unusedVariables false
set_option linter.unusedSimpArgs false

/-- the bits rounded towards zero -/
def botS (F : Fm) (n : Nat) (e : Int) : Nat := if F.emax < topE n e then F.inf - 1 else floS F n e
def exB (F : Fm) (n : Nat) (e : Int) : Bool := decide (¬ F.emax < topE n e ∧ rst n false (quE F n e - e) = 0)

section
variable {F : Fm}

theorem inf_pos (ok : F.Ok) : 0 < F.inf := by
  rw [inf_emax ok]; exact Nat.mul_pos (by omega) (pow_pos2 _)

theorem bot_lt (ok : F.Ok) (n : Nat) (e : Int) (h0 : n ≠ 0) : botS F n e < F.inf := by
  have := inf_pos ok
  unfold botS
  split
  · omega
  · rename_i h
    have := top_inf F ok n e h0
    omega

theorem mag_between (ok : F.Ok) (m : Nat) (neg : Bool) (n : Nat) (e : Int) (h0 : n ≠ 0) : magS F m neg n e false = botS F n e ∨ (magS F m neg n e false = botS F n e + 1 ∧ exB F n e = false) := by
  have hi := inf_pos ok
  unfold magS botS exB
  by_cases h : F.emax < topE n e
  · rw [if_pos h, if_pos h]
    split
    · right; exact ⟨by omega, by simp [h]⟩
    · left; rfl
  · rw [if_neg h, if_neg h]
    by_cases hr : rst n false (quE F n e - e) = 0
    · rw [goesUp_exact hr]; left; rfl
    · split
      · right; exact ⟨rfl, by simp [hr]⟩
      · left; rfl

theorem mag_exact (ok : F.Ok) (m : Nat) (neg : Bool) (n : Nat) (e : Int) (h0 : n ≠ 0) (hx : exB F n e = true) : magS F m neg n e false = botS F n e := by
  rcases mag_between ok m neg n e h0 with h | ⟨_, h⟩
  · exact h
  · rw [hx] at h; cases h

theorem mag_down (ok : F.Ok) (neg : Bool) (n : Nat) (e : Int) (h0 : n ≠ 0) : magS F 4 neg n e false = if neg && !exB F n e then botS F n e + 1 else botS F n e := by
  have hi := inf_pos ok
  unfold magS botS exB infB
  by_cases h : F.emax < topE n e
  · rw [if_pos h, if_pos h]
    cases neg <;> simp [h]
    omega
  · rw [if_neg h, if_neg h]
    unfold goesUp upB
    by_cases hr : rst n false (quE F n e - e) = 0
    · simp [hr, h]
    · cases neg <;> simp [hr, h]

theorem mag_up (ok : F.Ok) (neg : Bool) (n : Nat) (e : Int) (h0 : n ≠ 0) : magS F 3 neg n e false = if !neg && !exB F n e then botS F n e + 1 else botS F n e := by
  have hi := inf_pos ok
  unfold magS botS exB infB
  by_cases h : F.emax < topE n e
  · rw [if_pos h, if_pos h]
    cases neg <;> simp [h]
    omega
  · rw [if_neg h, if_neg h]
    unfold goesUp upB
    by_cases hr : rst n false (quE F n e - e) = 0
    · simp [hr, h]
    · cases neg <;> simp [hr, h]

theorem flag_exact (ok : F.Ok) (m : Nat) (neg : Bool) (n : Nat) (e : Int) (h0 : n ≠ 0) : (intoS F m neg n e false).2 = 0 ↔ exB F n e = true := by
  rw [into_exact F ok m neg n e false h0]
  unfold exB; simp

/-- what is too great has infinity above it -/
theorem flag_over (ok : F.Ok) (m : Nat) (neg : Bool) (n : Nat) (e : Int) (h0 : n ≠ 0) (h : (intoS F m neg n e false).2 = 20) : botS F n e + 1 = F.inf ∧ exB F n e = false := by
  have hi := inf_pos ok
  have hx : exB F n e = false := by
    cases hb : exB F n e
    · rfl
    · rw [← flag_exact ok m neg n e h0, h] at hb; cases hb
  refine ⟨?_, hx⟩
  unfold botS
  unfold intoS at h
  split at h
  · rename_i h1; rw [if_pos h1]; omega
  · rename_i h1
    rw [if_neg h1]
    split at h
    · rename_i h2
      exact ((over_top F ok m neg n e false h0 h1).1 h2).2.1
    · simp only at h
      split at h
      · cases h
      · split at h <;> cases h

theorem bot_units (ok : F.Ok) (n : Nat) (e L : Int) (h0 : n ≠ 0) (hL1 : L ≤ e) (hL2 : L ≤ F.low) :
    F.vl L (botS F n e) ≤ uN L n e ∧ (F.vl L (botS F n e) = uN L n e ↔ exB F n e = true) ∧ (botS F n e + 1 < F.inf → uN L n e < F.vl L (botS F n e + 1)) := by
  have hi := inf_pos ok
  have hp : 1 ≤ F.p := by have := ok.p8; omega
  obtain ⟨h1, h2⟩ := floS_units F hp n e L h0 hL1 hL2
  have h3 := floS_exact F hp n e L h0 hL1 hL2
  unfold botS exB
  by_cases h : F.emax < topE n e
  · rw [if_pos h]
    have ht := (top_inf F ok n e h0).1 h
    have hlt := vl_lt F hp L hL2 (a := F.inf - 1) (b := floS F n e) (by omega)
    refine ⟨by omega, ?_, by omega⟩
    simp [h]
    omega
  · rw [if_neg h]
    refine ⟨h1, ?_, fun _ => h2⟩
    rw [← h3]; simp [h]

/-- a product of finite numbers, not zero -/
theorem mul_into (ok : F.Ok) (m : Nat) {a b : Nat} (fa : F.abs a < F.inf) (fb : F.abs b < F.inf) (za : F.abs a ≠ 0) (zb : F.abs b ≠ 0) :
    mulS F m a b = intoS F m (F.neg a != F.neg b) (F.mag a * F.mag b) (F.ex a + F.ex b) false := by
  unfold mulS
  have h1 : F.isNan a = false := by unfold Fm.isNan; simp; omega
  have h2 : F.isNan b = false := by unfold Fm.isNan; simp; omega
  have h3 : F.isInf a = false := by unfold Fm.isInf; simp; omega
  have h4 : F.isInf b = false := by unfold Fm.isInf; simp; omega
  have h5 : F.isZero a = false := by unfold Fm.isZero; simp; omega
  have h6 : F.isZero b = false := by unfold Fm.isZero; simp; omega
  simp [h1, h2, h3, h4, h5, h6]

/-- sign and magnitude as a number -/
def sI (s : Bool) (n : Nat) : Int := if s then -(n : Int) else (n : Int)

structure Betw (F : Fm) (g : Nat) (c A B : Nat) (X : Int) (L : Int) : Prop where
  one : c = A ∨ c = B
  lt : A < 2 ^ F.w ∧ B < 2 ^ F.w
  down : F.abs A < F.inf → F.val L A ≤ X ∧ (F.val L A = X ↔ A = B) ∧ (F.val L A = X ↔ g &&& 16 = 0)
  up : F.abs B < F.inf → X ≤ F.val L B ∧ (X = F.val L B ↔ A = B)
  over : F.abs A < F.inf → F.abs B < F.inf → g &&& 4 = 0
  fin : F.abs A < F.inf ∨ F.abs B < F.inf
  minf : ¬ F.abs A < F.inf → A = F.inf + F.sg true
  pinf : ¬ F.abs B < F.inf → B = F.inf + F.sg false

theorem val_mk (ok : F.Ok) (L : Int) {x : Nat} (s : Bool) (hx : x < 2 ^ (F.w - 1)) : F.val L (x + F.sg s) = sI s (F.vl L x) := by
  unfold Fm.val sI
  rw [neg_mk hx, abs_mk hx]

theorem into_betw (ok : F.Ok) (m : Nat) (s : Bool) (n : Nat) (e L : Int) (h0 : n ≠ 0) (hL1 : L ≤ e) (hL2 : L ≤ F.low) :
    Betw F (intoS F m s n e false).2 (intoS F m s n e false).1 (intoS F 4 s n e false).1 (intoS F 3 s n e false).1 (sI s (uN L n e)) L := by
  have hil := inf_lt ok
  have hw := w_two ok
  have hb := bot_lt ok n e h0
  have hsg : F.sg s ≤ 2 ^ (F.w - 1) := sg_lt ok s
  obtain ⟨u1, u2, u3⟩ := bot_units ok n e L h0 hL1 hL2
  have hf := flag_exact ok m s n e h0
  have ho := flag_over ok m s n e h0
  have hm := mag_between ok m s n e h0
  have hfl := into_flags F m s n e false
  rw [into_bits F ok m s n e false h0, into_bits F ok 4 s n e false h0, into_bits F ok 3 s n e false h0, mag_down ok s n e h0, mag_up ok s n e h0]
  generalize (intoS F m s n e false).2 = g at *
  generalize magS F m s n e false = c at *
  generalize botS F n e = x at *
  generalize exB F n e = t at *
  generalize uN L n e = U at *
  have hvx : ∀ s, F.val L (x + F.sg s) = sI s (F.vl L x) := fun s => val_mk ok L s (by omega)
  have hvx1 : ∀ s, F.val L (x + 1 + F.sg s) = sI s (F.vl L (x + 1)) := fun s => val_mk ok L s (by omega)
  have hax : ∀ s, F.abs (x + F.sg s) = x := fun s => abs_mk (by omega)
  have hax1 : ∀ s, F.abs (x + 1 + F.sg s) = x + 1 := fun s => abs_mk (by omega)
  have hg16 : g &&& 16 = 0 ↔ t = true := by
    rw [← hf]
    rcases hfl with h | h | h | h <;> rw [h] <;> decide
  have hg4 : g ≠ 20 → g &&& 4 = 0 := by
    intro h5
    rcases hfl with h | h | h | h
    · rw [h]; rfl
    · rw [h]; rfl
    · exact absurd h h5
    · rw [h]; rfl
  cases t
  · have u2' : F.vl L x ≠ U := by intro h; have := u2.1 h; cases this
    have hg : ¬ g &&& 16 = 0 := by rw [hg16]; simp
    cases s
    · simp only [Bool.not_false, Bool.and_true, Bool.false_and, Bool.and_self, if_true, if_false, Bool.false_eq_true]
      refine ⟨?_, ?_, ?_, ?_, ?_, ?_, ?_, ?_⟩
      · rcases hm with h | ⟨h, _⟩ <;> rw [h] <;> simp
      · constructor <;> omega
      · intro _
        rw [hvx]
        unfold sI
        simp only [Bool.false_eq_true, if_false]
        refine ⟨by omega, ⟨fun h => by omega, fun h => by omega⟩, ⟨fun h => by omega, fun h => absurd h hg⟩⟩
      · rw [hax1, hvx1]
        intro h
        have := u3 h
        unfold sI
        simp only [Bool.false_eq_true, if_false]
        exact ⟨by omega, ⟨fun h => by omega, fun h => by omega⟩⟩
      · rw [hax1]
        intro _ h
        refine hg4 fun h5 => ?_
        have := (ho h5).1
        omega
      · rw [hax]; left; exact hb
      · rw [hax]; intro h; exact absurd hb h
      · rw [hax1]; intro h; rw [show x + 1 = F.inf by omega]
    · simp only [Bool.not_false, Bool.not_true, Bool.and_true, Bool.false_and, Bool.and_self, if_true, if_false, Bool.false_eq_true]
      refine ⟨?_, ?_, ?_, ?_, ?_, ?_, ?_, ?_⟩
      · rcases hm with h | ⟨h, _⟩ <;> rw [h] <;> simp
      · constructor <;> omega
      · rw [hax1, hvx1]
        intro h
        have := u3 h
        unfold sI
        simp only [if_true]
        refine ⟨by omega, ⟨fun h => by omega, fun h => by omega⟩, ⟨fun h => by omega, fun h => absurd h hg⟩⟩
      · intro _
        rw [hvx]
        unfold sI
        simp only [if_true]
        exact ⟨by omega, ⟨fun h => by omega, fun h => by omega⟩⟩
      · rw [hax1]
        intro h _
        refine hg4 fun h5 => ?_
        have := (ho h5).1
        omega
      · rw [hax]; right; exact hb
      · rw [hax1]; intro h; rw [show x + 1 = F.inf by omega]
      · rw [hax]; intro h; exact absurd hb h
  · have u2' : F.vl L x = U := u2.2 rfl
    have hg : g &&& 16 = 0 := by rw [hg16]
    have hc : c = x := by
      rcases hm with h | ⟨_, h⟩
      · exact h
      · cases h
    have hc' := hc.symm
    subst hc'
    have hne : g ≠ 20 := by intro h; have := (ho h).2; cases this
    have hxl : ∀ s, x + F.sg s < 2 ^ F.w := fun s => by have := sg_lt ok s; omega
    have key : ∀ s, Betw F g (x + F.sg s) (x + F.sg s) (x + F.sg s) (sI s U) L := by
      intro s
      refine ⟨Or.inl rfl, ⟨hxl s, hxl s⟩, ?_, ?_, fun _ _ => hg4 hne, Or.inl (by rw [hax]; exact hb), ?_, ?_⟩
      · intro _; rw [hvx, u2']; exact ⟨Int.le_refl _, ⟨fun _ => rfl, fun _ => rfl⟩, ⟨fun _ => hg, fun _ => rfl⟩⟩
      · intro _; rw [hvx, u2']; exact ⟨Int.le_refl _, ⟨fun _ => rfl, fun _ => rfl⟩⟩
      · rw [hax]; intro h; exact absurd hb h
      · rw [hax]; intro h; exact absurd hb h
    have := key s
    cases s <;> simpa using this

end
end Go.Proofs.YtdbfkfbncmbfcaaGreatDoor
