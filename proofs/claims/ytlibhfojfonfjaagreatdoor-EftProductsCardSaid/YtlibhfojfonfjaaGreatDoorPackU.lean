/- Packed by program: AddL Betw BetwD FusS Vb FusA FusB FusC FusD FusE FusF FusG FusH FusI FusJ FusP. -/
import Derived.Test.YtlibhfojfonfjaaGreatDoorPackR
import Derived.Test.YtlibhfojfonfjaaGreatDoorPackB
import Derived.Test.YtlibhfojfonfjaaGreatDoorPackC
import Derived.Test.YtlibhfojfonfjaaGreatDoorPackF
import Derived.Test.YtlibhfojfonfjaaGreatDoorPackO
import Derived.Test.YtlibhfojfonfjaaGreatDoorPackM
import Derived.Outline
import Derived.Deep.LoopGhost
import Derived.Lib.Hide
/- Sums of floats as plain numbers: the sum with a sticky bit is the exact sum, rounded. -/
namespace Go.Proofs.YtlibhfojfonfjaaGreatDoor
set_option linter.unusedVariables false

section
variable {F : Fm}

theorem val_i (L : Int) (a : Nat) : F.val L a = D.i L ⟨F.neg a, F.mag a, F.ex a⟩ := by
  unfold Fm.val D.i Fm.vl uN Fm.mag Fm.ex
  simp only
  generalize F.sig (F.abs a) = n
  generalize (F.xp (F.abs a) - L).toNat = k
  cases F.neg a <;> simp [Int.neg_mul]

theorem i_scale (d : D) (L M : Int) (h1 : L ≤ M) (h2 : M ≤ d.e) : d.i L = d.i M * 2 ^ (M - L).toNat := by
  unfold D.i
  rw [show (d.e - L).toNat = (d.e - M).toNat + (M - L).toNat by omega, Int.pow_add]
  generalize (2 : Int) ^ (d.e - M).toNat = p
  generalize (2 : Int) ^ (M - L).toNat = q
  grind

theorem rndZ_scale (m : Nat) (z : Int) (M L : Int) (hz : z ≠ 0) (h : L ≤ M) : rndZ F m (z * 2 ^ (M - L).toNat) L = rndZ F m z M := by
  unfold rndZ
  have hp := ipow_pos (M - L).toNat
  have e1 : decide (z * 2 ^ (M - L).toNat < 0) = decide (z < 0) := by
    congr 1; apply propext
    constructor
    · intro h
      rcases Int.lt_or_le z 0 with h1 | h1
      · exact h1
      · have := Int.mul_nonneg h1 (Int.le_of_lt hp); omega
    · intro h; exact Int.mul_neg_of_neg_of_pos h hp
  rw [e1, Int.natAbs_mul]
  have e2 : ((2 : Int) ^ (M - L).toNat).natAbs = 2 ^ (M - L).toNat := by
    rw [Int.natAbs_pow]; rfl
  rw [e2]
  have := into_scale F m (decide (z < 0)) z.natAbs (M - L).toNat M (by omega)
  rw [← this]
  congr 1; omega

/-- a number that is not zero, with its sign -/
theorem rndZ_mk (m : Nat) (s : Bool) (n : Nat) (e : Int) (h : n ≠ 0) : rndZ F m (if s then -(n : Int) else (n : Int)) e = intoS F m s n e false := by
  unfold rndZ
  cases s
  · rw [if_neg (by simp), decide_eq_false (by omega), Int.natAbs_natCast]
  · rw [if_pos rfl, decide_eq_true (by omega), Int.natAbs_neg, Int.natAbs_natCast]

theorem i_at (s : Bool) (n : Nat) (e : Int) : D.i e ⟨s, n, e⟩ = if s then -(n : Int) else (n : Int) := by unfold D.i; simp

theorem i_up (s : Bool) (n : Nat) (e L : Int) : D.i L ⟨s, n, e⟩ = if s then -((n * 2 ^ (e - L).toNat : Nat) : Int) else ((n * 2 ^ (e - L).toNat : Nat) : Int) := by
  unfold D.i; cases s <;> simp [Int.neg_mul]

/-- like signs -/
theorem add_same (m : Nat) (s : Bool) (nx ny : Nat) (ex ey : Int) (h : ey ≤ ex) (up down : Nat) (hd : ex - ey = up + down) (lo : Nat) (hlo : lo = ny / 2 ^ down) (more : Bool) (hm : more = decide (lo * 2 ^ down ≠ ny))
    (h0 : nx * 2 ^ up + lo ≠ 0) (hb : more = true → F.p + 1 ≤ bl (nx * 2 ^ up + lo)) :
    intoS F m s (nx * 2 ^ up + lo) (ex - up) more = rndZ F m (D.i ey ⟨s, nx, ex⟩ + D.i ey ⟨s, ny, ey⟩) ey ∧ D.i ey ⟨s, nx, ex⟩ + D.i ey ⟨s, ny, ey⟩ ≠ 0 := by
  have hk := pow_pos2 down
  have hX : nx * 2 ^ (ex - ey).toNat = nx * 2 ^ up * 2 ^ down := by
    rw [show (ex - ey).toNat = up + down by omega, Nat.pow_add, Nat.mul_assoc]
  have hmod := Nat.div_add_mod ny (2 ^ down)
  have hlt := Nat.mod_lt ny hk
  rw [← hlo, Nat.mul_comm] at hmod
  have hz : nx * 2 ^ (ex - ey).toNat + ny ≠ 0 := by
    intro h1
    have : nx * 2 ^ up * 2 ^ down = 0 := by omega
    rcases Nat.mul_eq_zero.1 this with h2 | h2
    · have : ny = 0 := by omega
      subst this
      rw [Nat.zero_div] at hlo
      omega
    · omega
  have e1 : D.i ey ⟨s, nx, ex⟩ + D.i ey ⟨s, ny, ey⟩ = if s then -((nx * 2 ^ (ex - ey).toNat + ny : Nat) : Int) else ((nx * 2 ^ (ex - ey).toNat + ny : Nat) : Int) := by
    rw [i_up, i_at]; cases s <;> simp; omega
  rw [e1, rndZ_mk m s _ _ hz]
  refine ⟨?_, by
    generalize nx * 2 ^ (ex - ey).toNat + ny = X at *
    cases s
    · rw [if_neg (by simp)]; omega
    · rw [if_pos rfl]; omega⟩
  rw [hX, show ey = ex - up - (down : Int) by omega]
  cases more
  · have he : lo * 2 ^ down = ny := by simpa using hm.symm
    have := into_scale F m s (nx * 2 ^ up + lo) down (ex - up) h0
    rw [← this, Nat.add_mul, he]
  · refine into_sticky F m s _ down _ (ex - up) (hb rfl) ?_ ?_
    · have he : lo * 2 ^ down ≠ ny := by simpa using hm.symm
      rw [Nat.add_mul]; omega
    · rw [Nat.add_mul, Nat.add_mul, Nat.one_mul]; omega

/-- unlike signs -/
theorem add_diff (m : Nat) (s : Bool) (nx ny : Nat) (ex ey : Int) (h : ey ≤ ex) (up down : Nat) (hd : ex - ey = up + down) (lo : Nat) (hlo : lo = ny / 2 ^ down) (more : Bool) (hm : more = decide (lo * 2 ^ down ≠ ny)) (d : Nat)
    (hle : d + lo + (if more then 1 else 0) = nx * 2 ^ up) (h0 : d ≠ 0) (hb : more = true → F.p + 1 ≤ bl d) :
    intoS F m s d (ex - up) more = rndZ F m (D.i ey ⟨s, nx, ex⟩ + D.i ey ⟨!s, ny, ey⟩) ey ∧ D.i ey ⟨s, nx, ex⟩ + D.i ey ⟨!s, ny, ey⟩ ≠ 0 := by
  have hk := pow_pos2 down
  have hX : nx * 2 ^ (ex - ey).toNat = nx * 2 ^ up * 2 ^ down := by
    rw [show (ex - ey).toNat = up + down by omega, Nat.pow_add, Nat.mul_assoc]
  have hmod := Nat.div_add_mod ny (2 ^ down)
  have hlt := Nat.mod_lt ny hk
  rw [← hlo, Nat.mul_comm] at hmod
  obtain ⟨X, hXe, hX1⟩ : ∃ X : Nat, nx * 2 ^ (ex - ey).toNat = X + ny ∧ (more = false → X = d * 2 ^ down) ∧ (more = true → d * 2 ^ down < X ∧ X < (d + 1) * 2 ^ down) ∧ X ≠ 0 := by
    cases more
    · have he : lo * 2 ^ down = ny := by simpa using hm.symm
      simp at hle
      refine ⟨d * 2 ^ down, by rw [hX, ← hle, Nat.add_mul, he], fun _ => rfl, nofun, ?_⟩
      exact Nat.ne_of_gt (Nat.mul_pos (by omega) hk)
    · have he : lo * 2 ^ down ≠ ny := by simpa using hm.symm
      simp at hle
      have h1 : nx * 2 ^ up * 2 ^ down = d * 2 ^ down + lo * 2 ^ down + 2 ^ down := by rw [← hle, Nat.add_mul, Nat.add_mul, Nat.one_mul]
      refine ⟨nx * 2 ^ up * 2 ^ down - ny, by rw [hX]; omega, nofun, fun _ => ⟨by omega, by rw [Nat.add_mul, Nat.one_mul]; omega⟩, by omega⟩
  have e1 : D.i ey ⟨s, nx, ex⟩ + D.i ey ⟨!s, ny, ey⟩ = if s then -(X : Int) else (X : Int) := by
    rw [i_up, i_at, hXe]; cases s <;> simp <;> omega
  rw [e1, rndZ_mk m s _ _ hX1.2.2]
  refine ⟨?_, by have := hX1.2.2; cases s <;> simp <;> omega⟩
  rw [show ey = ex - up - (down : Int) by omega]
  cases hmo : more
  · rw [hX1.1 hmo, into_scale F m s d down (ex - up) h0]
  · obtain ⟨a, b⟩ := hX1.2.1 hmo
    exact into_sticky F m s d down X (ex - up) (hb hmo) a b

end

end Go.Proofs.YtlibhfojfonfjaaGreatDoor

/- What all modes give lies between the bits below and the bits above. -/
namespace Go.Proofs.YtlibhfojfonfjaaGreatDoor
set_option linter.unusedVariables false
set_option linter.unusedSimpArgs false

/-- the bits rounded towards zero -/
def botS (F : Fm) (n : Nat) (e : Int) : Nat := if F.emax < topE n e then F.inf - 1 else floS F n e
def exB (F : Fm) (n : Nat) (e : Int) : Bool := decide (¬ F.emax < topE n e ∧ rst n false (quE F n e - e) = 0)

section
variable {F : Fm}

theorem inf_pos (ok : F.Ok) : 0 < F.inf := by
  rw [inf_emax ok]; exact Nat.mul_pos (by omega) (pow_pos2 _)

theorem bot_lt (ok : F.Ok) (n : Nat) (e : Int) (h0 : n ≠ 0) : botS F n e < F.inf := by
  have := inf_pos ok
  unfold botS
  split
  · omega
  · rename_i h
    have := top_inf F ok n e h0
    omega

theorem mag_between (ok : F.Ok) (m : Nat) (neg : Bool) (n : Nat) (e : Int) (h0 : n ≠ 0) : magS F m neg n e false = botS F n e ∨ (magS F m neg n e false = botS F n e + 1 ∧ exB F n e = false) := by
  have hi := inf_pos ok
  unfold magS botS exB
  by_cases h : F.emax < topE n e
  · rw [if_pos h, if_pos h]
    split
    · right; exact ⟨by omega, by simp [h]⟩
    · left; rfl
  · rw [if_neg h, if_neg h]
    by_cases hr : rst n false (quE F n e - e) = 0
    · rw [goesUp_exact hr]; left; rfl
    · split
      · right; exact ⟨rfl, by simp [hr]⟩
      · left; rfl

theorem mag_exact (ok : F.Ok) (m : Nat) (neg : Bool) (n : Nat) (e : Int) (h0 : n ≠ 0) (hx : exB F n e = true) : magS F m neg n e false = botS F n e := by
  rcases mag_between ok m neg n e h0 with h | ⟨_, h⟩
  · exact h
  · rw [hx] at h; cases h

theorem mag_down (ok : F.Ok) (neg : Bool) (n : Nat) (e : Int) (h0 : n ≠ 0) : magS F 4 neg n e false = if neg && !exB F n e then botS F n e + 1 else botS F n e := by
  have hi := inf_pos ok
  unfold magS botS exB infB
  by_cases h : F.emax < topE n e
  · rw [if_pos h, if_pos h]
    cases neg <;> simp [h]
    omega
  · rw [if_neg h, if_neg h]
    unfold goesUp upB
    by_cases hr : rst n false (quE F n e - e) = 0
    · simp [hr, h]
    · cases neg <;> simp [hr, h]

theorem mag_up (ok : F.Ok) (neg : Bool) (n : Nat) (e : Int) (h0 : n ≠ 0) : magS F 3 neg n e false = if !neg && !exB F n e then botS F n e + 1 else botS F n e := by
  have hi := inf_pos ok
  unfold magS botS exB infB
  by_cases h : F.emax < topE n e
  · rw [if_pos h, if_pos h]
    cases neg <;> simp [h]
    omega
  · rw [if_neg h, if_neg h]
    unfold goesUp upB
    by_cases hr : rst n false (quE F n e - e) = 0
    · simp [hr, h]
    · cases neg <;> simp [hr, h]

theorem flag_exact (ok : F.Ok) (m : Nat) (neg : Bool) (n : Nat) (e : Int) (h0 : n ≠ 0) : (intoS F m neg n e false).2 = 0 ↔ exB F n e = true := by
  rw [into_exact F ok m neg n e false h0]
  unfold exB; simp

/-- what is too great has infinity above it -/
theorem flag_over (ok : F.Ok) (m : Nat) (neg : Bool) (n : Nat) (e : Int) (h0 : n ≠ 0) (h : (intoS F m neg n e false).2 = 20) : botS F n e + 1 = F.inf ∧ exB F n e = false := by
  have hi := inf_pos ok
  have hx : exB F n e = false := by
    cases hb : exB F n e
    · rfl
    · rw [← flag_exact ok m neg n e h0, h] at hb; cases hb
  refine ⟨?_, hx⟩
  unfold botS
  unfold intoS at h
  split at h
  · rename_i h1; rw [if_pos h1]; omega
  · rename_i h1
    rw [if_neg h1]
    split at h
    · rename_i h2
      exact ((over_top F ok m neg n e false h0 h1).1 h2).2.1
    · simp only at h
      split at h
      · cases h
      · split at h <;> cases h

theorem bot_units (ok : F.Ok) (n : Nat) (e L : Int) (h0 : n ≠ 0) (hL1 : L ≤ e) (hL2 : L ≤ F.low) :
    F.vl L (botS F n e) ≤ uN L n e ∧ (F.vl L (botS F n e) = uN L n e ↔ exB F n e = true) ∧ (botS F n e + 1 < F.inf → uN L n e < F.vl L (botS F n e + 1)) := by
  have hi := inf_pos ok
  have hp : 1 ≤ F.p := by have := ok.p8; omega
  obtain ⟨h1, h2⟩ := floS_units F hp n e L h0 hL1 hL2
  have h3 := floS_exact F hp n e L h0 hL1 hL2
  unfold botS exB
  by_cases h : F.emax < topE n e
  · rw [if_pos h]
    have ht := (top_inf F ok n e h0).1 h
    have hlt := vl_lt F hp L hL2 (a := F.inf - 1) (b := floS F n e) (by omega)
    refine ⟨by omega, ?_, by omega⟩
    simp [h]
    omega
  · rw [if_neg h]
    refine ⟨h1, ?_, fun _ => h2⟩
    rw [← h3]; simp [h]

/-- a product of finite numbers, not zero -/
theorem mul_into (ok : F.Ok) (m : Nat) {a b : Nat} (fa : F.abs a < F.inf) (fb : F.abs b < F.inf) (za : F.abs a ≠ 0) (zb : F.abs b ≠ 0) :
    mulS F m a b = intoS F m (F.neg a != F.neg b) (F.mag a * F.mag b) (F.ex a + F.ex b) false := by
  unfold mulS
  have h1 : F.isNan a = false := by unfold Fm.isNan; simp; omega
  have h2 : F.isNan b = false := by unfold Fm.isNan; simp; omega
  have h3 : F.isInf a = false := by unfold Fm.isInf; simp; omega
  have h4 : F.isInf b = false := by unfold Fm.isInf; simp; omega
  have h5 : F.isZero a = false := by unfold Fm.isZero; simp; omega
  have h6 : F.isZero b = false := by unfold Fm.isZero; simp; omega
  simp [h1, h2, h3, h4, h5, h6]

/-- sign and magnitude as a number -/
def sI (s : Bool) (n : Nat) : Int := if s then -(n : Int) else (n : Int)

structure Betw (F : Fm) (g : Nat) (c A B : Nat) (X : Int) (L : Int) : Prop where
  one : c = A ∨ c = B
  lt : A < 2 ^ F.w ∧ B < 2 ^ F.w
  down : F.abs A < F.inf → F.val L A ≤ X ∧ (F.val L A = X ↔ A = B) ∧ (F.val L A = X ↔ g &&& 16 = 0)
  up : F.abs B < F.inf → X ≤ F.val L B ∧ (X = F.val L B ↔ A = B)
  over : F.abs A < F.inf → F.abs B < F.inf → g &&& 4 = 0
  fin : F.abs A < F.inf ∨ F.abs B < F.inf
  minf : ¬ F.abs A < F.inf → A = F.inf + F.sg true
  pinf : ¬ F.abs B < F.inf → B = F.inf + F.sg false

theorem val_mk (ok : F.Ok) (L : Int) {x : Nat} (s : Bool) (hx : x < 2 ^ (F.w - 1)) : F.val L (x + F.sg s) = sI s (F.vl L x) := by
  unfold Fm.val sI
  rw [neg_mk hx, abs_mk hx]

theorem into_betw (ok : F.Ok) (m : Nat) (s : Bool) (n : Nat) (e L : Int) (h0 : n ≠ 0) (hL1 : L ≤ e) (hL2 : L ≤ F.low) :
    Betw F (intoS F m s n e false).2 (intoS F m s n e false).1 (intoS F 4 s n e false).1 (intoS F 3 s n e false).1 (sI s (uN L n e)) L := by
  have hil := inf_lt ok
  have hw := w_two ok
  have hb := bot_lt ok n e h0
  have hsg : F.sg s ≤ 2 ^ (F.w - 1) := sg_lt ok s
  obtain ⟨u1, u2, u3⟩ := bot_units ok n e L h0 hL1 hL2
  have hf := flag_exact ok m s n e h0
  have ho := flag_over ok m s n e h0
  have hm := mag_between ok m s n e h0
  have hfl := into_flags F m s n e false
  rw [into_bits F ok m s n e false h0, into_bits F ok 4 s n e false h0, into_bits F ok 3 s n e false h0, mag_down ok s n e h0, mag_up ok s n e h0]
  generalize (intoS F m s n e false).2 = g at *
  generalize magS F m s n e false = c at *
  generalize botS F n e = x at *
  generalize exB F n e = t at *
  generalize uN L n e = U at *
  have hvx : ∀ s, F.val L (x + F.sg s) = sI s (F.vl L x) := fun s => val_mk ok L s (by omega)
  have hvx1 : ∀ s, F.val L (x + 1 + F.sg s) = sI s (F.vl L (x + 1)) := fun s => val_mk ok L s (by omega)
  have hax : ∀ s, F.abs (x + F.sg s) = x := fun s => abs_mk (by omega)
  have hax1 : ∀ s, F.abs (x + 1 + F.sg s) = x + 1 := fun s => abs_mk (by omega)
  have hg16 : g &&& 16 = 0 ↔ t = true := by
    rw [← hf]
    rcases hfl with h | h | h | h <;> rw [h] <;> decide
  have hg4 : g ≠ 20 → g &&& 4 = 0 := by
    intro h5
    rcases hfl with h | h | h | h
    · rw [h]; rfl
    · rw [h]; rfl
    · exact absurd h h5
    · rw [h]; rfl
  cases t
  · have u2' : F.vl L x ≠ U := by intro h; have := u2.1 h; cases this
    have hg : ¬ g &&& 16 = 0 := by rw [hg16]; simp
    cases s
    · simp only [Bool.not_false, Bool.and_true, Bool.false_and, Bool.and_self, if_true, if_false, Bool.false_eq_true]
      refine ⟨?_, ?_, ?_, ?_, ?_, ?_, ?_, ?_⟩
      · rcases hm with h | ⟨h, _⟩ <;> rw [h] <;> simp
      · constructor <;> omega
      · intro _
        rw [hvx]
        unfold sI
        simp only [Bool.false_eq_true, if_false]
        refine ⟨by omega, ⟨fun h => by omega, fun h => by omega⟩, ⟨fun h => by omega, fun h => absurd h hg⟩⟩
      · rw [hax1, hvx1]
        intro h
        have := u3 h
        unfold sI
        simp only [Bool.false_eq_true, if_false]
        exact ⟨by omega, ⟨fun h => by omega, fun h => by omega⟩⟩
      · rw [hax1]
        intro _ h
        refine hg4 fun h5 => ?_
        have := (ho h5).1
        omega
      · rw [hax]; left; exact hb
      · rw [hax]; intro h; exact absurd hb h
      · rw [hax1]; intro h; rw [show x + 1 = F.inf by omega]
    · simp only [Bool.not_false, Bool.not_true, Bool.and_true, Bool.false_and, Bool.and_self, if_true, if_false, Bool.false_eq_true]
      refine ⟨?_, ?_, ?_, ?_, ?_, ?_, ?_, ?_⟩
      · rcases hm with h | ⟨h, _⟩ <;> rw [h] <;> simp
      · constructor <;> omega
      · rw [hax1, hvx1]
        intro h
        have := u3 h
        unfold sI
        simp only [if_true]
        refine ⟨by omega, ⟨fun h => by omega, fun h => by omega⟩, ⟨fun h => by omega, fun h => absurd h hg⟩⟩
      · intro _
        rw [hvx]
        unfold sI
        simp only [if_true]
        exact ⟨by omega, ⟨fun h => by omega, fun h => by omega⟩⟩
      · rw [hax1]
        intro h _
        refine hg4 fun h5 => ?_
        have := (ho h5).1
        omega
      · rw [hax]; right; exact hb
      · rw [hax1]; intro h; rw [show x + 1 = F.inf by omega]
      · rw [hax]; intro h; exact absurd hb h
  · have u2' : F.vl L x = U := u2.2 rfl
    have hg : g &&& 16 = 0 := by rw [hg16]
    have hc : c = x := by
      rcases hm with h | ⟨_, h⟩
      · exact h
      · cases h
    have hc' := hc.symm
    subst hc'
    have hne : g ≠ 20 := by intro h; have := (ho h).2; cases this
    have hxl : ∀ s, x + F.sg s < 2 ^ F.w := fun s => by have := sg_lt ok s; omega
    have key : ∀ s, Betw F g (x + F.sg s) (x + F.sg s) (x + F.sg s) (sI s U) L := by
      intro s
      refine ⟨Or.inl rfl, ⟨hxl s, hxl s⟩, ?_, ?_, fun _ _ => hg4 hne, Or.inl (by rw [hax]; exact hb), ?_, ?_⟩
      · intro _; rw [hvx, u2']; exact ⟨Int.le_refl _, ⟨fun _ => rfl, fun _ => rfl⟩, ⟨fun _ => hg, fun _ => rfl⟩⟩
      · intro _; rw [hvx, u2']; exact ⟨Int.le_refl _, ⟨fun _ => rfl, fun _ => rfl⟩⟩
      · rw [hax]; intro h; exact absurd hb h
      · rw [hax]; intro h; exact absurd hb h
    have := key s
    cases s <;> simpa using this

end
end Go.Proofs.YtlibhfojfonfjaaGreatDoor

/- A product's bounds as exact numbers. -/
namespace Go.Proofs.YtlibhfojfonfjaaGreatDoor
set_option linter.unusedVariables false
set_option linter.unusedSimpArgs false

section
variable {F : Fm}

theorem low_ge (ok : F.Ok) : -1074 ≤ F.low ∧ F.low ≤ 0 := by
  obtain ⟨p8, p53, pw, w64, emx, emn, b16, b1023⟩ := ok
  unfold Fm.low; omega

theorem ex_range (ok : F.Ok) {a : Nat} (h : F.abs a < F.inf) : F.low ≤ F.ex a ∧ F.ex a ≤ 1024 := by
  have h1 := inf_emax ok
  have hp := pow_pos2 (F.p - 1)
  obtain ⟨p8, p53, pw, w64, emx, emn, b16, b1023⟩ := ok
  have hd : F.abs a / 2 ^ (F.p - 1) < 2 * F.emax.toNat + 1 := by rw [Nat.div_lt_iff_lt_mul hp]; omega
  unfold Fm.ex Fm.xp
  unfold Fm.low
  generalize F.abs a / 2 ^ (F.p - 1) = q at *
  clear h h1 hp
  split <;> omega

theorem mag_lt (ok : F.Ok) (a : Nat) : F.mag a < 2 ^ 53 := by
  obtain ⟨p8, p53, pw, w64, emx, emn, b16, b1023⟩ := ok
  have hp := pow_pos2 (F.p - 1)
  have h2 : (2 : Nat) ^ (F.p - 1) ≤ 2 ^ 52 := Nat.pow_le_pow_right (by decide) (by omega)
  unfold Fm.mag Fm.sig
  split
  · rename_i h
    have := Nat.lt_of_div_eq_zero hp h
    omega
  · have := Nat.mod_lt (F.abs a) hp
    omega

theorem small_nd {n : Nat} (h : n < 2 ^ 128) : nd 64 n ≤ 2 := nd_le 64 n 2 (by decide) h

/-- a value: its size and its units -/
theorem valD_facts (ok : F.Ok) {a : Nat} (h : F.abs a < F.inf) : refD (nd 64 (valD F a).n) (valD F a).e = 0 ∧ (valD F a).n < 2 ^ (64 * nd 64 (valD F a).n) ∧ (∀ L, L ≤ -40000 → (valD F a).i L = F.val L a) ∧ (F.abs a ≠ 0 ↔ (valD F a).n ≠ 0) := by
  have h1 := low_ge ok
  have h2 := ex_range ok h
  have h3 := mag_lt ok a
  have hle : (valD F a).n ≤ F.mag a := odd_le _
  have hmz : F.abs a ≠ 0 ↔ F.mag a ≠ 0 := by
    constructor
    · intro h0; exact mag_ne (by have := ok.p8; omega) (by unfold Fm.isZero; simpa using h0)
    · intro h0 h4; apply h0; unfold Fm.mag; rw [h4]; simp [Fm.sig]
  have hz : F.mag a ≠ 0 ↔ (valD F a).n ≠ 0 := by
    unfold valD oddD
    simp only
    split
    · rename_i h4; simp [h4, D.zero]
    · rename_i h4
      exact ⟨fun _ => odd_part_ne h4, fun _ => h4⟩
  have he : -1100 ≤ (valD F a).e ∧ (valD F a).e ≤ 1200 := by
    unfold valD oddD
    simp only
    split
    · simp [D.zero]
    · rename_i h4
      have : tzN (F.mag a) < 64 := by
        have := (tz_tzN (n := F.mag a) (by omega) h4).1
        have := (tz_tzN (n := F.mag a) (by omega) h4).2
        omega
      simp only
      omega
  refine ⟨?_, lt_nd 64 _ (by decide), ?_, hmz.trans hz⟩
  · unfold refD
    have := small_nd (n := (valD F a).n) (by omega)
    rw [if_neg (by omega), if_neg (by omega)]
  · intro L hL
    rw [val_i]
    exact i_odd _ L (by show L ≤ F.ex a; omega)

theorem sI_i (s : Bool) (n : Nat) (e L : Int) : D.i L ⟨s, n, e⟩ = sI s (uN L n e) := i_up s n e L

/-- the exact product of two values -/
theorem prod_val (ok : F.Ok) {a b : Nat} (fa : F.abs a < F.inf) (fb : F.abs b < F.inf) :
    ∃ x, mulD (nd 64 (valD F a).n) (valD F a) (nd 64 (valD F b).n) (valD F b) = (x, 0) ∧ refD (nd 64 x.n) x.e = 0 ∧ x.i (-80000) = sI (F.neg a != F.neg b) (uN (-80000) (F.mag a * F.mag b) (F.ex a + F.ex b)) := by
  obtain ⟨r1, l1, v1, _⟩ := valD_facts ok fa
  obtain ⟨r2, l2, v2, _⟩ := valD_facts ok fb
  have h1 := low_ge ok
  have ha := ex_range ok fa
  have hb := ex_range ok fb
  have hma := mag_lt ok a
  have hmb := mag_lt ok b
  obtain ⟨d, hd, hde, hdi⟩ := mulD_ans (-40000) (by omega) r1 r2 l1 l2
  have e2 : (-40000 : Int) + -40000 = -80000 := by decide
  rw [e2] at hde hdi
  rw [v1 _ (by omega), v2 _ (by omega), val_i, val_i, ← i_mul _ _ _ _ _ _ _ (by omega) (by omega), e2] at hdi
  have hq : ansD d = ansD ⟨F.neg a != F.neg b, F.mag a * F.mag b, F.ex a + F.ex b⟩ := ansD_eq (-80000) hde (by show -80000 ≤ F.ex a + F.ex b; omega) (by omega) hdi
  have hn : F.mag a * F.mag b < 2 ^ 106 := Nat.lt_of_lt_of_le (Nat.mul_lt_mul'' hma hmb) (by decide)
  obtain ⟨y, hy⟩ : ∃ y, y = oddD ⟨F.neg a != F.neg b, F.mag a * F.mag b, F.ex a + F.ex b⟩ := ⟨_, rfl⟩
  have hyn : y.n ≤ F.mag a * F.mag b := by rw [hy]; exact odd_le _
  have hnd := small_nd (n := y.n) (by omega)
  have hye : -4000 ≤ y.e ∧ y.e ≤ 4000 := by
    rw [hy]
    unfold oddD
    simp only
    split
    · simp [D.zero]
    · rename_i h4
      have h5 := tzN_spec (F.mag a * F.mag b) h4
      have : tzN (F.mag a * F.mag b) < 128 := by
        rcases Nat.lt_or_ge (tzN (F.mag a * F.mag b)) 128 with h | h
        · exact h
        · exfalso
          obtain ⟨q, hq⟩ := h5
          have := Nat.pow_le_pow_right (show 0 < 2 by decide) h
          have h8 : 2 ^ tzN (F.mag a * F.mag b) ≤ F.mag a * F.mag b := by
            conv => rhs; rw [hq]
            exact Nat.le_mul_of_pos_right _ (by omega)
          omega
      simp only
      omega
  refine ⟨y, ?_, ?_, ?_⟩
  · rw [hd, hq]
    unfold ansD
    rw [← hy, if_neg (by omega), if_neg (by omega)]
  · unfold refD
    rw [if_neg (by omega), if_neg (by omega)]
  · rw [hy, i_odd _ _ (by show -80000 ≤ F.ex a + F.ex b; omega), sI_i]

structure BetwD (F : Fm) (g : Nat) (c A B : Nat) (x : D) : Prop where
  fl : g = 0 ∨ g = 16 ∨ g = 20 ∨ g = 24
  one : c = A ∨ c = B
  lt : A < 2 ^ F.w ∧ B < 2 ^ F.w
  down : F.abs A < F.inf → cmpD (nd 64 (valD F A).n) (valD F A) (nd 64 x.n) x = (if A = B then 0 else -1, 0) ∧ (A = B ↔ g &&& 16 = 0)
  up : F.abs B < F.inf → cmpD (nd 64 x.n) x (nd 64 (valD F B).n) (valD F B) = (if A = B then 0 else -1, 0)
  over : F.abs A < F.inf → F.abs B < F.inf → g &&& 4 = 0
  fin : F.abs A < F.inf ∨ F.abs B < F.inf
  minf : ¬ F.abs A < F.inf → A = F.inf + F.sg true
  pinf : ¬ F.abs B < F.inf → B = F.inf + F.sg false

theorem sgI_le {x : Int} {p : Prop} [Decidable p] (h : x ≤ 0) (hp : x = 0 ↔ p) : sgI x = if p then 0 else -1 := by
  unfold sgI
  by_cases hx : x = 0
  · rw [if_pos hx, if_pos (hp.1 hx)]
  · rw [if_neg hx, if_pos (by omega), if_neg (fun h => hx (hp.2 h))]

theorem mul_between (ok : F.Ok) (m : Nat) {a b : Nat} (fa : F.abs a < F.inf) (fb : F.abs b < F.inf) (za : F.abs a ≠ 0) (zb : F.abs b ≠ 0) :
    ∃ x, mulD (nd 64 (valD F a).n) (valD F a) (nd 64 (valD F b).n) (valD F b) = (x, 0) ∧ BetwD F (mulS F m a b).2 (mulS F m a b).1 (mulS F 4 a b).1 (mulS F 3 a b).1 x := by
  obtain ⟨x, hx, hr, hi⟩ := prod_val ok fa fb
  refine ⟨x, hx, ?_⟩
  have hp : 1 ≤ F.p := by have := ok.p8; omega
  have hlow := low_ge ok
  have hea := ex_range ok fa
  have heb := ex_range ok fb
  have hma : F.mag a ≠ 0 := mag_ne hp (by unfold Fm.isZero; simpa using za)
  have hmb : F.mag b ≠ 0 := mag_ne hp (by unfold Fm.isZero; simpa using zb)
  have H := into_betw ok m (F.neg a != F.neg b) (F.mag a * F.mag b) (F.ex a + F.ex b) (-80000) (Nat.mul_ne_zero hma hmb) (by omega) (by omega)
  have hfl := into_flags F m (F.neg a != F.neg b) (F.mag a * F.mag b) (F.ex a + F.ex b) false
  rw [mul_into ok m fa fb za zb, mul_into ok 4 fa fb za zb, mul_into ok 3 fa fb za zb]
  generalize (intoS F m (F.neg a != F.neg b) (F.mag a * F.mag b) (F.ex a + F.ex b) false) = r at *
  generalize (intoS F 4 (F.neg a != F.neg b) (F.mag a * F.mag b) (F.ex a + F.ex b) false).1 = A at *
  generalize (intoS F 3 (F.neg a != F.neg b) (F.mag a * F.mag b) (F.ex a + F.ex b) false).1 = B at *
  generalize sI (F.neg a != F.neg b) (uN (-80000) (F.mag a * F.mag b) (F.ex a + F.ex b)) = X at *
  refine ⟨hfl, H.one, H.lt, ?_, ?_, H.over, H.fin, H.minf, H.pinf⟩
  · intro hA
    obtain ⟨r1, l1, v1, _⟩ := valD_facts ok hA
    obtain ⟨d1, d2, d3⟩ := H.down hA
    refine ⟨?_, d2.symm.trans d3⟩
    rw [cmpD_val _ _ _ _ (-80000) (by omega) r1 hr, v1 _ (by omega), hi, sgI_le (p := A = B) (show F.val (-80000) A - X ≤ 0 by omega) (by rw [← d2]; omega)]
  · intro hB
    obtain ⟨r1, l1, v1, _⟩ := valD_facts ok hB
    obtain ⟨d1, d2⟩ := H.up hB
    rw [cmpD_val _ _ _ _ (-80000) (by omega) hr r1, v1 _ (by omega), hi, sgI_le (p := A = B) (show X - F.val (-80000) B ≤ 0 by omega) (by rw [← d2]; omega)]

end
end Go.Proofs.YtlibhfojfonfjaaGreatDoor

/- Fused sums of products, as plain numbers. -/
namespace Go.Proofs.YtlibhfojfonfjaaGreatDoor
set_option linter.unusedVariables false

/-- a summand -/
structure Pt where
  nan : Bool
  sig : Bool
  inv : Bool
  inf : Bool
  neg : Bool
  d : D

/-- one float -/
def singleP (F : Fm) (a : Nat) : Pt := ⟨F.isNan a, F.isSig a, false, F.isInf a, F.neg a, if F.isNan a || F.isInf a then D.zero else valD F a⟩

/-- a product of two parts -/
def timesP (x y : Pt) : Pt :=
  if x.nan || y.nan then ⟨true, x.sig || y.sig, false, false, x.neg != y.neg, D.zero⟩
  else ⟨false, x.sig || y.sig, (x.inf && !y.inf && decide (y.d.n = 0)) || (y.inf && !x.inf && decide (x.d.n = 0)), x.inf || y.inf, x.neg != y.neg,
    if x.inf || y.inf then D.zero else (mulD (nd 64 x.d.n) x.d (nd 64 y.d.n) y.d).1⟩

def sumP (x y : Pt) : D := (addD (nd 64 x.d.n) x.d (nd 64 y.d.n) y.d).1

/-- the sum of two parts: bits and flags -/
def fuseS (F : Fm) (m : Nat) (x y : Pt) : Nat × Nat :=
  if x.sig || y.sig || x.inv || y.inv then (F.nan, 1)
  else if x.nan || y.nan then (F.nan, 0)
  else if x.inf && y.inf && (x.neg != y.neg) then (F.nan, 1)
  else if x.inf then (F.inf + F.sg x.neg, 0)
  else if y.inf then (F.inf + F.sg y.neg, 0)
  else if (sumP x y).n = 0 then (F.sg (if decide (x.d.n = 0) && decide (y.d.n = 0) && (x.neg == y.neg) then x.neg else m == 4), 0)
  else intoS F m (sumP x y).s (sumP x y).n (sumP x y).e false

/-- a small canonical number -/
structure Sm (d : D) : Prop where
  can : d.can
  lo : -5000 ≤ d.e
  hi : d.e ≤ 5000
  lt : d.n < 2 ^ 128

theorem Sm.zero : Sm D.zero := ⟨Or.inl rfl, by decide, by decide, by decide⟩

theorem Sm.sz {d : D} (h : Sm d) : nd 64 d.n ≤ 2 := small_nd h.lt

theorem Sm.ref {d : D} (h : Sm d) : refD (nd 64 d.n) d.e = 0 := by
  have h1 := h.sz
  have h2 := h.lo
  have h3 := h.hi
  unfold refD
  rw [if_neg (by omega), if_neg (by omega)]

theorem i_natAbs (d : D) (L : Int) : (d.i L).natAbs = d.n * 2 ^ (d.e - L).toNat := by
  unfold D.i
  rw [Int.natAbs_mul, Int.natAbs_pow]
  cases d.s <;> simp

/-- a number less than 2^K in units of 2^L is not too great -/
theorem size_of {d : D} {L : Int} {K : Nat} (hL : L ≤ d.e) (h : (d.i L).natAbs < 2 ^ K) : d.n < 2 ^ K ∧ (d.n ≠ 0 → d.e < L + K) := by
  rw [i_natAbs] at h
  have h1 : d.n ≤ d.n * 2 ^ (d.e - L).toNat := Nat.le_mul_of_pos_right _ (pow_pos2 _)
  refine ⟨Nat.lt_of_le_of_lt h1 h, fun h0 => ?_⟩
  have h2 : 2 ^ (d.e - L).toNat ≤ d.n * 2 ^ (d.e - L).toNat := Nat.le_mul_of_pos_left _ (Nat.pos_of_ne_zero h0)
  have h3 := (Nat.pow_lt_pow_iff_right (show 1 < 2 by decide)).1 (Nat.lt_of_le_of_lt h2 h)
  omega

/-- what may be handed on: a canonical number within the limits -/
structure Cn (d : D) : Prop where
  can : d.can
  sz : nd 64 d.n ≤ 1024
  lo : -40000 ≤ d.e
  hi : d.e ≤ 40000
  own : canonD (nd 64 d.n) d = (d, 0)
  ref : refD (nd 64 d.n) d.e = 0

theorem Cn.of {d : D} (h1 : d.can) (h2 : nd 64 d.n ≤ 1024) (h3 : -40000 ≤ d.e) (h4 : d.e ≤ 40000) : Cn d := by
  have hr : refD (nd 64 d.n) d.e = 0 := by unfold refD; rw [if_neg (by omega), if_neg (by omega)]
  exact ⟨h1, h2, h3, h4, by unfold canonD; rw [if_pos hr]; exact ansD_can h1 h2 h3 h4, hr⟩

theorem sum_small_any {a b : D} (ha : Sm a) (hb : Sm b) (K : Nat) (hK : K = 10129) (L : Int) (hL : L = -5000) : (a.i L + b.i L).natAbs < 2 ^ K := by
  have h1 : ∀ d : D, Sm d → (d.i L).natAbs < 2 ^ (K - 1) := by
    intro d hd
    rw [i_natAbs]
    have e1 : d.n * 2 ^ (d.e - L).toNat ≤ d.n * 2 ^ (K - 129) := Nat.mul_le_mul_left _ (Nat.pow_le_pow_right (by decide) (by have := hd.hi; omega))
    have e2 : d.n * 2 ^ (K - 129) < 2 ^ 128 * 2 ^ (K - 129) := Nat.mul_lt_mul_of_pos_right hd.lt (pow_pos2 _)
    rw [← Nat.pow_add, show 128 + (K - 129) = K - 1 by omega] at e2
    omega
  have h2 := h1 a ha
  have h3 := h1 b hb
  have h4 := Int.natAbs_add_le (a.i L) (b.i L)
  have h5 := pow_split K (by omega)
  omega

theorem addD_sm {a b : D} (ha : Sm a) (hb : Sm b) : ∃ s, addD (nd 64 a.n) a (nd 64 b.n) b = (s, 0) ∧ Cn s ∧ -5000 ≤ s.e ∧ s.i (-5000) = a.i (-5000) + b.i (-5000) := by
  have hca := can_odd a ha.can
  have hcb := can_odd b hb.can
  have hs : addD (nd 64 a.n) a (nd 64 b.n) b = ansD (sumD a b) := by
    unfold addD
    rw [if_pos (by unfold twoD; rw [if_pos ha.ref]; exact hb.ref), hca, hcb]
  have hcan := sumD_can ha.can hb.can
  have hlow := sumD_low a b (-5000) ha.lo hb.lo (by decide)
  have hi := i_sum a b (-5000) ha.lo hb.lo
  obtain ⟨K, hK⟩ : ∃ K, K = 10129 := ⟨_, rfl⟩
  have hsz := sum_small_any ha hb K hK (-5000) rfl
  rw [← hi] at hsz
  obtain ⟨z1, z2⟩ := size_of hlow hsz
  obtain ⟨M, hM⟩ : ∃ M, M = 159 := ⟨_, rfl⟩
  have hnd : nd 64 (sumD a b).n ≤ M := nd_le 64 _ M (by decide) (Nat.lt_of_lt_of_le z1 (Nat.pow_le_pow_right (by decide) (by omega)))
  have hei : (sumD a b).e ≤ 40000 := by
    by_cases h0 : (sumD a b).n = 0
    · rcases hcan with h | h
      · rw [h]; decide
      · rw [h0] at h; cases h
    · have := z2 h0; omega
  exact ⟨sumD a b, by rw [hs, ansD_can hcan (by omega) (by omega) hei], Cn.of hcan (by omega) (by omega) hei, hlow, hi⟩

section
variable {F : Fm}

theorem valD_sm (ok : F.Ok) {a : Nat} (h : F.abs a < F.inf) : Sm (valD F a) := by
  have h1 := low_ge ok
  have h2 := ex_range ok h
  have h3 := mag_lt ok a
  have hle : (valD F a).n ≤ F.mag a := odd_le _
  refine ⟨oddD_can _, ?_, ?_, by omega⟩
  · exact oddD_low _ (-5000) (by show -5000 ≤ F.ex a; omega) (by decide)
  · unfold valD oddD
    simp only
    split
    · decide
    · rename_i h4
      have := tz_tzN (n := F.mag a) (by omega) h4
      show F.ex a + (tzN (F.mag a) : Int) ≤ 5000
      omega

theorem single_sm (ok : F.Ok) (a : Nat) : Sm (singleP F a).d := by
  unfold singleP
  simp only
  split
  · exact Sm.zero
  · rename_i h
    simp only [Bool.or_eq_true, not_or, Bool.not_eq_true] at h
    exact valD_sm ok (fin_of h.1 h.2)

theorem i_of_val (ok : F.Ok) {a : Nat} (h : F.abs a < F.inf) (L : Int) (hL : L ≤ -5000) : (valD F a).i L = F.val L a := by
  have h1 := low_ge ok
  have h2 := ex_range ok h
  rw [val_i]
  exact i_odd _ L (by show L ≤ F.ex a; omega)

/-- the exact product of two values -/
theorem prod_eq (ok : F.Ok) {a b : Nat} (fa : F.abs a < F.inf) (fb : F.abs b < F.inf) :
    mulD (nd 64 (valD F a).n) (valD F a) (nd 64 (valD F b).n) (valD F b) = (oddD ⟨F.neg a != F.neg b, F.mag a * F.mag b, F.ex a + F.ex b⟩, 0) := by
  obtain ⟨x, hx, hr, hi⟩ := prod_val ok fa fb
  obtain ⟨r1, l1, v1, _⟩ := valD_facts ok fa
  obtain ⟨r2, l2, v2, _⟩ := valD_facts ok fb
  have h1 := low_ge ok
  have ha := ex_range ok fa
  have hb := ex_range ok fb
  have hok := mul_ok (a := valD F a) (b := valD F b) (-40000) (by decide) l1 l2 (by rw [hx])
  rw [hx] at hok
  have hok : OkD x _ _ := hok
  rw [hx]
  have hlow : -80000 ≤ (oddD ⟨F.neg a != F.neg b, F.mag a * F.mag b, F.ex a + F.ex b⟩).e := oddD_low _ (-80000) (by show -80000 ≤ F.ex a + F.ex b; omega) (by decide)
  have := can_inj (L := -80000) hok.can (oddD_can ⟨F.neg a != F.neg b, F.mag a * F.mag b, F.ex a + F.ex b⟩) (by have := hok.low; omega) hlow
    (by rw [hi, i_odd _ _ (by show -80000 ≤ F.ex a + F.ex b; omega), sI_i])
  rw [this]

theorem prod_sm (ok : F.Ok) {a b : Nat} (fa : F.abs a < F.inf) (fb : F.abs b < F.inf) : Sm (oddD ⟨F.neg a != F.neg b, F.mag a * F.mag b, F.ex a + F.ex b⟩) := by
  have h1 := low_ge ok
  have ha := ex_range ok fa
  have hb := ex_range ok fb
  have hma := mag_lt ok a
  have hmb := mag_lt ok b
  have hn : F.mag a * F.mag b < 2 ^ 106 := Nat.lt_of_lt_of_le (Nat.mul_lt_mul'' hma hmb) (by decide)
  have hle : (oddD ⟨F.neg a != F.neg b, F.mag a * F.mag b, F.ex a + F.ex b⟩).n ≤ F.mag a * F.mag b := odd_le _
  refine ⟨oddD_can _, oddD_low _ (-5000) (by show -5000 ≤ F.ex a + F.ex b; omega) (by decide), ?_, by omega⟩
  unfold oddD
  simp only
  split
  · decide
  · rename_i h4
    have h5 := tzN_spec (F.mag a * F.mag b) h4
    have : tzN (F.mag a * F.mag b) < 128 := by
      rcases Nat.lt_or_ge (tzN (F.mag a * F.mag b)) 128 with h | h
      · exact h
      · exfalso
        obtain ⟨q, hq⟩ := h5
        have := Nat.pow_le_pow_right (show 0 < 2 by decide) h
        have h8 : 2 ^ tzN (F.mag a * F.mag b) ≤ F.mag a * F.mag b := by
          conv => rhs; rw [hq]
          exact Nat.le_mul_of_pos_right _ (by omega)
        omega
    show F.ex a + F.ex b + (tzN (F.mag a * F.mag b) : Int) ≤ 5000
    omega

theorem prod_i (ok : F.Ok) {a b : Nat} (fa : F.abs a < F.inf) (fb : F.abs b < F.inf) : (oddD ⟨F.neg a != F.neg b, F.mag a * F.mag b, F.ex a + F.ex b⟩).i (-5000) = F.val (-2500) a * F.val (-2500) b := by
  have h1 := low_ge ok
  have ha := ex_range ok fa
  have hb := ex_range ok fb
  rw [i_odd _ _ (by show -5000 ≤ F.ex a + F.ex b; omega), val_i, val_i, show (-5000 : Int) = -2500 + -2500 by decide, i_mul _ _ _ _ _ _ _ (by omega) (by omega)]

/-- a part that comes of floats -/
structure Ps (x : Pt) : Prop where
  sm : Sm x.d
  sig : x.sig = true → x.nan = true

theorem single_ps (ok : F.Ok) (a : Nat) : Ps (singleP F a) := ⟨single_sm ok a, fun h => by
  unfold singleP at h ⊢
  simp only at h ⊢
  unfold Fm.isSig at h
  simp only [Bool.and_eq_true] at h
  exact h.1⟩

theorem times_d (ok : F.Ok) (a b : Nat) (h1 : F.isNan a = false) (h2 : F.isInf a = false) (h3 : F.isNan b = false) (h4 : F.isInf b = false) :
    mulD (nd 64 (singleP F a).d.n) (singleP F a).d (nd 64 (singleP F b).d.n) (singleP F b).d = ((timesP (singleP F a) (singleP F b)).d, 0) := by
  have hm := prod_eq ok (fin_of h1 h2) (fin_of h3 h4)
  unfold timesP singleP
  simp only [h1, h2, h3, h4, Bool.or_self, Bool.false_eq_true, if_false]
  rw [hm]

theorem times_ps (ok : F.Ok) (a b : Nat) : Ps (timesP (singleP F a) (singleP F b)) := by
  have key : Sm (timesP (singleP F a) (singleP F b)).d := by
    cases h1 : F.isNan a
    · cases h3 : F.isNan b
      · cases h2 : F.isInf a
        · cases h4 : F.isInf b
          · have := times_d ok a b h1 h2 h3 h4
            have hm := prod_eq ok (fin_of h1 h2) (fin_of h3 h4)
            have hs := prod_sm ok (fin_of h1 h2) (fin_of h3 h4)
            unfold timesP singleP
            simp only [h1, h2, h3, h4, Bool.or_self, Bool.false_eq_true, if_false]
            rw [hm]
            exact hs
          · unfold timesP singleP; simp [h1, h2, h3, h4]; exact Sm.zero
        · unfold timesP singleP; simp [h1, h2, h3]; exact Sm.zero
      · unfold timesP singleP; simp [h1, h3]; exact Sm.zero
    · unfold timesP singleP; simp [h1]; exact Sm.zero
  refine ⟨key, ?_⟩
  unfold timesP singleP
  simp only
  split
  · intro _; rfl
  · rename_i h
    simp only [Bool.or_eq_true, not_or, Bool.not_eq_true] at h
    simp [Fm.isSig, h.1, h.2]

end
end Go.Proofs.YtlibhfojfonfjaaGreatDoor

/- An exact number in a box; the calls of layer 3 on such; Value's errors. -/
namespace Go.Proofs.YtlibhfojfonfjaaGreatDoor
set_option linter.unusedVariables false
open Go.RowKit

/-- an exact number in a box -/
structure VB (g : Nat) (d : D) (A : Option Addr) (c : Nat) (w : World) : Prop where
  bx : Box3 w g (.bool d.s) (.slice A (nd 64 d.n) c) (.int .i64 d.e)
  rd : Rd 64 w (.slice A (nd 64 d.n) c) d.n (nd 64 d.n)

theorem VB.below {g : Nat} {d : D} {A : Option Addr} {c : Nat} {w w' : World} (h : VB g d A c w) (hb : Below w.heap.size w w') : VB g d A c w' := ⟨h.bx.keep hb, h.rd.below hb⟩

theorem VB.new {d : D} {A : Option Addr} {c : Nat} {w : World} (h : Rd 64 w (.slice A (nd 64 d.n) c) d.n (nd 64 d.n)) (t : TypeId) : VB w.heap.size d A c (w.alloc (.cells #[.bool d.s, .slice A (nd 64 d.n) c, .int .i64 d.e] t)) :=
  ⟨Box3.new w _ _ _ t, h.below (below1 w _)⟩

theorem DMul_vb {u v x : D} {A1 A2 : Option Addr} {c1 c2 g1 g2 : Nat} {w : World} (h1 : VB g1 u A1 c1 w) (h2 : VB g2 v A2 c2 w) (hG : Gl w) (hm : mulD (nd 64 u.n) u (nd 64 v.n) v = (x, 0)) :
    Calls Tryz.prog 9 #[.agg #[.bool u.s, .slice A1 (nd 64 u.n) c1, .int .i64 u.e], .agg #[.bool v.s, .slice A2 (nd 64 v.n) c2, .int .i64 v.e]] w fun e w' =>
      ∃ A c, e = .returned (.tuple #[.agg #[.bool x.s, .slice A (nd 64 x.n) c, .int .i64 x.e], .int .i64 0]) ∧ Rd 64 w' (.slice A (nd 64 x.n) c) x.n (nd 64 x.n) ∧ Below w.heap.size w w' := by
  refine (DMul_any u.s v.s A1 A2 u.n (nd 64 u.n) c1 v.n (nd 64 v.n) c2 u.e v.e w h1.rd h2.rd hG).mono ?_
  rintro e w' ⟨y, rfl, hd, hb⟩
  rw [show mulD (nd 64 u.n) ⟨u.s, u.n, u.e⟩ (nd 64 v.n) ⟨v.s, v.n, v.e⟩ = (x, 0) from hm] at hd
  obtain ⟨A, c, rfl, _, _, h, _⟩ := hd
  exact ⟨A, c, by rw [show mulD (nd 64 u.n) ⟨u.s, u.n, u.e⟩ (nd 64 v.n) ⟨v.s, v.n, v.e⟩ = (x, 0) from hm], h, hb⟩

theorem DCmp_vb {u v : D} {A1 A2 : Option Addr} {c1 c2 g1 g2 : Nat} {o : Int} {w : World} (h1 : VB g1 u A1 c1 w) (h2 : VB g2 v A2 c2 w) (hG : Gl w) (hm : cmpD (nd 64 u.n) u (nd 64 v.n) v = (o, 0)) :
    Calls Tryz.prog 44 #[.agg #[.bool u.s, .slice A1 (nd 64 u.n) c1, .int .i64 u.e], .agg #[.bool v.s, .slice A2 (nd 64 v.n) c2, .int .i64 v.e]] w fun e w' =>
      e = .returned (.tuple #[.int .i64 o, .int .i64 0]) ∧ Below w.heap.size w w' := by
  refine (DCmp_any u.s v.s A1 A2 u.n (nd 64 u.n) c1 v.n (nd 64 v.n) c2 u.e v.e w h1.rd h2.rd hG).mono ?_
  rintro e w' ⟨rfl, hb⟩
  rw [show cmpD (nd 64 u.n) ⟨u.s, u.n, u.e⟩ (nd 64 v.n) ⟨v.s, v.n, v.e⟩ = (o, 0) from hm]
  exact ⟨rfl, hb⟩

theorem Value_vb (f : Int) (a : Nat) (d : D) (z : Int) (ha : a < 18446744073709551616) (hd : d = valA f a) (hz : z = valE f a) (w : World) (hG : GlR w) (hT : Gl w) :
    Calls Tryz.prog 17 #[.int .i64 f, .int .u64 a] w fun e w' => ∃ A c, e = .returned (.tuple #[.agg #[.bool d.s, .slice A (nd 64 d.n) c, .int .i64 d.e], .int .i64 z]) ∧ Rd 64 w' (.slice A (nd 64 d.n) c) d.n (nd 64 d.n) ∧ Below w.heap.size w w' := by
  subst hd hz
  refine (Value_any f a w ha hG hT).mono ?_
  rintro e w' ⟨x, rfl, ⟨A, c, rfl, _, _, h, _⟩, hb⟩
  exact ⟨A, c, rfl, h, hb⟩

theorem flag16 {g : Nat} (h : g = 0 ∨ g = 16 ∨ g = 20 ∨ g = 24) : (bits .and .i64 (g : Int) 16 == 0) = decide (g &&& 16 = 0) ∧ (bits .and .i64 (g : Int) 4 == 0) = decide (g &&& 4 = 0) := by
  rcases h with rfl | rfl | rfl | rfl <;> exact ⟨by decide +kernel, by decide +kernel⟩

theorem valE_fin {n A : Nat} (hn : n < 4) (hl : A < 2 ^ (fm n).w) (hf : (fm n).abs A < (fm n).inf) : valE (n : Int) A = 0 := by
  unfold valE
  rw [chkS_of hn hl, if_neg (by decide), Int.toNat_natCast, if_pos hf]

theorem valE_inf {n A : Nat} (hn : n < 4) (hl : A < 2 ^ (fm n).w) (hf : ¬ (fm n).abs A < (fm n).inf) : valE (n : Int) A = 40 := by
  unfold valE
  rw [chkS_of hn hl, if_neg (by decide), Int.toNat_natCast, if_neg hf]

theorem valA_fin {n A : Nat} (hn : n < 4) (hl : A < 2 ^ (fm n).w) (hf : (fm n).abs A < (fm n).inf) : valA (n : Int) A = valD (fm n) A := by
  unfold valA
  rw [valE_fin hn hl hf, if_pos rfl, Int.toNat_natCast]

end Go.Proofs.YtlibhfojfonfjaaGreatDoor

/- The walk of round.Exact, of a canonical number. -/
namespace Go.Proofs.YtlibhfojfonfjaaGreatDoor
set_option linter.unusedVariables false
open Go.RowKit

set_option maxRecDepth 100000 in
set_option maxHeartbeats 4000000 in
theorem Exact_ok (f m : Nat) (d : D) (A : Option Addr) (c : Nat) (w : World) (hf : f < 4) (hm : m ≤ 5) (hc : canonD (nd 64 d.n) d = (d, 0)) (hb : nd 64 d.n ≤ 1024 ∧ -40000 ≤ d.e ∧ d.e ≤ 40000) (h0 : d.n ≠ 0)
    (hrd : Rd 64 w (.slice A (nd 64 d.n) c) d.n (nd 64 d.n)) (hG : Gl w) (hR : GlR w) :
    Calls Tryz.prog 98 #[.int .i64 f, .int .i64 m, .agg #[.bool d.s, .slice A (nd 64 d.n) c, .int .i64 d.e]] w fun e w' =>
      e = .returned (.tuple #[.int .u64 ((intoS (fm f) m d.s d.n d.e false).1 : Int), .int .i64 ((intoS (fm f) m d.s d.n d.e false).2 : Int), .int .i64 0]) ∧ Below w.heap.size w w' := by
  have hrf := fun wx h => refuses_m f m wx hf h
  rw [rfS_of hf hm] at hrf
  have hcn := fun wx h1 h2 => Canon_any d.s A d.n (nd 64 d.n) c d.e wx h1 h2
  rw [show canonD (nd 64 d.n) ⟨d.s, d.n, d.e⟩ = (d, 0) from hc] at hcn
  have hin := fun A' c' wx h1 h2 h3 => into_any f hf d.s A' d.n (nd 64 d.n) c' d.e false m wx h1 hm hb.1 (by omega) h0 h2 h3
  obtain ⟨x, hx⟩ : ∃ x, x = (intoS (fm f) m d.s d.n d.e false).1 := ⟨_, rfl⟩
  obtain ⟨g, hg⟩ : ∃ x, x = (intoS (fm f) m d.s d.n d.e false).2 := ⟨_, rfl⟩
  simp only [← hx, ← hg] at hin
  rw [← hx, ← hg]
  have hnz : nd 64 d.n ≠ 0 := by have := nd_pos 64 d.n; omega
  have t1 : ((nd 64 d.n : Int) == 0) = false := by simpa using hnz
  have hb0 := below1 w (.cells #[.bool d.s, .slice A (nd 64 d.n) c, .int .i64 d.e] 28)
  have VD := Lib.hid (VB.new hrd 28)
  have HB := Lib.hid hb0
  have HG := Lib.hid (hG.below hb0)
  have HR := Lib.hid (hR.below hb0)
  have Hrf := Lib.hid hrf
  have Hcn := Lib.hid hcn
  have Hin := Lib.hid hin
  generalize hF : fm f = F at *
  clear hx hg hrf hcn hin hc hb h0 hrd hG hR hb0 hF
  go_enter Tryz.func98, Tryz.ntmps98
  go_wp2_with fail
  refine (Hrf.out _ HR.out).mono ?_
  rintro _ w1 ⟨rfl, hb1⟩
  unfold PV
  have hb2 := below1 w1 (.cells #[.int .i64 F.w, .int .i64 F.p, .int .i64 F.emin, .int .i64 F.emax] 65)
  have BP := Lib.hid (BxP.new F w1 65)
  replace VD := Lib.hid ((VD.out.below hb1).below hb2)
  replace HB := Lib.hid (keep_belowB (keep_belowB HB.out hb1 (Nat.le_refl _)) hb2 (Nat.le_refl _))
  replace HG := Lib.hid ((HG.out.below hb1).below hb2)
  replace HR := Lib.hid ((HR.out.below hb1).below hb2)
  clear hb1 hb2 Hrf
  obtain ⟨d0, d1, d2, -, -⟩ := VD.out.bx.cells
  go_wp2_with fail
  refine (Hcn.out _ VD.out.rd HG.out).mono ?_
  rintro _ w2 ⟨y, rfl, ⟨A2, c2, rfl, -, -, hrd2, -⟩, hb3⟩
  have hb4 := below1 w2 (.cells #[.bool d.s, .slice A2 (nd 64 d.n) c2, .int .i64 d.e] 28)
  have VY := Lib.hid (VB.new hrd2 28)
  replace BP := Lib.hid ((BP.out.below hb3).below hb4)
  replace HB := Lib.hid (keep_belowB (keep_belowB HB.out hb3 (Nat.le_refl _)) hb4 (Nat.le_refl _))
  replace HG := Lib.hid ((HG.out.below hb3).below hb4)
  replace HR := Lib.hid ((HR.out.below hb3).below hb4)
  clear hb3 hb4 Hcn VD d0 d1 d2 hrd2
  obtain ⟨d0, d1, d2, -, -⟩ := VY.out.bx.cells
  obtain ⟨q0, q1, q2, q3⟩ := BP.out.cells
  go_wp2_with fail
  refine (Hin.out _ _ _ VY.out.rd HG.out HR.out).mono ?_
  rintro _ w3 ⟨rfl, hb5⟩
  replace HB := Lib.hid (keep_belowB HB.out hb5 (Nat.le_refl _))
  clear hb5 Hin VY BP d0 d1 d2 q0 q1 q2 q3
  go_wp2_with fail
  refine bodyPost_ret (v := .tuple #[.int .u64 x, .int .i64 g, .int .i64 0]) (by simp [results, Tryz.results98, go_sem]) rfl ⟨rfl, HB.out⟩

end Go.Proofs.YtlibhfojfonfjaaGreatDoor

/- The walk of fused.single: one float taken apart. -/
namespace Go.Proofs.YtlibhfojfonfjaaGreatDoor
set_option linter.unusedVariables false
open Go.RowKit

def pv (q : Pt) (A : Option Addr) (c : Nat) : Array Value := #[.bool q.nan, .bool q.sig, .bool q.inv, .bool q.inf, .bool q.neg, .bool q.d.s, .slice A (nd 64 q.d.n) c, .int .i64 q.d.e]

def pv0 : Array Value := #[.bool false, .bool false, .bool false, .bool false, .bool false, .bool false, .slice none 0 0, .int .i64 0]

theorem Bx.set8 {w : World} {g : Nat} {a0 a1 a2 a3 a4 a5 a6 a7 : Value} (h : Bx w g #[a0, a1, a2, a3, a4, a5, a6, a7]) (x0 x1 x2 x3 x4 x5 x6 x7 : Value) :
    Bx ((((((((w.setCell ⟨g, 0, none⟩ x0).setCell ⟨g, 1, none⟩ x1).setCell ⟨g, 2, none⟩ x2).setCell ⟨g, 3, none⟩ x3).setCell ⟨g, 4, none⟩ x4).setCell ⟨g, 5, none⟩ x5).setCell ⟨g, 6, none⟩ x6).setCell ⟨g, 7, none⟩ x7) g #[x0, x1, x2, x3, x4, x5, x6, x7] := by
  obtain ⟨t, h⟩ := h
  refine ⟨t, ?_⟩
  simp [World.setCell, Array.getElem?_modify, h]

theorem Bx.set3 {w : World} {g : Nat} {a0 a1 a2 a3 a4 a5 a6 a7 : Value} (h : Bx w g #[a0, a1, a2, a3, a4, a5, a6, a7]) (x5 x6 x7 : Value) :
    Bx (((w.setCell ⟨g, 5, none⟩ x5).setCell ⟨g, 6, none⟩ x6).setCell ⟨g, 7, none⟩ x7) g #[a0, a1, a2, a3, a4, x5, x6, x7] := by
  obtain ⟨t, h⟩ := h
  refine ⟨t, ?_⟩
  simp [World.setCell, Array.getElem?_modify, h]

theorem Bx.put3 {w : World} {g : Nat} {a0 a1 a2 a3 a4 a5 a6 a7 : Value} (h : Bx w g #[a0, a1, a2, a3, a4, a5, a6, a7]) (x : Value) : Bx (w.setCell ⟨g, 3, none⟩ x) g #[a0, a1, a2, x, a4, a5, a6, a7] := by
  obtain ⟨t, h⟩ := h
  refine ⟨t, ?_⟩
  simp [World.setCell, Array.getElem?_modify, h]

theorem Bx.put2 {w : World} {g : Nat} {a0 a1 a2 a3 a4 a5 a6 a7 : Value} (h : Bx w g #[a0, a1, a2, a3, a4, a5, a6, a7]) (x : Value) : Bx (w.setCell ⟨g, 2, none⟩ x) g #[a0, a1, x, a3, a4, a5, a6, a7] := by
  obtain ⟨t, h⟩ := h
  refine ⟨t, ?_⟩
  simp [World.setCell, Array.getElem?_modify, h]

theorem Bx.other {w : World} {g : Nat} {arr : Array Value} (h : Bx w g arr) {p : Addr} (hp : p.block ≠ g) (u : Value) : Bx (w.setCell p u) g arr := by
  obtain ⟨t, h⟩ := h
  refine ⟨t, ?_⟩
  unfold World.setCell
  simp only [Array.getElem?_modify]
  rw [if_neg hp]
  exact h

theorem Bx.eight {w : World} {g : Nat} {a0 a1 a2 a3 a4 a5 a6 a7 : Value} (h : Bx w g #[a0, a1, a2, a3, a4, a5, a6, a7]) :
    w.cell? ⟨g, 0, none⟩ = some a0 ∧ w.cell? ⟨g, 1, none⟩ = some a1 ∧ w.cell? ⟨g, 2, none⟩ = some a2 ∧ w.cell? ⟨g, 3, none⟩ = some a3 ∧ w.cell? ⟨g, 4, none⟩ = some a4 ∧ w.cell? ⟨g, 5, none⟩ = some a5 ∧ w.cell? ⟨g, 6, none⟩ = some a6 ∧ w.cell? ⟨g, 7, none⟩ = some a7 :=
  ⟨h.cell 0 rfl, h.cell 1 rfl, h.cell 2 rfl, h.cell 3 rfl, h.cell 4 rfl, h.cell 5 rfl, h.cell 6 rfl, h.cell 7 rfl⟩

theorem rf_set {B : Nat} {w : World} {v : Value} {N n : Nat} (h : Rd 64 w v N n ∧ Fr B w v) {p : Addr} (hp : p.block < B) (u : Value) : Rd 64 (w.setCell p u) v N n ∧ Fr B (w.setCell p u) v := ⟨h.1.setCell_fr h.2 hp u, h.2.setCell hp u⟩

theorem below_set8 {w w1 : World} {g : Nat} (h : Below w.heap.size w w1) (hg : w.heap.size ≤ g) (x0 x1 x2 x3 x4 x5 x6 x7 : Value) :
    Below w.heap.size w ((((((((w1.setCell ⟨g, 0, none⟩ x0).setCell ⟨g, 1, none⟩ x1).setCell ⟨g, 2, none⟩ x2).setCell ⟨g, 3, none⟩ x3).setCell ⟨g, 4, none⟩ x4).setCell ⟨g, 5, none⟩ x5).setCell ⟨g, 6, none⟩ x6).setCell ⟨g, 7, none⟩ x7) :=
  (((((((h.setCell (p := ⟨g, 0, none⟩) hg x0).setCell (p := ⟨g, 1, none⟩) hg x1).setCell (p := ⟨g, 2, none⟩) hg x2).setCell (p := ⟨g, 3, none⟩) hg x3).setCell (p := ⟨g, 4, none⟩) hg x4).setCell (p := ⟨g, 5, none⟩) hg x5).setCell (p := ⟨g, 6, none⟩) hg x6).setCell (p := ⟨g, 7, none⟩) hg x7

set_option maxRecDepth 100000 in
set_option maxHeartbeats 8000000 in
theorem single_any (f a : Nat) (w : World) (hf : f < 4) (ha : a < 2 ^ (fm f).w) (hG : Gl w) (hR : GlR w) :
    Calls Tryz.prog 82 #[.int .i64 f, .int .u64 a] w fun e w' => ∃ A c, e = .returned (.agg (pv (singleP (fm f) a) A c)) ∧ Rd 64 w' (.slice A (nd 64 (singleP (fm f) a).d.n) c) (singleP (fm f) a).d.n (nd 64 (singleP (fm f) a).d.n) ∧ Below w.heap.size w w' := by
  have ok := fm_ok f
  have hcl := fun wx h => Class_ok f a wx hf ha h
  have hfl := fun wx h => Fields_ok f a wx hf ha h
  obtain ⟨cc, hcc⟩ : ∃ y, y = clsF (fm f) a := ⟨_, rfl⟩
  have hn := cls_nan ok a
  have hs := cls_sig ok a
  have hi := cls_inf ok a
  rw [← hcc] at hcl hn hs hi
  have hr : 0 ≤ cc := by
    rw [hcc]; unfold clsF; repeat' split
    all_goals omega
  have hval := fun (hfin : (fm f).abs a < (fm f).inf) wx h1 h2 => Value_fin f a wx hf ha hfin h1 h2
  have hfi : (fm f).isNan a = false → (fm f).isInf a = false → (fm f).abs a < (fm f).inf := fin_of
  obtain ⟨q, hq⟩ : ∃ q, q = singleP (fm f) a := ⟨_, rfl⟩
  rw [← hq]
  unfold singleP at hq
  have hb0 := below1 w (.cells pv0 125)
  have b0 := Bx.new w pv0 125
  have HB := Lib.hid hb0
  have B4 := Lib.hid b0
  have HG := Lib.hid (hG.below hb0)
  have HR := Lib.hid (hR.below hb0)
  have Hcl := Lib.hid hcl
  have Hfl := Lib.hid hfl
  have Hval := Lib.hid hval
  have Hq := Lib.hid hq
  have Hi := Lib.hid (And.intro hn (And.intro hs (And.intro hi hfi)))
  generalize (fm f).neg a = ng at *
  clear hcl hfl hval hq hn hs hi hfi hcc hb0 b0 hG hR ok hf ha
  go_enter Tryz.func82, Tryz.ntmps82
  go_wp2_with fail
  unfold pv0 at B4
  refine (Hcl.out _ HR.out).mono ?_
  rintro _ w1 ⟨rfl, hb1⟩
  replace HB := Lib.hid (keep_belowB HB.out hb1 (Nat.le_refl _))
  replace B4 := Lib.hid (B4.out.below hb1)
  replace HG := Lib.hid (HG.out.below hb1)
  replace HR := Lib.hid (HR.out.below hb1)
  clear hb1 Hcl
  go_wp2_with fail
  refine (Hfl.out _ HR.out).mono ?_
  rintro _ w2 ⟨rfl, hb2⟩
  replace HB := Lib.hid (keep_belowB HB.out hb2 (Nat.le_refl _))
  replace B4 := Lib.hid (B4.out.below hb2)
  replace HG := Lib.hid (HG.out.below hb2)
  replace HR := Lib.hid (HR.out.below hb2)
  clear hb2 Hfl
  have hi := Hi.out
  go_upto_region 3 with (fail)
  by_cases h0 : cc = 0
  · subst h0
    have hq' : q = ⟨true, true, false, false, ng, D.zero⟩ := by rw [Hq.out, hi.1, hi.2.1, hi.2.2.1]; rfl
    clear Hq Hval Hi hi
    have bn := Bx.new w2 #[.bool true, .bool true, .bool false, .bool false, .bool ng, .bool false, .slice none 0 0, .int .i64 0] 125
    have hbn := below1 w2 (.cells #[.bool true, .bool true, .bool false, .bool false, .bool ng, .bool false, .slice none 0 0, .int .i64 0] 125)
    obtain ⟨k0, k1, k2, k3, k4, k5, k6, k7⟩ := bn.eight
    replace B4 := Lib.hid (B4.out.below hbn)
    replace HB := Lib.hid (keep_belowB HB.out hbn (Nat.le_refl _))
    clear bn hbn
    obtain ⟨c0, c1, c2, c3, c4, c5, c6, c7⟩ := B4.out.eight
    have rf : ∀ j, (w2.alloc (.cells #[.bool true, .bool true, .bool false, .bool false, .bool ng, .bool false, .slice none 0 0, .int .i64 0] 125)).frozen? ⟨w.heap.size, j, none⟩ = false := fun j => B4.out.free j
    go_wp2_with fail
    obtain ⟨r0, r1, r2, r3, r4, r5, r6, r7⟩ := (B4.out.set8 (.bool true) (.bool true) (.bool false) (.bool false) (.bool ng) (.bool false) (.slice none 0 0) (.int .i64 0)).eight
    refine bodyPost_ret (v := .agg #[.bool true, .bool true, .bool false, .bool false, .bool ng, .bool false, .slice none 0 0, .int .i64 0]) (by simp [results, Tryz.results82, go_sem, r0, r1, r2, r3, r4, r5, r6, r7]) rfl ?_
    subst hq'
    exact ⟨none, 0, rfl, Rd.none_, below_set8 HB.out (Nat.le_refl _) _ _ _ _ _ _ _ _⟩
  by_cases h1 : cc = 1
  · subst h1
    have hq' : q = ⟨true, false, false, false, ng, D.zero⟩ := by rw [Hq.out, hi.1, hi.2.1, hi.2.2.1]; rfl
    clear Hq Hval Hi hi h0
    have bn := Bx.new w2 #[.bool true, .bool false, .bool false, .bool false, .bool ng, .bool false, .slice none 0 0, .int .i64 0] 125
    have hbn := below1 w2 (.cells #[.bool true, .bool false, .bool false, .bool false, .bool ng, .bool false, .slice none 0 0, .int .i64 0] 125)
    obtain ⟨k0, k1, k2, k3, k4, k5, k6, k7⟩ := bn.eight
    replace B4 := Lib.hid (B4.out.below hbn)
    replace HB := Lib.hid (keep_belowB HB.out hbn (Nat.le_refl _))
    clear bn hbn
    obtain ⟨c0, c1, c2, c3, c4, c5, c6, c7⟩ := B4.out.eight
    have rf : ∀ j, (w2.alloc (.cells #[.bool true, .bool false, .bool false, .bool false, .bool ng, .bool false, .slice none 0 0, .int .i64 0] 125)).frozen? ⟨w.heap.size, j, none⟩ = false := fun j => B4.out.free j
    go_wp2_with fail
    obtain ⟨r0, r1, r2, r3, r4, r5, r6, r7⟩ := (B4.out.set8 (.bool true) (.bool false) (.bool false) (.bool false) (.bool ng) (.bool false) (.slice none 0 0) (.int .i64 0)).eight
    refine bodyPost_ret (v := .agg #[.bool true, .bool false, .bool false, .bool false, .bool ng, .bool false, .slice none 0 0, .int .i64 0]) (by simp [results, Tryz.results82, go_sem, r0, r1, r2, r3, r4, r5, r6, r7]) rfl ?_
    subst hq'
    exact ⟨none, 0, rfl, Rd.none_, below_set8 HB.out (Nat.le_refl _) _ _ _ _ _ _ _ _⟩
  by_cases h2 : cc = 2
  · subst h2
    have hq' : q = ⟨false, false, false, true, ng, D.zero⟩ := by rw [Hq.out, hi.1, hi.2.1, hi.2.2.1]; rfl
    clear Hq Hval Hi hi h0 h1
    have bn := Bx.new w2 #[.bool false, .bool false, .bool false, .bool true, .bool ng, .bool false, .slice none 0 0, .int .i64 0] 125
    have hbn := below1 w2 (.cells #[.bool false, .bool false, .bool false, .bool true, .bool ng, .bool false, .slice none 0 0, .int .i64 0] 125)
    obtain ⟨k0, k1, k2, k3, k4, k5, k6, k7⟩ := bn.eight
    replace B4 := Lib.hid (B4.out.below hbn)
    replace HB := Lib.hid (keep_belowB HB.out hbn (Nat.le_refl _))
    clear bn hbn
    obtain ⟨c0, c1, c2, c3, c4, c5, c6, c7⟩ := B4.out.eight
    have rf : ∀ j, (w2.alloc (.cells #[.bool false, .bool false, .bool false, .bool true, .bool ng, .bool false, .slice none 0 0, .int .i64 0] 125)).frozen? ⟨w.heap.size, j, none⟩ = false := fun j => B4.out.free j
    go_wp2_with fail
    obtain ⟨r0, r1, r2, r3, r4, r5, r6, r7⟩ := (B4.out.set8 (.bool false) (.bool false) (.bool false) (.bool true) (.bool ng) (.bool false) (.slice none 0 0) (.int .i64 0)).eight
    refine bodyPost_ret (v := .agg #[.bool false, .bool false, .bool false, .bool true, .bool ng, .bool false, .slice none 0 0, .int .i64 0]) (by simp [results, Tryz.results82, go_sem, r0, r1, r2, r3, r4, r5, r6, r7]) rfl ?_
    subst hq'
    exact ⟨none, 0, rfl, Rd.none_, below_set8 HB.out (Nat.le_refl _) _ _ _ _ _ _ _ _⟩
  by_cases h9 : cc = 9
  · subst h9
    have hq' : q = ⟨false, false, false, true, ng, D.zero⟩ := by rw [Hq.out, hi.1, hi.2.1, hi.2.2.1]; rfl
    clear Hq Hval Hi hi h0 h1 h2
    have bn := Bx.new w2 #[.bool false, .bool false, .bool false, .bool true, .bool ng, .bool false, .slice none 0 0, .int .i64 0] 125
    have hbn := below1 w2 (.cells #[.bool false, .bool false, .bool false, .bool true, .bool ng, .bool false, .slice none 0 0, .int .i64 0] 125)
    obtain ⟨k0, k1, k2, k3, k4, k5, k6, k7⟩ := bn.eight
    replace B4 := Lib.hid (B4.out.below hbn)
    replace HB := Lib.hid (keep_belowB HB.out hbn (Nat.le_refl _))
    clear bn hbn
    obtain ⟨c0, c1, c2, c3, c4, c5, c6, c7⟩ := B4.out.eight
    have rf : ∀ j, (w2.alloc (.cells #[.bool false, .bool false, .bool false, .bool true, .bool ng, .bool false, .slice none 0 0, .int .i64 0] 125)).frozen? ⟨w.heap.size, j, none⟩ = false := fun j => B4.out.free j
    go_wp2_with fail
    obtain ⟨r0, r1, r2, r3, r4, r5, r6, r7⟩ := (B4.out.set8 (.bool false) (.bool false) (.bool false) (.bool true) (.bool ng) (.bool false) (.slice none 0 0) (.int .i64 0)).eight
    refine bodyPost_ret (v := .agg #[.bool false, .bool false, .bool false, .bool true, .bool ng, .bool false, .slice none 0 0, .int .i64 0]) (by simp [results, Tryz.results82, go_sem, r0, r1, r2, r3, r4, r5, r6, r7]) rfl ?_
    subst hq'
    exact ⟨none, 0, rfl, Rd.none_, below_set8 HB.out (Nat.le_refl _) _ _ _ _ _ _ _ _⟩
  have e1 : (fm f).isNan a = false := by rw [hi.1]; simp; omega
  have e2 : (fm f).isSig a = false := by rw [hi.2.1]; simp; omega
  have e3 : (fm f).isInf a = false := by rw [hi.2.2.1]; simp; omega
  have hv := Hval.out (hi.2.2.2 e1 e3)
  have hq' : q = ⟨false, false, false, false, ng, valD (fm f) a⟩ := by rw [Hq.out, e1, e2, e3]; rfl
  have t0 : (cc == 0) = false := by simpa using h0
  have t1 : decide (cc ≤ 1) = false := by simp; omega
  have t2 : (cc == 2) = false := by simpa using h2
  have t9 : (cc == 9) = false := by simpa using h9
  obtain ⟨d, hd⟩ : ∃ d, d = valD (fm f) a := ⟨_, rfl⟩
  rw [← hd] at hq' hv
  have Hv := Lib.hid hv
  have bn := Bx.new w2 #[.bool false, .bool false, .bool false, .bool false, .bool ng, .bool false, .slice none 0 0, .int .i64 0] 125
  have hbn := below1 w2 (.cells #[.bool false, .bool false, .bool false, .bool false, .bool ng, .bool false, .slice none 0 0, .int .i64 0] 125)
  obtain ⟨k0, k1, k2, k3, k4, k5, k6, k7⟩ := bn.eight
  have HB2 := Lib.hid (keep_belowB (keep_belowB HB.out (Below.refl _ _) (Nat.le_refl _)) hbn (Nat.le_refl _))
  replace HG := Lib.hid (HG.out.below hbn)
  replace HR := Lib.hid (HR.out.below hbn)
  have hlt : w.heap.size < w2.heap.size := by obtain ⟨t, h⟩ := B4.out; exact lt_size_of_some h
  replace B4 := Lib.hid (B4.out.below hbn)
  have BN := Lib.hid bn
  have Hlt := Lib.hid hlt
  clear hd hv bn hbn Hq Hval Hi hi e1 e2 e3 h0 h1 h2 h9 hr HB hlt
  go_wp2_with fail
  refine (Hv.out _ HR.out HG.out).mono ?_
  rintro _ w3 ⟨x, rfl, ⟨A, c, rfl, -, -, hrd, hfr⟩, hb3⟩
  replace HB2 := Lib.hid (keep_belowB HB2.out hb3 (Nat.le_refl _))
  replace B4 := Lib.hid (B4.out.below hb3)
  replace BN := Lib.hid (BN.out.below hb3)
  clear hb3 Hv k0 k1 k2 k3 k4 k5 k6 k7
  have BN2 := Lib.hid (BN.out.set3 (.bool d.s) (.slice A (nd 64 d.n) c) (.int .i64 d.e))
  obtain ⟨k0, k1, k2, k3, k4, k5, k6, k7⟩ := BN2.out.eight
  obtain ⟨l0, l1, l2, l3, l4, l5, l6, l7⟩ := BN.out.eight
  have lf : ∀ j, w3.frozen? ⟨w2.heap.size, j, none⟩ = false := fun j => BN.out.free j
  have hne' : w2.heap.size ≠ w.heap.size := by have := Hlt.out; omega
  have B5 := (((B4.out.other (p := ⟨w2.heap.size, 5, none⟩) hne' (.bool d.s)).other (p := ⟨w2.heap.size, 6, none⟩) hne' (.slice A (nd 64 d.n) c)).other (p := ⟨w2.heap.size, 7, none⟩) hne' (.int .i64 d.e))
  obtain ⟨c0, c1, c2, c3, c4, c5, c6, c7⟩ := B5.eight
  have rf := fun j => B5.free j
  clear hne'
  go_wp2_with fail
  have hne : w2.heap.size ≠ w.heap.size := by have := Hlt.out; omega
  obtain ⟨r0, r1, r2, r3, r4, r5, r6, r7⟩ := ((((B4.out.other (p := ⟨w2.heap.size, 5, none⟩) hne (.bool d.s)).other (p := ⟨w2.heap.size, 6, none⟩) hne (.slice A (nd 64 d.n) c)).other (p := ⟨w2.heap.size, 7, none⟩) hne (.int .i64 d.e)).set8 (.bool false) (.bool false) (.bool false) (.bool false) (.bool ng) (.bool d.s) (.slice A (nd 64 d.n) c) (.int .i64 d.e)).eight
  refine bodyPost_ret (v := .agg #[.bool false, .bool false, .bool false, .bool false, .bool ng, .bool d.s, .slice A (nd 64 d.n) c, .int .i64 d.e]) (by simp [results, Tryz.results82, go_sem, r0, r1, r2, r3, r4, r5, r6, r7]) rfl ?_
  subst hq'
  have hle : w.heap.size ≤ w2.heap.size := by have := Hlt.out; omega
  have hB1 : w2.heap.size < (w2.alloc (.cells #[.bool false, .bool false, .bool false, .bool false, .bool ng, .bool false, .slice none 0 0, .int .i64 0] 125)).heap.size := by simp
  have hB2 := Nat.lt_of_le_of_lt hle hB1
  refine ⟨A, c, rfl, ?_, below_set8 (((HB2.out.setCell (p := ⟨w2.heap.size, 5, none⟩) hle (.bool d.s)).setCell (p := ⟨w2.heap.size, 6, none⟩) hle (.slice A (nd 64 d.n) c)).setCell (p := ⟨w2.heap.size, 7, none⟩) hle (.int .i64 d.e)) (Nat.le_refl _) _ _ _ _ _ _ _ _⟩
  exact (rf_set (rf_set (rf_set (rf_set (rf_set (rf_set (rf_set (rf_set (rf_set (rf_set (rf_set (And.intro hrd hfr) (p := ⟨w2.heap.size, 5, none⟩) hB1 _) (p := ⟨w2.heap.size, 6, none⟩) hB1 _) (p := ⟨w2.heap.size, 7, none⟩) hB1 _) (p := ⟨w.heap.size, 0, none⟩) hB2 _) (p := ⟨w.heap.size, 1, none⟩) hB2 _) (p := ⟨w.heap.size, 2, none⟩) hB2 _) (p := ⟨w.heap.size, 3, none⟩) hB2 _) (p := ⟨w.heap.size, 4, none⟩) hB2 _) (p := ⟨w.heap.size, 5, none⟩) hB2 _) (p := ⟨w.heap.size, 6, none⟩) hB2 _) (p := ⟨w.heap.size, 7, none⟩) hB2 _).1

end Go.Proofs.YtlibhfojfonfjaaGreatDoor

/- The walk of fused.product. -/
namespace Go.Proofs.YtlibhfojfonfjaaGreatDoor
set_option linter.unusedVariables false
open Go.RowKit

set_option maxRecDepth 100000 in
set_option maxHeartbeats 16000000 in
theorem product_pt (f a b : Nat) (w : World) (hf : f < 4) (ha : a < 2 ^ (fm f).w) (hb : b < 2 ^ (fm f).w) (hG : Gl w) (hR : GlR w) :
    Calls Tryz.prog 81 #[.int .i64 f, .int .u64 a, .int .u64 b] w fun e w' => ∃ A c, e = .returned (.agg (pv (timesP (singleP (fm f) a) (singleP (fm f) b)) A c)) ∧
      Rd 64 w' (.slice A (nd 64 (timesP (singleP (fm f) a) (singleP (fm f) b)).d.n) c) (timesP (singleP (fm f) a) (singleP (fm f) b)).d.n (nd 64 (timesP (singleP (fm f) a) (singleP (fm f) b)).d.n) ∧ Below w.heap.size w w' := by
  have ok := fm_ok f
  have hsa := fun wx h1 h2 => single_any f a wx hf ha h1 h2
  have hsb := fun wx h1 h2 => single_any f b wx hf hb h1 h2
  have hpa := single_ps ok a
  have hpb := single_ps ok b
  obtain ⟨x, hx⟩ : ∃ x, x = singleP (fm f) a := ⟨_, rfl⟩
  obtain ⟨y, hy⟩ : ∃ x, x = singleP (fm f) b := ⟨_, rfl⟩
  rw [← hx] at hsa hpa ⊢
  rw [← hy] at hsb hpb ⊢
  clear hx hy
  obtain ⟨z, hz⟩ : ∃ z, z = timesP x y := ⟨_, rfl⟩
  rw [← hz]
  unfold timesP at hz
  obtain ⟨xn, xs, xi, xf, xg, xd⟩ := x
  obtain ⟨yn, ys, yi, yf, yg, yd⟩ := y
  unfold pv at hsa hsb
  simp only at hsa hsb hz
  have Hsa := Lib.hid hsa
  have Hsb := Lib.hid hsb
  have Hz := Lib.hid hz
  have hxs := hpa.sig
  have hys := hpb.sig
  simp only at hxs hys
  have Hs := Lib.hid (And.intro hxs hys)
  have hb0 := below1 w (.cells pv0 125)
  have b0 := Bx.new w pv0 125
  have HB := Lib.hid hb0
  have B6 := Lib.hid b0
  have HG := Lib.hid (hG.below hb0)
  have HR := Lib.hid (hR.below hb0)
  clear hsa hsb hpa hpb hz hxs hys hb0 b0 hG hR ok hf ha hb
  unfold pv0 at B6
  go_enter Tryz.func81, Tryz.ntmps81
  go_wp2_with fail
  refine (Hsa.out _ HG.out HR.out).mono ?_
  rintro _ w1 ⟨A1, c1, rfl, hrx, hb1⟩
  have HX := Lib.hid hrx
  replace HB := Lib.hid (keep_belowB HB.out hb1 (Nat.le_refl _))
  replace B6 := Lib.hid (B6.out.below hb1)
  replace HG := Lib.hid (HG.out.below hb1)
  replace HR := Lib.hid (HR.out.below hb1)
  clear hb1 Hsa hrx
  go_wp2_with fail
  refine (Hsb.out _ HG.out HR.out).mono ?_
  rintro _ w2 ⟨A2, c2, rfl, hry, hb2⟩
  replace HX := Lib.hid (HX.out.below hb2)
  have HY := Lib.hid hry
  replace HB := Lib.hid (keep_belowB HB.out hb2 (Nat.le_refl _))
  replace B6 := Lib.hid (B6.out.below hb2)
  replace HG := Lib.hid (HG.out.below hb2)
  replace HR := Lib.hid (HR.out.below hb2)
  clear hb2 Hsb hry
  have hlt0 : w.heap.size < w2.heap.size := by obtain ⟨t, h⟩ := B6.out; exact lt_size_of_some h
  have Hlt := Lib.hid hlt0
  clear hlt0
  have hb3 := below1 w2 (.cells #[.bool xn, .bool xs, .bool xi, .bool xf, .bool xg, .bool xd.s, .slice A1 (nd 64 xd.n) c1, .int .i64 xd.e] 125)
  have bx := Bx.new w2 #[.bool xn, .bool xs, .bool xi, .bool xf, .bool xg, .bool xd.s, .slice A1 (nd 64 xd.n) c1, .int .i64 xd.e] 125
  generalize hW1 : w2.alloc (.cells #[.bool xn, .bool xs, .bool xi, .bool xf, .bool xg, .bool xd.s, .slice A1 (nd 64 xd.n) c1, .int .i64 xd.e] 125) = W1 at *
  have hb4 := below1 W1 (.cells #[.bool yn, .bool ys, .bool yi, .bool yf, .bool yg, .bool yd.s, .slice A2 (nd 64 yd.n) c2, .int .i64 yd.e] 125)
  have by_ := Bx.new W1 #[.bool yn, .bool ys, .bool yi, .bool yf, .bool yg, .bool yd.s, .slice A2 (nd 64 yd.n) c2, .int .i64 yd.e] 125
  obtain ⟨W2, hW2⟩ : ∃ W2, W2 = W1.alloc (.cells #[.bool yn, .bool ys, .bool yi, .bool yf, .bool yg, .bool yd.s, .slice A2 (nd 64 yd.n) c2, .int .i64 yd.e] 125) := ⟨_, rfl⟩
  rw [← hW2] at hb4 by_
  have hsz : W1.heap.size = w2.heap.size + 1 := by rw [← hW1]; simp
  replace HX := Lib.hid ((HX.out.below hb3).below hb4)
  replace HY := Lib.hid ((HY.out.below hb3).below hb4)
  replace HB := Lib.hid (keep_belowB (keep_belowB HB.out hb3 (Nat.le_refl _)) hb4 (Nat.le_refl _))
  replace B6 := Lib.hid ((B6.out.below hb3).below hb4)
  replace HG := Lib.hid ((HG.out.below hb3).below hb4)
  replace HR := Lib.hid ((HR.out.below hb3).below hb4)
  have BX := Lib.hid (bx.below hb4)
  have BY := Lib.hid by_
  rw [hsz] at BY
  have HW1 := Lib.hid hW1
  clear hb3 hb4 bx by_ hsz hW1
  go_upto_region 2 with (fail)
  rw [HW1.out, ← hW2]
  clear HW1 hW2
  have Hle := Lib.hid (show w.heap.size ≤ W2.heap.size by obtain ⟨t, h⟩ := B6.out; have := lt_size_of_some h; omega)
  have Hg2 := Lib.hid (show w.heap.size ≠ w2.heap.size ∧ w.heap.size ≠ w2.heap.size + 1 by have := Hlt.out; omega)
  have Hg3 := Lib.hid (show w2.heap.size < W2.heap.size ∧ w2.heap.size + 1 < W2.heap.size by obtain ⟨t, h⟩ := BY.out; have := lt_size_of_some h; omega)
  generalize w2.heap.size = g7 at *
  obtain ⟨x0, x1, x2, x3, x4, x5, x6, x7⟩ := BX.out.eight
  obtain ⟨y0, y1, y2, y3, y4, y5, y6, y7⟩ := BY.out.eight
  have hs := Hs.out
  cases xn
  rotate_left
  · cases xs
    rotate_left
    · skip
      have hz' : z = ⟨true, true, false, false, xg != yg, D.zero⟩ := by rw [Hz.out]; rfl
      have bn := Bx.new W2 #[.bool true, .bool true, .bool false, .bool false, .bool (!(xg == yg)), .bool false, .slice none 0 0, .int .i64 0] 125
      have hbn := below1 W2 (.cells #[.bool true, .bool true, .bool false, .bool false, .bool (!(xg == yg)), .bool false, .slice none 0 0, .int .i64 0] 125)
      obtain ⟨k0, k1, k2, k3, k4, k5, k6, k7⟩ := bn.eight
      replace B6 := Lib.hid (B6.out.below hbn)
      replace HB := Lib.hid (keep_belowB HB.out hbn (Nat.le_refl _))
      clear bn hbn Hz
      obtain ⟨c0, c1', c2', c3, c4, c5, c6, c7⟩ := B6.out.eight
      have rf : ∀ j, (W2.alloc (.cells #[.bool true, .bool true, .bool false, .bool false, .bool (!(xg == yg)), .bool false, .slice none 0 0, .int .i64 0] 125)).frozen? ⟨w.heap.size, j, none⟩ = false := fun j => B6.out.free j
      go_wp2_with fail
      obtain ⟨r0, r1, r2, r3, r4, r5, r6, r7⟩ := (B6.out.set8 (.bool true) (.bool true) (.bool false) (.bool false) (.bool (!(xg == yg))) (.bool false) (.slice none 0 0) (.int .i64 0)).eight
      refine bodyPost_ret (v := .agg #[.bool true, .bool true, .bool false, .bool false, .bool (!(xg == yg)), .bool false, .slice none 0 0, .int .i64 0]) (by simp [results, Tryz.results81, go_sem, r0, r1, r2, r3, r4, r5, r6, r7]) rfl ?_
      subst hz'
      exact ⟨none, 0, rfl, Rd.none_, below_set8 HB.out (Nat.le_refl _) _ _ _ _ _ _ _ _⟩
    · cases ys
      rotate_left
      · have hyn : yn = true := hs.2 rfl
        subst hyn
        have hz' : z = ⟨true, true, false, false, xg != yg, D.zero⟩ := by rw [Hz.out]; rfl
        have bn := Bx.new W2 #[.bool true, .bool true, .bool false, .bool false, .bool (!(xg == yg)), .bool false, .slice none 0 0, .int .i64 0] 125
        have hbn := below1 W2 (.cells #[.bool true, .bool true, .bool false, .bool false, .bool (!(xg == yg)), .bool false, .slice none 0 0, .int .i64 0] 125)
        obtain ⟨k0, k1, k2, k3, k4, k5, k6, k7⟩ := bn.eight
        replace B6 := Lib.hid (B6.out.below hbn)
        replace HB := Lib.hid (keep_belowB HB.out hbn (Nat.le_refl _))
        clear bn hbn Hz
        obtain ⟨c0, c1', c2', c3, c4, c5, c6, c7⟩ := B6.out.eight
        have rf : ∀ j, (W2.alloc (.cells #[.bool true, .bool true, .bool false, .bool false, .bool (!(xg == yg)), .bool false, .slice none 0 0, .int .i64 0] 125)).frozen? ⟨w.heap.size, j, none⟩ = false := fun j => B6.out.free j
        go_wp2_with fail
        obtain ⟨r0, r1, r2, r3, r4, r5, r6, r7⟩ := (B6.out.set8 (.bool true) (.bool true) (.bool false) (.bool false) (.bool (!(xg == yg))) (.bool false) (.slice none 0 0) (.int .i64 0)).eight
        refine bodyPost_ret (v := .agg #[.bool true, .bool true, .bool false, .bool false, .bool (!(xg == yg)), .bool false, .slice none 0 0, .int .i64 0]) (by simp [results, Tryz.results81, go_sem, r0, r1, r2, r3, r4, r5, r6, r7]) rfl ?_
        subst hz'
        exact ⟨none, 0, rfl, Rd.none_, below_set8 HB.out (Nat.le_refl _) _ _ _ _ _ _ _ _⟩
      · skip
        have hz' : z = ⟨true, false, false, false, xg != yg, D.zero⟩ := by rw [Hz.out]; rfl
        have bn := Bx.new W2 #[.bool true, .bool false, .bool false, .bool false, .bool (!(xg == yg)), .bool false, .slice none 0 0, .int .i64 0] 125
        have hbn := below1 W2 (.cells #[.bool true, .bool false, .bool false, .bool false, .bool (!(xg == yg)), .bool false, .slice none 0 0, .int .i64 0] 125)
        obtain ⟨k0, k1, k2, k3, k4, k5, k6, k7⟩ := bn.eight
        replace B6 := Lib.hid (B6.out.below hbn)
        replace HB := Lib.hid (keep_belowB HB.out hbn (Nat.le_refl _))
        clear bn hbn Hz
        obtain ⟨c0, c1', c2', c3, c4, c5, c6, c7⟩ := B6.out.eight
        have rf : ∀ j, (W2.alloc (.cells #[.bool true, .bool false, .bool false, .bool false, .bool (!(xg == yg)), .bool false, .slice none 0 0, .int .i64 0] 125)).frozen? ⟨w.heap.size, j, none⟩ = false := fun j => B6.out.free j
        go_wp2_with fail
        obtain ⟨r0, r1, r2, r3, r4, r5, r6, r7⟩ := (B6.out.set8 (.bool true) (.bool false) (.bool false) (.bool false) (.bool (!(xg == yg))) (.bool false) (.slice none 0 0) (.int .i64 0)).eight
        refine bodyPost_ret (v := .agg #[.bool true, .bool false, .bool false, .bool false, .bool (!(xg == yg)), .bool false, .slice none 0 0, .int .i64 0]) (by simp [results, Tryz.results81, go_sem, r0, r1, r2, r3, r4, r5, r6, r7]) rfl ?_
        subst hz'
        exact ⟨none, 0, rfl, Rd.none_, below_set8 HB.out (Nat.le_refl _) _ _ _ _ _ _ _ _⟩
  have hxs : xs = false := by cases xs; rfl; exact absurd (hs.1 rfl) (by decide)
  subst hxs
  cases yn
  rotate_left
  · cases ys
    rotate_left
    · skip
      have hz' : z = ⟨true, true, false, false, xg != yg, D.zero⟩ := by rw [Hz.out]; rfl
      have bn := Bx.new W2 #[.bool true, .bool true, .bool false, .bool false, .bool (!(xg == yg)), .bool false, .slice none 0 0, .int .i64 0] 125
      have hbn := below1 W2 (.cells #[.bool true, .bool true, .bool false, .bool false, .bool (!(xg == yg)), .bool false, .slice none 0 0, .int .i64 0] 125)
      obtain ⟨k0, k1, k2, k3, k4, k5, k6, k7⟩ := bn.eight
      replace B6 := Lib.hid (B6.out.below hbn)
      replace HB := Lib.hid (keep_belowB HB.out hbn (Nat.le_refl _))
      clear bn hbn Hz
      obtain ⟨c0, c1', c2', c3, c4, c5, c6, c7⟩ := B6.out.eight
      have rf : ∀ j, (W2.alloc (.cells #[.bool true, .bool true, .bool false, .bool false, .bool (!(xg == yg)), .bool false, .slice none 0 0, .int .i64 0] 125)).frozen? ⟨w.heap.size, j, none⟩ = false := fun j => B6.out.free j
      go_wp2_with fail
      obtain ⟨r0, r1, r2, r3, r4, r5, r6, r7⟩ := (B6.out.set8 (.bool true) (.bool true) (.bool false) (.bool false) (.bool (!(xg == yg))) (.bool false) (.slice none 0 0) (.int .i64 0)).eight
      refine bodyPost_ret (v := .agg #[.bool true, .bool true, .bool false, .bool false, .bool (!(xg == yg)), .bool false, .slice none 0 0, .int .i64 0]) (by simp [results, Tryz.results81, go_sem, r0, r1, r2, r3, r4, r5, r6, r7]) rfl ?_
      subst hz'
      exact ⟨none, 0, rfl, Rd.none_, below_set8 HB.out (Nat.le_refl _) _ _ _ _ _ _ _ _⟩
    · skip
      have hz' : z = ⟨true, false, false, false, xg != yg, D.zero⟩ := by rw [Hz.out]; rfl
      have bn := Bx.new W2 #[.bool true, .bool false, .bool false, .bool false, .bool (!(xg == yg)), .bool false, .slice none 0 0, .int .i64 0] 125
      have hbn := below1 W2 (.cells #[.bool true, .bool false, .bool false, .bool false, .bool (!(xg == yg)), .bool false, .slice none 0 0, .int .i64 0] 125)
      obtain ⟨k0, k1, k2, k3, k4, k5, k6, k7⟩ := bn.eight
      replace B6 := Lib.hid (B6.out.below hbn)
      replace HB := Lib.hid (keep_belowB HB.out hbn (Nat.le_refl _))
      clear bn hbn Hz
      obtain ⟨c0, c1', c2', c3, c4, c5, c6, c7⟩ := B6.out.eight
      have rf : ∀ j, (W2.alloc (.cells #[.bool true, .bool false, .bool false, .bool false, .bool (!(xg == yg)), .bool false, .slice none 0 0, .int .i64 0] 125)).frozen? ⟨w.heap.size, j, none⟩ = false := fun j => B6.out.free j
      go_wp2_with fail
      obtain ⟨r0, r1, r2, r3, r4, r5, r6, r7⟩ := (B6.out.set8 (.bool true) (.bool false) (.bool false) (.bool false) (.bool (!(xg == yg))) (.bool false) (.slice none 0 0) (.int .i64 0)).eight
      refine bodyPost_ret (v := .agg #[.bool true, .bool false, .bool false, .bool false, .bool (!(xg == yg)), .bool false, .slice none 0 0, .int .i64 0]) (by simp [results, Tryz.results81, go_sem, r0, r1, r2, r3, r4, r5, r6, r7]) rfl ?_
      subst hz'
      exact ⟨none, 0, rfl, Rd.none_, below_set8 HB.out (Nat.le_refl _) _ _ _ _ _ _ _ _⟩
  have hys : ys = false := by cases ys; rfl; exact absurd (hs.2 rfl) (by decide)
  subst hys
  have bn := Bx.new W2 #[.bool false, .bool false, .bool false, .bool false, .bool (!(xg == yg)), .bool false, .slice none 0 0, .int .i64 0] 125
  have hbn := below1 W2 (.cells #[.bool false, .bool false, .bool false, .bool false, .bool (!(xg == yg)), .bool false, .slice none 0 0, .int .i64 0] 125)
  obtain ⟨W3, hW3⟩ : ∃ W3, W3 = W2.alloc (.cells #[.bool false, .bool false, .bool false, .bool false, .bool (!(xg == yg)), .bool false, .slice none 0 0, .int .i64 0] 125) := ⟨_, rfl⟩
  rw [← hW3] at bn hbn
  go_upto_region 5 with (fail)
  rw [← hW3]
  clear hW3 x0 x1 x2 x3 x4 x5 x6 x7 y0 y1 y2 y3 y4 y5 y6 y7 hs Hs
  have BZ := Lib.hid bn
  have Hbw := Lib.hid hbn
  clear bn hbn
  have hz := Hz.out
  clear Hz
  simp only [Bool.or_self, Bool.false_eq_true, if_false] at hz
  have Hz := Lib.hid hz
  clear hz
  cases xf <;> cases yf
  · skip
    obtain ⟨x3, y3, zf⟩ : W3.cell? ⟨g7, 3, none⟩ = some (.bool false) ∧ W3.cell? ⟨g7 + 1, 3, none⟩ = some (.bool false) ∧ (∀ j, W3.frozen? ⟨W2.heap.size, j, none⟩ = false) := ⟨(BX.out.below Hbw.out).cell 3 rfl, (BY.out.below Hbw.out).cell 3 rfl, fun j => BZ.out.free j⟩
    obtain ⟨z0, z1, z2, z3, z4, z5, z6, z7⟩ := BZ.out.eight
    go_upto_region 6 with (fail)
    clear x3 y3 zf z0 z1 z2 z3 z4 z5 z6 z7
    replace BZ := Lib.hid (BZ.out.put3 (.bool false))
    replace Hbw := Lib.hid (Hbw.out.setCell (p := ⟨W2.heap.size, 3, none⟩) (Nat.le_refl _) (.bool false))
    generalize W3.setCell ⟨W2.heap.size, 3, none⟩ (.bool false) = X1 at *
    obtain ⟨x3, y3, zf⟩ : X1.cell? ⟨g7, 3, none⟩ = some (.bool false) ∧ X1.cell? ⟨g7 + 1, 3, none⟩ = some (.bool false) ∧ (∀ j, X1.frozen? ⟨W2.heap.size, j, none⟩ = false) := ⟨(BX.out.below Hbw.out).cell 3 rfl, (BY.out.below Hbw.out).cell 3 rfl, fun j => BZ.out.free j⟩
    obtain ⟨z0, z1, z2, z3, z4, z5, z6, z7⟩ := BZ.out.eight
    go_upto_region 7 with (fail)
    clear x3 y3 zf z0 z1 z2 z3 z4 z5 z6 z7
    replace BZ := Lib.hid (BZ.out.put2 (.bool false))
    replace Hbw := Lib.hid (Hbw.out.setCell (p := ⟨W2.heap.size, 2, none⟩) (Nat.le_refl _) (.bool false))
    generalize X1.setCell ⟨W2.heap.size, 2, none⟩ (.bool false) = X2 at *
    have hz' : z = ⟨false, false, false, false, xg != yg, (mulD (nd 64 xd.n) xd (nd 64 yd.n) yd).1⟩ := by rw [Hz.out]; rfl
    obtain ⟨z0, z1, z2, z3, z4, z5, z6, z7⟩ := BZ.out.eight
    obtain ⟨x0, x1, x2, x3, x4, x5, x6, x7⟩ := (BX.out.below Hbw.out).eight
    obtain ⟨y0, y1, y2, y3, y4, y5, y6, y7⟩ := (BY.out.below Hbw.out).eight
    have hm := DMul_any xd.s yd.s A1 A2 xd.n (nd 64 xd.n) c1 yd.n (nd 64 yd.n) c2 xd.e yd.e X2 (HX.out.below Hbw.out) (HY.out.below Hbw.out) (HG.out.below Hbw.out)
    rw [show mulD (nd 64 xd.n) ⟨xd.s, xd.n, xd.e⟩ (nd 64 yd.n) ⟨yd.s, yd.n, yd.e⟩ = mulD (nd 64 xd.n) xd (nd 64 yd.n) yd from rfl] at hm
    obtain ⟨⟨d, ee⟩, hd⟩ : ∃ r, r = mulD (nd 64 xd.n) xd (nd 64 yd.n) yd := ⟨_, rfl⟩
    rw [← hd] at hm hz'
    simp only at hm hz'
    have Hm := Lib.hid hm
    have hX2 : W2.heap.size < X2.heap.size := by obtain ⟨t, h⟩ := BZ.out; exact lt_size_of_some h
    have HX2 := Lib.hid hX2
    clear Hz hm hd hX2
    go_wp2_with fail
    refine Hm.out.mono ?_
    rintro _ w4 ⟨v, rfl, ⟨A, c, rfl, -, -, hrd, hfr⟩, hb4⟩
    replace BZ := Lib.hid (BZ.out.below hb4)
    replace Hbw := Lib.hid (Hbw.out.trans (hb4.mono Hbw.out.size))
    have HRD := Lib.hid (And.intro hrd hfr)
    clear hb4 hrd hfr Hm x0 x1 x2 x3 x4 x5 x6 x7 y0 y1 y2 y3 y4 y5 y6 y7 z0 z1 z2 z3 z4 z5 z6 z7
    obtain ⟨l0, l1, l2, l3, l4, l5, l6, l7⟩ := BZ.out.eight
    have lf : ∀ j, w4.frozen? ⟨W2.heap.size, j, none⟩ = false := fun j => BZ.out.free j
    have BZ2 := Lib.hid (BZ.out.set3 (.bool d.s) (.slice A (nd 64 d.n) c) (.int .i64 d.e))
    obtain ⟨k0, k1, k2, k3, k4, k5, k6, k7⟩ := BZ2.out.eight
    have hbw2 := (((Hbw.out.setCell (p := ⟨W2.heap.size, 5, none⟩) (Nat.le_refl _) (.bool d.s)).setCell (p := ⟨W2.heap.size, 6, none⟩) (Nat.le_refl _) (.slice A (nd 64 d.n) c)).setCell (p := ⟨W2.heap.size, 7, none⟩) (Nat.le_refl _) (.int .i64 d.e))
    have b6 := B6.out.below hbw2
    have rf := fun j => b6.free j
    obtain ⟨d0, d1, d2, d3, d4, d5, d6, d7⟩ := b6.eight
    have B6' := Lib.hid b6
    have HBX := Lib.hid (HB.out.trans (hbw2.mono HB.out.size))
    clear b6 hbw2
    go_wp2_with fail
    obtain ⟨r0, r1, r2, r3, r4, r5, r6, r7⟩ := (B6'.out.set8 (.bool false) (.bool false) (.bool false) (.bool false) (.bool (!(xg == yg))) (.bool d.s) (.slice A (nd 64 d.n) c) (.int .i64 d.e)).eight
    refine bodyPost_ret (v := .agg #[.bool false, .bool false, .bool false, .bool false, .bool (!(xg == yg)), .bool d.s, .slice A (nd 64 d.n) c, .int .i64 d.e]) (by simp [results, Tryz.results81, go_sem, r0, r1, r2, r3, r4, r5, r6, r7]) rfl ?_
    subst hz'
    refine ⟨A, c, rfl, ?_, below_set8 HBX.out (Nat.le_refl _) _ _ _ _ _ _ _ _⟩
    have hB1 := HX2.out
    have hB2 : w.heap.size < X2.heap.size := by have := HB.out.size; omega
    exact (rf_set (rf_set (rf_set (rf_set (rf_set (rf_set (rf_set (rf_set (rf_set (rf_set (rf_set HRD.out (p := ⟨W2.heap.size, 5, none⟩) hB1 _) (p := ⟨W2.heap.size, 6, none⟩) hB1 _) (p := ⟨W2.heap.size, 7, none⟩) hB1 _) (p := ⟨w.heap.size, 0, none⟩) hB2 _) (p := ⟨w.heap.size, 1, none⟩) hB2 _) (p := ⟨w.heap.size, 2, none⟩) hB2 _) (p := ⟨w.heap.size, 3, none⟩) hB2 _) (p := ⟨w.heap.size, 4, none⟩) hB2 _) (p := ⟨w.heap.size, 5, none⟩) hB2 _) (p := ⟨w.heap.size, 6, none⟩) hB2 _) (p := ⟨w.heap.size, 7, none⟩) hB2 _).1
  · skip
    obtain ⟨x3, y3, zf⟩ : W3.cell? ⟨g7, 3, none⟩ = some (.bool false) ∧ W3.cell? ⟨g7 + 1, 3, none⟩ = some (.bool true) ∧ (∀ j, W3.frozen? ⟨W2.heap.size, j, none⟩ = false) := ⟨(BX.out.below Hbw.out).cell 3 rfl, (BY.out.below Hbw.out).cell 3 rfl, fun j => BZ.out.free j⟩
    obtain ⟨z0, z1, z2, z3, z4, z5, z6, z7⟩ := BZ.out.eight
    go_upto_region 6 with (fail)
    clear x3 y3 zf z0 z1 z2 z3 z4 z5 z6 z7
    replace BZ := Lib.hid (BZ.out.put3 (.bool true))
    replace Hbw := Lib.hid (Hbw.out.setCell (p := ⟨W2.heap.size, 3, none⟩) (Nat.le_refl _) (.bool true))
    generalize W3.setCell ⟨W2.heap.size, 3, none⟩ (.bool true) = X1 at *
    obtain ⟨x3, y3, zf⟩ : X1.cell? ⟨g7, 3, none⟩ = some (.bool false) ∧ X1.cell? ⟨g7 + 1, 3, none⟩ = some (.bool true) ∧ (∀ j, X1.frozen? ⟨W2.heap.size, j, none⟩ = false) := ⟨(BX.out.below Hbw.out).cell 3 rfl, (BY.out.below Hbw.out).cell 3 rfl, fun j => BZ.out.free j⟩
    obtain ⟨z0, z1, z2, z3, z4, z5, z6, z7⟩ := BZ.out.eight
    obtain ⟨-, -, -, -, -, q5, q6, q7⟩ := (BX.out.below Hbw.out).eight
    have hsg := Sign_any xd.s A1 xd.n (nd 64 xd.n) c1 xd.e X1 (HX.out.below Hbw.out)
    obtain ⟨sg, hsg'⟩ : ∃ x, x = sgD xd.s xd.n := ⟨_, rfl⟩
    rw [← hsg'] at hsg
    have Hsg := Lib.hid hsg
    clear hsg
    go_wp2_with fail
    refine Hsg.out.mono ?_
    rintro _ w4 ⟨rfl, hb4⟩
    replace BZ := Lib.hid (BZ.out.below hb4)
    replace Hbw := Lib.hid (Hbw.out.trans (hb4.mono Hbw.out.size))
    clear hb4 Hsg q5 q6 q7
    clear x3 y3 zf z0 z1 z2 z3 z4 z5 z6 z7
    obtain ⟨x3, y3, zf⟩ : w4.cell? ⟨g7, 3, none⟩ = some (.bool false) ∧ w4.cell? ⟨g7 + 1, 3, none⟩ = some (.bool true) ∧ (∀ j, w4.frozen? ⟨W2.heap.size, j, none⟩ = false) := ⟨(BX.out.below Hbw.out).cell 3 rfl, (BY.out.below Hbw.out).cell 3 rfl, fun j => BZ.out.free j⟩
    obtain ⟨z0, z1, z2, z3, z4, z5, z6, z7⟩ := BZ.out.eight
    by_cases h0 : xd.n = 0
    · have e0 : sg = 0 := by rw [hsg']; unfold sgD; rw [if_pos h0]
      subst e0
      clear hsg'
      go_upto_region 7 with (fail)
      clear x3 y3 zf z0 z1 z2 z3 z4 z5 z6 z7
      replace BZ := Lib.hid (BZ.out.put2 (.bool true))
      replace Hbw := Lib.hid (Hbw.out.setCell (p := ⟨W2.heap.size, 2, none⟩) (Nat.le_refl _) (.bool true))
      generalize w4.setCell ⟨W2.heap.size, 2, none⟩ (.bool true) = X2 at *
      have hz' : z = ⟨false, false, true, true, xg != yg, D.zero⟩ := by rw [Hz.out]; simp [h0]
      obtain ⟨z0, z1, z2, z3, z4, z5, z6, z7⟩ := BZ.out.eight
      have b6 := B6.out.below Hbw.out
      have rf : ∀ j, X2.frozen? ⟨w.heap.size, j, none⟩ = false := fun j => b6.free j
      obtain ⟨d0, d1, d2, d3, d4, d5, d6, d7⟩ := b6.eight
      have B6' := Lib.hid b6
      have HBX := Lib.hid (HB.out.trans (Hbw.out.mono HB.out.size))
      clear b6 Hz
      go_wp2_with fail
      obtain ⟨r0, r1, r2, r3, r4, r5, r6, r7⟩ := (B6'.out.set8 (.bool false) (.bool false) (.bool true) (.bool true) (.bool (!(xg == yg))) (.bool false) (.slice none 0 0) (.int .i64 0)).eight
      refine bodyPost_ret (v := .agg #[.bool false, .bool false, .bool true, .bool true, .bool (!(xg == yg)), .bool false, .slice none 0 0, .int .i64 0]) (by simp [results, Tryz.results81, go_sem, r0, r1, r2, r3, r4, r5, r6, r7]) rfl ?_
      subst hz'
      exact ⟨none, 0, rfl, Rd.none_, below_set8 HBX.out (Nat.le_refl _) _ _ _ _ _ _ _ _⟩
    · have t1 : (sg == 0) = false := by
        rw [hsg']; unfold sgD; rw [if_neg h0]; cases xd.s <;> rfl
      clear hsg'
      go_upto_region 7 with (fail)
      clear x3 y3 zf z0 z1 z2 z3 z4 z5 z6 z7
      replace BZ := Lib.hid (BZ.out.put2 (.bool false))
      replace Hbw := Lib.hid (Hbw.out.setCell (p := ⟨W2.heap.size, 2, none⟩) (Nat.le_refl _) (.bool false))
      generalize w4.setCell ⟨W2.heap.size, 2, none⟩ (.bool false) = X2 at *
      have hz' : z = ⟨false, false, false, true, xg != yg, D.zero⟩ := by rw [Hz.out]; simp [h0]
      obtain ⟨z0, z1, z2, z3, z4, z5, z6, z7⟩ := BZ.out.eight
      have b6 := B6.out.below Hbw.out
      have rf : ∀ j, X2.frozen? ⟨w.heap.size, j, none⟩ = false := fun j => b6.free j
      obtain ⟨d0, d1, d2, d3, d4, d5, d6, d7⟩ := b6.eight
      have B6' := Lib.hid b6
      have HBX := Lib.hid (HB.out.trans (Hbw.out.mono HB.out.size))
      clear b6 Hz
      go_wp2_with fail
      obtain ⟨r0, r1, r2, r3, r4, r5, r6, r7⟩ := (B6'.out.set8 (.bool false) (.bool false) (.bool false) (.bool true) (.bool (!(xg == yg))) (.bool false) (.slice none 0 0) (.int .i64 0)).eight
      refine bodyPost_ret (v := .agg #[.bool false, .bool false, .bool false, .bool true, .bool (!(xg == yg)), .bool false, .slice none 0 0, .int .i64 0]) (by simp [results, Tryz.results81, go_sem, r0, r1, r2, r3, r4, r5, r6, r7]) rfl ?_
      subst hz'
      exact ⟨none, 0, rfl, Rd.none_, below_set8 HBX.out (Nat.le_refl _) _ _ _ _ _ _ _ _⟩
  · skip
    obtain ⟨x3, y3, zf⟩ : W3.cell? ⟨g7, 3, none⟩ = some (.bool true) ∧ W3.cell? ⟨g7 + 1, 3, none⟩ = some (.bool false) ∧ (∀ j, W3.frozen? ⟨W2.heap.size, j, none⟩ = false) := ⟨(BX.out.below Hbw.out).cell 3 rfl, (BY.out.below Hbw.out).cell 3 rfl, fun j => BZ.out.free j⟩
    obtain ⟨z0, z1, z2, z3, z4, z5, z6, z7⟩ := BZ.out.eight
    go_upto_region 6 with (fail)
    clear x3 y3 zf z0 z1 z2 z3 z4 z5 z6 z7
    replace BZ := Lib.hid (BZ.out.put3 (.bool true))
    replace Hbw := Lib.hid (Hbw.out.setCell (p := ⟨W2.heap.size, 3, none⟩) (Nat.le_refl _) (.bool true))
    generalize W3.setCell ⟨W2.heap.size, 3, none⟩ (.bool true) = X1 at *
    obtain ⟨x3, y3, zf⟩ : X1.cell? ⟨g7, 3, none⟩ = some (.bool true) ∧ X1.cell? ⟨g7 + 1, 3, none⟩ = some (.bool false) ∧ (∀ j, X1.frozen? ⟨W2.heap.size, j, none⟩ = false) := ⟨(BX.out.below Hbw.out).cell 3 rfl, (BY.out.below Hbw.out).cell 3 rfl, fun j => BZ.out.free j⟩
    obtain ⟨z0, z1, z2, z3, z4, z5, z6, z7⟩ := BZ.out.eight
    obtain ⟨-, -, -, -, -, q5, q6, q7⟩ := (BY.out.below Hbw.out).eight
    have hsg := Sign_any yd.s A2 yd.n (nd 64 yd.n) c2 yd.e X1 (HY.out.below Hbw.out)
    obtain ⟨sg, hsg'⟩ : ∃ x, x = sgD yd.s yd.n := ⟨_, rfl⟩
    rw [← hsg'] at hsg
    have Hsg := Lib.hid hsg
    clear hsg
    go_wp2_with fail
    refine Hsg.out.mono ?_
    rintro _ w4 ⟨rfl, hb4⟩
    replace BZ := Lib.hid (BZ.out.below hb4)
    replace Hbw := Lib.hid (Hbw.out.trans (hb4.mono Hbw.out.size))
    clear hb4 Hsg q5 q6 q7
    clear x3 y3 zf z0 z1 z2 z3 z4 z5 z6 z7
    obtain ⟨x3, y3, zf⟩ : w4.cell? ⟨g7, 3, none⟩ = some (.bool true) ∧ w4.cell? ⟨g7 + 1, 3, none⟩ = some (.bool false) ∧ (∀ j, w4.frozen? ⟨W2.heap.size, j, none⟩ = false) := ⟨(BX.out.below Hbw.out).cell 3 rfl, (BY.out.below Hbw.out).cell 3 rfl, fun j => BZ.out.free j⟩
    obtain ⟨z0, z1, z2, z3, z4, z5, z6, z7⟩ := BZ.out.eight
    by_cases h0 : yd.n = 0
    · have e0 : sg = 0 := by rw [hsg']; unfold sgD; rw [if_pos h0]
      subst e0
      clear hsg'
      go_upto_region 7 with (fail)
      clear x3 y3 zf z0 z1 z2 z3 z4 z5 z6 z7
      replace BZ := Lib.hid (BZ.out.put2 (.bool true))
      replace Hbw := Lib.hid (Hbw.out.setCell (p := ⟨W2.heap.size, 2, none⟩) (Nat.le_refl _) (.bool true))
      generalize w4.setCell ⟨W2.heap.size, 2, none⟩ (.bool true) = X2 at *
      have hz' : z = ⟨false, false, true, true, xg != yg, D.zero⟩ := by rw [Hz.out]; simp [h0]
      obtain ⟨z0, z1, z2, z3, z4, z5, z6, z7⟩ := BZ.out.eight
      have b6 := B6.out.below Hbw.out
      have rf : ∀ j, X2.frozen? ⟨w.heap.size, j, none⟩ = false := fun j => b6.free j
      obtain ⟨d0, d1, d2, d3, d4, d5, d6, d7⟩ := b6.eight
      have B6' := Lib.hid b6
      have HBX := Lib.hid (HB.out.trans (Hbw.out.mono HB.out.size))
      clear b6 Hz
      go_wp2_with fail
      obtain ⟨r0, r1, r2, r3, r4, r5, r6, r7⟩ := (B6'.out.set8 (.bool false) (.bool false) (.bool true) (.bool true) (.bool (!(xg == yg))) (.bool false) (.slice none 0 0) (.int .i64 0)).eight
      refine bodyPost_ret (v := .agg #[.bool false, .bool false, .bool true, .bool true, .bool (!(xg == yg)), .bool false, .slice none 0 0, .int .i64 0]) (by simp [results, Tryz.results81, go_sem, r0, r1, r2, r3, r4, r5, r6, r7]) rfl ?_
      subst hz'
      exact ⟨none, 0, rfl, Rd.none_, below_set8 HBX.out (Nat.le_refl _) _ _ _ _ _ _ _ _⟩
    · have t1 : (sg == 0) = false := by
        rw [hsg']; unfold sgD; rw [if_neg h0]; cases yd.s <;> rfl
      clear hsg'
      go_upto_region 7 with (fail)
      clear x3 y3 zf z0 z1 z2 z3 z4 z5 z6 z7
      replace BZ := Lib.hid (BZ.out.put2 (.bool false))
      replace Hbw := Lib.hid (Hbw.out.setCell (p := ⟨W2.heap.size, 2, none⟩) (Nat.le_refl _) (.bool false))
      generalize w4.setCell ⟨W2.heap.size, 2, none⟩ (.bool false) = X2 at *
      have hz' : z = ⟨false, false, false, true, xg != yg, D.zero⟩ := by rw [Hz.out]; simp [h0]
      obtain ⟨z0, z1, z2, z3, z4, z5, z6, z7⟩ := BZ.out.eight
      have b6 := B6.out.below Hbw.out
      have rf : ∀ j, X2.frozen? ⟨w.heap.size, j, none⟩ = false := fun j => b6.free j
      obtain ⟨d0, d1, d2, d3, d4, d5, d6, d7⟩ := b6.eight
      have B6' := Lib.hid b6
      have HBX := Lib.hid (HB.out.trans (Hbw.out.mono HB.out.size))
      clear b6 Hz
      go_wp2_with fail
      obtain ⟨r0, r1, r2, r3, r4, r5, r6, r7⟩ := (B6'.out.set8 (.bool false) (.bool false) (.bool false) (.bool true) (.bool (!(xg == yg))) (.bool false) (.slice none 0 0) (.int .i64 0)).eight
      refine bodyPost_ret (v := .agg #[.bool false, .bool false, .bool false, .bool true, .bool (!(xg == yg)), .bool false, .slice none 0 0, .int .i64 0]) (by simp [results, Tryz.results81, go_sem, r0, r1, r2, r3, r4, r5, r6, r7]) rfl ?_
      subst hz'
      exact ⟨none, 0, rfl, Rd.none_, below_set8 HBX.out (Nat.le_refl _) _ _ _ _ _ _ _ _⟩
  · skip
    obtain ⟨x3, y3, zf⟩ : W3.cell? ⟨g7, 3, none⟩ = some (.bool true) ∧ W3.cell? ⟨g7 + 1, 3, none⟩ = some (.bool true) ∧ (∀ j, W3.frozen? ⟨W2.heap.size, j, none⟩ = false) := ⟨(BX.out.below Hbw.out).cell 3 rfl, (BY.out.below Hbw.out).cell 3 rfl, fun j => BZ.out.free j⟩
    obtain ⟨z0, z1, z2, z3, z4, z5, z6, z7⟩ := BZ.out.eight
    go_upto_region 6 with (fail)
    clear x3 y3 zf z0 z1 z2 z3 z4 z5 z6 z7
    replace BZ := Lib.hid (BZ.out.put3 (.bool true))
    replace Hbw := Lib.hid (Hbw.out.setCell (p := ⟨W2.heap.size, 3, none⟩) (Nat.le_refl _) (.bool true))
    generalize W3.setCell ⟨W2.heap.size, 3, none⟩ (.bool true) = X1 at *
    obtain ⟨x3, y3, zf⟩ : X1.cell? ⟨g7, 3, none⟩ = some (.bool true) ∧ X1.cell? ⟨g7 + 1, 3, none⟩ = some (.bool true) ∧ (∀ j, X1.frozen? ⟨W2.heap.size, j, none⟩ = false) := ⟨(BX.out.below Hbw.out).cell 3 rfl, (BY.out.below Hbw.out).cell 3 rfl, fun j => BZ.out.free j⟩
    obtain ⟨z0, z1, z2, z3, z4, z5, z6, z7⟩ := BZ.out.eight
    go_upto_region 7 with (fail)
    clear x3 y3 zf z0 z1 z2 z3 z4 z5 z6 z7
    replace BZ := Lib.hid (BZ.out.put2 (.bool false))
    replace Hbw := Lib.hid (Hbw.out.setCell (p := ⟨W2.heap.size, 2, none⟩) (Nat.le_refl _) (.bool false))
    generalize X1.setCell ⟨W2.heap.size, 2, none⟩ (.bool false) = X2 at *
    have hz' : z = ⟨false, false, false, true, xg != yg, D.zero⟩ := by rw [Hz.out]; rfl
    obtain ⟨z0, z1, z2, z3, z4, z5, z6, z7⟩ := BZ.out.eight
    have b6 := B6.out.below Hbw.out
    have rf : ∀ j, X2.frozen? ⟨w.heap.size, j, none⟩ = false := fun j => b6.free j
    obtain ⟨d0, d1, d2, d3, d4, d5, d6, d7⟩ := b6.eight
    have B6' := Lib.hid b6
    have HBX := Lib.hid (HB.out.trans (Hbw.out.mono HB.out.size))
    clear b6 Hz
    go_wp2_with fail
    obtain ⟨r0, r1, r2, r3, r4, r5, r6, r7⟩ := (B6'.out.set8 (.bool false) (.bool false) (.bool false) (.bool true) (.bool (!(xg == yg))) (.bool false) (.slice none 0 0) (.int .i64 0)).eight
    refine bodyPost_ret (v := .agg #[.bool false, .bool false, .bool false, .bool true, .bool (!(xg == yg)), .bool false, .slice none 0 0, .int .i64 0]) (by simp [results, Tryz.results81, go_sem, r0, r1, r2, r3, r4, r5, r6, r7]) rfl ?_
    subst hz'
    exact ⟨none, 0, rfl, Rd.none_, below_set8 HBX.out (Nat.le_refl _) _ _ _ _ _ _ _ _⟩

end Go.Proofs.YtlibhfojfonfjaaGreatDoor

/- The walk of fused.fuse. Printed by gen/fusd.py. -/
namespace Go.Proofs.YtlibhfojfonfjaaGreatDoor
set_option linter.unusedVariables false
open Go.RowKit

set_option maxRecDepth 100000 in
set_option maxHeartbeats 32000000 in
theorem fuse_pt (f m : Nat) (x y : Pt) (A1 A2 : Option Addr) (c1 c2 : Nat) (w : World) (hf : f < 4) (hm : m ≤ 5) (hpx : Sm x.d) (hpy : Sm y.d)
    (hrx : Rd 64 w (.slice A1 (nd 64 x.d.n) c1) x.d.n (nd 64 x.d.n)) (hry : Rd 64 w (.slice A2 (nd 64 y.d.n) c2) y.d.n (nd 64 y.d.n)) (hG : Gl w) (hR : GlR w) :
    Calls Tryz.prog 80 #[.int .i64 f, .int .i64 m, .agg (pv x A1 c1), .agg (pv y A2 c2)] w fun e w' =>
      e = .returned (.tuple #[.int .u64 ((fuseS (fm f) m x y).1 : Int), .int .i64 ((fuseS (fm f) m x y).2 : Int), .int .i64 0]) ∧ Below w.heap.size w w' := by
  obtain ⟨s, hs, hcs, -, -⟩ := addD_sm hpx hpy
  have hsum : sumP x y = s := by unfold sumP; rw [hs]
  obtain ⟨r1, hr1⟩ : ∃ r, r = (fuseS (fm f) m x y).1 := ⟨_, rfl⟩
  obtain ⟨r2, hr2⟩ : ∃ r, r = (fuseS (fm f) m x y).2 := ⟨_, rfl⟩
  rw [← hr1, ← hr2]
  unfold fuseS at hr1 hr2
  rw [hsum] at hr1 hr2
  have hadd := fun wx h1 h2 h3 => DAdd_any x.d.s y.d.s A1 A2 x.d.n (nd 64 x.d.n) c1 y.d.n (nd 64 y.d.n) c2 x.d.e y.d.e wx h1 h2 h3
  rw [show addD (nd 64 x.d.n) ⟨x.d.s, x.d.n, x.d.e⟩ (nd 64 y.d.n) ⟨y.d.s, y.d.n, y.d.e⟩ = (s, 0) from hs] at hadd
  have hex := fun h0 A c wx h1 h2 h3 => Exact_ok f m s A c wx hf hm hcs.own ⟨hcs.sz, hcs.lo, hcs.hi⟩ h0 h1 h2 h3
  have hnan := fun wx h => NaN_ok f wx hf h
  have hinf := fun s wx h => Inf_ok f s wx hf h
  have hzer := fun s wx h => Zero_ok f s wx hf h
  have m4 : ((m : Int) == 4) = (m == 4) := by
    cases h : (m == 4)
    · simp at h ⊢; omega
    · simp at h ⊢; omega
  obtain ⟨F, hF⟩ : ∃ F, F = fm f := ⟨_, rfl⟩
  rw [← hF] at hr1 hr2 hex hnan hinf hzer
  obtain ⟨b4, hb4'⟩ : ∃ b, b = (m == 4) := ⟨_, rfl⟩
  rw [← hb4'] at m4 hr1 hr2
  obtain ⟨xn, xs, xi, xf, xg, xd⟩ := x
  obtain ⟨yn, ys, yi, yf, yg, yd⟩ := y
  unfold pv
  simp only at *
  have H1 := Lib.hid hr1
  have H2 := Lib.hid hr2
  have Hadd := Lib.hid hadd
  have Hex := Lib.hid hex
  have Hnan := Lib.hid hnan
  have Hinf := Lib.hid hinf
  have Hzer := Lib.hid hzer
  have hb1 := below1 w (.cells #[.bool xn, .bool xs, .bool xi, .bool xf, .bool xg, .bool xd.s, .slice A1 (nd 64 xd.n) c1, .int .i64 xd.e] 125)
  have bx := Bx.new w #[.bool xn, .bool xs, .bool xi, .bool xf, .bool xg, .bool xd.s, .slice A1 (nd 64 xd.n) c1, .int .i64 xd.e] 125
  obtain ⟨W1, hW1⟩ : ∃ W1, W1 = w.alloc (.cells #[.bool xn, .bool xs, .bool xi, .bool xf, .bool xg, .bool xd.s, .slice A1 (nd 64 xd.n) c1, .int .i64 xd.e] 125) := ⟨_, rfl⟩
  rw [← hW1] at hb1 bx
  have hsz : W1.heap.size = w.heap.size + 1 := by rw [hW1]; simp
  have hb2 := below1 W1 (.cells #[.bool yn, .bool ys, .bool yi, .bool yf, .bool yg, .bool yd.s, .slice A2 (nd 64 yd.n) c2, .int .i64 yd.e] 125)
  have by_ := Bx.new W1 #[.bool yn, .bool ys, .bool yi, .bool yf, .bool yg, .bool yd.s, .slice A2 (nd 64 yd.n) c2, .int .i64 yd.e] 125
  obtain ⟨W2, hW2⟩ : ∃ W2, W2 = W1.alloc (.cells #[.bool yn, .bool ys, .bool yi, .bool yf, .bool yg, .bool yd.s, .slice A2 (nd 64 yd.n) c2, .int .i64 yd.e] 125) := ⟨_, rfl⟩
  rw [← hW2] at hb2 by_
  rw [hsz] at by_
  have HB := Lib.hid (keep_belowB hb1 hb2 (Nat.le_refl _))
  have BX := Lib.hid (bx.below hb2)
  have BY := Lib.hid by_
  have HX := Lib.hid ((hrx.below hb1).below hb2)
  have HY := Lib.hid ((hry.below hb1).below hb2)
  have HG := Lib.hid ((hG.below hb1).below hb2)
  have HR := Lib.hid ((hR.below hb1).below hb2)
  have HW := Lib.hid (And.intro hW1 hW2)
  clear hs hcs hsum hr1 hr2 hadd hex hnan hinf hzer hF hb4' hb1 hb2 bx by_ hsz hrx hry hG hR hpx hpy hf hm hW1 hW2
  go_enter Tryz.func80, Tryz.ntmps80
  go_wp2_with fail
  rw [← HW.out.1, ← HW.out.2]
  clear HW
  refine (Hnan.out _ HR.out).mono ?_
  rintro _ w1 ⟨rfl, hb3⟩
  replace HB := Lib.hid (keep_belowB HB.out hb3 (Nat.le_refl _))
  replace BX := Lib.hid (BX.out.below hb3)
  replace BY := Lib.hid (BY.out.below hb3)
  replace HX := Lib.hid (HX.out.below hb3)
  replace HY := Lib.hid (HY.out.below hb3)
  replace HG := Lib.hid (HG.out.below hb3)
  replace HR := Lib.hid (HR.out.below hb3)
  clear hb3 Hnan
  obtain ⟨x0, x1, x2, x3, x4, x5, x6, x7⟩ := BX.out.eight
  obtain ⟨y0, y1, y2, y3, y4, y5, y6, y7⟩ := BY.out.eight
  go_upto_region 2 with (fail)
  cases xs
  rotate_left
  · skip
    have e1 : r1 = F.nan := by rw [H1.out]; simp
    have e2 : r2 = 1 := by rw [H2.out]; simp
    clear H1 H2 Hadd Hex Hinf Hzer
    go_wp2_with fail
    refine bodyPost_ret (v := .tuple #[.int .u64 (F.nan : Nat), .int .i64 1, .int .i64 0]) (by simp [results, Tryz.results80, go_sem]) rfl ?_
    exact ⟨by rw [e1, e2]; rfl, HB.out⟩
  cases ys
  rotate_left
  · skip
    have e1 : r1 = F.nan := by rw [H1.out]; simp
    have e2 : r2 = 1 := by rw [H2.out]; simp
    clear H1 H2 Hadd Hex Hinf Hzer
    go_wp2_with fail
    refine bodyPost_ret (v := .tuple #[.int .u64 (F.nan : Nat), .int .i64 1, .int .i64 0]) (by simp [results, Tryz.results80, go_sem]) rfl ?_
    exact ⟨by rw [e1, e2]; rfl, HB.out⟩
  cases xi
  rotate_left
  · skip
    have e1 : r1 = F.nan := by rw [H1.out]; simp
    have e2 : r2 = 1 := by rw [H2.out]; simp
    clear H1 H2 Hadd Hex Hinf Hzer
    go_wp2_with fail
    refine bodyPost_ret (v := .tuple #[.int .u64 (F.nan : Nat), .int .i64 1, .int .i64 0]) (by simp [results, Tryz.results80, go_sem]) rfl ?_
    exact ⟨by rw [e1, e2]; rfl, HB.out⟩
  cases yi
  rotate_left
  · skip
    have e1 : r1 = F.nan := by rw [H1.out]; simp
    have e2 : r2 = 1 := by rw [H2.out]; simp
    clear H1 H2 Hadd Hex Hinf Hzer
    go_wp2_with fail
    refine bodyPost_ret (v := .tuple #[.int .u64 (F.nan : Nat), .int .i64 1, .int .i64 0]) (by simp [results, Tryz.results80, go_sem]) rfl ?_
    exact ⟨by rw [e1, e2]; rfl, HB.out⟩
  cases xn
  rotate_left
  · skip
    have e1 : r1 = F.nan := by rw [H1.out]; simp
    have e2 : r2 = 0 := by rw [H2.out]; simp
    clear H1 H2 Hadd Hex Hinf Hzer
    go_wp2_with fail
    refine bodyPost_ret (v := .tuple #[.int .u64 (F.nan : Nat), .int .i64 0, .int .i64 0]) (by simp [results, Tryz.results80, go_sem]) rfl ?_
    exact ⟨by rw [e1, e2]; rfl, HB.out⟩
  cases yn
  rotate_left
  · skip
    have e1 : r1 = F.nan := by rw [H1.out]; simp
    have e2 : r2 = 0 := by rw [H2.out]; simp
    clear H1 H2 Hadd Hex Hinf Hzer
    go_wp2_with fail
    refine bodyPost_ret (v := .tuple #[.int .u64 (F.nan : Nat), .int .i64 0, .int .i64 0]) (by simp [results, Tryz.results80, go_sem]) rfl ?_
    exact ⟨by rw [e1, e2]; rfl, HB.out⟩
  cases xf
  rotate_left
  · skip
    cases yf
    · skip
      have e1 : r1 = F.inf + F.sg xg := by rw [H1.out]; simp
      have e2 : r2 = 0 := by rw [H2.out]; simp
      clear H1 H2 Hadd Hex Hzer
      go_wp2_with fail
      refine (Hinf.out xg _ HR.out).mono ?_
      rintro _ w2 ⟨rfl, hb4⟩
      replace HB := Lib.hid (keep_belowB HB.out hb4 (Nat.le_refl _))
      clear hb4 Hinf
      go_wp2_with fail
      refine bodyPost_ret (v := .tuple #[.int .u64 (F.inf + F.sg xg : Nat), .int .i64 0, .int .i64 0]) (by simp [results, Tryz.results80, go_sem]) rfl ?_
      exact ⟨by rw [e1, e2]; rfl, HB.out⟩
    · cases xg <;> cases yg
      · skip
        have e1 : r1 = F.inf + F.sg false := by rw [H1.out]; simp
        have e2 : r2 = 0 := by rw [H2.out]; simp
        clear H1 H2 Hadd Hex Hzer
        go_wp2_with fail
        refine (Hinf.out false _ HR.out).mono ?_
        rintro _ w2 ⟨rfl, hb4⟩
        replace HB := Lib.hid (keep_belowB HB.out hb4 (Nat.le_refl _))
        clear hb4 Hinf
        go_wp2_with fail
        refine bodyPost_ret (v := .tuple #[.int .u64 (F.inf + F.sg false : Nat), .int .i64 0, .int .i64 0]) (by simp [results, Tryz.results80, go_sem]) rfl ?_
        exact ⟨by rw [e1, e2]; rfl, HB.out⟩
      · skip
        have e1 : r1 = F.nan := by rw [H1.out]; simp
        have e2 : r2 = 1 := by rw [H2.out]; simp
        clear H1 H2 Hadd Hex Hinf Hzer
        go_wp2_with fail
        refine bodyPost_ret (v := .tuple #[.int .u64 (F.nan : Nat), .int .i64 1, .int .i64 0]) (by simp [results, Tryz.results80, go_sem]) rfl ?_
        exact ⟨by rw [e1, e2]; rfl, HB.out⟩
      · skip
        have e1 : r1 = F.nan := by rw [H1.out]; simp
        have e2 : r2 = 1 := by rw [H2.out]; simp
        clear H1 H2 Hadd Hex Hinf Hzer
        go_wp2_with fail
        refine bodyPost_ret (v := .tuple #[.int .u64 (F.nan : Nat), .int .i64 1, .int .i64 0]) (by simp [results, Tryz.results80, go_sem]) rfl ?_
        exact ⟨by rw [e1, e2]; rfl, HB.out⟩
      · skip
        have e1 : r1 = F.inf + F.sg true := by rw [H1.out]; simp
        have e2 : r2 = 0 := by rw [H2.out]; simp
        clear H1 H2 Hadd Hex Hzer
        go_wp2_with fail
        refine (Hinf.out true _ HR.out).mono ?_
        rintro _ w2 ⟨rfl, hb4⟩
        replace HB := Lib.hid (keep_belowB HB.out hb4 (Nat.le_refl _))
        clear hb4 Hinf
        go_wp2_with fail
        refine bodyPost_ret (v := .tuple #[.int .u64 (F.inf + F.sg true : Nat), .int .i64 0, .int .i64 0]) (by simp [results, Tryz.results80, go_sem]) rfl ?_
        exact ⟨by rw [e1, e2]; rfl, HB.out⟩
  cases yf
  rotate_left
  · skip
    have e1 : r1 = F.inf + F.sg yg := by rw [H1.out]; simp
    have e2 : r2 = 0 := by rw [H2.out]; simp
    clear H1 H2 Hadd Hex Hzer
    go_wp2_with fail
    refine (Hinf.out yg _ HR.out).mono ?_
    rintro _ w2 ⟨rfl, hb4⟩
    replace HB := Lib.hid (keep_belowB HB.out hb4 (Nat.le_refl _))
    clear hb4 Hinf
    go_wp2_with fail
    refine bodyPost_ret (v := .tuple #[.int .u64 (F.inf + F.sg yg : Nat), .int .i64 0, .int .i64 0]) (by simp [results, Tryz.results80, go_sem]) rfl ?_
    exact ⟨by rw [e1, e2]; rfl, HB.out⟩
  have hadd := Hadd.out _ HX.out HY.out HG.out
  have Hadd1 := Lib.hid hadd
  clear hadd Hadd Hinf
  go_wp2_with fail
  refine Hadd1.out.mono ?_
  rintro _ w2 ⟨v, rfl, ⟨A, c, rfl, -, -, hrd, -⟩, hb4⟩
  replace HB := Lib.hid (keep_belowB HB.out hb4 (Nat.le_refl _))
  replace BX := Lib.hid (BX.out.below hb4)
  replace BY := Lib.hid (BY.out.below hb4)
  replace HX := Lib.hid (HX.out.below hb4)
  replace HY := Lib.hid (HY.out.below hb4)
  replace HG := Lib.hid (HG.out.below hb4)
  replace HR := Lib.hid (HR.out.below hb4)
  have hb5 := below1 w2 (.cells #[.bool s.s, .slice A (nd 64 s.n) c, .int .i64 s.e] 28)
  have VS := Lib.hid (VB.new hrd 28)
  replace HB := Lib.hid (keep_belowB HB.out hb5 (Nat.le_refl _))
  replace BX := Lib.hid (BX.out.below hb5)
  replace BY := Lib.hid (BY.out.below hb5)
  replace HX := Lib.hid (HX.out.below hb5)
  replace HY := Lib.hid (HY.out.below hb5)
  replace HG := Lib.hid (HG.out.below hb5)
  replace HR := Lib.hid (HR.out.below hb5)
  obtain ⟨W3, hW3⟩ : ∃ W3, W3 = w2.alloc (.cells #[.bool s.s, .slice A (nd 64 s.n) c, .int .i64 s.e] 28) := ⟨_, rfl⟩
  rw [← hW3] at VS HB BX BY HX HY HG HR
  clear hb4 hb5 hrd Hadd1 x0 x1 x2 x3 x4 x5 x6 x7 y0 y1 y2 y3 y4 y5 y6 y7
  go_upto_region 17 with (fail)
  rw [← hW3]
  clear hW3
  generalize w2.heap.size = g17 at *
  obtain ⟨q0, q1, q2, -, -⟩ := VS.out.bx.cells
  obtain ⟨sg, hsg⟩ : ∃ z, z = sgD s.s s.n := ⟨_, rfl⟩
  have hsn := Sign_any s.s A s.n (nd 64 s.n) c s.e W3 VS.out.rd
  rw [← hsg] at hsn
  have Hsn := Lib.hid hsn
  clear hsn
  have Hsg := Lib.hid hsg
  clear hsg
  go_wp2_with fail
  refine Hsn.out.mono ?_
  rintro _ w4 ⟨rfl, hb6⟩
  replace VS := Lib.hid (VS.out.below hb6)
  replace HB := Lib.hid (keep_belowB HB.out hb6 (Nat.le_refl _))
  replace BX := Lib.hid (BX.out.below hb6)
  replace BY := Lib.hid (BY.out.below hb6)
  replace HX := Lib.hid (HX.out.below hb6)
  replace HY := Lib.hid (HY.out.below hb6)
  replace HG := Lib.hid (HG.out.below hb6)
  replace HR := Lib.hid (HR.out.below hb6)
  clear hb6 Hsn q0 q1 q2
  by_cases h0 : s.n = 0
  rotate_left
  · have t1 : (sg == 0) = false := by
      rw [Hsg.out]; unfold sgD; rw [if_neg h0]; cases s.s <;> rfl
    have e1 : r1 = (intoS F m s.s s.n s.e false).1 := by rw [H1.out]; simp [h0]
    have e2 : r2 = (intoS F m s.s s.n s.e false).2 := by rw [H2.out]; simp [h0]
    have hx := Hex.out h0 A c w4 VS.out.rd HG.out HR.out
    rw [← e1, ← e2] at hx
    have Hx := Lib.hid hx
    clear H1 H2 Hsg Hzer Hex hx e1 e2 h0
    obtain ⟨q0, q1, q2, -, -⟩ := VS.out.bx.cells
    go_wp2_with fail
    refine Hx.out.mono ?_
    rintro _ w5 ⟨rfl, hb7⟩
    replace HB := Lib.hid (keep_belowB HB.out hb7 (Nat.le_refl _))
    clear hb7 Hx q0 q1 q2
    go_wp2_with fail
    refine bodyPost_ret (v := .tuple #[.int .u64 r1, .int .i64 r2, .int .i64 0]) (by simp [results, Tryz.results80, go_sem]) rfl ⟨rfl, HB.out⟩
  have e0 : sg = 0 := by rw [Hsg.out]; unfold sgD; rw [if_pos h0]
  subst e0
  clear Hsg Hex
  have e2 : r2 = 0 := by rw [H2.out]; simp [h0]
  have hr1 := H1.out
  clear H1 H2
  simp only [h0, if_true, Bool.false_eq_true, if_false, Bool.or_self, Bool.false_and, Bool.and_self] at hr1
  have H1 := Lib.hid hr1
  clear hr1 h0
  obtain ⟨x0, x1, x2, x3, x4, x5, x6, x7⟩ := BX.out.eight
  obtain ⟨sx, hsx⟩ : ∃ z, z = sgD xd.s xd.n := ⟨_, rfl⟩
  have hsn := Sign_any xd.s A1 xd.n (nd 64 xd.n) c1 xd.e w4 HX.out
  rw [← hsx] at hsn
  have Hsn := Lib.hid hsn
  have Hsx := Lib.hid hsx
  clear hsn hsx
  go_wp2_with fail
  refine Hsn.out.mono ?_
  rintro _ w5 ⟨rfl, hb7⟩
  replace HB := Lib.hid (keep_belowB HB.out hb7 (Nat.le_refl _))
  replace BX := Lib.hid (BX.out.below hb7)
  replace BY := Lib.hid (BY.out.below hb7)
  replace HY := Lib.hid (HY.out.below hb7)
  replace HR := Lib.hid (HR.out.below hb7)
  clear hb7 Hsn x0 x1 x2 x3 x4 x5 x6 x7 HX HG VS
  by_cases hx0 : xd.n = 0
  rotate_left
  · have t1 : (sx == 0) = false := by
      rw [Hsx.out]; unfold sgD; rw [if_neg hx0]; cases xd.s <;> rfl
    clear Hsx
    have e1 : r1 = F.sg b4 := by rw [H1.out]; simp [hx0]
    clear H1
    go_wp2_with fail
    refine (Hzer.out b4 _ HR.out).mono ?_
    rintro _ w7 ⟨rfl, hb9⟩
    replace HB := Lib.hid (keep_belowB HB.out hb9 (Nat.le_refl _))
    clear hb9 Hzer
    go_wp2_with fail
    refine bodyPost_ret (v := .tuple #[.int .u64 (F.sg b4 : Nat), .int .i64 0, .int .i64 0]) (by simp [results, Tryz.results80, go_sem]) rfl ?_
    exact ⟨by rw [e1, e2]; rfl, HB.out⟩
  have ex : sx = 0 := by rw [Hsx.out]; unfold sgD; rw [if_pos hx0]
  subst ex
  clear Hsx
  obtain ⟨y0, y1, y2, y3, y4, y5, y6, y7⟩ := BY.out.eight
  obtain ⟨sy, hsy⟩ : ∃ z, z = sgD yd.s yd.n := ⟨_, rfl⟩
  have hsn := Sign_any yd.s A2 yd.n (nd 64 yd.n) c2 yd.e w5 HY.out
  rw [← hsy] at hsn
  have Hsn := Lib.hid hsn
  have Hsy := Lib.hid hsy
  clear hsn hsy
  go_wp2_with fail
  refine Hsn.out.mono ?_
  rintro _ w6 ⟨rfl, hb8⟩
  replace HB := Lib.hid (keep_belowB HB.out hb8 (Nat.le_refl _))
  replace BX := Lib.hid (BX.out.below hb8)
  replace BY := Lib.hid (BY.out.below hb8)
  replace HR := Lib.hid (HR.out.below hb8)
  clear hb8 Hsn y0 y1 y2 y3 y4 y5 y6 y7 HY
  by_cases hy0 : yd.n = 0
  rotate_left
  · have t1 : (sy == 0) = false := by
      rw [Hsy.out]; unfold sgD; rw [if_neg hy0]; cases yd.s <;> rfl
    clear Hsy
    have e1 : r1 = F.sg b4 := by rw [H1.out]; simp [hx0, hy0]
    clear H1
    go_wp2_with fail
    refine (Hzer.out b4 _ HR.out).mono ?_
    rintro _ w7 ⟨rfl, hb9⟩
    replace HB := Lib.hid (keep_belowB HB.out hb9 (Nat.le_refl _))
    clear hb9 Hzer
    go_wp2_with fail
    refine bodyPost_ret (v := .tuple #[.int .u64 (F.sg b4 : Nat), .int .i64 0, .int .i64 0]) (by simp [results, Tryz.results80, go_sem]) rfl ?_
    exact ⟨by rw [e1, e2]; rfl, HB.out⟩
  have ey : sy = 0 := by rw [Hsy.out]; unfold sgD; rw [if_pos hy0]
  subst ey
  clear Hsy
  obtain ⟨x0, x1, x2, x3, x4, x5, x6, x7⟩ := BX.out.eight
  obtain ⟨y0, y1, y2, y3, y4, y5, y6, y7⟩ := BY.out.eight
  cases xg <;> cases yg
  · skip
    have e1 : r1 = F.sg false := by rw [H1.out]; simp [hx0, hy0]
    clear H1
    go_wp2_with fail
    refine (Hzer.out false _ HR.out).mono ?_
    rintro _ w7 ⟨rfl, hb9⟩
    replace HB := Lib.hid (keep_belowB HB.out hb9 (Nat.le_refl _))
    clear hb9 Hzer
    go_wp2_with fail
    refine bodyPost_ret (v := .tuple #[.int .u64 (F.sg false : Nat), .int .i64 0, .int .i64 0]) (by simp [results, Tryz.results80, go_sem]) rfl ?_
    exact ⟨by rw [e1, e2]; rfl, HB.out⟩
  · skip
    have e1 : r1 = F.sg b4 := by rw [H1.out]; simp [hx0, hy0]
    clear H1
    go_wp2_with fail
    refine (Hzer.out b4 _ HR.out).mono ?_
    rintro _ w7 ⟨rfl, hb9⟩
    replace HB := Lib.hid (keep_belowB HB.out hb9 (Nat.le_refl _))
    clear hb9 Hzer
    go_wp2_with fail
    refine bodyPost_ret (v := .tuple #[.int .u64 (F.sg b4 : Nat), .int .i64 0, .int .i64 0]) (by simp [results, Tryz.results80, go_sem]) rfl ?_
    exact ⟨by rw [e1, e2]; rfl, HB.out⟩
  · skip
    have e1 : r1 = F.sg b4 := by rw [H1.out]; simp [hx0, hy0]
    clear H1
    go_wp2_with fail
    refine (Hzer.out b4 _ HR.out).mono ?_
    rintro _ w7 ⟨rfl, hb9⟩
    replace HB := Lib.hid (keep_belowB HB.out hb9 (Nat.le_refl _))
    clear hb9 Hzer
    go_wp2_with fail
    refine bodyPost_ret (v := .tuple #[.int .u64 (F.sg b4 : Nat), .int .i64 0, .int .i64 0]) (by simp [results, Tryz.results80, go_sem]) rfl ?_
    exact ⟨by rw [e1, e2]; rfl, HB.out⟩
  · skip
    have e1 : r1 = F.sg true := by rw [H1.out]; simp [hx0, hy0]
    clear H1
    go_wp2_with fail
    refine (Hzer.out true _ HR.out).mono ?_
    rintro _ w7 ⟨rfl, hb9⟩
    replace HB := Lib.hid (keep_belowB HB.out hb9 (Nat.le_refl _))
    clear hb9 Hzer
    go_wp2_with fail
    refine bodyPost_ret (v := .tuple #[.int .u64 (F.sg true : Nat), .int .i64 0, .int .i64 0]) (by simp [results, Tryz.results80, go_sem]) rfl ?_
    exact ⟨by rw [e1, e2]; rfl, HB.out⟩

end Go.Proofs.YtlibhfojfonfjaaGreatDoor

/- The walks of fused's calls, of what is in range. -/
namespace Go.Proofs.YtlibhfojfonfjaaGreatDoor
set_option linter.unusedVariables false
open Go.RowKit

set_option maxRecDepth 100000 in
set_option maxHeartbeats 4000000 in
theorem frefuses_ok (f m : Nat) (b : Nat) (xs : List Nat) (w : World) (hf : f < 4) (hm : m ≤ 5) (hxs : ∀ x ∈ xs, x < 2 ^ (fm f).w) (hn : xs.length ≤ 100) (hb : b < w.heap.size) (hc : ∀ j, j < xs.length → w.cell? ⟨b, j, none⟩ = some (.int .u64 (xs.getD j 0 : Nat))) (hR : GlR w) :
    Calls Tryz.prog 40 #[.int .i64 f, .int .i64 m, .slice (some ⟨b, 0, none⟩) xs.length xs.length] w fun e w' => e = .returned (.int .i64 0) ∧ Below w.heap.size w w' := by
  have hp := fun wx h => Params_ok f wx hf h
  have hmem : ∀ j, j < xs.length → xs.getD j 0 ∈ xs := by
    intro j hj
    have e : xs.getD j 0 = xs[j] := by simp [List.getD, hj]
    rw [e]
    exact List.getElem_mem hj
  have hck := fun (j : Nat) (hj : j < xs.length) wx h => Check_ok f (xs.getD j 0) wx hf (hxs _ (hmem j hj)) h
  clear hmem
  obtain ⟨n, hnl⟩ : ∃ n, n = xs.length := ⟨_, rfl⟩
  rw [← hnl] at hn hc hck ⊢
  have t1 : decide ((m : Int) < 0) = false := by simp
  have t2 : decide ((5 : Int) < (m : Int)) = false := by simp; omega
  have t3 : ¬ (5 < m) := by omega
  have Hp := Lib.hid hp
  have Hck := Lib.hid hck
  have Hc := Lib.hid hc
  have HR := Lib.hid hR
  have Hb := Lib.hid hb
  generalize fm f = F at *
  clear hp hck hc hR hnl hxs hb hf hm
  unfold PV at Hp
  go_enter Tryz.func40, Tryz.ntmps40
  go_wp2_with fail
  refine (Hp.out _ HR.out).mono ?_
  rintro _ w1 ⟨rfl, hb1⟩
  have hb2 := below1 w1 (.cells #[.int .i64 F.w, .int .i64 F.p, .int .i64 F.emin, .int .i64 F.emax] 65)
  have HB := Lib.hid (keep_belowB hb1 hb2 (Nat.le_refl _))
  obtain ⟨W1, hW1⟩ : ∃ W1, W1 = w1.alloc (.cells #[.int .i64 F.w, .int .i64 F.p, .int .i64 F.emin, .int .i64 F.emax] 65) := ⟨_, rfl⟩
  rw [← hW1] at HB
  clear hb1 hb2 Hp
  go_upto_region 4 with (fail)
  rw [← hW1]
  clear hW1
  go_wp2
  clear t1 t2 t3
  go_loopw [28] (fun v wr => ∃ j : Nat, j ≤ n ∧ v = .int .i64 j ∧ Hid (Below w.heap.size w wr)) (fun v _ => n - (intOf v).toNat)
  case atStart => exact ⟨0, Nat.zero_le _, rfl, HB⟩
  case round =>
    obtain ⟨j, hj, rfl, HBr⟩ := hrel
    by_cases hjn : j < n
    · obtain ⟨x, hx⟩ : ∃ x, x = xs.getD j 0 := ⟨_, rfl⟩
      have hcj := (HBr.out.cell (p := ⟨b, j, none⟩) Hb.out).trans (Hc.out j hjn)
      have hcall := Hck.out j hjn _ (HR.out.below HBr.out)
      rw [← hx] at hcj hcall
      have Hcall := Lib.hid hcall
      have hjn' : (j : Int) < n := by omega
      clear hx hcall Hck Hc HR HB
      go_wp2_with fail
      refine Hcall.out.mono ?_
      rintro _ w2 ⟨rfl, hb2⟩
      replace HBr := Lib.hid (keep_belowB HBr.out hb2 (Nat.le_refl _))
      clear hb2 Hcall hcj
      go_wp2_with fail
      go_roundw
      case rel => exact ⟨j + 1, by omega, by go_num, HBr⟩
      case measure => simp [intOf]; omega
    · obtain rfl : j = n := by omega
      clear Hck Hc HR HB
      go_wp2_with fail
      go_ret
      exact ⟨rfl, HBr.out⟩

/-- a * b + c and a * b + c * d, rounded once: bits and flags -/
def fmaS (F : Fm) (m a b c : Nat) : Nat × Nat := fuseS F m (timesP (singleP F a) (singleP F b)) (singleP F c)
def dot2S (F : Fm) (m a b c d : Nat) : Nat × Nat := fuseS F m (timesP (singleP F a) (singleP F b)) (timesP (singleP F c) (singleP F d))

set_option maxRecDepth 100000 in
set_option maxHeartbeats 4000000 in
theorem Fma_ok (f m a b c : Nat) (w : World) (hf : f < 4) (hm : m ≤ 5) (ha : a < 2 ^ (fm f).w) (hb : b < 2 ^ (fm f).w) (hc : c < 2 ^ (fm f).w) (hG : Gl w) (hR : GlR w) :
    Calls Tryz.prog 42 #[.int .i64 f, .int .i64 m, .int .u64 a, .int .u64 b, .int .u64 c] w fun e w' => e = .returned (.tuple #[.int .u64 ((fmaS (fm f) m a b c).1 : Int), .int .i64 ((fmaS (fm f) m a b c).2 : Int), .int .i64 0]) ∧ Below w.heap.size w w' := by
  have hb0 := below1 w (.cells #[.int .u64 a, .int .u64 b, .int .u64 c] 22)
  have bs := Bx.new w #[.int .u64 a, .int .u64 b, .int .u64 c] 22
  have HB := Lib.hid hb0
  have HG := Lib.hid (hG.below hb0)
  have HR := Lib.hid (hR.below hb0)
  have hrf := frefuses_ok f m w.heap.size [a, b, c] _ hf hm (by intro x hx; simp at hx; rcases hx with rfl | rfl | rfl <;> assumption) (by simp) (by simp) (by
    intro j hj
    have hj' : j = 0 ∨ j = 1 ∨ j = 2 := by simp at hj; omega
    rcases hj' with rfl | rfl | rfl
    · exact bs.cell 0 rfl
    · exact bs.cell 1 rfl
    · exact bs.cell 2 rfl
    ) HR.out
  have Hrf := Lib.hid hrf
  obtain ⟨x, hx⟩ : ∃ x, x = timesP (singleP (fm f) a) (singleP (fm f) b) := ⟨_, rfl⟩
  obtain ⟨y, hy⟩ : ∃ y, y = singleP (fm f) c := ⟨_, rfl⟩
  have hpr := fun wx h1 h2 => product_pt f a b wx hf ha hb h1 h2
  have hsi := fun wx h1 h2 => single_any f c wx hf hc h1 h2
  have hpx : Sm x.d := by rw [hx]; exact (times_ps (fm_ok f) a b).sm
  have hpy : Sm y.d := by rw [hy]; exact (single_ps (fm_ok f) c).sm
  have hfu := fun A1 A2 c1 c2 wx h1 h2 h3 h4 => fuse_pt f m x y A1 A2 c1 c2 wx hf hm hpx hpy h1 h2 h3 h4
  unfold fmaS
  rw [← hx, ← hy]
  rw [← hx] at hpr
  rw [← hy] at hsi
  obtain ⟨r, hr⟩ : ∃ r, r = fuseS (fm f) m x y := ⟨_, rfl⟩
  rw [← hr] at hfu ⊢
  have Hpr := Lib.hid hpr
  have Hsi := Lib.hid hsi
  have Hfu := Lib.hid hfu
  clear hx hy hpr hsi hpx hpy hfu hr hb0 bs hrf hf hm ha hb hc hG hR
  go_enter Tryz.func42, Tryz.ntmps42
  go_wp2_with fail
  refine Hrf.out.mono ?_
  rintro _ w1 ⟨rfl, hb1⟩
  replace HB := Lib.hid (keep_belowB HB.out hb1 (Nat.le_refl _))
  replace HG := Lib.hid (HG.out.below hb1)
  replace HR := Lib.hid (HR.out.below hb1)
  clear hb1 Hrf
  go_wp2_with fail
  refine (Hpr.out _ HG.out HR.out).mono ?_
  rintro _ w2 ⟨A1, c1, rfl, hrx, hb2⟩
  replace HB := Lib.hid (keep_belowB HB.out hb2 (Nat.le_refl _))
  replace HG := Lib.hid (HG.out.below hb2)
  replace HR := Lib.hid (HR.out.below hb2)
  have HX := Lib.hid hrx
  clear hb2 hrx Hpr
  go_wp2_with fail
  refine (Hsi.out _ HG.out HR.out).mono ?_
  rintro _ w3 ⟨A2, c2, rfl, hry, hb3⟩
  replace HB := Lib.hid (keep_belowB HB.out hb3 (Nat.le_refl _))
  replace HG := Lib.hid (HG.out.below hb3)
  replace HR := Lib.hid (HR.out.below hb3)
  replace HX := Lib.hid (HX.out.below hb3)
  have HY := Lib.hid hry
  clear hb3 hry Hsi
  go_wp2_with fail
  refine (Hfu.out _ _ _ _ _ HX.out HY.out HG.out HR.out).mono ?_
  rintro _ w4 ⟨rfl, hb4⟩
  replace HB := Lib.hid (keep_belowB HB.out hb4 (Nat.le_refl _))
  clear hb4 Hfu HX HY
  go_wp2_with fail
  refine bodyPost_ret (v := .tuple #[.int .u64 r.1, .int .i64 r.2, .int .i64 0]) (by simp [results, Tryz.results42, go_sem]) rfl ⟨rfl, HB.out⟩


set_option maxRecDepth 100000 in
set_option maxHeartbeats 4000000 in
theorem Fms_ok (f m a b c : Nat) (w : World) (hf : f < 4) (hm : m ≤ 5) (ha : a < 2 ^ (fm f).w) (hb : b < 2 ^ (fm f).w) (hc : c < 2 ^ (fm f).w) (hG : Gl w) (hR : GlR w) :
    Calls Tryz.prog 11 #[.int .i64 f, .int .i64 m, .int .u64 a, .int .u64 b, .int .u64 c] w fun e w' => e = .returned (.tuple #[.int .u64 ((fmaS (fm f) m a b ((fm f).flip c)).1 : Int), .int .i64 ((fmaS (fm f) m a b ((fm f).flip c)).2 : Int), .int .i64 0]) ∧ Below w.heap.size w w' := by
  have hb0 := below1 w (.cells #[.int .u64 a, .int .u64 b, .int .u64 c] 22)
  have bs := Bx.new w #[.int .u64 a, .int .u64 b, .int .u64 c] 22
  have HB := Lib.hid hb0
  have HG := Lib.hid (hG.below hb0)
  have HR := Lib.hid (hR.below hb0)
  have hrf := frefuses_ok f m w.heap.size [a, b, c] _ hf hm (by intro x hx; simp at hx; rcases hx with rfl | rfl | rfl <;> assumption) (by simp) (by simp) (by
    intro j hj
    have hj' : j = 0 ∨ j = 1 ∨ j = 2 := by simp at hj; omega
    rcases hj' with rfl | rfl | rfl
    · exact bs.cell 0 rfl
    · exact bs.cell 1 rfl
    · exact bs.cell 2 rfl
    ) HR.out
  have Hrf := Lib.hid hrf
  have hng := fun wx h => FNeg_ok f c wx hf hc h
  have hv := flip_lt (fm_ok f) c
  obtain ⟨v, hvd⟩ : ∃ v, v = ((fm f).flip c) := ⟨_, rfl⟩
  rw [← hvd] at hng hv ⊢
  have hfm := fun wx h1 h2 => Fma_ok f m a b v wx hf hm ha hb hv h1 h2
  obtain ⟨r, hr⟩ : ∃ r, r = fmaS (fm f) m a b v := ⟨_, rfl⟩
  rw [← hr] at hfm ⊢
  have Hng := Lib.hid hng
  have Hfm := Lib.hid hfm
  clear hng hfm hr hvd hv hb0 bs hrf hf hm ha hb hc hG hR
  go_enter Tryz.func11, Tryz.ntmps11
  go_wp2_with fail
  refine Hrf.out.mono ?_
  rintro _ w1 ⟨rfl, hb1⟩
  replace HB := Lib.hid (keep_belowB HB.out hb1 (Nat.le_refl _))
  replace HG := Lib.hid (HG.out.below hb1)
  replace HR := Lib.hid (HR.out.below hb1)
  clear hb1 Hrf
  go_wp2_with fail
  refine (Hng.out _ HR.out).mono ?_
  rintro _ w2 ⟨rfl, hb2⟩
  replace HB := Lib.hid (keep_belowB HB.out hb2 (Nat.le_refl _))
  replace HG := Lib.hid (HG.out.below hb2)
  replace HR := Lib.hid (HR.out.below hb2)
  clear hb2 Hng
  go_wp2_with fail
  refine (Hfm.out _ HG.out HR.out).mono ?_
  rintro _ w3 ⟨rfl, hb3⟩
  replace HB := Lib.hid (keep_belowB HB.out hb3 (Nat.le_refl _))
  clear hb3 Hfm
  go_wp2_with fail
  refine bodyPost_ret (v := .tuple #[.int .u64 r.1, .int .i64 r.2, .int .i64 0]) (by simp [results, Tryz.results11, go_sem]) rfl ⟨rfl, HB.out⟩

end Go.Proofs.YtlibhfojfonfjaaGreatDoor

/- The walks of vernierlaw09's small functions. -/
namespace Go.Proofs.YtlibhfojfonfjaaGreatDoor
set_option linter.unusedVariables false
open Go.RowKit

theorem awake_one : fmaS (fm 2) 0 1065353217 1065353217 3212836866 = (679477248, 0) := by decide +kernel
theorem awake_two : dot2S (fm 2) 4 1065353216 1065353216 3212836864 1065353216 = (2147483648, 0) := by decide +kernel

theorem rparams_ok (f : Nat) (w : World) (hf : f < 4) : Calls Tryz.prog 46 #[.int .i64 f] w fun e w' => e = .returned (.tuple #[.int .i64 (fm f).w, .int .i64 (fm f).p, .int .i64 (fm f).emin]) ∧ w = w' := by
  have h4 : f = 0 ∨ f = 1 ∨ f = 2 ∨ f = 3 := by omega
  rcases h4 with rfl | rfl | rfl | rfl
  all_goals
    go_enter Tryz.func46, Tryz.ntmps46
    go_wp2
  · refine bodyPost_ret (v := .tuple #[.int .i64 16, .int .i64 11, .int .i64 (-14)]) (by simp [results, Tryz.results46, go_sem]) rfl ⟨rfl, rfl⟩
  · refine bodyPost_ret (v := .tuple #[.int .i64 16, .int .i64 8, .int .i64 (-126)]) (by simp [results, Tryz.results46, go_sem]) rfl ⟨rfl, rfl⟩
  · refine bodyPost_ret (v := .tuple #[.int .i64 32, .int .i64 24, .int .i64 (-126)]) (by simp [results, Tryz.results46, go_sem]) rfl ⟨rfl, rfl⟩
  · refine bodyPost_ret (v := .tuple #[.int .i64 64, .int .i64 53, .int .i64 (-1022)]) (by simp [results, Tryz.results46, go_sem]) rfl ⟨rfl, rfl⟩

theorem tmod_key (n : Int) (k : Nat) (hk : k = 4 ∨ k = 6) : (wrap64 (n.tmod k + k)).tmod k = n % (k : Int) := by
  have h1 : n.tmod k = if 0 ≤ n then n % (k : Int) else -((-n) % (k : Int)) := by
    split
    · rename_i h; exact Int.tmod_eq_emod_of_nonneg h
    · rename_i h
      have e : n = -(-n) := by omega
      rw [e, Int.neg_tmod, Int.tmod_eq_emod_of_nonneg (by omega)]
      simp
  have h2 : 0 < n.tmod k + k ∧ n.tmod k + k < 12 := by
    rw [h1]
    rcases hk with rfl | rfl <;> split <;> omega
  have h3 : wrap64 (n.tmod k + k) = n.tmod k + k := by
    unfold wrap64
    omega
  rw [h3, Int.tmod_eq_emod_of_nonneg (by omega), h1]
  rcases hk with rfl | rfl <;> split <;> omega


end Go.Proofs.YtlibhfojfonfjaaGreatDoor

/- The walk of (Four).right: what is brought into range. -/
namespace Go.Proofs.YtlibhfojfonfjaaGreatDoor
set_option linter.unusedVariables false
open Go.RowKit

def fourA (f m : Int) (a b c d : Nat) : Array Value := #[.int .i64 f, .int .i64 m, .int .u64 a, .int .u64 b, .int .u64 c, .int .u64 d]

theorem Bx.put {w : World} {g : Nat} {arr : Array Value} (h : Bx w g arr) (i : Nat) (v : Value) (arr' : Array Value) (e : arr.setIfInBounds i v = arr') : Bx (w.setCell ⟨g, i, none⟩ v) g arr' := by
  obtain ⟨t, h⟩ := h
  refine ⟨t, ?_⟩
  subst e
  simp [World.setCell, Array.getElem?_modify, h]

theorem Bx.six {w : World} {g : Nat} {a0 a1 a2 a3 a4 a5 : Value} (h : Bx w g #[a0, a1, a2, a3, a4, a5]) :
    w.cell? ⟨g, 0, none⟩ = some a0 ∧ w.cell? ⟨g, 1, none⟩ = some a1 ∧ w.cell? ⟨g, 2, none⟩ = some a2 ∧ w.cell? ⟨g, 3, none⟩ = some a3 ∧ w.cell? ⟨g, 4, none⟩ = some a4 ∧ w.cell? ⟨g, 5, none⟩ = some a5 :=
  ⟨h.cell 0 rfl, h.cell 1 rfl, h.cell 2 rfl, h.cell 3 rfl, h.cell 4 rfl, h.cell 5 rfl⟩

theorem Bx.set6 {w : World} {g : Nat} {a0 a1 a2 a3 a4 a5 : Value} (h : Bx w g #[a0, a1, a2, a3, a4, a5]) (x0 x1 x2 x3 x4 x5 : Value) :
    Bx ((((((w.setCell ⟨g, 0, none⟩ x0).setCell ⟨g, 1, none⟩ x1).setCell ⟨g, 2, none⟩ x2).setCell ⟨g, 3, none⟩ x3).setCell ⟨g, 4, none⟩ x4).setCell ⟨g, 5, none⟩ x5) g #[x0, x1, x2, x3, x4, x5] := by
  obtain ⟨t, h⟩ := h
  refine ⟨t, ?_⟩
  simp [World.setCell, Array.getElem?_modify, h]

theorem below_set6 {w w1 : World} {g : Nat} (h : Below w.heap.size w w1) (hg : w.heap.size ≤ g) (x0 x1 x2 x3 x4 x5 : Value) :
    Below w.heap.size w ((((((w1.setCell ⟨g, 0, none⟩ x0).setCell ⟨g, 1, none⟩ x1).setCell ⟨g, 2, none⟩ x2).setCell ⟨g, 3, none⟩ x3).setCell ⟨g, 4, none⟩ x4).setCell ⟨g, 5, none⟩ x5) :=
  (((((h.setCell (p := ⟨g, 0, none⟩) hg x0).setCell (p := ⟨g, 1, none⟩) hg x1).setCell (p := ⟨g, 2, none⟩) hg x2).setCell (p := ⟨g, 3, none⟩) hg x3).setCell (p := ⟨g, 4, none⟩) hg x4).setCell (p := ⟨g, 5, none⟩) hg x5

theorem wrap_u64_mod (a : Nat) : IntKind.u64.wrap (a : Int) = ((a % 18446744073709551616 : Nat) : Int) := by
  unfold IntKind.wrap
  simp [IntKind.bits, IntKind.signed]

theorem shl_shr_16 (a : Nat) : IntKind.u64.wrap ((a : Int) * 281474976710656) / 281474976710656 = ((a % 65536 : Nat) : Int) := by
  have e : (a : Int) * 281474976710656 = ((a * 281474976710656 : Nat) : Int) := by simp
  rw [e, wrap_u64_mod]
  omega

theorem shl_shr_32 (a : Nat) : IntKind.u64.wrap ((a : Int) * 4294967296) / 4294967296 = ((a % 4294967296 : Nat) : Int) := by
  have e : (a : Int) * 4294967296 = ((a * 4294967296 : Nat) : Int) := by simp
  rw [e, wrap_u64_mod]
  omega


end Go.Proofs.YtlibhfojfonfjaaGreatDoor

/- The walks of vernierlaw09.fma, dot2, value. -/
namespace Go.Proofs.YtlibhfojfonfjaaGreatDoor
set_option linter.unusedVariables false
open Go.RowKit



theorem Value_vf (f : Int) (a : Nat) (d : D) (z : Int) (ha : a < 18446744073709551616) (hd : d = valA f a) (hz : z = valE f a) (w : World) (hG : GlR w) (hT : Gl w) :
    Calls Tryz.prog 17 #[.int .i64 f, .int .u64 a] w fun e w' => ∃ A c, e = .returned (.tuple #[.agg #[.bool d.s, .slice A (nd 64 d.n) c, .int .i64 d.e], .int .i64 z]) ∧ (Rd 64 w' (.slice A (nd 64 d.n) c) d.n (nd 64 d.n) ∧ Fr w.heap.size w' (.slice A (nd 64 d.n) c)) ∧ Below w.heap.size w w' := by
  subst hd hz
  refine (Value_any f a w ha hG hT).mono ?_
  rintro e w' ⟨x, rfl, ⟨A, c, rfl, _, _, h, h'⟩, hb⟩
  exact ⟨A, c, rfl, ⟨h, h'⟩, hb⟩

end Go.Proofs.YtlibhfojfonfjaaGreatDoor

/- The walk of vernierlaw09.rank. -/
namespace Go.Proofs.YtlibhfojfonfjaaGreatDoor
set_option linter.unusedVariables false
open Go.RowKit

/-- the place of a float in the order of numbers -/
def rankS (F : Fm) (a : Nat) : Int := sI (F.neg a) (F.abs a)

theorem wrap_i64_of (x : Int) (h : -9223372036854775808 ≤ x ∧ x ≤ 9223372036854775807) : IntKind.i64.wrap x = x := IntWalk.i64_in _ h

theorem rank_hi {F : Fm} {a T : Nat} (hT : 2 ^ (F.w - 1) = T) (hw : 2 ^ F.w = T * 2) (ha : a < 2 ^ F.w) (h : T ≤ a) : rankS F a = -((a : Int) - T) := by
  unfold rankS sI Fm.neg Fm.abs
  rw [hT, if_pos (by simpa using h), Nat.mod_eq_sub_mod h, Nat.mod_eq_of_lt (by omega)]
  omega

theorem rank_lo {F : Fm} {a T : Nat} (hT : 2 ^ (F.w - 1) = T) (h : ¬ T ≤ a) : rankS F a = a := by
  unfold rankS sI Fm.neg Fm.abs
  rw [hT, if_neg (by simpa using h), Nat.mod_eq_of_lt (by omega)]


end Go.Proofs.YtlibhfojfonfjaaGreatDoor

/- The walks of vernierref06.sign, Nought, Opposite and vernierlaw09.unity. -/
namespace Go.Proofs.YtlibhfojfonfjaaGreatDoor
set_option linter.unusedVariables false
open Go.RowKit

end Go.Proofs.YtlibhfojfonfjaaGreatDoor

/- Fused sums of products by whole numbers of units: what the laws of layer 9 say of them, as plain numbers. -/
namespace Go.Proofs.YtlibhfojfonfjaaGreatDoor
set_option linter.unusedVariables false
set_option linter.unusedSimpArgs false

/-- a summand: its exact value in units of 2^-5000 -/
structure Qt where
  nan : Bool
  sig : Bool
  inv : Bool
  inf : Bool
  neg : Bool
  z : Int

def fuseZ (F : Fm) (m : Nat) (x y : Qt) : Nat × Nat :=
  if x.sig || y.sig || x.inv || y.inv then (F.nan, 1)
  else if x.nan || y.nan then (F.nan, 0)
  else if x.inf && y.inf && (x.neg != y.neg) then (F.nan, 1)
  else if x.inf then (F.inf + F.sg x.neg, 0)
  else if y.inf then (F.inf + F.sg y.neg, 0)
  else if x.z + y.z = 0 then (F.sg (if decide (x.z = 0) && decide (y.z = 0) && (x.neg == y.neg) then x.neg else m == 4), 0)
  else rndZ F m (x.z + y.z) (-5000)

def Pt.q (x : Pt) : Qt := ⟨x.nan, x.sig, x.inv, x.inf, x.neg, x.d.i (-5000)⟩

theorem i_zero_iff {d : D} {L : Int} : d.i L = 0 ↔ d.n = 0 := by
  constructor
  · intro h
    have h2 := i_natAbs d L
    rw [h] at h2
    have := pow_pos2 (d.e - L).toNat
    rcases Nat.eq_zero_or_pos d.n with h3 | h3
    · exact h3
    · have := Nat.mul_pos h3 this
      simp at h2; omega
  · intro h; exact i_of_zero h L

theorem into_rndZ {F : Fm} (m : Nat) (s : D) (L : Int) (h0 : s.n ≠ 0) (hL : L ≤ s.e) : intoS F m s.s s.n s.e false = rndZ F m (s.i L) L := by
  have h1 := i_scale s L s.e hL (Int.le_refl _)
  have h2 : s.i s.e = if s.s then -(s.n : Int) else (s.n : Int) := by unfold D.i; simp
  have h3 : s.i s.e ≠ 0 := fun h => h0 (i_zero_iff.1 h)
  rw [h1, rndZ_scale m _ s.e L h3 hL, h2, rndZ_mk m s.s s.n s.e h0]

theorem fuse_q {F : Fm} (m : Nat) {x y : Pt} (hx : Sm x.d) (hy : Sm y.d) : fuseS F m x y = fuseZ F m x.q y.q := by
  obtain ⟨s, hs, hc, hlo, hi⟩ := addD_sm hx hy
  have e1 : sumP x y = s := by unfold sumP; rw [hs]
  unfold fuseS fuseZ Pt.q
  simp only
  rw [e1, ← hi]
  by_cases h0 : s.n = 0
  · rw [if_pos h0, if_pos (i_zero_iff.2 h0)]
    simp only [i_zero_iff]
  · rw [if_neg h0, if_neg (fun h => h0 (i_zero_iff.1 h)), into_rndZ m s (-5000) h0 hlo]

def oneZ (F : Fm) (a : Nat) : Qt := ⟨F.isNan a, F.isSig a, false, F.isInf a, F.neg a, if F.isNan a || F.isInf a then 0 else F.val (-5000) a⟩
def prodZ (F : Fm) (a b : Nat) : Qt := ⟨F.isNan a || F.isNan b, F.isSig a || F.isSig b, !F.isNan a && !F.isNan b && ((F.isInf a && F.isZero b) || (F.isInf b && F.isZero a)), !F.isNan a && !F.isNan b && (F.isInf a || F.isInf b), F.neg a != F.neg b,
  if F.isNan a || F.isNan b || F.isInf a || F.isInf b then 0 else F.val (-2500) a * F.val (-2500) b⟩

section
variable {F : Fm}

theorem val_zero_iff (ok : F.Ok) {a : Nat} (L : Int) : F.val L a = 0 ↔ F.abs a = 0 := by
  have hp : 1 ≤ F.p := by have := ok.p8; omega
  constructor
  · intro h
    rcases Nat.eq_zero_or_pos (F.abs a) with h2 | h2
    · exact h2
    · exact absurd h (val_neg hp L (by omega)).2.2
  · exact val_zero L

theorem valD_zero_iff (ok : F.Ok) {a : Nat} (h : F.abs a < F.inf) : (valD F a).n = 0 ↔ F.abs a = 0 := by
  rw [← i_zero_iff (L := -5000), i_of_val ok h _ (by decide), val_zero_iff ok]

theorem q_single (ok : F.Ok) (a : Nat) : (singleP F a).q = oneZ F a := by
  unfold Pt.q singleP oneZ
  simp only
  cases h1 : F.isNan a
  · cases h2 : F.isInf a
    · simp only [Bool.or_self, Bool.false_eq_true, if_false]
      rw [i_of_val ok (fin_of h1 h2) _ (by decide)]
    · simp [D.i_zero]
  · simp [D.i_zero]

theorem inf_not_zero (ok : F.Ok) {a : Nat} (h : F.isInf a = true) : F.isZero a = false ∧ F.isNan a = false := by
  have := inf_pos ok
  unfold Fm.isInf at h
  unfold Fm.isZero Fm.isNan
  simp at h ⊢
  omega

theorem q_times (ok : F.Ok) (a b : Nat) : (timesP (singleP F a) (singleP F b)).q = prodZ F a b := by
  have fld : ∀ x, (singleP F x).nan = F.isNan x ∧ (singleP F x).sig = F.isSig x ∧ (singleP F x).inf = F.isInf x ∧ (singleP F x).neg = F.neg x := fun x => ⟨rfl, rfl, rfl, rfl⟩
  cases h1 : F.isNan a
  · cases h3 : F.isNan b
    · have hz : ∀ x, F.isNan x = false → F.isInf x = false → decide ((singleP F x).d.n = 0) = F.isZero x := by
        intro x hx1 hx2
        have e : (singleP F x).d = valD F x := by unfold singleP; simp [hx1, hx2]
        rw [e]
        unfold Fm.isZero
        congr 1
        exact propext (valD_zero_iff ok (fin_of hx1 hx2))
      cases h2 : F.isInf a
      · cases h4 : F.isInf b
        · have hd := times_d ok a b h1 h2 h3 h4
          have hm := prod_eq ok (fin_of h1 h2) (fin_of h3 h4)
          have e0 : ∀ x, F.isNan x = false → F.isInf x = false → (singleP F x).d = valD F x := by intro x hx1 hx2; unfold singleP; simp [hx1, hx2]
          rw [e0 a h1 h2, e0 b h3 h4, hm] at hd
          have hd := (Prod.mk.inj hd).1
          unfold Pt.q
          rw [← hd, prod_i ok (fin_of h1 h2) (fin_of h3 h4)]
          unfold timesP prodZ
          simp [fld, h1, h2, h3, h4]
        · have z2 := inf_not_zero ok h4
          unfold Pt.q timesP prodZ
          simp [fld, h1, h2, h3, h4, hz a h1 h2, D.i_zero]
      · have z2 := inf_not_zero ok h2
        cases h4 : F.isInf b
        · unfold Pt.q timesP prodZ
          simp [fld, h1, h2, h3, h4, hz b h3 h4, D.i_zero, z2]
        · have z4 := inf_not_zero ok h4
          unfold Pt.q timesP prodZ
          simp [fld, h1, h2, h3, h4, D.i_zero, z2, z4]
    · unfold Pt.q timesP prodZ
      simp [fld, h1, h3, D.i_zero]
  · unfold Pt.q timesP prodZ
    simp [fld, h1, D.i_zero]

theorem fma_z (ok : F.Ok) (m a b c : Nat) : fuseS F m (timesP (singleP F a) (singleP F b)) (singleP F c) = fuseZ F m (prodZ F a b) (oneZ F c) := by
  rw [fuse_q m (times_ps ok a b).sm (single_ps ok c).sm, q_times ok, q_single ok]
theorem dot_z (ok : F.Ok) (m a b c d : Nat) : fuseS F m (timesP (singleP F a) (singleP F b)) (timesP (singleP F c) (singleP F d)) = fuseZ F m (prodZ F a b) (prodZ F c d) := by
  rw [fuse_q m (times_ps ok a b).sm (times_ps ok c d).sm, q_times ok, q_times ok]

theorem prodZ_comm (a b : Nat) : prodZ F a b = prodZ F b a := by
  unfold prodZ
  rw [Int.mul_comm (F.val (-2500) a)]
  cases F.isNan a <;> cases F.isNan b <;> cases F.isInf a <;> cases F.isInf b <;> cases F.isZero a <;> cases F.isZero b <;> cases F.isSig a <;> cases F.isSig b <;> cases F.neg a <;> cases F.neg b <;> rfl

theorem fuseZ_comm (m : Nat) (x y : Qt) : fuseZ F m x y = fuseZ F m y x := by
  obtain ⟨n1, s1, v1, i1, g1, z1⟩ := x
  obtain ⟨n2, s2, v2, i2, g2, z2⟩ := y
  unfold fuseZ
  simp only
  rw [Int.add_comm z1 z2]
  cases s1 <;> cases s2 <;> cases v1 <;> cases v2 <;> simp only [Bool.or_self, Bool.or_true, Bool.true_or, Bool.or_false, Bool.false_or, if_true, if_false, Bool.false_eq_true]
  cases n1 <;> cases n2 <;> simp only [Bool.or_self, Bool.or_true, Bool.true_or, Bool.or_false, Bool.false_or, if_true, if_false, Bool.false_eq_true]
  rw [Bool.and_comm (decide (z2 = 0)) (decide (z1 = 0))]
  generalize (decide (z1 = 0) && decide (z2 = 0)) = zz
  cases i1 <;> cases i2 <;> cases g1 <;> cases g2 <;> cases zz <;> rfl

/-- the opposite -/
def Qt.opp (x : Qt) : Qt := { x with neg := !x.neg, z := -x.z }

theorem opp_opp (x : Qt) : x.opp.opp = x := by
  obtain ⟨n1, s1, v1, i1, g1, z1⟩ := x
  unfold Qt.opp
  simp

theorem val_flip (L : Int) (a : Nat) : F.val L (F.flip a) = -F.val L a := by
  unfold Fm.val
  rw [abs_flip, neg_flip]
  cases F.neg a <;> simp

theorem flip_flip (ok : F.Ok) {a : Nat} (h : a < 2 ^ F.w) : F.flip (F.flip a) = a := by
  conv => lhs; rw [Fm.flip]
  rw [abs_flip, neg_flip, Bool.not_not]
  exact (parts_mk ok h).symm

theorem oneZ_flip (a : Nat) : oneZ F (F.flip a) = (oneZ F a).opp := by
  unfold oneZ Qt.opp
  simp only [isNan_flip, isSig_flip, isInf_flip, neg_flip, val_flip]
  split <;> simp

theorem prodZ_flip (a b : Nat) : prodZ F (F.flip a) b = (prodZ F a b).opp := by
  unfold prodZ Qt.opp
  simp only [isNan_flip, isSig_flip, isInf_flip, isZero_flip, neg_flip, val_flip, Int.neg_mul]
  congr 1
  · cases F.neg a <;> cases F.neg b <;> rfl
  · split <;> simp

theorem prodZ_flip2 (a b : Nat) : prodZ F a (F.flip b) = (prodZ F a b).opp := by
  rw [prodZ_comm, prodZ_flip, prodZ_comm]

theorem rndZ_mir (ok : F.Ok) (m : Nat) (z L : Int) (h : z ≠ 0) : rndZ F (mir m) (-z) L = (F.flip (rndZ F m z L).1, (rndZ F m z L).2) := by
  unfold rndZ
  rw [← into_mir ok m _ _ _ _ (by omega), Int.natAbs_neg]
  congr 1
  rw [← decide_not]
  congr 1
  exact propext (by omega)

theorem rndZ_fin (ok : F.Ok) (m : Nat) (z L : Int) (h : z ≠ 0) : F.isNan (rndZ F m z L).1 = false := by
  unfold rndZ
  rw [into_bits F ok m _ _ _ _ (by omega)]
  have h2 := mag_le F ok m (decide (z < 0)) z.natAbs L false (by omega)
  unfold Fm.isNan
  rw [abs_mk (Nat.lt_of_le_of_lt h2 (inf_lt ok))]
  simp; exact h2

/-- the place in the order of numbers -/
def rankZ (F : Fm) (a : Nat) : Int := sI (F.neg a) (F.abs a)

theorem rank_flip (a : Nat) : rankZ F (F.flip a) = -rankZ F a := by
  unfold rankZ sI
  rw [neg_flip, abs_flip]
  cases F.neg a <;> simp

theorem rank_sg (s : Bool) : rankZ F (F.sg s) = 0 ∧ F.isNan (F.sg s) = false := by
  obtain ⟨h1, h2⟩ := zero_sg (F := F) s
  unfold rankZ sI Fm.isNan
  rw [h1, h2]
  cases s <;> simp

theorem rank_inf (ok : F.Ok) (s : Bool) : F.isNan (F.inf + F.sg s) = false ∧ F.inf + F.sg (!s) = F.flip (F.inf + F.sg s) := by
  refine ⟨?_, (flip_mk (inf_lt ok)).symm⟩
  unfold Fm.isNan
  rw [abs_mk (inf_lt ok)]
  simp

/-- of opposite summands the opposite, in the mode that rounds the other way -/
theorem fuseZ_mir (ok : F.Ok) (m : Nat) (x y : Qt) : (fuseZ F (mir m) x.opp y.opp).2 = (fuseZ F m x y).2 ∧ F.isNan (fuseZ F (mir m) x.opp y.opp).1 = F.isNan (fuseZ F m x y).1 ∧
    (F.isNan (fuseZ F m x y).1 = false → rankZ F (fuseZ F m x y).1 = -rankZ F (fuseZ F (mir m) x.opp y.opp).1) := by
  obtain ⟨n1, s1, v1, i1, g1, z1⟩ := x
  obtain ⟨n2, s2, v2, i2, g2, z2⟩ := y
  have hn := nan_isNan ok
  unfold fuseZ Qt.opp
  simp only
  by_cases c1 : (s1 || s2 || v1 || v2) = true
  · simp only [if_pos c1]; simp [hn]
  simp only [if_neg c1]
  by_cases c2 : (n1 || n2) = true
  · simp only [if_pos c2]; simp [hn]
  simp only [if_neg c2]
  rw [show ((!g1) != (!g2)) = (g1 != g2) by cases g1 <;> cases g2 <;> rfl]
  by_cases c3 : (i1 && i2 && (g1 != g2)) = true
  · simp only [if_pos c3]; simp [hn]
  simp only [if_neg c3]
  have ri := fun s => rank_inf ok s
  by_cases c4 : i1 = true
  · simp only [if_pos c4]
    rw [(ri g1).2, isNan_flip, rank_flip]
    simp
  simp only [if_neg c4]
  by_cases c5 : i2 = true
  · simp only [if_pos c5]
    rw [(ri g2).2, isNan_flip, rank_flip]
    simp
  simp only [if_neg c5]
  by_cases c6 : z1 + z2 = 0
  · rw [if_pos c6, if_pos (by omega : -z1 + -z2 = 0)]
    simp only [(rank_sg (F := F) _).1, (rank_sg (F := F) _).2]
    simp
  · rw [if_neg c6, if_neg (by omega : ¬ -z1 + -z2 = 0), show -z1 + -z2 = -(z1 + z2) by omega, rndZ_mir ok m _ _ c6]
    simp only [isNan_flip, rank_flip]
    simp

/-- of numbers -/
theorem fuseZ_fin (m : Nat) {x y : Qt} (hx : x.sig = false ∧ x.inv = false ∧ x.nan = false ∧ x.inf = false) (hy : y.sig = false ∧ y.inv = false ∧ y.nan = false ∧ y.inf = false) :
    fuseZ F m x y = if x.z + y.z = 0 then (F.sg (if decide (x.z = 0) && decide (y.z = 0) && (x.neg == y.neg) then x.neg else m == 4), 0) else rndZ F m (x.z + y.z) (-5000) := by
  unfold fuseZ
  simp [hx, hy]

theorem rank_rnd (ok : F.Ok) (m : Nat) (z L : Int) (h : z ≠ 0) : rankZ F (rndZ F m z L).1 = sI (decide (z < 0)) (magS F m (decide (z < 0)) z.natAbs L false) := by
  unfold rndZ rankZ
  obtain ⟨h1, h2⟩ := cut_lt ok m (decide (z < 0)) z.natAbs L false (by omega)
  rw [h1, neg_mk h2, abs_mk h2]

/-- all modes lie between Down and Up -/
theorem modes_fin (ok : F.Ok) {x y : Qt} (hx : x.sig = false ∧ x.inv = false ∧ x.nan = false ∧ x.inf = false) (hy : y.sig = false ∧ y.inv = false ∧ y.nan = false ∧ y.inf = false) (m : Nat) :
    F.isNan (fuseZ F m x y).1 = false ∧ rankZ F (fuseZ F 4 x y).1 ≤ rankZ F (fuseZ F m x y).1 ∧ rankZ F (fuseZ F m x y).1 ≤ rankZ F (fuseZ F 3 x y).1 ∧
    ((fuseZ F m x y).2 = 0 ↔ (fuseZ F 4 x y).2 = 0) ∧
    rankZ F (fuseZ F 3 x y).1 - rankZ F (fuseZ F 4 x y).1 = (if (fuseZ F 4 x y).2 = 0 then 0 else 1) ∧
    ((fuseZ F m x y).2 = 0 ∨ (fuseZ F m x y).2 = 16 ∨ (fuseZ F m x y).2 = 20 ∨ (fuseZ F m x y).2 = 24) := by
  rw [fuseZ_fin m hx hy, fuseZ_fin 3 hx hy, fuseZ_fin 4 hx hy]
  generalize x.z + y.z = z
  by_cases h0 : z = 0
  · simp only [if_pos h0, (rank_sg (F := F) _).1, (rank_sg (F := F) _).2]
    simp
  simp only [if_neg h0]
  have hn : z.natAbs ≠ 0 := by omega
  refine ⟨rndZ_fin ok m z _ h0, ?_⟩
  rw [rank_rnd ok m z _ h0, rank_rnd ok 3 z _ h0, rank_rnd ok 4 z _ h0]
  unfold rndZ
  have f1 := flag_exact ok m (decide (z < 0)) z.natAbs (-5000) hn
  have f4 := flag_exact ok 4 (decide (z < 0)) z.natAbs (-5000) hn
  have hfl := into_flags F m (decide (z < 0)) z.natAbs (-5000) false
  have hb := mag_between ok m (decide (z < 0)) z.natAbs (-5000) hn
  rw [mag_down ok _ _ _ hn, mag_up ok _ _ _ hn]
  generalize (intoS F m (decide (z < 0)) z.natAbs (-5000) false).2 = g at *
  generalize (intoS F 4 (decide (z < 0)) z.natAbs (-5000) false).2 = g4 at *
  generalize magS F m (decide (z < 0)) z.natAbs (-5000) false = c at *
  generalize botS F z.natAbs (-5000) = b at *
  generalize exB F z.natAbs (-5000) = t at *
  generalize decide (z < 0) = s at *
  refine ⟨?_, ?_, ?_, ?_, hfl⟩
  · cases s <;> cases t <;> simp [sI] at * <;> omega
  · cases s <;> cases t <;> simp [sI] at * <;> omega
  · rw [f1, f4]
  · cases t
    · have : g4 ≠ 0 := fun h => by have := f4.1 h; cases this
      rw [if_neg this]
      cases s <;> simp [sI] <;> omega
    · rw [if_pos (f4.2 rfl)]
      cases s <;> simp [sI]

/-- with a factor 1: the sum -/
theorem val_one (ok : F.Ok) (k : Nat) (hk : k = 2500) : F.val (-2500) F.one = 2 ^ k := by
  obtain ⟨h1, h2, h3, h4, _, _⟩ := one_ok ok
  have hp := ok.p8
  have hp2 := ok.p53
  unfold Fm.val Fm.vl uN
  rw [h1, h2]
  have e3 : F.sig F.one = 2 ^ (F.p - 1) := by have := h3; unfold Fm.mag at this; rwa [h1] at this
  have e4 : F.xp F.one = 1 - F.p := by have := h4; unfold Fm.ex at this; rwa [h1] at this
  rw [e3, e4, ← Nat.pow_add]
  simp only [Bool.false_eq_true, if_false]
  rw [show F.p - 1 + (1 - (F.p : Int) - -2500).toNat = k by omega]
  simp

theorem val_units (ok : F.Ok) {a : Nat} (h : F.abs a < F.inf) (L M : Int) (h1 : L ≤ M) (h2 : M ≤ F.low) : F.val L a = F.val M a * 2 ^ (M - L).toNat := by
  have := ex_range ok h
  rw [val_i, val_i]
  exact i_scale _ L M h1 (by show M ≤ F.ex a; omega)

theorem one_facts (ok : F.Ok) : F.isNan F.one = false ∧ F.isSig F.one = false ∧ F.isInf F.one = false ∧ F.isZero F.one = false ∧ F.neg F.one = false := by
  obtain ⟨h1, h2, h3, h4, h5, h6⟩ := one_ok ok
  have n1 : F.isNan F.one = false := by unfold Fm.isNan; rw [h1]; simp; omega
  exact ⟨n1, by unfold Fm.isSig; rw [n1]; rfl, by unfold Fm.isInf; rw [h1]; simp; omega, by unfold Fm.isZero; rw [h1]; simp; exact h5, h2⟩

theorem sig_nan {a : Nat} (h : F.isNan a = false) : F.isSig a = false := by unfold Fm.isSig; rw [h]; rfl

theorem prodZ_one (ok : F.Ok) (a : Nat) : prodZ F a F.one = oneZ F a := by
  obtain ⟨n1, n2, n3, n4, n5⟩ := one_facts ok
  have hl := low_ge ok
  unfold prodZ oneZ
  obtain ⟨k, hk⟩ : ∃ k : Nat, k = 2500 := ⟨_, rfl⟩
  rw [n1, n2, n3, n4, n5, val_one ok k hk]
  cases h1 : F.isNan a
  · cases h2 : F.isInf a
    · have := val_units ok (fin_of h1 h2) (-5000) (-2500) (by decide) (by omega)
      rw [show ((-2500 : Int) - -5000).toNat = k by omega] at this
      simp only [Bool.or_self, Bool.false_eq_true, if_false]
      rw [this]
      simp
    · simp
  · unfold Fm.isInf
    have : F.abs a ≠ F.inf := by unfold Fm.isNan at h1; simp at h1; omega
    simp [this]

theorem sum_z (ok : F.Ok) (m : Nat) {a c : Nat} (ha : a < 2 ^ F.w) (hc : c < 2 ^ F.w) : fuseZ F m (oneZ F a) (oneZ F c) = addS F m a c := by
  have hpa := parts_mk ok ha
  have hpc := parts_mk ok hc
  have hl := low_ge ok
  unfold fuseZ oneZ addS
  simp only [Bool.or_false]
  by_cases c1 : (F.isSig a || F.isSig c) = true
  · rw [if_pos c1, if_pos c1]
  rw [if_neg c1, if_neg c1]
  by_cases c2 : (F.isNan a || F.isNan c) = true
  · rw [if_pos c2, if_pos c2]
  rw [if_neg c2, if_neg c2]
  simp only [Bool.or_eq_true, not_or, Bool.not_eq_true] at c2
  by_cases c3 : (F.isInf a && F.isInf c && (F.neg a != F.neg c)) = true
  · rw [if_pos c3, if_pos c3]
  rw [if_neg c3, if_neg c3]
  by_cases c4 : F.isInf a = true
  · rw [if_pos c4, if_pos c4]
    have : F.abs a = F.inf := by unfold Fm.isInf at c4; simpa using c4
    rw [this] at hpa
    rw [← hpa]
  rw [if_neg c4, if_neg c4]
  by_cases c5 : F.isInf c = true
  · rw [if_pos c5, if_pos c5]
    have : F.abs c = F.inf := by unfold Fm.isInf at c5; simpa using c5
    rw [this] at hpc
    rw [← hpc]
  rw [if_neg c5, if_neg c5]
  simp only [Bool.not_eq_true] at c4 c5
  simp only [c2, c4, c5, Bool.or_self, Bool.false_eq_true, if_false]
  have u1 := val_units ok (fin_of c2.1 c4) (-5000) F.low (by omega) (Int.le_refl _)
  have u2 := val_units ok (fin_of c2.2 c5) (-5000) F.low (by omega) (Int.le_refl _)
  have hz1 : decide (F.val (-5000) a = 0) = F.isZero a := by unfold Fm.isZero; congr 1; exact propext (val_zero_iff ok _)
  have hz2 : decide (F.val (-5000) c = 0) = F.isZero c := by unfold Fm.isZero; congr 1; exact propext (val_zero_iff ok _)
  rw [hz1, hz2, u1, u2, ← Int.add_mul]
  have hp := ipow_pos (F.low - -5000).toNat
  by_cases c6 : F.val F.low a + F.val F.low c = 0
  · rw [if_pos c6, c6, Int.zero_mul, if_pos rfl]
  · rw [if_neg c6, if_neg (Int.mul_ne_zero c6 (by omega)), rndZ_scale m _ F.low (-5000) c6 (by omega)]

/-- with a zero of the product's sign added: the product -/
theorem product_z (ok : F.Ok) (m : Nat) {a b : Nat} (ha : a < 2 ^ F.w) (hb : b < 2 ^ F.w) : fuseZ F m (prodZ F a b) (oneZ F (F.sg (F.neg a != F.neg b))) = mulS F m a b := by
  have hl := low_ge ok
  have hp : 1 ≤ F.p := by have := ok.p8; omega
  obtain ⟨h1, h2⟩ := zero_sg (F := F) (F.neg a != F.neg b)
  have hinf := inf_pos ok
  generalize hs : F.sg (F.neg a != F.neg b) = s at *
  have z1 : F.isNan s = false := by unfold Fm.isNan; rw [h1]; simp
  have z2 : F.isInf s = false := by unfold Fm.isInf; rw [h1]; simp; omega
  have z3 := sig_nan z1
  have z4 : F.val (-5000) s = 0 := val_zero _ h1
  unfold fuseZ prodZ oneZ mulS
  simp only [z1, z2, z3, z4, h2, Bool.or_false, Bool.and_false, Bool.false_and, Bool.or_self, Bool.false_eq_true, if_false, Int.add_zero]
  cases n1 : F.isNan a
  · cases n2 : F.isNan b
    · rw [sig_nan n1, sig_nan n2]
      simp only [Bool.or_self, Bool.false_or, Bool.not_false, Bool.true_and, Bool.false_eq_true, if_false]
      cases i1 : F.isInf a
      · cases i2 : F.isInf b
        · simp only [Bool.false_and, Bool.or_self, Bool.and_false, Bool.false_eq_true, if_false]
          by_cases c : F.val (-2500) a * F.val (-2500) b = 0
          · rw [if_pos c]
            have c' : (F.isZero a || F.isZero b) = true := by
              rw [Int.mul_eq_zero, val_zero_iff ok, val_zero_iff ok] at c
              unfold Fm.isZero; simpa using c
            rw [if_pos c', hs]
            simp [c, hs]
          · rw [if_neg c]
            have c' : ¬ (F.isZero a || F.isZero b) = true := by
              rw [Int.mul_eq_zero, val_zero_iff ok, val_zero_iff ok] at c
              unfold Fm.isZero; simpa using c
            rw [if_neg c']
            have hi := prod_i ok (fin_of n1 i1) (fin_of n2 i2)
            have c0 := c'
            simp only [Bool.or_eq_true, not_or, Bool.not_eq_true] at c0
            have hne : F.mag a * F.mag b ≠ 0 := Nat.mul_ne_zero (mag_ne hp c0.1) (mag_ne hp c0.2)
            have e1 := ex_range ok (fin_of n1 i1)
            have e2 := ex_range ok (fin_of n2 i2)
            have hr := into_rndZ (F := F) m ⟨F.neg a != F.neg b, F.mag a * F.mag b, F.ex a + F.ex b⟩ (-5000) hne (by show -5000 ≤ F.ex a + F.ex b; omega)
            rw [i_odd _ _ (by show -5000 ≤ F.ex a + F.ex b; omega)] at hi
            rw [← hi]
            exact hr.symm
        · cases F.isZero a <;> simp
      · have hz := (inf_not_zero ok i1).1
        cases i2 : F.isInf b
        · cases F.isZero b <;> simp [hz]
        · have hz2 := (inf_not_zero ok i2).1
          simp [hz, hz2]
    · rw [sig_nan n1]
      cases F.isSig b <;> simp
  · cases F.isSig a <;> cases F.isSig b <;> simp

end
end Go.Proofs.YtlibhfojfonfjaaGreatDoor
