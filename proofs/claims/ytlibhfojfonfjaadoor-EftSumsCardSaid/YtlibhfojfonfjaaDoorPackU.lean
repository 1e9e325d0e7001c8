/- Packed by program: AddL Betw BetwD FusS Vb FusA FusB FusC FusD FusE FusF FusG FusH FusI FusJ FusP. -/
import Derived.Test.YtlibhfojfonfjaaDoorPackR
import Derived.Test.YtlibhfojfonfjaaDoorPackB
import Derived.Test.YtlibhfojfonfjaaDoorPackC
import Derived.Test.YtlibhfojfonfjaaDoorPackF
import Derived.Test.YtlibhfojfonfjaaDoorPackO
import Derived.Test.YtlibhfojfonfjaaDoorPackM
import Derived.Outline
import Derived.Deep.LoopGhost
import Derived.Lib.Hide
/- Sums of floats as plain numbers: the sum with a sticky bit is the exact sum, rounded. -/
namespace Go.Proofs.YtlibhfojfonfjaaDoor
set_option linter.unusedVariables false

section
variable {F : Fm}

theorem val_i (L : Int) (a : Nat) : F.val L a = D.i L ⟨F.neg a, F.mag a, F.ex a⟩ := by
  unfold Fm.val D.i Fm.vl uN Fm.mag Fm.ex
  simp only
  generalize F.sig (F.abs a) = n
  generalize (F.xp (F.abs a) - L).toNat = k
  cases F.neg a <;> simp [Int.neg_mul]

theorem i_scale (d : D) (L M : Int) (h1 : L ≤ M) (h2 : M ≤ d.e) : d.i L = d.i M * 2 ^ (M - L).toNat := by
  unfold D.i
  rw [show (d.e - L).toNat = (d.e - M).toNat + (M - L).toNat by omega, Int.pow_add]
  generalize (2 : Int) ^ (d.e - M).toNat = p
  generalize (2 : Int) ^ (M - L).toNat = q
  grind

theorem rndZ_scale (m : Nat) (z : Int) (M L : Int) (hz : z ≠ 0) (h : L ≤ M) : rndZ F m (z * 2 ^ (M - L).toNat) L = rndZ F m z M := by
  unfold rndZ
  have hp := ipow_pos (M - L).toNat
  have e1 : decide (z * 2 ^ (M - L).toNat < 0) = decide (z < 0) := by
    congr 1; apply propext
    constructor
    · intro h
      rcases Int.lt_or_le z 0 with h1 | h1
      · exact h1
      · have := Int.mul_nonneg h1 (Int.le_of_lt hp); omega
    · intro h; exact Int.mul_neg_of_neg_of_pos h hp
  rw [e1, Int.natAbs_mul]
  have e2 : ((2 : Int) ^ (M - L).toNat).natAbs = 2 ^ (M - L).toNat := by
    rw [Int.natAbs_pow]; rfl
  rw [e2]
  have := into_scale F m (decide (z < 0)) z.natAbs (M - L).toNat M (by omega)
  rw [← this]
  congr 1; omega

/-- a number that is not zero, with its sign -/
theorem rndZ_mk (m : Nat) (s : Bool) (n : Nat) (e : Int) (h : n ≠ 0) : rndZ F m (if s then -(n : Int) else (n : Int)) e = intoS F m s n e false := by
  unfold rndZ
  cases s
  · rw [if_neg (by simp), decide_eq_false (by omega), Int.natAbs_natCast]
  · rw [if_pos rfl, decide_eq_true (by omega), Int.natAbs_neg, Int.natAbs_natCast]

theorem i_at (s : Bool) (n : Nat) (e : Int) : D.i e ⟨s, n, e⟩ = if s then -(n : Int) else (n : Int) := by unfold D.i; simp

theorem i_up (s : Bool) (n : Nat) (e L : Int) : D.i L ⟨s, n, e⟩ = if s then -((n * 2 ^ (e - L).toNat : Nat) : Int) else ((n * 2 ^ (e - L).toNat : Nat) : Int) := by
  unfold D.i; cases s <;> simp [Int.neg_mul]

/-- like signs -/
theorem add_same (m : Nat) (s : Bool) (nx ny : Nat) (ex ey : Int) (h : ey ≤ ex) (up down : Nat) (hd : ex - ey = up + down) (lo : Nat) (hlo : lo = ny / 2 ^ down) (more : Bool) (hm : more = decide (lo * 2 ^ down ≠ ny))
    (h0 : nx * 2 ^ up + lo ≠ 0) (hb : more = true → F.p + 1 ≤ bl (nx * 2 ^ up + lo)) :
    intoS F m s (nx * 2 ^ up + lo) (ex - up) more = rndZ F m (D.i ey ⟨s, nx, ex⟩ + D.i ey ⟨s, ny, ey⟩) ey ∧ D.i ey ⟨s, nx, ex⟩ + D.i ey ⟨s, ny, ey⟩ ≠ 0 := by
  have hk := pow_pos2 down
  have hX : nx * 2 ^ (ex - ey).toNat = nx * 2 ^ up * 2 ^ down := by
    rw [show (ex - ey).toNat = up + down by omega, Nat.pow_add, Nat.mul_assoc]
  have hmod := Nat.div_add_mod ny (2 ^ down)
  have hlt := Nat.mod_lt ny hk
  rw [← hlo, Nat.mul_comm] at hmod
  have hz : nx * 2 ^ (ex - ey).toNat + ny ≠ 0 := by
    intro h1
    have : nx * 2 ^ up * 2 ^ down = 0 := by omega
    rcases Nat.mul_eq_zero.1 this with h2 | h2
    · have : ny = 0 := by omega
      subst this
      rw [Nat.zero_div] at hlo
      omega
    · omega
  have e1 : D.i ey ⟨s, nx, ex⟩ + D.i ey ⟨s, ny, ey⟩ = if s then -((nx * 2 ^ (ex - ey).toNat + ny : Nat) : Int) else ((nx * 2 ^ (ex - ey).toNat + ny : Nat) : Int) := by
    rw [i_up, i_at]; cases s <;> simp; omega
  rw [e1, rndZ_mk m s _ _ hz]
  refine ⟨?_, by
    generalize nx * 2 ^ (ex - ey).toNat + ny = X at *
    cases s
    · rw [if_neg (by simp)]; omega
    · rw [if_pos rfl]; omega⟩
  rw [hX, show ey = ex - up - (down : Int) by omega]
  cases more
  · have he : lo * 2 ^ down = ny := by simpa using hm.symm
    have := into_scale F m s (nx * 2 ^ up + lo) down (ex - up) h0
    rw [← this, Nat.add_mul, he]
  · refine into_sticky F m s _ down _ (ex - up) (hb rfl) ?_ ?_
    · have he : lo * 2 ^ down ≠ ny := by simpa using hm.symm
      rw [Nat.add_mul]; omega
    · rw [Nat.add_mul, Nat.add_mul, Nat.one_mul]; omega

/-- unlike signs -/
theorem add_diff (m : Nat) (s : Bool) (nx ny : Nat) (ex ey : Int) (h : ey ≤ ex) (up down : Nat) (hd : ex - ey = up + down) (lo : Nat) (hlo : lo = ny / 2 ^ down) (more : Bool) (hm : more = decide (lo * 2 ^ down ≠ ny)) (d : Nat)
    (hle : d + lo + (if more then 1 else 0) = nx * 2 ^ up) (h0 : d ≠ 0) (hb : more = true → F.p + 1 ≤ bl d) :
    intoS F m s d (ex - up) more = rndZ F m (D.i ey ⟨s, nx, ex⟩ + D.i ey ⟨!s, ny, ey⟩) ey ∧ D.i ey ⟨s, nx, ex⟩ + D.i ey ⟨!s, ny, ey⟩ ≠ 0 := by
  have hk := pow_pos2 down
  have hX : nx * 2 ^ (ex - ey).toNat = nx * 2 ^ up * 2 ^ down := by
    rw [show (ex - ey).toNat = up + down by omega, Nat.pow_add, Nat.mul_assoc]
  have hmod := Nat.div_add_mod ny (2 ^ down)
  have hlt := Nat.mod_lt ny hk
  rw [← hlo, Nat.mul_comm] at hmod
  obtain ⟨X, hXe, hX1⟩ : ∃ X : Nat, nx * 2 ^ (ex - ey).toNat = X + ny ∧ (more = false → X = d * 2 ^ down) ∧ (more = true → d * 2 ^ down < X ∧ X < (d + 1) * 2 ^ down) ∧ X ≠ 0 := by
    cases more
    · have he : lo * 2 ^ down = ny := by simpa using hm.symm
      simp at hle
      refine ⟨d * 2 ^ down, by rw [hX, ← hle, Nat.add_mul, he], fun _ => rfl, nofun, ?_⟩
      exact Nat.ne_of_gt (Nat.mul_pos (by omega) hk)
    · have he : lo * 2 ^ down ≠ ny := by simpa using hm.symm
      simp at hle
      have h1 : nx * 2 ^ up * 2 ^ down = d * 2 ^ down + lo * 2 ^ down + 2 ^ down := by rw [← hle, Nat.add_mul, Nat.add_mul, Nat.one_mul]
      refine ⟨nx * 2 ^ up * 2 ^ down - ny, by rw [hX]; omega, nofun, fun _ => ⟨by omega, by rw [Nat.add_mul, Nat.one_mul]; omega⟩, by omega⟩
  have e1 : D.i ey ⟨s, nx, ex⟩ + D.i ey ⟨!s, ny, ey⟩ = if s then -(X : Int) else (X : Int) := by
    rw [i_up, i_at, hXe]; cases s <;> simp <;> omega
  rw [e1, rndZ_mk m s _ _ hX1.2.2]
  refine ⟨?_, by have := hX1.2.2; cases s <;> simp <;> omega⟩
  rw [show ey = ex - up - (down : Int) by omega]
  cases hmo : more
  · rw [hX1.1 hmo, into_scale F m s d down (ex - up) h0]
  · obtain ⟨a, b⟩ := hX1.2.1 hmo
    exact into_sticky F m s d down X (ex - up) (hb hmo) a b

end

end Go.Proofs.YtlibhfojfonfjaaDoor

/- What all modes give lies between the bits below and the bits above. -/
namespace Go.Proofs.YtlibhfojfonfjaaDoor
set_option linter.unusedVariables false
set_option linter.unusedSimpArgs false

/-- the bits rounded towards zero -/
def botS (F : Fm) (n : Nat) (e : Int) : Nat := if F.emax < topE n e then F.inf - 1 else floS F n e
def exB (F : Fm) (n : Nat) (e : Int) : Bool := decide (¬ F.emax < topE n e ∧ rst n false (quE F n e - e) = 0)

section
variable {F : Fm}

theorem inf_pos (ok : F.Ok) : 0 < F.inf := by
  rw [inf_emax ok]; exact Nat.mul_pos (by omega) (pow_pos2 _)

theorem bot_lt (ok : F.Ok) (n : Nat) (e : Int) (h0 : n ≠ 0) : botS F n e < F.inf := by
  have := inf_pos ok
  unfold botS
  split
  · omega
  · rename_i h
    have := top_inf F ok n e h0
    omega

theorem mag_between (ok : F.Ok) (m : Nat) (neg : Bool) (n : Nat) (e : Int) (h0 : n ≠ 0) : magS F m neg n e false = botS F n e ∨ (magS F m neg n e false = botS F n e + 1 ∧ exB F n e = false) := by
  have hi := inf_pos ok
  unfold magS botS exB
  by_cases h : F.emax < topE n e
  · rw [if_pos h, if_pos h]
    split
    · right; exact ⟨by omega, by simp [h]⟩
    · left; rfl
  · rw [if_neg h, if_neg h]
    by_cases hr : rst n false (quE F n e - e) = 0
    · rw [goesUp_exact hr]; left; rfl
    · split
      · right; exact ⟨rfl, by simp [hr]⟩
      · left; rfl

theorem mag_exact (ok : F.Ok) (m : Nat) (neg : Bool) (n : Nat) (e : Int) (h0 : n ≠ 0) (hx : exB F n e = true) : magS F m neg n e false = botS F n e := by
  rcases mag_between ok m neg n e h0 with h | ⟨_, h⟩
  · exact h
  · rw [hx] at h; cases h

theorem mag_down (ok : F.Ok) (neg : Bool) (n : Nat) (e : Int) (h0 : n ≠ 0) : magS F 4 neg n e false = if neg && !exB F n e then botS F n e + 1 else botS F n e := by
  have hi := inf_pos ok
  unfold magS botS exB infB
  by_cases h : F.emax < topE n e
  · rw [if_pos h, if_pos h]
    cases neg <;> simp [h]
    omega
  · rw [if_neg h, if_neg h]
    unfold goesUp upB
    by_cases hr : rst n false (quE F n e - e) = 0
    · simp [hr, h]
    · cases neg <;> simp [hr, h]

theorem mag_up (ok : F.Ok) (neg : Bool) (n : Nat) (e : Int) (h0 : n ≠ 0) : magS F 3 neg n e false = if !neg && !exB F n e then botS F n e + 1 else botS F n e := by
  have hi := inf_pos ok
  unfold magS botS exB infB
  by_cases h : F.emax < topE n e
  · rw [if_pos h, if_pos h]
    cases neg <;> simp [h]
    omega
  · rw [if_neg h, if_neg h]
    unfold goesUp upB
    by_cases hr : rst n false (quE F n e - e) = 0
    · simp [hr, h]
    · cases neg <;> simp [hr, h]

theorem flag_exact (ok : F.Ok) (m : Nat) (neg : Bool) (n : Nat) (e : Int) (h0 : n ≠ 0) : (intoS F m neg n e false).2 = 0 ↔ exB F n e = true := by
  rw [into_exact F ok m neg n e false h0]
  unfold exB; simp

/-- what is too great has infinity above it -/
theorem flag_over (ok : F.Ok) (m : Nat) (neg : Bool) (n : Nat) (e : Int) (h0 : n ≠ 0) (h : (intoS F m neg n e false).2 = 20) : botS F n e + 1 = F.inf ∧ exB F n e = false := by
  have hi := inf_pos ok
  have hx : exB F n e = false := by
    cases hb : exB F n e
    · rfl
    · rw [← flag_exact ok m neg n e h0, h] at hb; cases hb
  refine ⟨?_, hx⟩
  unfold botS
  unfold intoS at h
  split at h
  · rename_i h1; rw [if_pos h1]; omega
  · rename_i h1
    rw [if_neg h1]
    split at h
    · rename_i h2
      exact ((over_top F ok m neg n e false h0 h1).1 h2).2.1
    · simp only at h
      split at h
      · cases h
      · split at h <;> cases h

theorem bot_units (ok : F.Ok) (n : Nat) (e L : Int) (h0 : n ≠ 0) (hL1 : L ≤ e) (hL2 : L ≤ F.low) :
    F.vl L (botS F n e) ≤ uN L n e ∧ (F.vl L (botS F n e) = uN L n e ↔ exB F n e = true) ∧ (botS F n e + 1 < F.inf → uN L n e < F.vl L (botS F n e + 1)) := by
  have hi := inf_pos ok
  have hp : 1 ≤ F.p := by have := ok.p8; omega
  obtain ⟨h1, h2⟩ := floS_units F hp n e L h0 hL1 hL2
  have h3 := floS_exact F hp n e L h0 hL1 hL2
  unfold botS exB
  by_cases h : F.emax < topE n e
  · rw [if_pos h]
    have ht := (top_inf F ok n e h0).1 h
    have hlt := vl_lt F hp L hL2 (a := F.inf - 1) (b := floS F n e) (by omega)
    refine ⟨by omega, ?_, by omega⟩
    simp [h]
    omega
  · rw [if_neg h]
    refine ⟨h1, ?_, fun _ => h2⟩
    rw [← h3]; simp [h]

/-- a product of finite numbers, not zero -/
theorem mul_into (ok : F.Ok) (m : Nat) {a b : Nat} (fa : F.abs a < F.inf) (fb : F.abs b < F.inf) (za : F.abs a ≠ 0) (zb : F.abs b ≠ 0) :
    mulS F m a b = intoS F m (F.neg a != F.neg b) (F.mag a * F.mag b) (F.ex a + F.ex b) false := by
  unfold mulS
  have h1 : F.isNan a = false := by unfold Fm.isNan; simp; omega
  have h2 : F.isNan b = false := by unfold Fm.isNan; simp; omega
  have h3 : F.isInf a = false := by unfold Fm.isInf; simp; omega
  have h4 : F.isInf b = false := by unfold Fm.isInf; simp; omega
  have h5 : F.isZero a = false := by unfold Fm.isZero; simp; omega
  have h6 : F.isZero b = false := by unfold Fm.isZero; simp; omega
  simp [h1, h2, h3, h4, h5, h6]

/-- sign and magnitude as a number -/
def sI (s : Bool) (n : Nat) : Int := if s then -(n : Int) else (n : Int)

structure Betw (F : Fm) (g : Nat) (c A B : Nat) (X : Int) (L : Int) : Prop where
  one : c = A ∨ c = B
  lt : A < 2 ^ F.w ∧ B < 2 ^ F.w
  down : F.abs A < F.inf → F.val L A ≤ X ∧ (F.val L A = X ↔ A = B) ∧ (F.val L A = X ↔ g &&& 16 = 0)
  up : F.abs B < F.inf → X ≤ F.val L B ∧ (X = F.val L B ↔ A = B)
  over : F.abs A < F.inf → F.abs B < F.inf → g &&& 4 = 0
  fin : F.abs A < F.inf ∨ F.abs B < F.inf
  minf : ¬ F.abs A < F.inf → A = F.inf + F.sg true
  pinf : ¬ F.abs B < F.inf → B = F.inf + F.sg false

theorem val_mk (ok : F.Ok) (L : Int) {x : Nat} (s : Bool) (hx : x < 2 ^ (F.w - 1)) : F.val L (x + F.sg s) = sI s (F.vl L x) := by
  unfold Fm.val sI
  rw [neg_mk hx, abs_mk hx]

theorem into_betw (ok : F.Ok) (m : Nat) (s : Bool) (n : Nat) (e L : Int) (h0 : n ≠ 0) (hL1 : L ≤ e) (hL2 : L ≤ F.low) :
    Betw F (intoS F m s n e false).2 (intoS F m s n e false).1 (intoS F 4 s n e false).1 (intoS F 3 s n e false).1 (sI s (uN L n e)) L := by
  have hil := inf_lt ok
  have hw := w_two ok
  have hb := bot_lt ok n e h0
  have hsg : F.sg s ≤ 2 ^ (F.w - 1) := sg_lt ok s
  obtain ⟨u1, u2, u3⟩ := bot_units ok n e L h0 hL1 hL2
  have hf := flag_exact ok m s n e h0
  have ho := flag_over ok m s n e h0
  have hm := mag_between ok m s n e h0
  have hfl := into_flags F m s n e false
  rw [into_bits F ok m s n e false h0, into_bits F ok 4 s n e false h0, into_bits F ok 3 s n e false h0, mag_down ok s n e h0, mag_up ok s n e h0]
  generalize (intoS F m s n e false).2 = g at *
  generalize magS F m s n e false = c at *
  generalize botS F n e = x at *
  generalize exB F n e = t at *
  generalize uN L n e = U at *
  have hvx : ∀ s, F.val L (x + F.sg s) = sI s (F.vl L x) := fun s => val_mk ok L s (by omega)
  have hvx1 : ∀ s, F.val L (x + 1 + F.sg s) = sI s (F.vl L (x + 1)) := fun s => val_mk ok L s (by omega)
  have hax : ∀ s, F.abs (x + F.sg s) = x := fun s => abs_mk (by omega)
  have hax1 : ∀ s, F.abs (x + 1 + F.sg s) = x + 1 := fun s => abs_mk (by omega)
  have hg16 : g &&& 16 = 0 ↔ t = true := by
    rw [← hf]
    rcases hfl with h | h | h | h <;> rw [h] <;> decide
  have hg4 : g ≠ 20 → g &&& 4 = 0 := by
    intro h5
    rcases hfl with h | h | h | h
    · rw [h]; rfl
    · rw [h]; rfl
    · exact absurd h h5
    · rw [h]; rfl
  cases t
  · have u2' : F.vl L x ≠ U := by intro h; have := u2.1 h; cases this
    have hg : ¬ g &&& 16 = 0 := by rw [hg16]; simp
    cases s
    · simp only [Bool.not_false, Bool.and_true, Bool.false_and, Bool.and_self, if_true, if_false, Bool.false_eq_true]
      refine ⟨?_, ?_, ?_, ?_, ?_, ?_, ?_, ?_⟩
      · rcases hm with h | ⟨h, _⟩ <;> rw [h] <;> simp
      · constructor <;> omega
      · intro _
        rw [hvx]
        unfold sI
        simp only [Bool.false_eq_true, if_false]
        refine ⟨by omega, ⟨fun h => by omega, fun h => by omega⟩, ⟨fun h => by omega, fun h => absurd h hg⟩⟩
      · rw [hax1, hvx1]
        intro h
        have := u3 h
        unfold sI
        simp only [Bool.false_eq_true, if_false]
        exact ⟨by omega, ⟨fun h => by omega, fun h => by omega⟩⟩
      · rw [hax1]
        intro _ h
        refine hg4 fun h5 => ?_
        have := (ho h5).1
        omega
      · rw [hax]; left; exact hb
      · rw [hax]; intro h; exact absurd hb h
      · rw [hax1]; intro h; rw [show x + 1 = F.inf by omega]
    · simp only [Bool.not_false, Bool.not_true, Bool.and_true, Bool.false_and, Bool.and_self, if_true, if_false, Bool.false_eq_true]
      refine ⟨?_, ?_, ?_, ?_, ?_, ?_, ?_, ?_⟩
      · rcases hm with h | ⟨h, _⟩ <;> rw [h] <;> simp
      · constructor <;> omega
      · rw [hax1, hvx1]
        intro h
        have := u3 h
        unfold sI
        simp only [if_true]
        refine ⟨by omega, ⟨fun h => by omega, fun h => by omega⟩, ⟨fun h => by omega, fun h => absurd h hg⟩⟩
      · intro _
        rw [hvx]
        unfold sI
        simp only [if_true]
        exact ⟨by omega, ⟨fun h => by omega, fun h => by omega⟩⟩
      · rw [hax1]
        intro h _
        refine hg4 fun h5 => ?_
        have := (ho h5).1
        omega
      · rw [hax]; right; exact hb
      · rw [hax1]; intro h; rw [show x + 1 = F.inf by omega]
      · rw [hax]; intro h; exact absurd hb h
  · have u2' : F.vl L x = U := u2.2 rfl
    have hg : g &&& 16 = 0 := by rw [hg16]
    have hc : c = x := by
      rcases hm with h | ⟨_, h⟩
      · exact h
      · cases h
    have hc' := hc.symm
    subst hc'
    have hne : g ≠ 20 := by intro h; have := (ho h).2; cases this
    have hxl : ∀ s, x + F.sg s < 2 ^ F.w := fun s => by have := sg_lt ok s; omega
    have key : ∀ s, Betw F g (x + F.sg s) (x + F.sg s) (x + F.sg s) (sI s U) L := by
      intro s
      refine ⟨Or.inl rfl, ⟨hxl s, hxl s⟩, ?_, ?_, fun _ _ => hg4 hne, Or.inl (by rw [hax]; exact hb), ?_, ?_⟩
      · intro _; rw [hvx, u2']; exact ⟨Int.le_refl _, ⟨fun _ => rfl, fun _ => rfl⟩, ⟨fun _ => hg, fun _ => rfl⟩⟩
      · intro _; rw [hvx, u2']; exact ⟨Int.le_refl _, ⟨fun _ => rfl, fun _ => rfl⟩⟩
      · rw [hax]; intro h; exact absurd hb h
      · rw [hax]; intro h; exact absurd hb h
    have := key s
    cases s <;> simpa using this

end
end Go.Proofs.YtlibhfojfonfjaaDoor

/- A product's bounds as exact numbers. -/
namespace Go.Proofs.YtlibhfojfonfjaaDoor
set_option linter.unusedVariables false
set_option linter.unusedSimpArgs false

section
variable {F : Fm}

theorem low_ge (ok : F.Ok) : -1074 ≤ F.low ∧ F.low ≤ 0 := by
  obtain ⟨p8, p53, pw, w64, emx, emn, b16, b1023⟩ := ok
  unfold Fm.low; omega

theorem ex_range (ok : F.Ok) {a : Nat} (h : F.abs a < F.inf) : F.low ≤ F.ex a ∧ F.ex a ≤ 1024 := by
  have h1 := inf_emax ok
  have hp := pow_pos2 (F.p - 1)
  obtain ⟨p8, p53, pw, w64, emx, emn, b16, b1023⟩ := ok
  have hd : F.abs a / 2 ^ (F.p - 1) < 2 * F.emax.toNat + 1 := by rw [Nat.div_lt_iff_lt_mul hp]; omega
  unfold Fm.ex Fm.xp
  unfold Fm.low
  generalize F.abs a / 2 ^ (F.p - 1) = q at *
  clear h h1 hp
  split <;> omega

theorem mag_lt (ok : F.Ok) (a : Nat) : F.mag a < 2 ^ 53 := by
  obtain ⟨p8, p53, pw, w64, emx, emn, b16, b1023⟩ := ok
  have hp := pow_pos2 (F.p - 1)
  have h2 : (2 : Nat) ^ (F.p - 1) ≤ 2 ^ 52 := Nat.pow_le_pow_right (by decide) (by omega)
  unfold Fm.mag Fm.sig
  split
  · rename_i h
    have := Nat.lt_of_div_eq_zero hp h
    omega
  · have := Nat.mod_lt (F.abs a) hp
    omega

theorem small_nd {n : Nat} (h : n < 2 ^ 128) : nd 64 n ≤ 2 := nd_le 64 n 2 (by decide) h

/-- a value: its size and its units -/
theorem valD_facts (ok : F.Ok) {a : Nat} (h : F.abs a < F.inf) : refD (nd 64 (valD F a).n) (valD F a).e = 0 ∧ (valD F a).n < 2 ^ (64 * nd 64 (valD F a).n) ∧ (∀ L, L ≤ -40000 → (valD F a).i L = F.val L a) ∧ (F.abs a ≠ 0 ↔ (valD F a).n ≠ 0) := by
  have h1 := low_ge ok
  have h2 := ex_range ok h
  have h3 := mag_lt ok a
  have hle : (valD F a).n ≤ F.mag a := odd_le _
  have hmz : F.abs a ≠ 0 ↔ F.mag a ≠ 0 := by
    constructor
    · intro h0; exact mag_ne (by have := ok.p8; omega) (by unfold Fm.isZero; simpa using h0)
    · intro h0 h4; apply h0; unfold Fm.mag; rw [h4]; simp [Fm.sig]
  have hz : F.mag a ≠ 0 ↔ (valD F a).n ≠ 0 := by
    unfold valD oddD
    simp only
    split
    · rename_i h4; simp [h4, D.zero]
    · rename_i h4
      exact ⟨fun _ => odd_part_ne h4, fun _ => h4⟩
  have he : -1100 ≤ (valD F a).e ∧ (valD F a).e ≤ 1200 := by
    unfold valD oddD
    simp only
    split
    · simp [D.zero]
    · rename_i h4
      have : tzN (F.mag a) < 64 := by
        have := (tz_tzN (n := F.mag a) (by omega) h4).1
        have := (tz_tzN (n := F.mag a) (by omega) h4).2
        omega
      simp only
      omega
  refine ⟨?_, lt_nd 64 _ (by decide), ?_, hmz.trans hz⟩
  · unfold refD
    have := small_nd (n := (valD F a).n) (by omega)
    rw [if_neg (by omega), if_neg (by omega)]
  · intro L hL
    rw [val_i]
    exact i_odd _ L (by show L ≤ F.ex a; omega)

theorem sI_i (s : Bool) (n : Nat) (e L : Int) : D.i L ⟨s, n, e⟩ = sI s (uN L n e) := i_up s n e L

/-- the exact product of two values -/
theorem prod_val (ok : F.Ok) {a b : Nat} (fa : F.abs a < F.inf) (fb : F.abs b < F.inf) :
    ∃ x, mulD (nd 64 (valD F a).n) (valD F a) (nd 64 (valD F b).n) (valD F b) = (x, 0) ∧ refD (nd 64 x.n) x.e = 0 ∧ x.i (-80000) = sI (F.neg a != F.neg b) (uN (-80000) (F.mag a * F.mag b) (F.ex a + F.ex b)) := by
  obtain ⟨r1, l1, v1, _⟩ := valD_facts ok fa
  obtain ⟨r2, l2, v2, _⟩ := valD_facts ok fb
  have h1 := low_ge ok
  have ha := ex_range ok fa
  have hb := ex_range ok fb
  have hma := mag_lt ok a
  have hmb := mag_lt ok b
  obtain ⟨d, hd, hde, hdi⟩ := mulD_ans (-40000) (by omega) r1 r2 l1 l2
  have e2 : (-40000 : Int) + -40000 = -80000 := by decide
  rw [e2] at hde hdi
  rw [v1 _ (by omega), v2 _ (by omega), val_i, val_i, ← i_mul _ _ _ _ _ _ _ (by omega) (by omega), e2] at hdi
  have hq : ansD d = ansD ⟨F.neg a != F.neg b, F.mag a * F.mag b, F.ex a + F.ex b⟩ := ansD_eq (-80000) hde (by show -80000 ≤ F.ex a + F.ex b; omega) (by omega) hdi
  have hn : F.mag a * F.mag b < 2 ^ 106 := Nat.lt_of_lt_of_le (Nat.mul_lt_mul'' hma hmb) (by decide)
  obtain ⟨y, hy⟩ : ∃ y, y = oddD ⟨F.neg a != F.neg b, F.mag a * F.mag b, F.ex a + F.ex b⟩ := ⟨_, rfl⟩
  have hyn : y.n ≤ F.mag a * F.mag b := by rw [hy]; exact odd_le _
  have hnd := small_nd (n := y.n) (by omega)
  have hye : -4000 ≤ y.e ∧ y.e ≤ 4000 := by
    rw [hy]
    unfold oddD
    simp only
    split
    · simp [D.zero]
    · rename_i h4
      have h5 := tzN_spec (F.mag a * F.mag b) h4
      have : tzN (F.mag a * F.mag b) < 128 := by
        rcases Nat.lt_or_ge (tzN (F.mag a * F.mag b)) 128 with h | h
        · exact h
        · exfalso
          obtain ⟨q, hq⟩ := h5
          have := Nat.pow_le_pow_right (show 0 < 2 by decide) h
          have h8 : 2 ^ tzN (F.mag a * F.mag b) ≤ F.mag a * F.mag b := by
            conv => rhs; rw [hq]
            exact Nat.le_mul_of_pos_right _ (by omega)
          omega
      simp only
      omega
  refine ⟨y, ?_, ?_, ?_⟩
  · rw [hd, hq]
    unfold ansD
    rw [← hy, if_neg (by omega), if_neg (by omega)]
  · unfold refD
    rw [if_neg (by omega), if_neg (by omega)]
  · rw [hy, i_odd _ _ (by show -80000 ≤ F.ex a + F.ex b; omega), sI_i]

structure BetwD (F : Fm) (g : Nat) (c A B : Nat) (x : D) : Prop where
  fl : g = 0 ∨ g = 16 ∨ g = 20 ∨ g = 24
  one : c = A ∨ c = B
  lt : A < 2 ^ F.w ∧ B < 2 ^ F.w
  down : F.abs A < F.inf → cmpD (nd 64 (valD F A).n) (valD F A) (nd 64 x.n) x = (if A = B then 0 else -1, 0) ∧ (A = B ↔ g &&& 16 = 0)
  up : F.abs B < F.inf → cmpD (nd 64 x.n) x (nd 64 (valD F B).n) (valD F B) = (if A = B then 0 else -1, 0)
  over : F.abs A < F.inf → F.abs B < F.inf → g &&& 4 = 0
  fin : F.abs A < F.inf ∨ F.abs B < F.inf
  minf : ¬ F.abs A < F.inf → A = F.inf + F.sg true
  pinf : ¬ F.abs B < F.inf → B = F.inf + F.sg false

theorem sgI_le {x : Int} {p : Prop} [Decidable p] (h : x ≤ 0) (hp : x = 0 ↔ p) : sgI x = if p then 0 else -1 := by
  unfold sgI
  by_cases hx : x = 0
  · rw [if_pos hx, if_pos (hp.1 hx)]
  · rw [if_neg hx, if_pos (by omega), if_neg (fun h => hx (hp.2 h))]

theorem mul_between (ok : F.Ok) (m : Nat) {a b : Nat} (fa : F.abs a < F.inf) (fb : F.abs b < F.inf) (za : F.abs a ≠ 0) (zb : F.abs b ≠ 0) :
    ∃ x, mulD (nd 64 (valD F a).n) (valD F a) (nd 64 (valD F b).n) (valD F b) = (x, 0) ∧ BetwD F (mulS F m a b).2 (mulS F m a b).1 (mulS F 4 a b).1 (mulS F 3 a b).1 x := by
  obtain ⟨x, hx, hr, hi⟩ := prod_val ok fa fb
  refine ⟨x, hx, ?_⟩
  have hp : 1 ≤ F.p := by have := ok.p8; omega
  have hlow := low_ge ok
  have hea := ex_range ok fa
  have heb := ex_range ok fb
  have hma : F.mag a ≠ 0 := mag_ne hp (by unfold Fm.isZero; simpa using za)
  have hmb : F.mag b ≠ 0 := mag_ne hp (by unfold Fm.isZero; simpa using zb)
  have H := into_betw ok m (F.neg a != F.neg b) (F.mag a * F.mag b) (F.ex a + F.ex b) (-80000) (Nat.mul_ne_zero hma hmb) (by omega) (by omega)
  have hfl := into_flags F m (F.neg a != F.neg b) (F.mag a * F.mag b) (F.ex a + F.ex b) false
  rw [mul_into ok m fa fb za zb, mul_into ok 4 fa fb za zb, mul_into ok 3 fa fb za zb]
  generalize (intoS F m (F.neg a != F.neg b) (F.mag a * F.mag b) (F.ex a + F.ex b) false) = r at *
  generalize (intoS F 4 (F.neg a != F.neg b) (F.mag a * F.mag b) (F.ex a + F.ex b) false).1 = A at *
  generalize (intoS F 3 (F.neg a != F.neg b) (F.mag a * F.mag b) (F.ex a + F.ex b) false).1 = B at *
  generalize sI (F.neg a != F.neg b) (uN (-80000) (F.mag a * F.mag b) (F.ex a + F.ex b)) = X at *
  refine ⟨hfl, H.one, H.lt, ?_, ?_, H.over, H.fin, H.minf, H.pinf⟩
  · intro hA
    obtain ⟨r1, l1, v1, _⟩ := valD_facts ok hA
    obtain ⟨d1, d2, d3⟩ := H.down hA
    refine ⟨?_, d2.symm.trans d3⟩
    rw [cmpD_val _ _ _ _ (-80000) (by omega) r1 hr, v1 _ (by omega), hi, sgI_le (p := A = B) (show F.val (-80000) A - X ≤ 0 by omega) (by rw [← d2]; omega)]
  · intro hB
    obtain ⟨r1, l1, v1, _⟩ := valD_facts ok hB
    obtain ⟨d1, d2⟩ := H.up hB
    rw [cmpD_val _ _ _ _ (-80000) (by omega) hr r1, v1 _ (by omega), hi, sgI_le (p := A = B) (show X - F.val (-80000) B ≤ 0 by omega) (by rw [← d2]; omega)]

end
end Go.Proofs.YtlibhfojfonfjaaDoor

/- Fused sums of products, as plain numbers. -/
namespace Go.Proofs.YtlibhfojfonfjaaDoor
set_option linter.unusedVariables false

/-- a summand -/
structure Pt where
  nan : Bool
  sig : Bool
  inv : Bool
  inf : Bool
  neg : Bool
  d : D

/-- one float -/
def singleP (F : Fm) (a : Nat) : Pt := ⟨F.isNan a, F.isSig a, false, F.isInf a, F.neg a, if F.isNan a || F.isInf a then D.zero else valD F a⟩

/-- a product of two parts -/
def timesP (x y : Pt) : Pt :=
  if x.nan || y.nan then ⟨true, x.sig || y.sig, false, false, x.neg != y.neg, D.zero⟩
  else ⟨false, x.sig || y.sig, (x.inf && !y.inf && decide (y.d.n = 0)) || (y.inf && !x.inf && decide (x.d.n = 0)), x.inf || y.inf, x.neg != y.neg,
    if x.inf || y.inf then D.zero else (mulD (nd 64 x.d.n) x.d (nd 64 y.d.n) y.d).1⟩

def sumP (x y : Pt) : D := (addD (nd 64 x.d.n) x.d (nd 64 y.d.n) y.d).1

/-- the sum of two parts: bits and flags -/
def fuseS (F : Fm) (m : Nat) (x y : Pt) : Nat × Nat :=
  if x.sig || y.sig || x.inv || y.inv then (F.nan, 1)
  else if x.nan || y.nan then (F.nan, 0)
  else if x.inf && y.inf && (x.neg != y.neg) then (F.nan, 1)
  else if x.inf then (F.inf + F.sg x.neg, 0)
  else if y.inf then (F.inf + F.sg y.neg, 0)
  else if (sumP x y).n = 0 then (F.sg (if decide (x.d.n = 0) && decide (y.d.n = 0) && (x.neg == y.neg) then x.neg else m == 4), 0)
  else intoS F m (sumP x y).s (sumP x y).n (sumP x y).e false

/-- a small canonical number -/
structure Sm (d : D) : Prop where
  can : d.can
  lo : -5000 ≤ d.e
  hi : d.e ≤ 5000
  lt : d.n < 2 ^ 128

theorem Sm.zero : Sm D.zero := ⟨Or.inl rfl, by decide, by decide, by decide⟩

theorem Sm.sz {d : D} (h : Sm d) : nd 64 d.n ≤ 2 := small_nd h.lt

theorem Sm.ref {d : D} (h : Sm d) : refD (nd 64 d.n) d.e = 0 := by
  have h1 := h.sz
  have h2 := h.lo
  have h3 := h.hi
  unfold refD
  rw [if_neg (by omega), if_neg (by omega)]

theorem i_natAbs (d : D) (L : Int) : (d.i L).natAbs = d.n * 2 ^ (d.e - L).toNat := by
  unfold D.i
  rw [Int.natAbs_mul, Int.natAbs_pow]
  cases d.s <;> simp

/-- a number less than 2^K in units of 2^L is not too great -/
theorem size_of {d : D} {L : Int} {K : Nat} (hL : L ≤ d.e) (h : (d.i L).natAbs < 2 ^ K) : d.n < 2 ^ K ∧ (d.n ≠ 0 → d.e < L + K) := by
  rw [i_natAbs] at h
  have h1 : d.n ≤ d.n * 2 ^ (d.e - L).toNat := Nat.le_mul_of_pos_right _ (pow_pos2 _)
  refine ⟨Nat.lt_of_le_of_lt h1 h, fun h0 => ?_⟩
  have h2 : 2 ^ (d.e - L).toNat ≤ d.n * 2 ^ (d.e - L).toNat := Nat.le_mul_of_pos_left _ (Nat.pos_of_ne_zero h0)
  have h3 := (Nat.pow_lt_pow_iff_right (show 1 < 2 by decide)).1 (Nat.lt_of_le_of_lt h2 h)
  omega

/-- what may be handed on: a canonical number within the limits -/
structure Cn (d : D) : Prop where
  can : d.can
  sz : nd 64 d.n ≤ 1024
  lo : -40000 ≤ d.e
  hi : d.e ≤ 40000
  own : canonD (nd 64 d.n) d = (d, 0)
  ref : refD (nd 64 d.n) d.e = 0

theorem Cn.of {d : D} (h1 : d.can) (h2 : nd 64 d.n ≤ 1024) (h3 : -40000 ≤ d.e) (h4 : d.e ≤ 40000) : Cn d := by
  have hr : refD (nd 64 d.n) d.e = 0 := by unfold refD; rw [if_neg (by omega), if_neg (by omega)]
  exact ⟨h1, h2, h3, h4, by unfold canonD; rw [if_pos hr]; exact ansD_can h1 h2 h3 h4, hr⟩

theorem sum_small_any {a b : D} (ha : Sm a) (hb : Sm b) (K : Nat) (hK : K = 10129) (L : Int) (hL : L = -5000) : (a.i L + b.i L).natAbs < 2 ^ K := by
  have h1 : ∀ d : D, Sm d → (d.i L).natAbs < 2 ^ (K - 1) := by
    intro d hd
    rw [i_natAbs]
    have e1 : d.n * 2 ^ (d.e - L).toNat ≤ d.n * 2 ^ (K - 129) := Nat.mul_le_mul_left _ (Nat.pow_le_pow_right (by decide) (by have := hd.hi; omega))
    have e2 : d.n * 2 ^ (K - 129) < 2 ^ 128 * 2 ^ (K - 129) := Nat.mul_lt_mul_of_pos_right hd.lt (pow_pos2 _)
    rw [← Nat.pow_add, show 128 + (K - 129) = K - 1 by omega] at e2
    omega
  have h2 := h1 a ha
  have h3 := h1 b hb
  have h4 := Int.natAbs_add_le (a.i L) (b.i L)
  have h5 := pow_split K (by omega)
  omega

theorem addD_sm {a b : D} (ha : Sm a) (hb : Sm b) : ∃ s, addD (nd 64 a.n) a (nd 64 b.n) b = (s, 0) ∧ Cn s ∧ -5000 ≤ s.e ∧ s.i (-5000) = a.i (-5000) + b.i (-5000) := by
  have hca := can_odd a ha.can
  have hcb := can_odd b hb.can
  have hs : addD (nd 64 a.n) a (nd 64 b.n) b = ansD (sumD a b) := by
    unfold addD
    rw [if_pos (by unfold twoD; rw [if_pos ha.ref]; exact hb.ref), hca, hcb]
  have hcan := sumD_can ha.can hb.can
  have hlow := sumD_low a b (-5000) ha.lo hb.lo (by decide)
  have hi := i_sum a b (-5000) ha.lo hb.lo
  obtain ⟨K, hK⟩ : ∃ K, K = 10129 := ⟨_, rfl⟩
  have hsz := sum_small_any ha hb K hK (-5000) rfl
  rw [← hi] at hsz
  obtain ⟨z1, z2⟩ := size_of hlow hsz
  obtain ⟨M, hM⟩ : ∃ M, M = 159 := ⟨_, rfl⟩
  have hnd : nd 64 (sumD a b).n ≤ M := nd_le 64 _ M (by decide) (Nat.lt_of_lt_of_le z1 (Nat.pow_le_pow_right (by decide) (by omega)))
  have hei : (sumD a b).e ≤ 40000 := by
    by_cases h0 : (sumD a b).n = 0
    · rcases hcan with h | h
      · rw [h]; decide
      · rw [h0] at h; cases h
    · have := z2 h0; omega
  exact ⟨sumD a b, by rw [hs, ansD_can hcan (by omega) (by omega) hei], Cn.of hcan (by omega) (by omega) hei, hlow, hi⟩

section
variable {F : Fm}

theorem valD_sm (ok : F.Ok) {a : Nat} (h : F.abs a < F.inf) : Sm (valD F a) := by
  have h1 := low_ge ok
  have h2 := ex_range ok h
  have h3 := mag_lt ok a
  have hle : (valD F a).n ≤ F.mag a := odd_le _
  refine ⟨oddD_can _, ?_, ?_, by omega⟩
  · exact oddD_low _ (-5000) (by show -5000 ≤ F.ex a; omega) (by decide)
  · unfold valD oddD
    simp only
    split
    · decide
    · rename_i h4
      have := tz_tzN (n := F.mag a) (by omega) h4
      show F.ex a + (tzN (F.mag a) : Int) ≤ 5000
      omega

theorem single_sm (ok : F.Ok) (a : Nat) : Sm (singleP F a).d := by
  unfold singleP
  simp only
  split
  · exact Sm.zero
  · rename_i h
    simp only [Bool.or_eq_true, not_or, Bool.not_eq_true] at h
    exact valD_sm ok (fin_of h.1 h.2)

theorem i_of_val (ok : F.Ok) {a : Nat} (h : F.abs a < F.inf) (L : Int) (hL : L ≤ -5000) : (valD F a).i L = F.val L a := by
  have h1 := low_ge ok
  have h2 := ex_range ok h
  rw [val_i]
  exact i_odd _ L (by show L ≤ F.ex a; omega)

/-- the exact product of two values -/
theorem prod_eq (ok : F.Ok) {a b : Nat} (fa : F.abs a < F.inf) (fb : F.abs b < F.inf) :
    mulD (nd 64 (valD F a).n) (valD F a) (nd 64 (valD F b).n) (valD F b) = (oddD ⟨F.neg a != F.neg b, F.mag a * F.mag b, F.ex a + F.ex b⟩, 0) := by
  obtain ⟨x, hx, hr, hi⟩ := prod_val ok fa fb
  obtain ⟨r1, l1, v1, _⟩ := valD_facts ok fa
  obtain ⟨r2, l2, v2, _⟩ := valD_facts ok fb
  have h1 := low_ge ok
  have ha := ex_range ok fa
  have hb := ex_range ok fb
  have hok := mul_ok (a := valD F a) (b := valD F b) (-40000) (by decide) l1 l2 (by rw [hx])
  rw [hx] at hok
  have hok : OkD x _ _ := hok
  rw [hx]
  have hlow : -80000 ≤ (oddD ⟨F.neg a != F.neg b, F.mag a * F.mag b, F.ex a + F.ex b⟩).e := oddD_low _ (-80000) (by show -80000 ≤ F.ex a + F.ex b; omega) (by decide)
  have := can_inj (L := -80000) hok.can (oddD_can ⟨F.neg a != F.neg b, F.mag a * F.mag b, F.ex a + F.ex b⟩) (by have := hok.low; omega) hlow
    (by rw [hi, i_odd _ _ (by show -80000 ≤ F.ex a + F.ex b; omega), sI_i])
  rw [this]

theorem prod_sm (ok : F.Ok) {a b : Nat} (fa : F.abs a < F.inf) (fb : F.abs b < F.inf) : Sm (oddD ⟨F.neg a != F.neg b, F.mag a * F.mag b, F.ex a + F.ex b⟩) := by
  have h1 := low_ge ok
  have ha := ex_range ok fa
  have hb := ex_range ok fb
  have hma := mag_lt ok a
  have hmb := mag_lt ok b
  have hn : F.mag a * F.mag b < 2 ^ 106 := Nat.lt_of_lt_of_le (Nat.mul_lt_mul'' hma hmb) (by decide)
  have hle : (oddD ⟨F.neg a != F.neg b, F.mag a * F.mag b, F.ex a + F.ex b⟩).n ≤ F.mag a * F.mag b := odd_le _
  refine ⟨oddD_can _, oddD_low _ (-5000) (by show -5000 ≤ F.ex a + F.ex b; omega) (by decide), ?_, by omega⟩
  unfold oddD
  simp only
  split
  · decide
  · rename_i h4
    have h5 := tzN_spec (F.mag a * F.mag b) h4
    have : tzN (F.mag a * F.mag b) < 128 := by
      rcases Nat.lt_or_ge (tzN (F.mag a * F.mag b)) 128 with h | h
      · exact h
      · exfalso
        obtain ⟨q, hq⟩ := h5
        have := Nat.pow_le_pow_right (show 0 < 2 by decide) h
        have h8 : 2 ^ tzN (F.mag a * F.mag b) ≤ F.mag a * F.mag b := by
          conv => rhs; rw [hq]
          exact Nat.le_mul_of_pos_right _ (by omega)
        omega
    show F.ex a + F.ex b + (tzN (F.mag a * F.mag b) : Int) ≤ 5000
    omega

theorem prod_i (ok : F.Ok) {a b : Nat} (fa : F.abs a < F.inf) (fb : F.abs b < F.inf) : (oddD ⟨F.neg a != F.neg b, F.mag a * F.mag b, F.ex a + F.ex b⟩).i (-5000) = F.val (-2500) a * F.val (-2500) b := by
  have h1 := low_ge ok
  have ha := ex_range ok fa
  have hb := ex_range ok fb
  rw [i_odd _ _ (by show -5000 ≤ F.ex a + F.ex b; omega), val_i, val_i, show (-5000 : Int) = -2500 + -2500 by decide, i_mul _ _ _ _ _ _ _ (by omega) (by omega)]

/-- a part that comes of floats -/
structure Ps (x : Pt) : Prop where
  sm : Sm x.d
  sig : x.sig = true → x.nan = true

theorem single_ps (ok : F.Ok) (a : Nat) : Ps (singleP F a) := ⟨single_sm ok a, fun h => by
  unfold singleP at h ⊢
  simp only at h ⊢
  unfold Fm.isSig at h
  simp only [Bool.and_eq_true] at h
  exact h.1⟩

theorem times_d (ok : F.Ok) (a b : Nat) (h1 : F.isNan a = false) (h2 : F.isInf a = false) (h3 : F.isNan b = false) (h4 : F.isInf b = false) :
    mulD (nd 64 (singleP F a).d.n) (singleP F a).d (nd 64 (singleP F b).d.n) (singleP F b).d = ((timesP (singleP F a) (singleP F b)).d, 0) := by
  have hm := prod_eq ok (fin_of h1 h2) (fin_of h3 h4)
  unfold timesP singleP
  simp only [h1, h2, h3, h4, Bool.or_self, Bool.false_eq_true, if_false]
  rw [hm]

theorem times_ps (ok : F.Ok) (a b : Nat) : Ps (timesP (singleP F a) (singleP F b)) := by
  have key : Sm (timesP (singleP F a) (singleP F b)).d := by
    cases h1 : F.isNan a
    · cases h3 : F.isNan b
      · cases h2 : F.isInf a
        · cases h4 : F.isInf b
          · have := times_d ok a b h1 h2 h3 h4
            have hm := prod_eq ok (fin_of h1 h2) (fin_of h3 h4)
            have hs := prod_sm ok (fin_of h1 h2) (fin_of h3 h4)
            unfold timesP singleP
            simp only [h1, h2, h3, h4, Bool.or_self, Bool.false_eq_true, if_false]
            rw [hm]
            exact hs
          · unfold timesP singleP; simp [h1, h2, h3, h4]; exact Sm.zero
        · unfold timesP singleP; simp [h1, h2, h3]; exact Sm.zero
      · unfold timesP singleP; simp [h1, h3]; exact Sm.zero
    · unfold timesP singleP; simp [h1]; exact Sm.zero
  refine ⟨key, ?_⟩
  unfold timesP singleP
  simp only
  split
  · intro _; rfl
  · rename_i h
    simp only [Bool.or_eq_true, not_or, Bool.not_eq_true] at h
    simp [Fm.isSig, h.1, h.2]

end
end Go.Proofs.YtlibhfojfonfjaaDoor

/- An exact number in a box; the calls of layer 3 on such; Value's errors. -/
namespace Go.Proofs.YtlibhfojfonfjaaDoor
set_option linter.unusedVariables false
open Go.RowKit

/-- an exact number in a box -/
structure VB (g : Nat) (d : D) (A : Option Addr) (c : Nat) (w : World) : Prop where
  bx : Box3 w g (.bool d.s) (.slice A (nd 64 d.n) c) (.int .i64 d.e)
  rd : Rd 64 w (.slice A (nd 64 d.n) c) d.n (nd 64 d.n)

theorem VB.below {g : Nat} {d : D} {A : Option Addr} {c : Nat} {w w' : World} (h : VB g d A c w) (hb : Below w.heap.size w w') : VB g d A c w' := ⟨h.bx.keep hb, h.rd.below hb⟩

theorem VB.new {d : D} {A : Option Addr} {c : Nat} {w : World} (h : Rd 64 w (.slice A (nd 64 d.n) c) d.n (nd 64 d.n)) (t : TypeId) : VB w.heap.size d A c (w.alloc (.cells #[.bool d.s, .slice A (nd 64 d.n) c, .int .i64 d.e] t)) :=
  ⟨Box3.new w _ _ _ t, h.below (below1 w _)⟩

theorem DCmp_vb {u v : D} {A1 A2 : Option Addr} {c1 c2 g1 g2 : Nat} {o : Int} {w : World} (h1 : VB g1 u A1 c1 w) (h2 : VB g2 v A2 c2 w) (hG : Gl w) (hm : cmpD (nd 64 u.n) u (nd 64 v.n) v = (o, 0)) :
    Calls Tryd.prog 34 #[.agg #[.bool u.s, .slice A1 (nd 64 u.n) c1, .int .i64 u.e], .agg #[.bool v.s, .slice A2 (nd 64 v.n) c2, .int .i64 v.e]] w fun e w' =>
      e = .returned (.tuple #[.int .i64 o, .int .i64 0]) ∧ Below w.heap.size w w' := by
  refine (DCmp_any u.s v.s A1 A2 u.n (nd 64 u.n) c1 v.n (nd 64 v.n) c2 u.e v.e w h1.rd h2.rd hG).mono ?_
  rintro e w' ⟨rfl, hb⟩
  rw [show cmpD (nd 64 u.n) ⟨u.s, u.n, u.e⟩ (nd 64 v.n) ⟨v.s, v.n, v.e⟩ = (o, 0) from hm]
  exact ⟨rfl, hb⟩

theorem Value_vb (f : Int) (a : Nat) (d : D) (z : Int) (ha : a < 18446744073709551616) (hd : d = valA f a) (hz : z = valE f a) (w : World) (hG : GlR w) (hT : Gl w) :
    Calls Tryd.prog 15 #[.int .i64 f, .int .u64 a] w fun e w' => ∃ A c, e = .returned (.tuple #[.agg #[.bool d.s, .slice A (nd 64 d.n) c, .int .i64 d.e], .int .i64 z]) ∧ Rd 64 w' (.slice A (nd 64 d.n) c) d.n (nd 64 d.n) ∧ Below w.heap.size w w' := by
  subst hd hz
  refine (Value_any f a w ha hG hT).mono ?_
  rintro e w' ⟨x, rfl, ⟨A, c, rfl, _, _, h, _⟩, hb⟩
  exact ⟨A, c, rfl, h, hb⟩

theorem flag16 {g : Nat} (h : g = 0 ∨ g = 16 ∨ g = 20 ∨ g = 24) : (bits .and .i64 (g : Int) 16 == 0) = decide (g &&& 16 = 0) ∧ (bits .and .i64 (g : Int) 4 == 0) = decide (g &&& 4 = 0) := by
  rcases h with rfl | rfl | rfl | rfl <;> exact ⟨by decide +kernel, by decide +kernel⟩

theorem valE_fin {n A : Nat} (hn : n < 4) (hl : A < 2 ^ (fm n).w) (hf : (fm n).abs A < (fm n).inf) : valE (n : Int) A = 0 := by
  unfold valE
  rw [chkS_of hn hl, if_neg (by decide), Int.toNat_natCast, if_pos hf]

theorem valE_inf {n A : Nat} (hn : n < 4) (hl : A < 2 ^ (fm n).w) (hf : ¬ (fm n).abs A < (fm n).inf) : valE (n : Int) A = 40 := by
  unfold valE
  rw [chkS_of hn hl, if_neg (by decide), Int.toNat_natCast, if_neg hf]

theorem valA_fin {n A : Nat} (hn : n < 4) (hl : A < 2 ^ (fm n).w) (hf : (fm n).abs A < (fm n).inf) : valA (n : Int) A = valD (fm n) A := by
  unfold valA
  rw [valE_fin hn hl hf, if_pos rfl, Int.toNat_natCast]

end Go.Proofs.YtlibhfojfonfjaaDoor

/- The walk of round.Exact, of a canonical number. -/
namespace Go.Proofs.YtlibhfojfonfjaaDoor
set_option linter.unusedVariables false
open Go.RowKit

end Go.Proofs.YtlibhfojfonfjaaDoor

/- The walk of fused.single: one float taken apart. -/
namespace Go.Proofs.YtlibhfojfonfjaaDoor
set_option linter.unusedVariables false
open Go.RowKit

def pv (q : Pt) (A : Option Addr) (c : Nat) : Array Value := #[.bool q.nan, .bool q.sig, .bool q.inv, .bool q.inf, .bool q.neg, .bool q.d.s, .slice A (nd 64 q.d.n) c, .int .i64 q.d.e]

def pv0 : Array Value := #[.bool false, .bool false, .bool false, .bool false, .bool false, .bool false, .slice none 0 0, .int .i64 0]

theorem Bx.set8 {w : World} {g : Nat} {a0 a1 a2 a3 a4 a5 a6 a7 : Value} (h : Bx w g #[a0, a1, a2, a3, a4, a5, a6, a7]) (x0 x1 x2 x3 x4 x5 x6 x7 : Value) :
    Bx ((((((((w.setCell ⟨g, 0, none⟩ x0).setCell ⟨g, 1, none⟩ x1).setCell ⟨g, 2, none⟩ x2).setCell ⟨g, 3, none⟩ x3).setCell ⟨g, 4, none⟩ x4).setCell ⟨g, 5, none⟩ x5).setCell ⟨g, 6, none⟩ x6).setCell ⟨g, 7, none⟩ x7) g #[x0, x1, x2, x3, x4, x5, x6, x7] := by
  obtain ⟨t, h⟩ := h
  refine ⟨t, ?_⟩
  simp [World.setCell, Array.getElem?_modify, h]

theorem Bx.set3 {w : World} {g : Nat} {a0 a1 a2 a3 a4 a5 a6 a7 : Value} (h : Bx w g #[a0, a1, a2, a3, a4, a5, a6, a7]) (x5 x6 x7 : Value) :
    Bx (((w.setCell ⟨g, 5, none⟩ x5).setCell ⟨g, 6, none⟩ x6).setCell ⟨g, 7, none⟩ x7) g #[a0, a1, a2, a3, a4, x5, x6, x7] := by
  obtain ⟨t, h⟩ := h
  refine ⟨t, ?_⟩
  simp [World.setCell, Array.getElem?_modify, h]

theorem Bx.put3 {w : World} {g : Nat} {a0 a1 a2 a3 a4 a5 a6 a7 : Value} (h : Bx w g #[a0, a1, a2, a3, a4, a5, a6, a7]) (x : Value) : Bx (w.setCell ⟨g, 3, none⟩ x) g #[a0, a1, a2, x, a4, a5, a6, a7] := by
  obtain ⟨t, h⟩ := h
  refine ⟨t, ?_⟩
  simp [World.setCell, Array.getElem?_modify, h]

theorem Bx.put2 {w : World} {g : Nat} {a0 a1 a2 a3 a4 a5 a6 a7 : Value} (h : Bx w g #[a0, a1, a2, a3, a4, a5, a6, a7]) (x : Value) : Bx (w.setCell ⟨g, 2, none⟩ x) g #[a0, a1, x, a3, a4, a5, a6, a7] := by
  obtain ⟨t, h⟩ := h
  refine ⟨t, ?_⟩
  simp [World.setCell, Array.getElem?_modify, h]

theorem Bx.other {w : World} {g : Nat} {arr : Array Value} (h : Bx w g arr) {p : Addr} (hp : p.block ≠ g) (u : Value) : Bx (w.setCell p u) g arr := by
  obtain ⟨t, h⟩ := h
  refine ⟨t, ?_⟩
  unfold World.setCell
  simp only [Array.getElem?_modify]
  rw [if_neg hp]
  exact h

theorem Bx.eight {w : World} {g : Nat} {a0 a1 a2 a3 a4 a5 a6 a7 : Value} (h : Bx w g #[a0, a1, a2, a3, a4, a5, a6, a7]) :
    w.cell? ⟨g, 0, none⟩ = some a0 ∧ w.cell? ⟨g, 1, none⟩ = some a1 ∧ w.cell? ⟨g, 2, none⟩ = some a2 ∧ w.cell? ⟨g, 3, none⟩ = some a3 ∧ w.cell? ⟨g, 4, none⟩ = some a4 ∧ w.cell? ⟨g, 5, none⟩ = some a5 ∧ w.cell? ⟨g, 6, none⟩ = some a6 ∧ w.cell? ⟨g, 7, none⟩ = some a7 :=
  ⟨h.cell 0 rfl, h.cell 1 rfl, h.cell 2 rfl, h.cell 3 rfl, h.cell 4 rfl, h.cell 5 rfl, h.cell 6 rfl, h.cell 7 rfl⟩

theorem rf_set {B : Nat} {w : World} {v : Value} {N n : Nat} (h : Rd 64 w v N n ∧ Fr B w v) {p : Addr} (hp : p.block < B) (u : Value) : Rd 64 (w.setCell p u) v N n ∧ Fr B (w.setCell p u) v := ⟨h.1.setCell_fr h.2 hp u, h.2.setCell hp u⟩

theorem below_set8 {w w1 : World} {g : Nat} (h : Below w.heap.size w w1) (hg : w.heap.size ≤ g) (x0 x1 x2 x3 x4 x5 x6 x7 : Value) :
    Below w.heap.size w ((((((((w1.setCell ⟨g, 0, none⟩ x0).setCell ⟨g, 1, none⟩ x1).setCell ⟨g, 2, none⟩ x2).setCell ⟨g, 3, none⟩ x3).setCell ⟨g, 4, none⟩ x4).setCell ⟨g, 5, none⟩ x5).setCell ⟨g, 6, none⟩ x6).setCell ⟨g, 7, none⟩ x7) :=
  (((((((h.setCell (p := ⟨g, 0, none⟩) hg x0).setCell (p := ⟨g, 1, none⟩) hg x1).setCell (p := ⟨g, 2, none⟩) hg x2).setCell (p := ⟨g, 3, none⟩) hg x3).setCell (p := ⟨g, 4, none⟩) hg x4).setCell (p := ⟨g, 5, none⟩) hg x5).setCell (p := ⟨g, 6, none⟩) hg x6).setCell (p := ⟨g, 7, none⟩) hg x7

end Go.Proofs.YtlibhfojfonfjaaDoor

/- The walk of fused.product. -/
namespace Go.Proofs.YtlibhfojfonfjaaDoor
set_option linter.unusedVariables false
open Go.RowKit

end Go.Proofs.YtlibhfojfonfjaaDoor

/- The walk of fused.fuse. Printed by gen/fusd.py. -/
namespace Go.Proofs.YtlibhfojfonfjaaDoor
set_option linter.unusedVariables false
open Go.RowKit

end Go.Proofs.YtlibhfojfonfjaaDoor

/- The walks of fused's calls, of what is in range. -/
namespace Go.Proofs.YtlibhfojfonfjaaDoor
set_option linter.unusedVariables false
open Go.RowKit

/-- a * b + c and a * b + c * d, rounded once: bits and flags -/
def fmaS (F : Fm) (m a b c : Nat) : Nat × Nat := fuseS F m (timesP (singleP F a) (singleP F b)) (singleP F c)
def dot2S (F : Fm) (m a b c d : Nat) : Nat × Nat := fuseS F m (timesP (singleP F a) (singleP F b)) (timesP (singleP F c) (singleP F d))

end Go.Proofs.YtlibhfojfonfjaaDoor

/- The walks of vernierlaw09's small functions. -/
namespace Go.Proofs.YtlibhfojfonfjaaDoor
set_option linter.unusedVariables false
open Go.RowKit

theorem awake_one : fmaS (fm 2) 0 1065353217 1065353217 3212836866 = (679477248, 0) := by decide +kernel
theorem awake_two : dot2S (fm 2) 4 1065353216 1065353216 3212836864 1065353216 = (2147483648, 0) := by decide +kernel

theorem rparams_ok (f : Nat) (w : World) (hf : f < 4) : Calls Tryd.prog 70 #[.int .i64 f] w fun e w' => e = .returned (.tuple #[.int .i64 (fm f).w, .int .i64 (fm f).p, .int .i64 (fm f).emin]) ∧ w = w' := by
  have h4 : f = 0 ∨ f = 1 ∨ f = 2 ∨ f = 3 := by omega
  rcases h4 with rfl | rfl | rfl | rfl
  all_goals
    go_enter Tryd.func70, Tryd.ntmps70
    go_wp2
  · refine bodyPost_ret (v := .tuple #[.int .i64 16, .int .i64 11, .int .i64 (-14)]) (by simp [results, Tryd.results70, go_sem]) rfl ⟨rfl, rfl⟩
  · refine bodyPost_ret (v := .tuple #[.int .i64 16, .int .i64 8, .int .i64 (-126)]) (by simp [results, Tryd.results70, go_sem]) rfl ⟨rfl, rfl⟩
  · refine bodyPost_ret (v := .tuple #[.int .i64 32, .int .i64 24, .int .i64 (-126)]) (by simp [results, Tryd.results70, go_sem]) rfl ⟨rfl, rfl⟩
  · refine bodyPost_ret (v := .tuple #[.int .i64 64, .int .i64 53, .int .i64 (-1022)]) (by simp [results, Tryd.results70, go_sem]) rfl ⟨rfl, rfl⟩

theorem tmod_key (n : Int) (k : Nat) (hk : k = 4 ∨ k = 6) : (wrap64 (n.tmod k + k)).tmod k = n % (k : Int) := by
  have h1 : n.tmod k = if 0 ≤ n then n % (k : Int) else -((-n) % (k : Int)) := by
    split
    · rename_i h; exact Int.tmod_eq_emod_of_nonneg h
    · rename_i h
      have e : n = -(-n) := by omega
      rw [e, Int.neg_tmod, Int.tmod_eq_emod_of_nonneg (by omega)]
      simp
  have h2 : 0 < n.tmod k + k ∧ n.tmod k + k < 12 := by
    rw [h1]
    rcases hk with rfl | rfl <;> split <;> omega
  have h3 : wrap64 (n.tmod k + k) = n.tmod k + k := by
    unfold wrap64
    omega
  rw [h3, Int.tmod_eq_emod_of_nonneg (by omega), h1]
  rcases hk with rfl | rfl <;> split <;> omega


end Go.Proofs.YtlibhfojfonfjaaDoor

/- The walk of (Four).right: what is brought into range. -/
namespace Go.Proofs.YtlibhfojfonfjaaDoor
set_option linter.unusedVariables false
open Go.RowKit

def fourA (f m : Int) (a b c d : Nat) : Array Value := #[.int .i64 f, .int .i64 m, .int .u64 a, .int .u64 b, .int .u64 c, .int .u64 d]

theorem Bx.put {w : World} {g : Nat} {arr : Array Value} (h : Bx w g arr) (i : Nat) (v : Value) (arr' : Array Value) (e : arr.setIfInBounds i v = arr') : Bx (w.setCell ⟨g, i, none⟩ v) g arr' := by
  obtain ⟨t, h⟩ := h
  refine ⟨t, ?_⟩
  subst e
  simp [World.setCell, Array.getElem?_modify, h]

theorem Bx.six {w : World} {g : Nat} {a0 a1 a2 a3 a4 a5 : Value} (h : Bx w g #[a0, a1, a2, a3, a4, a5]) :
    w.cell? ⟨g, 0, none⟩ = some a0 ∧ w.cell? ⟨g, 1, none⟩ = some a1 ∧ w.cell? ⟨g, 2, none⟩ = some a2 ∧ w.cell? ⟨g, 3, none⟩ = some a3 ∧ w.cell? ⟨g, 4, none⟩ = some a4 ∧ w.cell? ⟨g, 5, none⟩ = some a5 :=
  ⟨h.cell 0 rfl, h.cell 1 rfl, h.cell 2 rfl, h.cell 3 rfl, h.cell 4 rfl, h.cell 5 rfl⟩

theorem Bx.set6 {w : World} {g : Nat} {a0 a1 a2 a3 a4 a5 : Value} (h : Bx w g #[a0, a1, a2, a3, a4, a5]) (x0 x1 x2 x3 x4 x5 : Value) :
    Bx ((((((w.setCell ⟨g, 0, none⟩ x0).setCell ⟨g, 1, none⟩ x1).setCell ⟨g, 2, none⟩ x2).setCell ⟨g, 3, none⟩ x3).setCell ⟨g, 4, none⟩ x4).setCell ⟨g, 5, none⟩ x5) g #[x0, x1, x2, x3, x4, x5] := by
  obtain ⟨t, h⟩ := h
  refine ⟨t, ?_⟩
  simp [World.setCell, Array.getElem?_modify, h]

theorem below_set6 {w w1 : World} {g : Nat} (h : Below w.heap.size w w1) (hg : w.heap.size ≤ g) (x0 x1 x2 x3 x4 x5 : Value) :
    Below w.heap.size w ((((((w1.setCell ⟨g, 0, none⟩ x0).setCell ⟨g, 1, none⟩ x1).setCell ⟨g, 2, none⟩ x2).setCell ⟨g, 3, none⟩ x3).setCell ⟨g, 4, none⟩ x4).setCell ⟨g, 5, none⟩ x5) :=
  (((((h.setCell (p := ⟨g, 0, none⟩) hg x0).setCell (p := ⟨g, 1, none⟩) hg x1).setCell (p := ⟨g, 2, none⟩) hg x2).setCell (p := ⟨g, 3, none⟩) hg x3).setCell (p := ⟨g, 4, none⟩) hg x4).setCell (p := ⟨g, 5, none⟩) hg x5

theorem wrap_u64_mod (a : Nat) : IntKind.u64.wrap (a : Int) = ((a % 18446744073709551616 : Nat) : Int) := by
  unfold IntKind.wrap
  simp [IntKind.bits, IntKind.signed]

theorem shl_shr_16 (a : Nat) : IntKind.u64.wrap ((a : Int) * 281474976710656) / 281474976710656 = ((a % 65536 : Nat) : Int) := by
  have e : (a : Int) * 281474976710656 = ((a * 281474976710656 : Nat) : Int) := by simp
  rw [e, wrap_u64_mod]
  omega

theorem shl_shr_32 (a : Nat) : IntKind.u64.wrap ((a : Int) * 4294967296) / 4294967296 = ((a % 4294967296 : Nat) : Int) := by
  have e : (a : Int) * 4294967296 = ((a * 4294967296 : Nat) : Int) := by simp
  rw [e, wrap_u64_mod]
  omega


end Go.Proofs.YtlibhfojfonfjaaDoor

/- The walks of vernierlaw09.fma, dot2, value. -/
namespace Go.Proofs.YtlibhfojfonfjaaDoor
set_option linter.unusedVariables false
open Go.RowKit



theorem Value_vf (f : Int) (a : Nat) (d : D) (z : Int) (ha : a < 18446744073709551616) (hd : d = valA f a) (hz : z = valE f a) (w : World) (hG : GlR w) (hT : Gl w) :
    Calls Tryd.prog 15 #[.int .i64 f, .int .u64 a] w fun e w' => ∃ A c, e = .returned (.tuple #[.agg #[.bool d.s, .slice A (nd 64 d.n) c, .int .i64 d.e], .int .i64 z]) ∧ (Rd 64 w' (.slice A (nd 64 d.n) c) d.n (nd 64 d.n) ∧ Fr w.heap.size w' (.slice A (nd 64 d.n) c)) ∧ Below w.heap.size w w' := by
  subst hd hz
  refine (Value_any f a w ha hG hT).mono ?_
  rintro e w' ⟨x, rfl, ⟨A, c, rfl, _, _, h, h'⟩, hb⟩
  exact ⟨A, c, rfl, ⟨h, h'⟩, hb⟩

end Go.Proofs.YtlibhfojfonfjaaDoor

/- The walk of vernierlaw09.rank. -/
namespace Go.Proofs.YtlibhfojfonfjaaDoor
set_option linter.unusedVariables false
open Go.RowKit

/-- the place of a float in the order of numbers -/
def rankS (F : Fm) (a : Nat) : Int := sI (F.neg a) (F.abs a)

theorem wrap_i64_of (x : Int) (h : -9223372036854775808 ≤ x ∧ x ≤ 9223372036854775807) : IntKind.i64.wrap x = x := IntWalk.i64_in _ h

theorem rank_hi {F : Fm} {a T : Nat} (hT : 2 ^ (F.w - 1) = T) (hw : 2 ^ F.w = T * 2) (ha : a < 2 ^ F.w) (h : T ≤ a) : rankS F a = -((a : Int) - T) := by
  unfold rankS sI Fm.neg Fm.abs
  rw [hT, if_pos (by simpa using h), Nat.mod_eq_sub_mod h, Nat.mod_eq_of_lt (by omega)]
  omega

theorem rank_lo {F : Fm} {a T : Nat} (hT : 2 ^ (F.w - 1) = T) (h : ¬ T ≤ a) : rankS F a = a := by
  unfold rankS sI Fm.neg Fm.abs
  rw [hT, if_neg (by simpa using h), Nat.mod_eq_of_lt (by omega)]


end Go.Proofs.YtlibhfojfonfjaaDoor

/- The walks of vernierref06.sign, Nought, Opposite and vernierlaw09.unity. -/
namespace Go.Proofs.YtlibhfojfonfjaaDoor
set_option linter.unusedVariables false
open Go.RowKit

end Go.Proofs.YtlibhfojfonfjaaDoor

/- Fused sums of products by whole numbers of units: what the laws of layer 9 say of them, as plain numbers. -/
namespace Go.Proofs.YtlibhfojfonfjaaDoor
set_option linter.unusedVariables false
set_option linter.unusedSimpArgs false

/-- a summand: its exact value in units of 2^-5000 -/
structure Qt where
  nan : Bool
  sig : Bool
  inv : Bool
  inf : Bool
  neg : Bool
  z : Int

def fuseZ (F : Fm) (m : Nat) (x y : Qt) : Nat × Nat :=
  if x.sig || y.sig || x.inv || y.inv then (F.nan, 1)
  else if x.nan || y.nan then (F.nan, 0)
  else if x.inf && y.inf && (x.neg != y.neg) then (F.nan, 1)
  else if x.inf then (F.inf + F.sg x.neg, 0)
  else if y.inf then (F.inf + F.sg y.neg, 0)
  else if x.z + y.z = 0 then (F.sg (if decide (x.z = 0) && decide (y.z = 0) && (x.neg == y.neg) then x.neg else m == 4), 0)
  else rndZ F m (x.z + y.z) (-5000)

def Pt.q (x : Pt) : Qt := ⟨x.nan, x.sig, x.inv, x.inf, x.neg, x.d.i (-5000)⟩

theorem i_zero_iff {d : D} {L : Int} : d.i L = 0 ↔ d.n = 0 := by
  constructor
  · intro h
    have h2 := i_natAbs d L
    rw [h] at h2
    have := pow_pos2 (d.e - L).toNat
    rcases Nat.eq_zero_or_pos d.n with h3 | h3
    · exact h3
    · have := Nat.mul_pos h3 this
      simp at h2; omega
  · intro h; exact i_of_zero h L

theorem into_rndZ {F : Fm} (m : Nat) (s : D) (L : Int) (h0 : s.n ≠ 0) (hL : L ≤ s.e) : intoS F m s.s s.n s.e false = rndZ F m (s.i L) L := by
  have h1 := i_scale s L s.e hL (Int.le_refl _)
  have h2 : s.i s.e = if s.s then -(s.n : Int) else (s.n : Int) := by unfold D.i; simp
  have h3 : s.i s.e ≠ 0 := fun h => h0 (i_zero_iff.1 h)
  rw [h1, rndZ_scale m _ s.e L h3 hL, h2, rndZ_mk m s.s s.n s.e h0]

theorem fuse_q {F : Fm} (m : Nat) {x y : Pt} (hx : Sm x.d) (hy : Sm y.d) : fuseS F m x y = fuseZ F m x.q y.q := by
  obtain ⟨s, hs, hc, hlo, hi⟩ := addD_sm hx hy
  have e1 : sumP x y = s := by unfold sumP; rw [hs]
  unfold fuseS fuseZ Pt.q
  simp only
  rw [e1, ← hi]
  by_cases h0 : s.n = 0
  · rw [if_pos h0, if_pos (i_zero_iff.2 h0)]
    simp only [i_zero_iff]
  · rw [if_neg h0, if_neg (fun h => h0 (i_zero_iff.1 h)), into_rndZ m s (-5000) h0 hlo]

def oneZ (F : Fm) (a : Nat) : Qt := ⟨F.isNan a, F.isSig a, false, F.isInf a, F.neg a, if F.isNan a || F.isInf a then 0 else F.val (-5000) a⟩
def prodZ (F : Fm) (a b : Nat) : Qt := ⟨F.isNan a || F.isNan b, F.isSig a || F.isSig b, !F.isNan a && !F.isNan b && ((F.isInf a && F.isZero b) || (F.isInf b && F.isZero a)), !F.isNan a && !F.isNan b && (F.isInf a || F.isInf b), F.neg a != F.neg b,
  if F.isNan a || F.isNan b || F.isInf a || F.isInf b then 0 else F.val (-2500) a * F.val (-2500) b⟩

section
variable {F : Fm}

theorem val_zero_iff (ok : F.Ok) {a : Nat} (L : Int) : F.val L a = 0 ↔ F.abs a = 0 := by
  have hp : 1 ≤ F.p := by have := ok.p8; omega
  constructor
  · intro h
    rcases Nat.eq_zero_or_pos (F.abs a) with h2 | h2
    · exact h2
    · exact absurd h (val_neg hp L (by omega)).2.2
  · exact val_zero L

theorem valD_zero_iff (ok : F.Ok) {a : Nat} (h : F.abs a < F.inf) : (valD F a).n = 0 ↔ F.abs a = 0 := by
  rw [← i_zero_iff (L := -5000), i_of_val ok h _ (by decide), val_zero_iff ok]

theorem q_single (ok : F.Ok) (a : Nat) : (singleP F a).q = oneZ F a := by
  unfold Pt.q singleP oneZ
  simp only
  cases h1 : F.isNan a
  · cases h2 : F.isInf a
    · simp only [Bool.or_self, Bool.false_eq_true, if_false]
      rw [i_of_val ok (fin_of h1 h2) _ (by decide)]
    · simp [D.i_zero]
  · simp [D.i_zero]

theorem inf_not_zero (ok : F.Ok) {a : Nat} (h : F.isInf a = true) : F.isZero a = false ∧ F.isNan a = false := by
  have := inf_pos ok
  unfold Fm.isInf at h
  unfold Fm.isZero Fm.isNan
  simp at h ⊢
  omega

theorem q_times (ok : F.Ok) (a b : Nat) : (timesP (singleP F a) (singleP F b)).q = prodZ F a b := by
  have fld : ∀ x, (singleP F x).nan = F.isNan x ∧ (singleP F x).sig = F.isSig x ∧ (singleP F x).inf = F.isInf x ∧ (singleP F x).neg = F.neg x := fun x => ⟨rfl, rfl, rfl, rfl⟩
  cases h1 : F.isNan a
  · cases h3 : F.isNan b
    · have hz : ∀ x, F.isNan x = false → F.isInf x = false → decide ((singleP F x).d.n = 0) = F.isZero x := by
        intro x hx1 hx2
        have e : (singleP F x).d = valD F x := by unfold singleP; simp [hx1, hx2]
        rw [e]
        unfold Fm.isZero
        congr 1
        exact propext (valD_zero_iff ok (fin_of hx1 hx2))
      cases h2 : F.isInf a
      · cases h4 : F.isInf b
        · have hd := times_d ok a b h1 h2 h3 h4
          have hm := prod_eq ok (fin_of h1 h2) (fin_of h3 h4)
          have e0 : ∀ x, F.isNan x = false → F.isInf x = false → (singleP F x).d = valD F x := by intro x hx1 hx2; unfold singleP; simp [hx1, hx2]
          rw [e0 a h1 h2, e0 b h3 h4, hm] at hd
          have hd := (Prod.mk.inj hd).1
          unfold Pt.q
          rw [← hd, prod_i ok (fin_of h1 h2) (fin_of h3 h4)]
          unfold timesP prodZ
          simp [fld, h1, h2, h3, h4]
        · have z2 := inf_not_zero ok h4
          unfold Pt.q timesP prodZ
          simp [fld, h1, h2, h3, h4, hz a h1 h2, D.i_zero]
      · have z2 := inf_not_zero ok h2
        cases h4 : F.isInf b
        · unfold Pt.q timesP prodZ
          simp [fld, h1, h2, h3, h4, hz b h3 h4, D.i_zero, z2]
        · have z4 := inf_not_zero ok h4
          unfold Pt.q timesP prodZ
          simp [fld, h1, h2, h3, h4, D.i_zero, z2, z4]
    · unfold Pt.q timesP prodZ
      simp [fld, h1, h3, D.i_zero]
  · unfold Pt.q timesP prodZ
    simp [fld, h1, D.i_zero]

theorem fma_z (ok : F.Ok) (m a b c : Nat) : fuseS F m (timesP (singleP F a) (singleP F b)) (singleP F c) = fuseZ F m (prodZ F a b) (oneZ F c) := by
  rw [fuse_q m (times_ps ok a b).sm (single_ps ok c).sm, q_times ok, q_single ok]
theorem dot_z (ok : F.Ok) (m a b c d : Nat) : fuseS F m (timesP (singleP F a) (singleP F b)) (timesP (singleP F c) (singleP F d)) = fuseZ F m (prodZ F a b) (prodZ F c d) := by
  rw [fuse_q m (times_ps ok a b).sm (times_ps ok c d).sm, q_times ok, q_times ok]

theorem prodZ_comm (a b : Nat) : prodZ F a b = prodZ F b a := by
  unfold prodZ
  rw [Int.mul_comm (F.val (-2500) a)]
  cases F.isNan a <;> cases F.isNan b <;> cases F.isInf a <;> cases F.isInf b <;> cases F.isZero a <;> cases F.isZero b <;> cases F.isSig a <;> cases F.isSig b <;> cases F.neg a <;> cases F.neg b <;> rfl

theorem fuseZ_comm (m : Nat) (x y : Qt) : fuseZ F m x y = fuseZ F m y x := by
  obtain ⟨n1, s1, v1, i1, g1, z1⟩ := x
  obtain ⟨n2, s2, v2, i2, g2, z2⟩ := y
  unfold fuseZ
  simp only
  rw [Int.add_comm z1 z2]
  cases s1 <;> cases s2 <;> cases v1 <;> cases v2 <;> simp only [Bool.or_self, Bool.or_true, Bool.true_or, Bool.or_false, Bool.false_or, if_true, if_false, Bool.false_eq_true]
  cases n1 <;> cases n2 <;> simp only [Bool.or_self, Bool.or_true, Bool.true_or, Bool.or_false, Bool.false_or, if_true, if_false, Bool.false_eq_true]
  rw [Bool.and_comm (decide (z2 = 0)) (decide (z1 = 0))]
  generalize (decide (z1 = 0) && decide (z2 = 0)) = zz
  cases i1 <;> cases i2 <;> cases g1 <;> cases g2 <;> cases zz <;> rfl

/-- the opposite -/
def Qt.opp (x : Qt) : Qt := { x with neg := !x.neg, z := -x.z }

theorem opp_opp (x : Qt) : x.opp.opp = x := by
  obtain ⟨n1, s1, v1, i1, g1, z1⟩ := x
  unfold Qt.opp
  simp

theorem val_flip (L : Int) (a : Nat) : F.val L (F.flip a) = -F.val L a := by
  unfold Fm.val
  rw [abs_flip, neg_flip]
  cases F.neg a <;> simp

theorem flip_flip (ok : F.Ok) {a : Nat} (h : a < 2 ^ F.w) : F.flip (F.flip a) = a := by
  conv => lhs; rw [Fm.flip]
  rw [abs_flip, neg_flip, Bool.not_not]
  exact (parts_mk ok h).symm

theorem oneZ_flip (a : Nat) : oneZ F (F.flip a) = (oneZ F a).opp := by
  unfold oneZ Qt.opp
  simp only [isNan_flip, isSig_flip, isInf_flip, neg_flip, val_flip]
  split <;> simp

theorem prodZ_flip (a b : Nat) : prodZ F (F.flip a) b = (prodZ F a b).opp := by
  unfold prodZ Qt.opp
  simp only [isNan_flip, isSig_flip, isInf_flip, isZero_flip, neg_flip, val_flip, Int.neg_mul]
  congr 1
  · cases F.neg a <;> cases F.neg b <;> rfl
  · split <;> simp

theorem prodZ_flip2 (a b : Nat) : prodZ F a (F.flip b) = (prodZ F a b).opp := by
  rw [prodZ_comm, prodZ_flip, prodZ_comm]

theorem rndZ_mir (ok : F.Ok) (m : Nat) (z L : Int) (h : z ≠ 0) : rndZ F (mir m) (-z) L = (F.flip (rndZ F m z L).1, (rndZ F m z L).2) := by
  unfold rndZ
  rw [← into_mir ok m _ _ _ _ (by omega), Int.natAbs_neg]
  congr 1
  rw [← decide_not]
  congr 1
  exact propext (by omega)

theorem rndZ_fin (ok : F.Ok) (m : Nat) (z L : Int) (h : z ≠ 0) : F.isNan (rndZ F m z L).1 = false := by
  unfold rndZ
  rw [into_bits F ok m _ _ _ _ (by omega)]
  have h2 := mag_le F ok m (decide (z < 0)) z.natAbs L false (by omega)
  unfold Fm.isNan
  rw [abs_mk (Nat.lt_of_le_of_lt h2 (inf_lt ok))]
  simp; exact h2

/-- the place in the order of numbers -/
def rankZ (F : Fm) (a : Nat) : Int := sI (F.neg a) (F.abs a)

theorem rank_flip (a : Nat) : rankZ F (F.flip a) = -rankZ F a := by
  unfold rankZ sI
  rw [neg_flip, abs_flip]
  cases F.neg a <;> simp

theorem rank_sg (s : Bool) : rankZ F (F.sg s) = 0 ∧ F.isNan (F.sg s) = false := by
  obtain ⟨h1, h2⟩ := zero_sg (F := F) s
  unfold rankZ sI Fm.isNan
  rw [h1, h2]
  cases s <;> simp

theorem rank_inf (ok : F.Ok) (s : Bool) : F.isNan (F.inf + F.sg s) = false ∧ F.inf + F.sg (!s) = F.flip (F.inf + F.sg s) := by
  refine ⟨?_, (flip_mk (inf_lt ok)).symm⟩
  unfold Fm.isNan
  rw [abs_mk (inf_lt ok)]
  simp

/-- of opposite summands the opposite, in the mode that rounds the other way -/
theorem fuseZ_mir (ok : F.Ok) (m : Nat) (x y : Qt) : (fuseZ F (mir m) x.opp y.opp).2 = (fuseZ F m x y).2 ∧ F.isNan (fuseZ F (mir m) x.opp y.opp).1 = F.isNan (fuseZ F m x y).1 ∧
    (F.isNan (fuseZ F m x y).1 = false → rankZ F (fuseZ F m x y).1 = -rankZ F (fuseZ F (mir m) x.opp y.opp).1) := by
  obtain ⟨n1, s1, v1, i1, g1, z1⟩ := x
  obtain ⟨n2, s2, v2, i2, g2, z2⟩ := y
  have hn := nan_isNan ok
  unfold fuseZ Qt.opp
  simp only
  by_cases c1 : (s1 || s2 || v1 || v2) = true
  · simp only [if_pos c1]; simp [hn]
  simp only [if_neg c1]
  by_cases c2 : (n1 || n2) = true
  · simp only [if_pos c2]; simp [hn]
  simp only [if_neg c2]
  rw [show ((!g1) != (!g2)) = (g1 != g2) by cases g1 <;> cases g2 <;> rfl]
  by_cases c3 : (i1 && i2 && (g1 != g2)) = true
  · simp only [if_pos c3]; simp [hn]
  simp only [if_neg c3]
  have ri := fun s => rank_inf ok s
  by_cases c4 : i1 = true
  · simp only [if_pos c4]
    rw [(ri g1).2, isNan_flip, rank_flip]
    simp
  simp only [if_neg c4]
  by_cases c5 : i2 = true
  · simp only [if_pos c5]
    rw [(ri g2).2, isNan_flip, rank_flip]
    simp
  simp only [if_neg c5]
  by_cases c6 : z1 + z2 = 0
  · rw [if_pos c6, if_pos (by omega : -z1 + -z2 = 0)]
    simp only [(rank_sg (F := F) _).1, (rank_sg (F := F) _).2]
    simp
  · rw [if_neg c6, if_neg (by omega : ¬ -z1 + -z2 = 0), show -z1 + -z2 = -(z1 + z2) by omega, rndZ_mir ok m _ _ c6]
    simp only [isNan_flip, rank_flip]
    simp

/-- of numbers -/
theorem fuseZ_fin (m : Nat) {x y : Qt} (hx : x.sig = false ∧ x.inv = false ∧ x.nan = false ∧ x.inf = false) (hy : y.sig = false ∧ y.inv = false ∧ y.nan = false ∧ y.inf = false) :
    fuseZ F m x y = if x.z + y.z = 0 then (F.sg (if decide (x.z = 0) && decide (y.z = 0) && (x.neg == y.neg) then x.neg else m == 4), 0) else rndZ F m (x.z + y.z) (-5000) := by
  unfold fuseZ
  simp [hx, hy]

theorem rank_rnd (ok : F.Ok) (m : Nat) (z L : Int) (h : z ≠ 0) : rankZ F (rndZ F m z L).1 = sI (decide (z < 0)) (magS F m (decide (z < 0)) z.natAbs L false) := by
  unfold rndZ rankZ
  obtain ⟨h1, h2⟩ := cut_lt ok m (decide (z < 0)) z.natAbs L false (by omega)
  rw [h1, neg_mk h2, abs_mk h2]

/-- all modes lie between Down and Up -/
theorem modes_fin (ok : F.Ok) {x y : Qt} (hx : x.sig = false ∧ x.inv = false ∧ x.nan = false ∧ x.inf = false) (hy : y.sig = false ∧ y.inv = false ∧ y.nan = false ∧ y.inf = false) (m : Nat) :
    F.isNan (fuseZ F m x y).1 = false ∧ rankZ F (fuseZ F 4 x y).1 ≤ rankZ F (fuseZ F m x y).1 ∧ rankZ F (fuseZ F m x y).1 ≤ rankZ F (fuseZ F 3 x y).1 ∧
    ((fuseZ F m x y).2 = 0 ↔ (fuseZ F 4 x y).2 = 0) ∧
    rankZ F (fuseZ F 3 x y).1 - rankZ F (fuseZ F 4 x y).1 = (if (fuseZ F 4 x y).2 = 0 then 0 else 1) ∧
    ((fuseZ F m x y).2 = 0 ∨ (fuseZ F m x y).2 = 16 ∨ (fuseZ F m x y).2 = 20 ∨ (fuseZ F m x y).2 = 24) := by
  rw [fuseZ_fin m hx hy, fuseZ_fin 3 hx hy, fuseZ_fin 4 hx hy]
  generalize x.z + y.z = z
  by_cases h0 : z = 0
  · simp only [if_pos h0, (rank_sg (F := F) _).1, (rank_sg (F := F) _).2]
    simp
  simp only [if_neg h0]
  have hn : z.natAbs ≠ 0 := by omega
  refine ⟨rndZ_fin ok m z _ h0, ?_⟩
  rw [rank_rnd ok m z _ h0, rank_rnd ok 3 z _ h0, rank_rnd ok 4 z _ h0]
  unfold rndZ
  have f1 := flag_exact ok m (decide (z < 0)) z.natAbs (-5000) hn
  have f4 := flag_exact ok 4 (decide (z < 0)) z.natAbs (-5000) hn
  have hfl := into_flags F m (decide (z < 0)) z.natAbs (-5000) false
  have hb := mag_between ok m (decide (z < 0)) z.natAbs (-5000) hn
  rw [mag_down ok _ _ _ hn, mag_up ok _ _ _ hn]
  generalize (intoS F m (decide (z < 0)) z.natAbs (-5000) false).2 = g at *
  generalize (intoS F 4 (decide (z < 0)) z.natAbs (-5000) false).2 = g4 at *
  generalize magS F m (decide (z < 0)) z.natAbs (-5000) false = c at *
  generalize botS F z.natAbs (-5000) = b at *
  generalize exB F z.natAbs (-5000) = t at *
  generalize decide (z < 0) = s at *
  refine ⟨?_, ?_, ?_, ?_, hfl⟩
  · cases s <;> cases t <;> simp [sI] at * <;> omega
  · cases s <;> cases t <;> simp [sI] at * <;> omega
  · rw [f1, f4]
  · cases t
    · have : g4 ≠ 0 := fun h => by have := f4.1 h; cases this
      rw [if_neg this]
      cases s <;> simp [sI] <;> omega
    · rw [if_pos (f4.2 rfl)]
      cases s <;> simp [sI]

/-- with a factor 1: the sum -/
theorem val_one (ok : F.Ok) (k : Nat) (hk : k = 2500) : F.val (-2500) F.one = 2 ^ k := by
  obtain ⟨h1, h2, h3, h4, _, _⟩ := one_ok ok
  have hp := ok.p8
  have hp2 := ok.p53
  unfold Fm.val Fm.vl uN
  rw [h1, h2]
  have e3 : F.sig F.one = 2 ^ (F.p - 1) := by have := h3; unfold Fm.mag at this; rwa [h1] at this
  have e4 : F.xp F.one = 1 - F.p := by have := h4; unfold Fm.ex at this; rwa [h1] at this
  rw [e3, e4, ← Nat.pow_add]
  simp only [Bool.false_eq_true, if_false]
  rw [show F.p - 1 + (1 - (F.p : Int) - -2500).toNat = k by omega]
  simp

theorem val_units (ok : F.Ok) {a : Nat} (h : F.abs a < F.inf) (L M : Int) (h1 : L ≤ M) (h2 : M ≤ F.low) : F.val L a = F.val M a * 2 ^ (M - L).toNat := by
  have := ex_range ok h
  rw [val_i, val_i]
  exact i_scale _ L M h1 (by show M ≤ F.ex a; omega)

theorem one_facts (ok : F.Ok) : F.isNan F.one = false ∧ F.isSig F.one = false ∧ F.isInf F.one = false ∧ F.isZero F.one = false ∧ F.neg F.one = false := by
  obtain ⟨h1, h2, h3, h4, h5, h6⟩ := one_ok ok
  have n1 : F.isNan F.one = false := by unfold Fm.isNan; rw [h1]; simp; omega
  exact ⟨n1, by unfold Fm.isSig; rw [n1]; rfl, by unfold Fm.isInf; rw [h1]; simp; omega, by unfold Fm.isZero; rw [h1]; simp; exact h5, h2⟩

theorem sig_nan {a : Nat} (h : F.isNan a = false) : F.isSig a = false := by unfold Fm.isSig; rw [h]; rfl

theorem prodZ_one (ok : F.Ok) (a : Nat) : prodZ F a F.one = oneZ F a := by
  obtain ⟨n1, n2, n3, n4, n5⟩ := one_facts ok
  have hl := low_ge ok
  unfold prodZ oneZ
  obtain ⟨k, hk⟩ : ∃ k : Nat, k = 2500 := ⟨_, rfl⟩
  rw [n1, n2, n3, n4, n5, val_one ok k hk]
  cases h1 : F.isNan a
  · cases h2 : F.isInf a
    · have := val_units ok (fin_of h1 h2) (-5000) (-2500) (by decide) (by omega)
      rw [show ((-2500 : Int) - -5000).toNat = k by omega] at this
      simp only [Bool.or_self, Bool.false_eq_true, if_false]
      rw [this]
      simp
    · simp
  · unfold Fm.isInf
    have : F.abs a ≠ F.inf := by unfold Fm.isNan at h1; simp at h1; omega
    simp [this]

theorem sum_z (ok : F.Ok) (m : Nat) {a c : Nat} (ha : a < 2 ^ F.w) (hc : c < 2 ^ F.w) : fuseZ F m (oneZ F a) (oneZ F c) = addS F m a c := by
  have hpa := parts_mk ok ha
  have hpc := parts_mk ok hc
  have hl := low_ge ok
  unfold fuseZ oneZ addS
  simp only [Bool.or_false]
  by_cases c1 : (F.isSig a || F.isSig c) = true
  · rw [if_pos c1, if_pos c1]
  rw [if_neg c1, if_neg c1]
  by_cases c2 : (F.isNan a || F.isNan c) = true
  · rw [if_pos c2, if_pos c2]
  rw [if_neg c2, if_neg c2]
  simp only [Bool.or_eq_true, not_or, Bool.not_eq_true] at c2
  by_cases c3 : (F.isInf a && F.isInf c && (F.neg a != F.neg c)) = true
  · rw [if_pos c3, if_pos c3]
  rw [if_neg c3, if_neg c3]
  by_cases c4 : F.isInf a = true
  · rw [if_pos c4, if_pos c4]
    have : F.abs a = F.inf := by unfold Fm.isInf at c4; simpa using c4
    rw [this] at hpa
    rw [← hpa]
  rw [if_neg c4, if_neg c4]
  by_cases c5 : F.isInf c = true
  · rw [if_pos c5, if_pos c5]
    have : F.abs c = F.inf := by unfold Fm.isInf at c5; simpa using c5
    rw [this] at hpc
    rw [← hpc]
  rw [if_neg c5, if_neg c5]
  simp only [Bool.not_eq_true] at c4 c5
  simp only [c2, c4, c5, Bool.or_self, Bool.false_eq_true, if_false]
  have u1 := val_units ok (fin_of c2.1 c4) (-5000) F.low (by omega) (Int.le_refl _)
  have u2 := val_units ok (fin_of c2.2 c5) (-5000) F.low (by omega) (Int.le_refl _)
  have hz1 : decide (F.val (-5000) a = 0) = F.isZero a := by unfold Fm.isZero; congr 1; exact propext (val_zero_iff ok _)
  have hz2 : decide (F.val (-5000) c = 0) = F.isZero c := by unfold Fm.isZero; congr 1; exact propext (val_zero_iff ok _)
  rw [hz1, hz2, u1, u2, ← Int.add_mul]
  have hp := ipow_pos (F.low - -5000).toNat
  by_cases c6 : F.val F.low a + F.val F.low c = 0
  · rw [if_pos c6, c6, Int.zero_mul, if_pos rfl]
  · rw [if_neg c6, if_neg (Int.mul_ne_zero c6 (by omega)), rndZ_scale m _ F.low (-5000) c6 (by omega)]

/-- with a zero of the product's sign added: the product -/
theorem product_z (ok : F.Ok) (m : Nat) {a b : Nat} (ha : a < 2 ^ F.w) (hb : b < 2 ^ F.w) : fuseZ F m (prodZ F a b) (oneZ F (F.sg (F.neg a != F.neg b))) = mulS F m a b := by
  have hl := low_ge ok
  have hp : 1 ≤ F.p := by have := ok.p8; omega
  obtain ⟨h1, h2⟩ := zero_sg (F := F) (F.neg a != F.neg b)
  have hinf := inf_pos ok
  generalize hs : F.sg (F.neg a != F.neg b) = s at *
  have z1 : F.isNan s = false := by unfold Fm.isNan; rw [h1]; simp
  have z2 : F.isInf s = false := by unfold Fm.isInf; rw [h1]; simp; omega
  have z3 := sig_nan z1
  have z4 : F.val (-5000) s = 0 := val_zero _ h1
  unfold fuseZ prodZ oneZ mulS
  simp only [z1, z2, z3, z4, h2, Bool.or_false, Bool.and_false, Bool.false_and, Bool.or_self, Bool.false_eq_true, if_false, Int.add_zero]
  cases n1 : F.isNan a
  · cases n2 : F.isNan b
    · rw [sig_nan n1, sig_nan n2]
      simp only [Bool.or_self, Bool.false_or, Bool.not_false, Bool.true_and, Bool.false_eq_true, if_false]
      cases i1 : F.isInf a
      · cases i2 : F.isInf b
        · simp only [Bool.false_and, Bool.or_self, Bool.and_false, Bool.false_eq_true, if_false]
          by_cases c : F.val (-2500) a * F.val (-2500) b = 0
          · rw [if_pos c]
            have c' : (F.isZero a || F.isZero b) = true := by
              rw [Int.mul_eq_zero, val_zero_iff ok, val_zero_iff ok] at c
              unfold Fm.isZero; simpa using c
            rw [if_pos c', hs]
            simp [c, hs]
          · rw [if_neg c]
            have c' : ¬ (F.isZero a || F.isZero b) = true := by
              rw [Int.mul_eq_zero, val_zero_iff ok, val_zero_iff ok] at c
              unfold Fm.isZero; simpa using c
            rw [if_neg c']
            have hi := prod_i ok (fin_of n1 i1) (fin_of n2 i2)
            have c0 := c'
            simp only [Bool.or_eq_true, not_or, Bool.not_eq_true] at c0
            have hne : F.mag a * F.mag b ≠ 0 := Nat.mul_ne_zero (mag_ne hp c0.1) (mag_ne hp c0.2)
            have e1 := ex_range ok (fin_of n1 i1)
            have e2 := ex_range ok (fin_of n2 i2)
            have hr := into_rndZ (F := F) m ⟨F.neg a != F.neg b, F.mag a * F.mag b, F.ex a + F.ex b⟩ (-5000) hne (by show -5000 ≤ F.ex a + F.ex b; omega)
            rw [i_odd _ _ (by show -5000 ≤ F.ex a + F.ex b; omega)] at hi
            rw [← hi]
            exact hr.symm
        · cases F.isZero a <;> simp
      · have hz := (inf_not_zero ok i1).1
        cases i2 : F.isInf b
        · cases F.isZero b <;> simp [hz]
        · have hz2 := (inf_not_zero ok i2).1
          simp [hz, hz2]
    · rw [sig_nan n1]
      cases F.isSig b <;> simp
  · cases F.isSig a <;> cases F.isSig b <;> simp

end
end Go.Proofs.YtlibhfojfonfjaaDoor
