/- Sums of floats as plain numbers: the sum with a sticky bit is the exact sum, rounded. -/
import Derived.Test.YtdbfkfbncmbfcaaGreatDoorPackR
import Derived.Test.YtdbfkfbncmbfcaaGreatDoorPackB
namespace Go.Proofs.YtdbfkfbncmbfcaaGreatDoor
set_option linter.unusedVariables false

section
variable {F : Fm}

theorem val_i (L : Int) (a : Nat) : F.val L a = D.i L ⟨F.neg a, F.mag a, F.ex a⟩ := by
  unfold Fm.val D.i Fm.vl uN Fm.mag Fm.ex
  simp only
  generalize F.sig (F.abs a) = n
  generalize (F.xp (F.abs a) - L).toNat = k
  cases F.neg a <;> simp [Int.neg_mul]

theorem i_scale (d : D) (L M : Int) (h1 : L ≤ M) (h2 : M ≤ d.e) : d.i L = d.i M * 2 ^ (M - L).toNat := by
  unfold D.i
  rw [show (d.e - L).toNat = (d.e - M).toNat + (M - L).toNat by omega, Int.pow_add]
  generalize (2 : Int) ^ (d.e - M).toNat = p
  generalize (2 : Int) ^ (M - L).toNat = q
  grind

theorem rndZ_scale (m : Nat) (z : Int) (M L : Int) (hz : z ≠ 0) (h : L ≤ M) : rndZ F m (z * 2 ^ (M - L).toNat) L = rndZ F m z M := by
  unfold rndZ
  have hp := ipow_pos (M - L).toNat
  have e1 : decide (z * 2 ^ (M - L).toNat < 0) = decide (z < 0) := by
    congr 1; apply propext
    constructor
    · intro h
      rcases Int.lt_or_le z 0 with h1 | h1
      · exact h1
      · have := Int.mul_nonneg h1 (Int.le_of_lt hp); omega
    · intro h; exact Int.mul_neg_of_neg_of_pos h hp
  rw [e1, Int.natAbs_mul]
  have e2 : ((2 : Int) ^ (M - L).toNat).natAbs = 2 ^ (M - L).toNat := by
    rw [Int.natAbs_pow]; rfl
  rw [e2]
  have := into_scale F m (decide (z < 0)) z.natAbs (M - L).toNat M (by omega)
  rw [← this]
  congr 1; omega

/-- a number that is not zero, with its sign -/
theorem rndZ_mk (m : Nat) (s : Bool) (n : Nat) (e : Int) (h : n ≠ 0) : rndZ F m (if s then -(n : Int) else (n : Int)) e = intoS F m s n e false := by
  unfold rndZ
  cases s
  · rw [if_neg (by simp), decide_eq_false (by omega), Int.natAbs_natCast]
  · rw [if_pos rfl, decide_eq_true (by omega), Int.natAbs_neg, Int.natAbs_natCast]

theorem i_at (s : Bool) (n : Nat) (e : Int) : D.i e ⟨s, n, e⟩ = if s then -(n : Int) else (n : Int) := by unfold D.i; simp

theorem i_up (s : Bool) (n : Nat) (e L : Int) : D.i L ⟨s, n, e⟩ = if s then -((n * 2 ^ (e - L).toNat : Nat) : Int) else ((n * 2 ^ (e - L).toNat : Nat) : Int) := by
  unfold D.i; cases s <;> simp [Int.neg_mul]

/-- like signs -/
theorem add_same (m : Nat) (s : Bool) (nx ny : Nat) (ex ey : Int) (h : ey ≤ ex) (up down : Nat) (hd : ex - ey = up + down) (lo : Nat) (hlo : lo = ny / 2 ^ down) (more : Bool) (hm : more = decide (lo * 2 ^ down ≠ ny))
    (h0 : nx * 2 ^ up + lo ≠ 0) (hb : more = true → F.p + 1 ≤ bl (nx * 2 ^ up + lo)) :
    intoS F m s (nx * 2 ^ up + lo) (ex - up) more = rndZ F m (D.i ey ⟨s, nx, ex⟩ + D.i ey ⟨s, ny, ey⟩) ey ∧ D.i ey ⟨s, nx, ex⟩ + D.i ey ⟨s, ny, ey⟩ ≠ 0 := by
  have hk := pow_pos2 down
  have hX : nx * 2 ^ (ex - ey).toNat = nx * 2 ^ up * 2 ^ down := by
    rw [show (ex - ey).toNat = up + down by omega, Nat.pow_add, Nat.mul_assoc]
  have hmod := Nat.div_add_mod ny (2 ^ down)
  have hlt := Nat.mod_lt ny hk
  rw [← hlo, Nat.mul_comm] at hmod
  have hz : nx * 2 ^ (ex - ey).toNat + ny ≠ 0 := by
    intro h1
    have : nx * 2 ^ up * 2 ^ down = 0 := by omega
    rcases Nat.mul_eq_zero.1 this with h2 | h2
    · have : ny = 0 := by omega
      subst this
      rw [Nat.zero_div] at hlo
      omega
    · omega
  have e1 : D.i ey ⟨s, nx, ex⟩ + D.i ey ⟨s, ny, ey⟩ = if s then -((nx * 2 ^ (ex - ey).toNat + ny : Nat) : Int) else ((nx * 2 ^ (ex - ey).toNat + ny : Nat) : Int) := by
    rw [i_up, i_at]; cases s <;> simp; omega
  rw [e1, rndZ_mk m s _ _ hz]
  refine ⟨?_, by
    generalize nx * 2 ^ (ex - ey).toNat + ny = X at *
    cases s
    · rw [if_neg (by simp)]; omega
    · rw [if_pos rfl]; omega⟩
  rw [hX, show ey = ex - up - (down : Int) by omega]
  cases more
  · have he : lo * 2 ^ down = ny := by simpa using hm.symm
    have := into_scale F m s (nx * 2 ^ up + lo) down (ex - up) h0
    rw [← this, Nat.add_mul, he]
  · refine into_sticky F m s _ down _ (ex - up) (hb rfl) ?_ ?_
    · have he : lo * 2 ^ down ≠ ny := by simpa using hm.symm
      rw [Nat.add_mul]; omega
    · rw [Nat.add_mul, Nat.add_mul, Nat.one_mul]; omega

/-- unlike signs -/
theorem add_diff (m : Nat) (s : Bool) (nx ny : Nat) (ex ey : Int) (h : ey ≤ ex) (up down : Nat) (hd : ex - ey = up + down) (lo : Nat) (hlo : lo = ny / 2 ^ down) (more : Bool) (hm : more = decide (lo * 2 ^ down ≠ ny)) (d : Nat)
    (hle : d + lo + (if more then 1 else 0) = nx * 2 ^ up) (h0 : d ≠ 0) (hb : more = true → F.p + 1 ≤ bl d) :
    intoS F m s d (ex - up) more = rndZ F m (D.i ey ⟨s, nx, ex⟩ + D.i ey ⟨!s, ny, ey⟩) ey ∧ D.i ey ⟨s, nx, ex⟩ + D.i ey ⟨!s, ny, ey⟩ ≠ 0 := by
  have hk := pow_pos2 down
  have hX : nx * 2 ^ (ex - ey).toNat = nx * 2 ^ up * 2 ^ down := by
    rw [show (ex - ey).toNat = up + down by omega, Nat.pow_add, Nat.mul_assoc]
  have hmod := Nat.div_add_mod ny (2 ^ down)
  have hlt := Nat.mod_lt ny hk
  rw [← hlo, Nat.mul_comm] at hmod
  obtain ⟨X, hXe, hX1⟩ : ∃ X : Nat, nx * 2 ^ (ex - ey).toNat = X + ny ∧ (more = false → X = d * 2 ^ down) ∧ (more = true → d * 2 ^ down < X ∧ X < (d + 1) * 2 ^ down) ∧ X ≠ 0 := by
    cases more
    · have he : lo * 2 ^ down = ny := by simpa using hm.symm
      simp at hle
      refine ⟨d * 2 ^ down, by rw [hX, ← hle, Nat.add_mul, he], fun _ => rfl, nofun, ?_⟩
      exact Nat.ne_of_gt (Nat.mul_pos (by omega) hk)
    · have he : lo * 2 ^ down ≠ ny := by simpa using hm.symm
      simp at hle
      have h1 : nx * 2 ^ up * 2 ^ down = d * 2 ^ down + lo * 2 ^ down + 2 ^ down := by rw [← hle, Nat.add_mul, Nat.add_mul, Nat.one_mul]
      refine ⟨nx * 2 ^ up * 2 ^ down - ny, by rw [hX]; omega, nofun, fun _ => ⟨by omega, by rw [Nat.add_mul, Nat.one_mul]; omega⟩, by omega⟩
  have e1 : D.i ey ⟨s, nx, ex⟩ + D.i ey ⟨!s, ny, ey⟩ = if s then -(X : Int) else (X : Int) := by
    rw [i_up, i_at, hXe]; cases s <;> simp <;> omega
  rw [e1, rndZ_mk m s _ _ hX1.2.2]
  refine ⟨?_, by have := hX1.2.2; cases s <;> simp <;> omega⟩
  rw [show ey = ex - up - (down : Int) by omega]
  cases hmo : more
  · rw [hX1.1 hmo, into_scale F m s d down (ex - up) h0]
  · obtain ⟨a, b⟩ := hX1.2.1 hmo
    exact into_sticky F m s d down X (ex - up) (hb hmo) a b

end

end Go.Proofs.YtdbfkfbncmbfcaaGreatDoor
