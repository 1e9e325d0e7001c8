/- vernierref03.Sum and vernierref09.Sum, as plain numbers: they are fuseZ. -/
import Derived.Test.YtebmogdojpcmfaaPackU
namespace Go.Proofs.Ytebmogdojpcmfaa
set_option linter.unusedVariables false
set_option linter.unusedSimpArgs false

/-- vernierref03.Sum -/
def sumR (x y : D) : D :=
  if x.n = 0 then y
  else if y.n = 0 then x
  else if x.s = y.s then ⟨x.s, x.n * 2 ^ (x.e - min x.e y.e).toNat + y.n * 2 ^ (y.e - min x.e y.e).toNat, min x.e y.e⟩
  else if y.n * 2 ^ (y.e - min x.e y.e).toNat ≤ x.n * 2 ^ (x.e - min x.e y.e).toNat then ⟨x.s, x.n * 2 ^ (x.e - min x.e y.e).toNat - y.n * 2 ^ (y.e - min x.e y.e).toNat, min x.e y.e⟩
  else ⟨y.s, y.n * 2 ^ (y.e - min x.e y.e).toNat - x.n * 2 ^ (x.e - min x.e y.e).toNat, min x.e y.e⟩

theorem i_zero {d : D} {L : Int} (h : d.n = 0) : d.i L = 0 := by unfold D.i; rw [h]; simp

theorem i_down {d : D} {L M : Int} (h1 : L ≤ M) (h2 : M ≤ d.e) : d.i L = (if d.s then -((d.n * 2 ^ (d.e - M).toNat : Nat) : Int) else ((d.n * 2 ^ (d.e - M).toNat : Nat) : Int)) * 2 ^ (M - L).toNat := by
  unfold D.i
  have e : (d.e - L).toNat = (d.e - M).toNat + (M - L).toNat := by omega
  rw [e, Int.pow_add, ← Int.mul_assoc]
  congr 1
  split <;> simp [Int.neg_mul]

theorem sumR_i {x y : D} {L : Int} (hx : L ≤ x.e) (hy : L ≤ y.e) : (sumR x y).i L = x.i L + y.i L ∧ L ≤ (sumR x y).e := by
  unfold sumR
  split
  · rename_i h; rw [i_zero h, Int.zero_add]; exact ⟨rfl, hy⟩
  · split
    · rename_i h; rw [i_zero h, Int.add_zero]; exact ⟨rfl, hx⟩
    · obtain ⟨M, hM⟩ : ∃ M, M = min x.e y.e := ⟨_, rfl⟩
      rw [← hM]
      have h1 : L ≤ M := by omega
      rw [i_down (d := x) h1 (by omega), i_down (d := y) h1 (by omega)]
      generalize x.n * 2 ^ (x.e - M).toNat = a at *
      generalize y.n * 2 ^ (y.e - M).toNat = b at *
      have key : ∀ s n, D.i L ⟨s, n, M⟩ = (if s then -(n : Int) else (n : Int)) * 2 ^ (M - L).toNat := fun s n => rfl
      split
      · rename_i h
        refine ⟨?_, h1⟩
        rw [key, ← Int.add_mul, h]
        congr 1
        split <;> omega
      · rename_i h
        split
        · rename_i hle
          refine ⟨?_, h1⟩
          rw [key, ← Int.add_mul]
          congr 1
          cases hx' : x.s <;> cases hy' : y.s <;> simp_all <;> omega
        · rename_i hle
          refine ⟨?_, h1⟩
          rw [key, ← Int.add_mul]
          congr 1
          cases hx' : x.s <;> cases hy' : y.s <;> simp_all <;> omega

/-- vernierref06.Final -/
def finR (F : Fm) (m : Nat) (d : D) (neg : Bool) : Nat × Nat := if d.n = 0 then (F.sg neg, 0) else intoS F m d.s d.n d.e false

/-- a term of vernierref09 -/
structure Tm where
  wrong : Bool
  nan : Bool
  sig : Bool
  inf : Bool
  neg : Bool
  d : D

def Tm.q (x : Tm) : Qt := ⟨x.nan, x.sig, x.wrong, x.inf, x.neg, x.d.i (-5000)⟩
def Tm.zero (x : Tm) : Bool := !x.wrong && !x.nan && !x.inf && decide (x.d.n = 0)

/-- vernierref09.Sum -/
def termS (F : Fm) (m : Nat) (x y : Tm) : Nat × Nat :=
  if x.sig || y.sig || x.wrong || y.wrong then (F.nan, 1)
  else if x.nan || y.nan then (F.nan, 0)
  else if x.inf && y.inf && (x.neg != y.neg) then (F.nan, 1)
  else if x.inf then (F.inf + F.sg x.neg, 0)
  else if y.inf then (F.inf + F.sg y.neg, 0)
  else finR F m (sumR x.d y.d) (if x.zero && y.zero && (x.neg == y.neg) then x.neg else m == 4)

theorem term_z {F : Fm} (m : Nat) {x y : Tm} (hx : -5000 ≤ x.d.e) (hy : -5000 ≤ y.d.e) : termS F m x y = fuseZ F m x.q y.q := by
  unfold termS fuseZ Tm.q
  split
  · rfl
  split
  · rfl
  split
  · rfl
  split
  · rfl
  split
  · rfl
  rename_i h1 h2 h3 h4 h5
  obtain ⟨h6, h7⟩ := sumR_i hx hy
  unfold finR
  simp only [← h6]
  simp only [Bool.or_eq_true, not_or, Bool.not_eq_true] at h1 h2
  obtain ⟨⟨⟨s1, s2⟩, s3⟩, s4⟩ := h1
  simp only [Bool.not_eq_true] at h4 h5
  have zx : x.zero = decide (x.d.i (-5000) = 0) := by
    unfold Tm.zero; rw [s3, h2.1, h4]
    simp only [Bool.not_false, Bool.true_and]
    congr 1; exact propext i_zero_iff.symm
  have zy : y.zero = decide (y.d.i (-5000) = 0) := by
    unfold Tm.zero; rw [s4, h2.2, h5]
    simp only [Bool.not_false, Bool.true_and]
    congr 1; exact propext i_zero_iff.symm
  rw [zx, zy]
  by_cases h0 : (sumR x.d y.d).n = 0
  · rw [if_pos h0, if_pos (i_zero_iff.2 h0)]
  · rw [if_neg h0, if_neg (fun h => h0 (i_zero_iff.1 h)), into_rndZ m (sumR x.d y.d) (-5000) h0 h7]

end Go.Proofs.Ytebmogdojpcmfaa
