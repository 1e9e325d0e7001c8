/- vernierref03.Sum and vernierref09.Sum, as plain numbers: they are fuseZ. -/
import Derived.Test.YtakjbmlkcbedmaaDoorPackC
namespace Go.Proofs.YtakjbmlkcbedmaaDoor
set_option linter.unusedVariables false
set_option linter.unusedSimpArgs false

/-- vernierref03.Sum -/
def sumR (x y : D) : D :=
  if x.n = 0 then y
  else if y.n = 0 then x
  else if x.s = y.s then ⟨x.s, x.n * 2 ^ (x.e - min x.e y.e).toNat + y.n * 2 ^ (y.e - min x.e y.e).toNat, min x.e y.e⟩
  else if y.n * 2 ^ (y.e - min x.e y.e).toNat ≤ x.n * 2 ^ (x.e - min x.e y.e).toNat then ⟨x.s, x.n * 2 ^ (x.e - min x.e y.e).toNat - y.n * 2 ^ (y.e - min x.e y.e).toNat, min x.e y.e⟩
  else ⟨y.s, y.n * 2 ^ (y.e - min x.e y.e).toNat - x.n * 2 ^ (x.e - min x.e y.e).toNat, min x.e y.e⟩

theorem i_zero {d : D} {L : Int} (h : d.n = 0) : d.i L = 0 := by unfold D.i; rw [h]; simp

theorem i_down {d : D} {L M : Int} (h1 : L ≤ M) (h2 : M ≤ d.e) : d.i L = (if d.s then -((d.n * 2 ^ (d.e - M).toNat : Nat) : Int) else ((d.n * 2 ^ (d.e - M).toNat : Nat) : Int)) * 2 ^ (M - L).toNat := by
  unfold D.i
  have e : (d.e - L).toNat = (d.e - M).toNat + (M - L).toNat := by omega
  rw [e, Int.pow_add, ← Int.mul_assoc]
  congr 1
  split <;> simp [Int.neg_mul]

theorem sumR_i {x y : D} {L : Int} (hx : L ≤ x.e) (hy : L ≤ y.e) : (sumR x y).i L = x.i L + y.i L ∧ L ≤ (sumR x y).e := by
  unfold sumR
  split
  · rename_i h; rw [i_zero h, Int.zero_add]; exact ⟨rfl, hy⟩
  · split
    · rename_i h; rw [i_zero h, Int.add_zero]; exact ⟨rfl, hx⟩
    · obtain ⟨M, hM⟩ : ∃ M, M = min x.e y.e := ⟨_, rfl⟩
      rw [← hM]
      have h1 : L ≤ M := by omega
      rw [i_down (d := x) h1 (by omega), i_down (d := y) h1 (by omega)]
      generalize x.n * 2 ^ (x.e - M).toNat = a at *
      generalize y.n * 2 ^ (y.e - M).toNat = b at *
      have key : ∀ s n, D.i L ⟨s, n, M⟩ = (if s then -(n : Int) else (n : Int)) * 2 ^ (M - L).toNat := fun s n => rfl
      split
      · rename_i h
        refine ⟨?_, h1⟩
        rw [key, ← Int.add_mul, h]
        congr 1
        split <;> omega
      · rename_i h
        split
        · rename_i hle
          refine ⟨?_, h1⟩
          rw [key, ← Int.add_mul]
          congr 1
          cases hx' : x.s <;> cases hy' : y.s <;> simp_all <;> omega
        · rename_i hle
          refine ⟨?_, h1⟩
          rw [key, ← Int.add_mul]
          congr 1
          cases hx' : x.s <;> cases hy' : y.s <;> simp_all <;> omega


end Go.Proofs.YtakjbmlkcbedmaaDoor
