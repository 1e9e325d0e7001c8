/- Walks of vernierref09: turned, Product, Sum. Printed by gen/refprod.py. -/
import Derived.Outline
import Derived.Deep.CutBlock
import Derived.Test.YtebmogdojpcmfaaRefT
namespace Go.Proofs.Ytebmogdojpcmfaa
set_option linter.unusedVariables false
set_option linter.unusedSimpArgs false
open Go.RowKit

def fl0 : Array Value := #[.bool false, .bool false, .bool false, .bool false, .bool false, .slice none 0 0, .int .i64 0]

theorem Bx.putNeg {w : World} {g : Nat} {a0 a1 a2 a3 a4 a5 a6 : Value} (h : Bx w g #[a0, a1, a2, a3, a4, a5, a6]) (x : Value) : Bx (w.setCell ⟨g, 3, none⟩ x) g #[a0, a1, a2, x, a4, a5, a6] := by
  obtain ⟨t, h⟩ := h
  refine ⟨t, ?_⟩
  simp [World.setCell, Array.getElem?_modify, h]
theorem Bx.putWrong {w : World} {g : Nat} {a0 a1 a2 a3 a4 a5 a6 a7 : Value} (h : Bx w g #[a0, a1, a2, a3, a4, a5, a6, a7]) (x : Value) : Bx (w.setCell ⟨g, 0, none⟩ x) g #[x, a1, a2, a3, a4, a5, a6, a7] := by
  obtain ⟨t, h⟩ := h
  refine ⟨t, ?_⟩
  simp [World.setCell, Array.getElem?_modify, h]

theorem sumR_bounds {x y : D} (hx : x.n < 2 ^ 110) (hy : y.n < 2 ^ 110) (h1 : -5100 ≤ x.e ∧ x.e ≤ 5100) (h2 : -5100 ≤ y.e ∧ y.e ≤ 5100) : nd 32 (sumR x y).n ≤ 1000 ∧ -20000 ≤ (sumR x y).e ∧ (sumR x y).e ≤ 20000 := by
  obtain ⟨E, hE⟩ : ∃ E, E = min x.e y.e := ⟨_, rfl⟩
  obtain ⟨K, hK⟩ : ∃ K : Nat, K = 10310 := ⟨_, rfl⟩
  have key : ∀ n : Nat, n < 2 ^ 110 → ∀ k : Nat, k ≤ 10200 → n * 2 ^ k < 2 ^ K := by
    intro n hn k hk
    refine Nat.lt_of_lt_of_le (Nat.mul_lt_mul_of_pos_right hn (pow_pos2 k)) ?_
    rw [← Nat.pow_add]
    exact Nat.pow_le_pow_right (by decide) (by omega)
  have ka := key x.n hx (x.e - E).toNat (by omega)
  have kb := key y.n hy (y.e - E).toNat (by omega)
  have fin : ∀ n : Nat, n < 2 ^ (K + 1) → nd 32 n ≤ 1000 := by
    intro n hn
    refine Nat.le_trans (nd_le 32 n (K / 32 + 1) (by decide) (Nat.lt_of_lt_of_le hn (Nat.pow_le_pow_right (by decide) (by omega)))) (by omega)
  have e2 : (2 : Nat) ^ (K + 1) = 2 ^ K * 2 := Nat.pow_succ 2 K
  have small : ∀ n : Nat, n < 2 ^ 110 → n < 2 ^ K := fun n hn => Nat.lt_of_lt_of_le hn (Nat.pow_le_pow_right (by decide) (by omega))
  have hxs := small x.n hx
  have hys := small y.n hy
  unfold sumR
  rw [← hE]
  rw [e2] at fin
  clear key small e2 hx hy
  generalize x.n * 2 ^ (x.e - E).toNat = a at *
  generalize y.n * 2 ^ (y.e - E).toNat = b at *
  generalize (2 : Nat) ^ K = P at *
  split
  · exact ⟨fin _ (by omega), by omega, by omega⟩
  · split
    · exact ⟨fin _ (by omega), by omega, by omega⟩
    · split
      · exact ⟨fin _ (by show a + b < _; omega), by show -20000 ≤ E; omega, by show E ≤ 20000; omega⟩
      · split
        · exact ⟨fin _ (by show a - b < _; omega), by show -20000 ≤ E; omega, by show E ≤ 20000; omega⟩
        · exact ⟨fin _ (by show b - a < _; omega), by show -20000 ≤ E; omega, by show E ≤ 20000; omega⟩

/-- what a term may be -/
def TmB (x : Tm) : Prop := x.d.n < 2 ^ 110 ∧ -5100 ≤ x.d.e ∧ x.d.e ≤ 5100

theorem TmB.nd {x : Tm} (h : TmB x) : nd 32 x.d.n ≤ 10000 := Nat.le_trans (nd_le 32 _ 4 (by decide) (Nat.lt_of_lt_of_le h.1 (Nat.pow_le_pow_right (by decide) (by decide)))) (by decide)

end Go.Proofs.Ytebmogdojpcmfaa
