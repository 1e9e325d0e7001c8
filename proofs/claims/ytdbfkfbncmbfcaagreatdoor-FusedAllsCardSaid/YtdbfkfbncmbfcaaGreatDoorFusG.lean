/- The walk of (Four).right: what is brought into range. -/
import Derived.Test.YtdbfkfbncmbfcaaGreatDoorFusF
namespace Go.Proofs.YtdbfkfbncmbfcaaGreatDoor
set_option linter.unusedVariables false
open Go.RowKit

def fourA (f m : Int) (a b c d : Nat) : Array Value := #[.int .i64 f, .int .i64 m, .int .u64 a, .int .u64 b, .int .u64 c, .int .u64 d]

theorem Bx.put {w : World} {g : Nat} {arr : Array Value} (h : Bx w g arr) (i : Nat) (v : Value) (arr' : Array Value) (e : arr.setIfInBounds i v = arr') : Bx (w.setCell ⟨g, i, none⟩ v) g arr' := by
  obtain ⟨t, h⟩ := h
  refine ⟨t, ?_⟩
  subst e
  simp [World.setCell, Array.getElem?_modify, h]

theorem Bx.six {w : World} {g : Nat} {a0 a1 a2 a3 a4 a5 : Value} (h : Bx w g #[a0, a1, a2, a3, a4, a5]) :
    w.cell? ⟨g, 0, none⟩ = some a0 ∧ w.cell? ⟨g, 1, none⟩ = some a1 ∧ w.cell? ⟨g, 2, none⟩ = some a2 ∧ w.cell? ⟨g, 3, none⟩ = some a3 ∧ w.cell? ⟨g, 4, none⟩ = some a4 ∧ w.cell? ⟨g, 5, none⟩ = some a5 :=
  ⟨h.cell 0 rfl, h.cell 1 rfl, h.cell 2 rfl, h.cell 3 rfl, h.cell 4 rfl, h.cell 5 rfl⟩

theorem Bx.set6 {w : World} {g : Nat} {a0 a1 a2 a3 a4 a5 : Value} (h : Bx w g #[a0, a1, a2, a3, a4, a5]) (x0 x1 x2 x3 x4 x5 : Value) :
    Bx ((((((w.setCell ⟨g, 0, none⟩ x0).setCell ⟨g, 1, none⟩ x1).setCell ⟨g, 2, none⟩ x2).setCell ⟨g, 3, none⟩ x3).setCell ⟨g, 4, none⟩ x4).setCell ⟨g, 5, none⟩ x5) g #[x0, x1, x2, x3, x4, x5] := by
  obtain ⟨t, h⟩ := h
  refine ⟨t, ?_⟩
  simp [World.setCell, Array.getElem?_modify, h]

theorem below_set6 {w w1 : World} {g : Nat} (h : Below w.heap.size w w1) (hg : w.heap.size ≤ g) (x0 x1 x2 x3 x4 x5 : Value) :
    Below w.heap.size w ((((((w1.setCell ⟨g, 0, none⟩ x0).setCell ⟨g, 1, none⟩ x1).setCell ⟨g, 2, none⟩ x2).setCell ⟨g, 3, none⟩ x3).setCell ⟨g, 4, none⟩ x4).setCell ⟨g, 5, none⟩ x5) :=
  (((((h.setCell (p := ⟨g, 0, none⟩) hg x0).setCell (p := ⟨g, 1, none⟩) hg x1).setCell (p := ⟨g, 2, none⟩) hg x2).setCell (p := ⟨g, 3, none⟩) hg x3).setCell (p := ⟨g, 4, none⟩) hg x4).setCell (p := ⟨g, 5, none⟩) hg x5

theorem wrap_u64_mod (a : Nat) : IntKind.u64.wrap (a : Int) = ((a % 18446744073709551616 : Nat) : Int) := by
  unfold IntKind.wrap
  simp [IntKind.bits, IntKind.signed]

theorem shl_shr_16 (a : Nat) : IntKind.u64.wrap ((a : Int) * 281474976710656) / 281474976710656 = ((a % 65536 : Nat) : Int) := by
  have e : (a : Int) * 281474976710656 = ((a * 281474976710656 : Nat) : Int) := by simp
  rw [e, wrap_u64_mod]
  omega

theorem shl_shr_32 (a : Nat) : IntKind.u64.wrap ((a : Int) * 4294967296) / 4294967296 = ((a % 4294967296 : Nat) : Int) := by
  have e : (a : Int) * 4294967296 = ((a * 4294967296 : Nat) : Int) := by simp
  rw [e, wrap_u64_mod]
  omega


end Go.Proofs.YtdbfkfbncmbfcaaGreatDoor
