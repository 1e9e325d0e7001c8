/- More words for memory: boxes of structs, as they stand behind a call. -/
import Derived.Test.YtcgceigmglikpaaDoorDyadC
namespace Go.Proofs.YtcgceigmglikpaaDoor
set_option linter.unusedVariables false
open Go.RowKit

/-- block g is three cells, not frozen -/
def Box3 (w : World) (g : Nat) (a b c : Value) : Prop := ∃ t, w.heap[g]? = some (.cells #[a, b, c] t (0, 0))

theorem Box3.cells {w : World} {g : Nat} {a b c : Value} (h : Box3 w g a b c) :
    w.cell? ⟨g, 0, none⟩ = some a ∧ w.cell? ⟨g, 1, none⟩ = some b ∧ w.cell? ⟨g, 2, none⟩ = some c ∧ (∀ j, w.frozen? ⟨g, j, none⟩ = false) ∧ g < w.heap.size := by
  obtain ⟨t, h⟩ := h
  refine ⟨?_, ?_, ?_, fun j => ?_, lt_size_of_some h⟩
  · unfold World.cell?; simp only [h]; rfl
  · unfold World.cell?; simp only [h]; rfl
  · unfold World.cell?; simp only [h]; rfl
  · unfold World.frozen?; simp only [h]; simp

theorem Box3.keep {w w' : World} {g : Nat} {a b c : Value} (h : Box3 w g a b c) (hb : Below w.heap.size w w') : Box3 w' g a b c := by
  obtain ⟨t, h⟩ := h
  exact ⟨t, (hb.block g (lt_size_of_some h)).trans h⟩

theorem Box3.alloc {w : World} {g : Nat} {a b c : Value} (h : Box3 w g a b c) (o : Obj) : Box3 (w.alloc o) g a b c := h.keep ((Below.refl _ _).alloc (Nat.le_refl _) o)
theorem Box3.new (w : World) (a b c : Value) (t : TypeId) : Box3 (w.alloc (.cells #[a, b, c] t)) w.heap.size a b c := ⟨t, heap_alloc_at w _⟩
theorem Box3.new1 (w : World) (o : Obj) (a b c : Value) (t : TypeId) : Box3 ((w.alloc o).alloc (.cells #[a, b, c] t)) (w.heap.size + 1) a b c :=
  ⟨t, by have := heap_alloc_at (w.alloc o) (.cells #[a, b, c] t); simpa using this⟩
theorem Box3.new2 (w : World) (o o' : Obj) (a b c : Value) (t : TypeId) : Box3 (((w.alloc o).alloc o').alloc (.cells #[a, b, c] t)) (w.heap.size + 1 + 1) a b c :=
  ⟨t, by have := heap_alloc_at ((w.alloc o).alloc o') (.cells #[a, b, c] t); simpa using this⟩

theorem below1 (w : World) (o : Obj) : Below w.heap.size w (w.alloc o) := (Below.refl _ _).alloc (Nat.le_refl _) _
theorem below2 (w : World) (o o' : Obj) : Below w.heap.size w ((w.alloc o).alloc o') := (below1 w o).alloc (by simp) _
theorem below3 (w : World) (o o' o'' : Obj) : Below w.heap.size w (((w.alloc o).alloc o').alloc o'') := (below2 w o o').alloc (by simp; omega) _

/-- three stores into one box -/
theorem below_box {B : Nat} {w0 w : World} (h : Below B w0 w) {g : Nat} (hg : B ≤ g) (a b c : Value) : Below B w0 (((w.setCell ⟨g, 0, none⟩ a).setCell ⟨g, 1, none⟩ b).setCell ⟨g, 2, none⟩ c) :=
  ((h.setCell hg _).setCell hg _).setCell hg _
theorem DV.setBox {B : Nat} {w : World} {x : Value} {d : D} (h : DV B w x d) {g : Nat} (hg : g < B) (a b c : Value) : DV B (((w.setCell ⟨g, 0, none⟩ a).setCell ⟨g, 1, none⟩ b).setCell ⟨g, 2, none⟩ c) x d :=
  ((h.setCell hg _).setCell hg _).setCell hg _

theorem cell_box_other {w : World} {g g' o : Nat} {a b c x : Value} (hne : g' ≠ g) (h : w.cell? ⟨g', o, none⟩ = some x) :
    (((w.setCell ⟨g, 0, none⟩ a).setCell ⟨g, 1, none⟩ b).setCell ⟨g, 2, none⟩ c).cell? ⟨g', o, none⟩ = some x := by
  rw [World.cell?_setCell_other _ _ _ _ (fun e => by injection e with e1; omega), World.cell?_setCell_other _ _ _ _ (fun e => by injection e with e1; omega), World.cell?_setCell_other _ _ _ _ (fun e => by injection e with e1; omega)]
  exact h

/-- what is below B, and behind a call -/
theorem keep_belowB {B : Nat} {w0 w1 w2 : World} (h : Below B w0 w1) (hb : Below w1.heap.size w1 w2) (hB : B ≤ w0.heap.size) : Below B w0 w2 := h.trans (hb.mono (Nat.le_trans hB h.size))

end Go.Proofs.YtcgceigmglikpaaDoor
