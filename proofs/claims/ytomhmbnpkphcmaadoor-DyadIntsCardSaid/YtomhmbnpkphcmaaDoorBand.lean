/- What stays of a band of memory: for orders that are drawn: boxes laid early or late, calls between. -/
import Derived.Test.YtomhmbnpkphcmaaDoorDyadG
namespace Go.Proofs.YtomhmbnpkphcmaaDoor
set_option linter.unusedVariables false
open Go.RowKit

/-- the blocks from B up to E are as they were -/
def Band (B E : Nat) (w w' : World) : Prop := E ≤ w'.heap.size ∧ ∀ k, B ≤ k → k < E → w'.heap[k]? = w.heap[k]?

theorem Band.refl (B : Nat) (w : World) : Band B w.heap.size w w := ⟨Nat.le_refl _, fun _ _ _ => rfl⟩
theorem Band.set {B E : Nat} {w w' : World} (h : Band B E w w') {g : Nat} (hg : g < B ∨ E ≤ g) (j : Nat) (v : Value) : Band B E w (w'.setCell ⟨g, j, none⟩ v) :=
  ⟨by have := h.1; simpa using this, fun k h1 h2 => (Below.heap_setCell w' ⟨g, j, none⟩ v k (by show k ≠ g; omega)).trans (h.2 k h1 h2)⟩
theorem Band.alloc {B E : Nat} {w w' : World} (h : Band B E w w') (o : Obj) : Band B E w (w'.alloc o) :=
  ⟨by have := h.1; simp; omega, fun k h1 h2 => ((below1 w' o).block k (by have := h.1; omega)).trans (h.2 k h1 h2)⟩
theorem Band.below {B E : Nat} {w w' w'' : World} (h : Band B E w w') (hb : Below w'.heap.size w' w'') : Band B E w w'' :=
  ⟨Nat.le_trans h.1 hb.size, fun k h1 h2 => (hb.block k (by have := h.1; omega)).trans (h.2 k h1 h2)⟩
theorem Band.drew {B E : Nat} {w w' : World} (h : Band B E w w') (n : Nat) : Band B E w (w'.drewN n) := ⟨h.1, h.2⟩

theorem DV.band {B : Nat} {w w' : World} {x : Value} {d : D} (h : DV B w x d) (hb : Band B w.heap.size w w') : DV B w' x d := by
  obtain ⟨A, c, rfl, h1, h2, h3, h4⟩ := h
  obtain ⟨A', n', c', e, hn', h5⟩ := h4
  injection e with ea en ec
  subst ea en ec
  rcases h5 with h5 | ⟨b, arr, e', hB, hh, hc⟩
  · subst h5
    have hz : nd 64 d.n = 0 := by omega
    refine ⟨A, 0, rfl, h1, h2, ?_, ⟨A, _, 0, rfl, hn', Or.inl rfl⟩⟩
    obtain ⟨A2, c2, e2, g1, g2, g3, g4⟩ := h3
    exact ⟨A2, c2, e2, g1, g2, g3, fun h => by omega⟩
  · have hlt := lt_size_of_some hh
    have hk := hb.2 b hB hlt
    refine ⟨A, c, rfl, h1, h2, ?_, ⟨A, _, c, rfl, hn', Or.inr ⟨b, arr, e', hB, hk.trans hh, hc⟩⟩⟩
    obtain ⟨A2, c2, e2, g1, g2, g3, g4⟩ := h3
    refine ⟨A2, c2, e2, g1, g2, g3, fun hn => ?_⟩
    obtain ⟨b2, o2, e3, hlt2, hc2⟩ := g4 hn
    injection e2 with e2a e2b e2c
    have hbb : b2 = b := by
      rw [e2a.symm, e'] at e3
      injection e3 with e3
      injection e3 with e3
      exact e3.symm
    subst hbb
    refine ⟨b2, o2, e3, by have := hb.1; omega, fun j hj => ?_⟩
    have hcell := hc2 j hj
    unfold World.cell? at hcell ⊢
    rw [hk]
    exact hcell

/-- a box in a band -/
theorem Box3.band {B : Nat} {w w' : World} {g : Nat} {a b c : Value} (h : Box3 w g a b c) (hb : Band B w.heap.size w w') (hg : B ≤ g) : Box3 w' g a b c := by
  obtain ⟨t, h⟩ := h
  exact ⟨t, (hb.2 g hg (lt_size_of_some h)).trans h⟩

end Go.Proofs.YtomhmbnpkphcmaaDoor
