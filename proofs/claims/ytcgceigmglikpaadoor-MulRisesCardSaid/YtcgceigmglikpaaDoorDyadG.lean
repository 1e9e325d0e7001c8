/- Walks of layer 3: FromInt, Scale, Floor. -/
import Derived.Test.YtcgceigmglikpaaDoorDyadF
namespace Go.Proofs.YtcgceigmglikpaaDoor
set_option linter.unusedVariables false
open Go.RowKit

theorem Box3.set0 {w : World} {g : Nat} {a b c : Value} (h : Box3 w g a b c) (x : Value) : Box3 (w.setCell ⟨g, 0, none⟩ x) g x b c := by
  obtain ⟨t, h⟩ := h
  refine ⟨t, ?_⟩
  simp [World.setCell, Array.getElem?_modify, h]
theorem Box3.set1 {w : World} {g : Nat} {a b c : Value} (h : Box3 w g a b c) (x : Value) : Box3 (w.setCell ⟨g, 1, none⟩ x) g a x c := by
  obtain ⟨t, h⟩ := h
  refine ⟨t, ?_⟩
  simp [World.setCell, Array.getElem?_modify, h]
theorem Box3.set2 {w : World} {g : Nat} {a b c : Value} (h : Box3 w g a b c) (x : Value) : Box3 (w.setCell ⟨g, 2, none⟩ x) g a b x := by
  obtain ⟨t, h⟩ := h
  refine ⟨t, ?_⟩
  simp [World.setCell, Array.getElem?_modify, h]
theorem Box3.setAll {w : World} {g : Nat} {a b c : Value} (h : Box3 w g a b c) (x y z : Value) : Box3 (((w.setCell ⟨g, 0, none⟩ x).setCell ⟨g, 1, none⟩ y).setCell ⟨g, 2, none⟩ z) g x y z := ((h.set0 x).set1 y).set2 z
theorem Box3.otherAll {w : World} {g g' : Nat} {a b c : Value} (h : Box3 w g a b c) (hg : g' ≠ g) (x y z : Value) : Box3 (((w.setCell ⟨g', 0, none⟩ x).setCell ⟨g', 1, none⟩ y).setCell ⟨g', 2, none⟩ z) g a b c :=
  ((h.setOther (p := ⟨g', 0, none⟩) hg x).setOther (p := ⟨g', 1, none⟩) hg y).setOther (p := ⟨g', 2, none⟩) hg z

theorem Rd.one (w : World) (x : Nat) (hx : x < 18446744073709551616) : Rd 64 (w.alloc (.cells #[.int .u64 x] 22)) (.slice (some ⟨w.heap.size, 0, none⟩) 1 1) x 1 := by
  refine ⟨_, 1, rfl, Nat.le_refl _, by omega, by simpa using hx, fun _ => ⟨w.heap.size, 0, rfl, by simp, fun j hj => ?_⟩⟩
  obtain rfl : j = 0 := by omega
  rw [World.cell?_alloc_at _ _ _ _ rfl]
  have : dg 64 x 0 = x := by unfold dg; simp; exact hx
  rw [this]; rfl

def fromIntD (x : Int) : D := oddD ⟨decide (x < 0), x.natAbs, 0⟩

end Go.Proofs.YtcgceigmglikpaaDoor
