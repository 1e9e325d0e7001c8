/- The row's table: what is listed is what the walks ask for. -/
import Derived.Test.YtakjbmlkcbedmaaDoorOpen
import Derived.Lib.LaidTab
namespace Go.Proofs.YtakjbmlkcbedmaaDoor
set_option linter.unusedVariables false
open Go.RowKit Go.ChangeShapes Go.WideShapes

theorem gl_of_laid {W : World} (h : laidMetH Tryd.prog [("math/bits.deBruijn64tab", Rows.laid_math_bits_deBruijn64tab)] W) : Gl W := by
  rw [MakeChecks.laidMetH_plain _ _ _ (by kernel_rfl)] at h
  have e : (Rows.laid_math_bits_deBruijn64tab : DataW Unit) = Lib.tabData .u8 (Lib.deBruijn64tab.map Int.ofNat) := by kernel_rfl
  rw [e] at h
  have t := Lib.tabIs_of_head (show Tryd.prog.globalNamed "math/bits.deBruijn64tab" = some 0 by kernel_rfl) (t := 82) (e := 5) (n := 64) (by kernel_rfl) (by kernel_rfl) (by kernel_rfl) (by kernel_rfl) (by kernel_rfl) h
  have c : ∀ j, j < Lib.deBruijn64tab.length → W.cell? ⟨0, j, none⟩ = some (.int .u8 (Lib.deBruijn64tab.getD j 0 : Nat)) := by
    intro j hj
    have h1 := t.cell (show Tryd.prog.globalNamed "math/bits.deBruijn64tab" = some 0 by kernel_rfl) j (by simpa using hj)
    rw [h1]
    congr 2
    simp [List.getD, hj]
  refine ⟨c, ?_⟩
  have h0 := c 0 (by decide)
  rcases Nat.lt_or_ge 0 W.heap.size with hlt | hge
  · exact hlt
  · unfold World.cell? at h0
    rw [Array.getElem?_eq_none hge] at h0
    simp at h0

end Go.Proofs.YtakjbmlkcbedmaaDoor
