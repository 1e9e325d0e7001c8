/- Walks of the layer's statements: odd (is it written canonically?). -/
import Derived.Test.YtomhmbnpkphcmaaDoorLawB
namespace Go.Proofs.YtomhmbnpkphcmaaDoor
set_option linter.unusedVariables false
open Go.RowKit

set_option maxHeartbeats 1000000 in
/-- an answer is written canonically -/
theorem oddL_any (d : D) (A : Option Addr) (c : Nat) (w : World) (hd : d.can) (hv : Rd 64 w (.slice A (nd 64 d.n) c) d.n (nd 64 d.n)) :
    Calls Tryd.prog 28 #[.agg #[.bool d.s, .slice A (nd 64 d.n) c, .int .i64 d.e]] w fun e w' => e = .returned (.bool true) ∧ Below w.heap.size w w' := by
  by_cases h0 : d.n = 0
  · have hz : d = D.zero := by
      rcases hd with h | h
      · exact h
      · rw [h0] at h; simp at h
    subst hz
    have hB := below1 w (Obj.cells #[Value.bool D.zero.s, Value.slice A (nd 64 D.zero.n) c, Value.int IntKind.i64 D.zero.e] 26)
    have e1 : D.zero.s = false := rfl
    have e2 : D.zero.e = 0 := rfl
    have e3 : nd 64 D.zero.n = 0 := by decide
    rw [e1, e2, e3] at *
    clear hv hd h0
    go_enter Tryd.func28, Tryd.ntmps28
    go_wp2_with fail
    go_ret
    exact ⟨rfl, hB⟩
  · have hodd : d.n % 2 = 1 := by
      rcases hd with h | h
      · rw [h] at h0; exact absurd rfl h0
      · exact h
    have hnp := nd_pos 64 d.n h0
    have hlen := hv.len
    obtain ⟨_, _, _, hr⟩ := hv.at_
    obtain ⟨b, o, rfl, hb, hcells⟩ := hr hnp
    have hB := below1 w (Obj.cells #[Value.bool d.s, Value.slice (some ⟨b, o, none⟩) (nd 64 d.n) c, Value.int IntKind.i64 d.e] 26)
    have q0 := (hB.cell (p := ⟨b, o, none⟩) hb).trans (hcells 0 hnp)
    have q1 := (hB.cell (p := ⟨b, o + (nd 64 d.n - 1), none⟩) hb).trans (hcells (nd 64 d.n - 1) (by omega))
    have p0 : (((dg 64 d.n 0 : Nat) : Int)).tmod 2 = 1 := by
      have : dg 64 d.n 0 % 2 = 1 := by unfold dg; simp; omega
      rw [Int.tmod_eq_emod_of_nonneg (by omega)]; omega
    have p1 : (((dg 64 d.n (nd 64 d.n - 1) : Nat) : Int) != 0) = true := by
      have : dg 64 d.n (nd 64 d.n - 1) ≠ 0 := by
        intro hz
        have h1 := lt_of_top 64 d.n (nd 64 d.n - 1) (by rw [show nd 64 d.n - 1 + 1 = nd 64 d.n from by omega]; exact lt_nd 64 d.n (by decide)) hz
        have h2 := nd_le_pow 64 d.n h0
        omega
      simp only [bne_iff_ne, ne_eq]
      omega
    have e1 : ((nd 64 d.n : Nat) : Int) == 0 ↔ False := by simp; omega
    generalize hn : nd 64 d.n = n at *
    generalize dg 64 d.n 0 = x0 at *
    generalize dg 64 d.n (n - 1) = x1 at *
    have i1 : ((n : Int) - 1) = ((n - 1 : Nat) : Int) := by omega
    clear hv hd hodd h0 hcells hr
    go_enter Tryd.func28, Tryd.ntmps28
    go_wp2_with fail
    go_ret
    exact ⟨rfl, hB⟩

end Go.Proofs.YtomhmbnpkphcmaaDoor
