/- The rows' two tables: the one of trailing zeros and the one of the formats. -/
import Derived.Test.YtlibhfojfonfjaaGreatDoorPackF
import Derived.Test.YtlibhfojfonfjaaGreatDoorRows
import Derived.Lib.LaidTab
import Derived.Lib.SmallJoins
import Derived.Stop.LaidErr
import Derived.MakeChecks
namespace Go.Proofs.YtlibhfojfonfjaaGreatDoor
set_option linter.unusedVariables false
open Go.RowKit Go.ChangeShapes Go.WideShapes Go.Joins

abbrev laidF : List (String × DataW Unit) := [("math/bits.deBruijn64tab", Rows.laid_math_bits_deBruijn64tab), ("vernier/format.rows", Rows.laid_vernier_format_rows)]

theorem gl_of_laidF {W : World} (h : laidMetH Tryz.prog laidF W) : Gl W := by
  rw [MakeChecks.laidMetH_plain _ _ _ (by kernel_rfl)] at h
  have e : (Rows.laid_math_bits_deBruijn64tab : DataW Unit) = Lib.tabData .u8 (Lib.deBruijn64tab.map Int.ofNat) := by kernel_rfl
  unfold laidF at h
  rw [e] at h
  have t := Lib.tabIs_of_head (show Tryz.prog.globalNamed "math/bits.deBruijn64tab" = some 1 by kernel_rfl) (t := 134) (e := 5) (n := 64) (by kernel_rfl) (by kernel_rfl) (by kernel_rfl) (by kernel_rfl) (by kernel_rfl) h
  have c : ∀ j, j < Lib.deBruijn64tab.length → W.cell? ⟨1, j, none⟩ = some (.int .u8 (Lib.deBruijn64tab.getD j 0 : Nat)) := by
    intro j hj
    have h1 := t.cell (show Tryz.prog.globalNamed "math/bits.deBruijn64tab" = some 1 by kernel_rfl) j (by simpa using hj)
    rw [h1]
    congr 2
    simp [List.getD, hj]
  refine ⟨c, ?_⟩
  have h0 := c 0 (by decide)
  rcases Nat.lt_or_ge 1 W.heap.size with hlt | hge
  · exact hlt
  · unfold World.cell? at h0
    rw [Array.getElem?_eq_none hge] at h0
    simp at h0

/-- a struct of four integers of the table, read -/
theorem row4 {w : World} {base : Nat} {sp : Nat → Bool} {held : Bool} {fuel : Nat} {cs : List Value} {a b c d : Int} {p : List MemPlace}
    (h : DataW.trod (fun _ => ()) Tryz.prog w base sp held fuel 65 cs = some (.agg [.lit (.int .i64 a), .lit (.int .i64 b), .lit (.int .i64 c), .lit (.int .i64 d)], p)) :
    cs[0]? = some (.int .i64 a) ∧ cs[1]? = some (.int .i64 b) ∧ cs[2]? = some (.int .i64 c) ∧ cs[3]? = some (.int .i64 d) := by
  obtain ⟨y0, y1, y2, y3, n, hx, hl, h0, h1, h2, h3⟩ := trod_struct4 Tryz.underlying65 h
  have k0 : Tryz.prog.cellsOf 3 = 1 := by kernel_rfl
  have k4 : Tryz.prog.cellsOf 65 = 4 := by kernel_rfl
  rw [k4] at hl
  simp only [k0] at h0 h1 h2 h3
  obtain ⟨z0, e0, rfl, _⟩ := DataW.trod_int Tryz.underlying3 h0
  obtain ⟨z1, e1, rfl, _⟩ := DataW.trod_int Tryz.underlying3 h1
  obtain ⟨z2, e2, rfl, _⟩ := DataW.trod_int Tryz.underlying3 h2
  obtain ⟨z3, e3, rfl, _⟩ := DataW.trod_int Tryz.underlying3 h3
  simp only [Prod.mk.injEq, DataW.agg.injEq, List.cons.injEq, DataW.lit.injEq, Lit.int.injEq, true_and, and_true] at hx
  obtain ⟨⟨rfl, rfl, rfl, rfl⟩, _⟩ := hx
  match cs, hl with
  | [c0, c1, c2, c3], _ =>
    simp at e0 e1 e2 e3
    subst e0 e1 e2 e3
    exact ⟨rfl, rfl, rfl, rfl⟩

theorem glr_of_laidF {W : World} (h : laidMetH Tryz.prog laidF W) : GlR W := by
  rw [MakeChecks.laidMetH_plain _ _ _ (by kernel_rfl)] at h
  have h2 := h.tail
  obtain ⟨ps, ⟨g', t', cs, fuel, p, q, hg', ht', hvar, hd, _, _⟩, _⟩ := h2
  have hg : Tryz.prog.globalNamed "vernier/format.rows" = some 0 := by kernel_rfl
  have hty : (Tryz.prog.globals[0]?).map (·.type) = some 91 := by kernel_rfl
  obtain rfl := Option.some.inj (hg.symm.trans hg')
  obtain rfl := Option.some.inj (hty.symm.trans ht')
  have k4 : Tryz.prog.cellsOf 65 = 4 := by kernel_rfl
  have k16 : Tryz.prog.cellsOf 91 = 16 := by kernel_rfl
  cases fuel with
  | zero => simp [DataW.trod] at hd
  | succ fuel =>
    simp only [DataW.trod, Tryz.underlying91, k4, k16] at hd
    split at hd
    · rename_i hl
      obtain ⟨xs, hm, hx⟩ := Option.map_eq_some_iff.1 hd
      have hxs : xs.map (·.1) = [.agg [.lit (.int .i64 16), .lit (.int .i64 11), .lit (.int .i64 (-14)), .lit (.int .i64 15)], .agg [.lit (.int .i64 16), .lit (.int .i64 8), .lit (.int .i64 (-126)), .lit (.int .i64 127)], .agg [.lit (.int .i64 32), .lit (.int .i64 24), .lit (.int .i64 (-126)), .lit (.int .i64 127)], .agg [.lit (.int .i64 64), .lit (.int .i64 53), .lit (.int .i64 (-1022)), .lit (.int .i64 1023)]] := by
        have := congrArg Prod.fst hx
        unfold Rows.laid_vernier_format_rows at this
        exact DataW.agg.inj this
      have at_ : ∀ (i : Nat) (a b c d : Int), i < 4 → (xs.map (·.1))[i]? = some (.agg [.lit (.int .i64 a), .lit (.int .i64 b), .lit (.int .i64 c), .lit (.int .i64 d)]) → 
          W.cell? ⟨0, i * 4, none⟩ = some (.int .i64 a) ∧ W.cell? ⟨0, i * 4 + 1, none⟩ = some (.int .i64 b) ∧ W.cell? ⟨0, i * 4 + 2, none⟩ = some (.int .i64 c) ∧ W.cell? ⟨0, i * 4 + 3, none⟩ = some (.int .i64 d) := by
        intro i a b c d hi hr
        obtain ⟨y, hy, hf⟩ := Lib.mapM_at hm i i (by simp [hi])
        have hy1 : y.1 = .agg [.lit (.int .i64 a), .lit (.int .i64 b), .lit (.int .i64 c), .lit (.int .i64 d)] := by
          simpa [hy] using hr
        obtain ⟨y1, y2⟩ := y
        simp only at hy1
        subst hy1
        obtain ⟨r0, r1, r2, r3⟩ := row4 hf
        have key : ∀ j, j < 4 → W.cell? ⟨0, i * 4 + j, none⟩ = ((cs.toList.drop (i * 4)).take 4)[j]? := by
          intro j hj
          rw [World.var?_cell hg hvar]
          simp [List.getElem?_drop, hj]
        exact ⟨(key 0 (by decide)).trans r0, (key 1 (by decide)).trans r1, (key 2 (by decide)).trans r2, (key 3 (by decide)).trans r3⟩
      have G : ∀ f : Nat, f < 4 → W.cell? ⟨0, f * 4, none⟩ = some (.int .i64 ((fm f).w : Int)) ∧ W.cell? ⟨0, f * 4 + 1, none⟩ = some (.int .i64 ((fm f).p : Int)) ∧ W.cell? ⟨0, f * 4 + 2, none⟩ = some (.int .i64 (fm f).emin) ∧ W.cell? ⟨0, f * 4 + 3, none⟩ = some (.int .i64 (fm f).emax) := by
        intro f hf
        have h4 : f = 0 ∨ f = 1 ∨ f = 2 ∨ f = 3 := by omega
        rcases h4 with rfl | rfl | rfl | rfl
        · exact at_ 0 16 11 (-14) 15 (by decide) (by rw [hxs]; rfl)
        · exact at_ 1 16 8 (-126) 127 (by decide) (by rw [hxs]; rfl)
        · exact at_ 2 32 24 (-126) 127 (by decide) (by rw [hxs]; rfl)
        · exact at_ 3 64 53 (-1022) 1023 (by decide) (by rw [hxs]; rfl)
      refine ⟨G, ?_⟩
      have h0 := (G 0 (by decide)).1
      rcases Nat.lt_or_ge 0 W.heap.size with hlt | hge
      · exact hlt
      · unfold World.cell? at h0
        rw [Array.getElem?_eq_none hge] at h0
        simp at h0
    · cases hd

end Go.Proofs.YtlibhfojfonfjaaGreatDoor
