/- What comes in as a format, a mode and four data: opened. -/
import Derived.Test.YtcgceigmglikpaaDoorOpenTwo
import Derived.Test.YtcgceigmglikpaaDoorFusG
namespace Go.Proofs.YtcgceigmglikpaaDoor
set_option linter.unusedVariables false
open Go.RowKit Go.ChangeShapes Go.WideShapes Go.Joins Go.Deep Go.WideElems

theorem array6 {a : Array Value} (h : a.size = 6) : ∃ c0 c1 c2 c3 c4 c5, a = #[c0, c1, c2, c3, c4, c5] := by
  obtain ⟨l⟩ := a
  match l, h with
  | [c0, c1, c2, c3, c4, c5], _ => exact ⟨c0, c1, c2, c3, c4, c5, rfl⟩

theorem open_agg6 {H : Type} {enc : TypeId × Value → H} {P : Program} {w : World} {base : Nat} {spare : Nat → Bool} {held : Bool} {r : Reach} {b0 : Nat} {t : TypeId} {f0 f1 f2 f3 f4 f5 : Field} {v : Value} {d : DataW H} {p : List MemPlace}
    (hs : P.underlying t = some (.struct #[f0, f1, f2, f3, f4, f5])) (hone : oneCellFields P #[f0, f1, f2, f3, f4, f5] = true) (hC : P.cellsOf t = 6)
    (hv : Value.okWide P w r b0 t v) (h : DataW.Trod enc P w base spare held t v d p) :
    ∃ (v0 v1 v2 v3 v4 v5 : Value) (y0 y1 y2 y3 y4 y5 : DataW H × List MemPlace) (n : Nat), v = .agg #[v0, v1, v2, v3, v4, v5] ∧
      DataW.trod enc P w base spare held n f0.type [v0] = some y0 ∧ DataW.trod enc P w base spare held n f1.type [v1] = some y1 ∧ DataW.trod enc P w base spare held n f2.type [v2] = some y2 ∧ DataW.trod enc P w base spare held n f3.type [v3] = some y3 ∧
      DataW.trod enc P w base spare held n f4.type [v4] = some y4 ∧ DataW.trod enc P w base spare held n f5.type [v5] = some y5 := by
  obtain ⟨cs, rfl, hsz⟩ := okWide_struct hs hv
  obtain ⟨c0, c1, c2, c3, c4, c5, rfl⟩ := array6 (hsz.trans hC)
  obtain ⟨fuel, hf⟩ := h
  obtain ⟨xs, n, _, _, hl, hlen, hg⟩ := DataW.trod_struct hs hf
  match xs, hlen with
  | [y0, y1, y2, y3, y4, y5], _ =>
    have h0 := hg 0 f0 rfl
    have h1 := hg 1 f1 rfl
    have h2 := hg 2 f2 rfl
    have h3 := hg 3 f3 rfl
    have h4 := hg 4 f4 rfl
    have h5 := hg 5 f5 rfl
    obtain ⟨o0, k0⟩ := hone_of hone 0 f0 rfl
    obtain ⟨o1, k1⟩ := hone_of hone 1 f1 rfl
    obtain ⟨o2, k2⟩ := hone_of hone 2 f2 rfl
    obtain ⟨o3, k3⟩ := hone_of hone 3 f3 rfl
    obtain ⟨o4, k4⟩ := hone_of hone 4 f4 rfl
    obtain ⟨o5, k5⟩ := hone_of hone 5 f5 rfl
    exact ⟨c0, c1, c2, c3, c4, c5, y0, y1, y2, y3, y4, y5, n, rfl, by simpa [Value.cells, o0, k0] using h0, by simpa [Value.cells, o1, k1] using h1, by simpa [Value.cells, o2, k2] using h2, by simpa [Value.cells, o3, k3] using h3, by simpa [Value.cells, o4, k4] using h4, by simpa [Value.cells, o5, k5] using h5⟩

set_option maxRecDepth 100000 in
theorem open_four {H : Type} {enc : TypeId × Value → H} {W : World} {base : Nat} {v : Value} {d : DataW H} {p : List MemPlace} (hv : Value.okWide Tryd.prog W .any base 68 v) (h : DataW.Trod enc Tryd.prog W 0 (fun _ => true) true 68 v d p) :
    ∃ (f m : Int) (a b c e : Nat), v = .agg (fourA f m a b c e) ∧ a < 18446744073709551616 ∧ b < 18446744073709551616 ∧ c < 18446744073709551616 ∧ e < 18446744073709551616 ∧ (-9223372036854775808 ≤ f ∧ f ≤ 9223372036854775807) ∧ (-9223372036854775808 ≤ m ∧ m ≤ 9223372036854775807) := by
  obtain ⟨v0, v1, v2, v3, v4, v5, y0, y1, y2, y3, y4, y5, n, rfl, h0, h1, h2, h3, h4, h5⟩ := open_agg6 Tryd.underlying68 (by kernel_rfl) (by kernel_rfl) hv h
  obtain ⟨f, e0, rfl, w0⟩ := DataW.trod_int Tryd.underlying3 h0
  obtain ⟨m, e1, rfl, w1⟩ := DataW.trod_int Tryd.underlying3 h1
  obtain ⟨a, e2, rfl, w2⟩ := DataW.trod_int Tryd.underlying22 h2
  obtain ⟨b, e3, rfl, w3⟩ := DataW.trod_int Tryd.underlying22 h3
  obtain ⟨c, e4, rfl, w4⟩ := DataW.trod_int Tryd.underlying22 h4
  obtain ⟨e, e5, rfl, w5⟩ := DataW.trod_int Tryd.underlying22 h5
  injection e0 with e0
  injection e1 with e1
  injection e2 with e2
  injection e3 with e3
  injection e4 with e4
  injection e5 with e5
  subst e0 e1 e2 e3 e4 e5
  simp only [Lit.wf, Bool.and_eq_true, decide_eq_true_eq] at w0 w1 w2 w3 w4 w5
  rw [show IntKind.i64.min = -9223372036854775808 from by decide, show IntKind.i64.max = 9223372036854775807 from by decide] at w0 w1
  rw [show IntKind.u64.min = 0 from by decide, show IntKind.u64.max = 18446744073709551615 from by decide] at w2 w3 w4 w5
  refine ⟨f, m, a.toNat, b.toNat, c.toNat, e.toNat, ?_, by omega, by omega, by omega, by omega, w0, w1⟩
  unfold fourA
  rw [Int.toNat_of_nonneg w2.1, Int.toNat_of_nonneg w3.1, Int.toNat_of_nonneg w4.1, Int.toNat_of_nonneg w5.1]

end Go.Proofs.YtcgceigmglikpaaDoor
