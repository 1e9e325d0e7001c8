/- What comes in as a Shape. -/
import Derived.Test.YtomhmbnpkphcmaaDoorOpen
namespace Go.Proofs.YtomhmbnpkphcmaaDoor
set_option linter.unusedVariables false
open Go.RowKit Go.ChangeShapes Go.WideShapes Go.Deep Go.Joins

theorem array5 {α : Type} {cs : Array α} (h : cs.size = 5) : ∃ c0 c1 c2 c3 c4, cs = #[c0, c1, c2, c3, c4] := by
  obtain ⟨l⟩ := cs
  match l, h with
  | [c0, c1, c2, c3, c4], _ => exact ⟨c0, c1, c2, c3, c4, rfl⟩

theorem open_shape {H : Type} {enc : TypeId × Value → H} {W : World} {base : Nat} {v : Value} {d : DataW H} {p : List MemPlace} (hv : Value.okWide Tryd.prog W .any base 43 v) (h : DataW.Trod enc Tryd.prog W 0 (fun _ => true) true 43 v d p)
    (hw : ∀ m ∈ d.weights Tryd.prog 43, m ≤ reachBytes) (hlt : ∀ x ∈ p, x.block < W.heap.size) :
    ∃ s A n c e N b q, v = .agg #[.bool s, .slice A n c, .int .i64 e, .int .i64 b, .int .i64 q] ∧ Rd 64 W (.slice A n c) N n ∧ -9223372036854775808 ≤ e ∧ e ≤ 9223372036854775807 ∧ (A = none → c = 0) ∧
      (-9223372036854775808 ≤ b ∧ b ≤ 9223372036854775807) ∧ (-9223372036854775808 ≤ q ∧ q ≤ 9223372036854775807) := by
  obtain ⟨cs, rfl, hsz⟩ := okWide_struct Tryd.underlying43 hv
  have hC : Tryd.prog.cellsOf 43 = 5 := by kernel_rfl
  obtain ⟨c0, c1, c2, c3, c4, rfl⟩ := array5 (hsz.trans hC)
  obtain ⟨fuel, hf⟩ := h
  obtain ⟨y0, y1, y2, m, hx, _, hy0, hy1, hy2⟩ := trod_struct3 Tryd.underlying43 hf
  have k0 : Tryd.prog.cellsOf 26 = 3 := by kernel_rfl
  have k2 : Tryd.prog.cellsOf 3 = 1 := by kernel_rfl
  simp only [k0, k2, Value.cells, List.drop_zero, List.drop_succ_cons, List.take_succ_cons, List.take_zero] at hy0 hy1 hy2
  simp only [Prod.mk.injEq] at hx
  obtain ⟨rfl, rfl⟩ := hx
  obtain ⟨b, e1, rb, wb⟩ := DataW.trod_int Tryd.underlying3 hy1
  obtain ⟨q, e2, rq, wq⟩ := DataW.trod_int Tryd.underlying3 hy2
  obtain ⟨s, A, n, c, e, N, rfl, rfl, rfl, hR, h1, h2, hA⟩ := open_dyad_cells hy0 (fun m hm => hw m (by
    simp only [DataW.weights, Tryd.underlying43]
    show m ∈ DataW.weightsEach Tryd.prog [26, 3, 3] _
    simp only [DataW.weightsEach, List.mem_append]
    exact Or.inl hm)) (fun x hx => hlt x (List.mem_append_left _ hx))
  injection e1 with e1
  injection e2 with e2
  subst e1 e2
  have rng : ∀ {z : Int}, (Lit.int .i64 z).wf = true → -9223372036854775808 ≤ z ∧ z ≤ 9223372036854775807 := by
    intro z wz
    simp only [Lit.wf, Bool.and_eq_true, decide_eq_true_eq] at wz
    have w1 := wz.1
    have w2 := wz.2
    rw [show IntKind.i64.min = -9223372036854775808 from by decide] at w1
    rw [show IntKind.i64.max = 9223372036854775807 from by decide] at w2
    exact ⟨w1, w2⟩
  exact ⟨s, A, n, c, e, N, b, q, rfl, hR, h1, h2, hA, rng wb, rng wq⟩

end Go.Proofs.YtomhmbnpkphcmaaDoor
