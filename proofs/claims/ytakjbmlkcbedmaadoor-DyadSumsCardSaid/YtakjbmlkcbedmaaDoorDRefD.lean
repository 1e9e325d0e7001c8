/- The walk of vernierref03.Answer. -/
import Derived.Test.YtakjbmlkcbedmaaDoorDRefC
namespace Go.Proofs.YtakjbmlkcbedmaaDoor
set_option linter.unusedVariables false
set_option linter.unusedSimpArgs false
open Go.RowKit

set_option maxRecDepth 100000 in
set_option maxHeartbeats 4000000 in
theorem rAnswer_any (v : Value) (d : D) (w : World) (hv : NumV w v d) (hn : nd 32 d.n ≤ 20000) (he : -10000000 ≤ d.e ∧ d.e ≤ 10000000) :
    Calls Tryd.prog 29 #[v] w fun e' w' => ∃ x, e' = .returned (.tuple #[x, .int .i64 (ansD d).2]) ∧ DV w.heap.size w' x (ansD d).1 ∧ Below w.heap.size w w' := by
  have hC := fun wx h => rCanonical_any v d wx h hn he
  obtain ⟨V, rfl, r⟩ := hv
  obtain ⟨A, c, rfl, -, -⟩ := r.form
  have hb0 := below2 w (.cells #[.bool d.s, .slice A (nd 32 d.n) c, .int .i64 d.e] 53) (.cells #[.bool false, .slice none 0 0, .int .i64 0] 26)
  have b2 := Box3.new1 w (.cells #[.bool d.s, .slice A (nd 32 d.n) c, .int .i64 d.e] 53) (.bool false) (.slice none 0 0) (.int .i64 0) 26
  have b1 := (Box3.new w (.bool d.s) (.slice A (nd 32 d.n) c) (.int .i64 d.e) 53).alloc (.cells #[.bool false, .slice none 0 0, .int .i64 0] 26)
  have hCC := hC _ ⟨_, rfl, r.below hb0⟩
  obtain ⟨W, hW⟩ : ∃ W, W = (w.alloc (.cells #[.bool d.s, .slice A (nd 32 d.n) c, .int .i64 d.e] 53)).alloc (.cells #[.bool false, .slice none 0 0, .int .i64 0] 26) := ⟨_, rfl⟩
  have hWs : w.heap.size + 1 < W.heap.size := by rw [hW]; simp
  rw [← hW] at hb0 b1 b2 hCC
  obtain ⟨p0, p1, p2, -, -⟩ := b1.cells
  have HC := Lib.hid hCC
  have HB := Lib.hid hb0
  have B3 := Lib.hid b2
  have HWs := Lib.hid hWs
  obtain ⟨S, hS⟩ : ∃ S, S = ansD d := ⟨_, rfl⟩
  rw [← hS]
  unfold ansD at hS
  generalize oddD d = o at *
  clear hC r hb0 b1 b2 hCC hWs
  go_enter Tryd.func29, Tryd.ntmps29
  go_upto_region 1 with (fail)
  rw [← hW]
  clear hW
  go_wp2_with fail
  refine HC.out.mono ?_
  rintro _ w1 ⟨_, rfl, hdv, hb1⟩
  obtain ⟨A2, c2, rfl, hc1, hc2, hrd, hfr⟩ := hdv
  have hB1 := rBad_any o.s A2 (nd 64 o.n) c2 o.e
  have hb2 := below1 w1 (.cells #[.bool o.s, .slice A2 (nd 64 o.n) c2, .int .i64 o.e] 26)
  have V5 := Lib.hid (Box3.new w1 (.bool o.s) (.slice A2 (nd 64 o.n) c2) (.int .i64 o.e) 26)
  have HBad := Lib.hid (fun wx => hB1 wx hc2)
  have hb := hb1.trans (hb2.mono hb1.size)
  replace HB := Lib.hid (keep_belowB HB.out hb (by have := HB.out.size; omega))
  replace B3 := Lib.hid (B3.out.keep hb)
  have HR := Lib.hid (And.intro (hrd.below hb2) (hfr.below hb2))
  have HCc := Lib.hid (And.intro hc1 hc2)
  obtain ⟨x0, x1, x2, -, -⟩ := V5.out.cells
  clear hb1 hb2 hb hB1 HC hrd hfr hc1 hc2 p0 p1 p2
  go_wp2_with fail
  refine (HBad.out _).mono ?_
  rintro _ w2 ⟨rfl, hb1⟩
  replace HB := Lib.hid (keep_belowB HB.out hb1 (by have := HB.out.size; omega))
  replace B3 := Lib.hid (B3.out.keep hb1)
  replace V5 := Lib.hid (V5.out.keep hb1)
  replace HR := Lib.hid (And.intro (HR.out.1.below hb1) (HR.out.2.below hb1))
  clear hb1 HBad x0 x1 x2
  obtain ⟨x0, x1, x2, -, -⟩ := V5.out.cells
  obtain ⟨y0, y1, y2, yf, -⟩ := B3.out.cells
  by_cases hr : refD (nd 64 o.n) o.e = 0
  · rw [hr]
    have hS' : S = (o, 0) := by
      rw [hS]
      have := refD_zero hr
      rw [if_neg (by omega), if_neg (by omega)]
    have HS := Lib.hid hS'
    clear hS hr hS'
    go_wp2_with fail
    obtain ⟨q0, q1, q2, -, -⟩ := (B3.out.setAll (.bool o.s) (.slice A2 (nd 64 o.n) c2) (.int .i64 o.e)).cells
    refine bodyPost_ret (v := .tuple #[.agg #[.bool o.s, .slice A2 (nd 64 o.n) c2, .int .i64 o.e], .int .i64 0]) (by simp [results, Tryd.results29, go_sem, q0, q1, q2]) rfl ?_
    have hg := HWs.out
    have h := rf_set64 (rf_set64 (rf_set64 HR.out (p := ⟨w.heap.size + 1, 0, none⟩) hg (.bool o.s)) (p := ⟨w.heap.size + 1, 1, none⟩) hg (.slice A2 (nd 64 o.n) c2)) (p := ⟨w.heap.size + 1, 2, none⟩) hg (.int .i64 o.e)
    exact ⟨_, by rw [HS.out], by rw [HS.out]; exact ⟨A2, c2, rfl, HCc.out.1, HCc.out.2, h.1, h.2.mono (by omega)⟩, below_box HB.out (by omega) _ _ _⟩
  · have hne : (refD (nd 64 o.n) o.e != 0) = true := by simpa using hr
    have hS' : S = (D.zero, refD (nd 64 o.n) o.e) := by
      rw [hS]
      unfold refD at hr ⊢
      split
      · rfl
      · split
        · rfl
        · rename_i h1 h2; rw [if_neg h1, if_neg h2] at hr; exact absurd rfl hr
    have HS := Lib.hid hS'
    generalize refD (nd 64 o.n) o.e = rr at *
    clear hS hr hS'
    go_wp2_with fail
    obtain ⟨q0, q1, q2, -, -⟩ := (B3.out.setAll (.bool false) (.slice none 0 0) (.int .i64 0)).cells
    refine bodyPost_ret (v := .tuple #[.agg #[.bool false, .slice none 0 0, .int .i64 0], .int .i64 rr]) (by simp [results, Tryd.results29, go_sem, y0, y1, y2, q0, q1, q2]) rfl ?_
    exact ⟨_, by rw [HS.out], by rw [HS.out]; exact DV.zero, by first | exact HB.out | exact below_box HB.out (by omega) _ _ _⟩

end Go.Proofs.YtakjbmlkcbedmaaDoor
