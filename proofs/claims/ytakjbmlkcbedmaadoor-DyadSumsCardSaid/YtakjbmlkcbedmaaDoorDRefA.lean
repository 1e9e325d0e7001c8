/- Walks of vernierref03: SignOf, Opposite, Of. Printed by gen/dref.py. -/
import Derived.Test.YtakjbmlkcbedmaaDoorDRH
import Derived.Test.YtakjbmlkcbedmaaDoorDRF
import Derived.Test.YtakjbmlkcbedmaaDoorDRefL
namespace Go.Proofs.YtakjbmlkcbedmaaDoor
set_option linter.unusedVariables false
set_option linter.unusedSimpArgs false
open Go.RowKit

theorem rSignOf_any (v : Value) (d : D) (w : World) (hv : NumV w v d) :
    Calls Tryd.prog 35 #[v] w fun e w' => e = .returned (.int .i64 (sgnD d)) ∧ Below w.heap.size w w' := by
  obtain ⟨V, rfl, r⟩ := hv
  obtain ⟨A, c, rfl, -, -⟩ := r.form
  have HB := Lib.hid (below1 w (.cells #[.bool d.s, .slice A (nd 32 d.n) c, .int .i64 d.e] 53))
  obtain ⟨S, hS⟩ : ∃ S, S = sgnD d := ⟨_, rfl⟩
  rw [← hS]
  unfold sgnD at hS
  by_cases h0 : d.n = 0
  · rw [if_pos h0] at hS
    have hz : nd 32 d.n = 0 := by rw [h0]; exact nd_zero 32
    rw [hz]
    rw [hz] at HB
    have HS := Lib.hid hS
    clear r hS h0 hz
    go_enter Tryd.func35, Tryd.ntmps35
    go_wp2_with fail
    go_ret
    exact ⟨by rw [HS.out]; rfl, HB.out⟩
  · rw [if_neg h0] at hS
    have hp := nd_pos 32 d.n h0
    have hz : (((nd 32 d.n : Nat) : Int) == 0) = false := by rw [beq_eq_false_iff_ne]; omega
    generalize nd 32 d.n = m at *
    cases hs : d.s
    · rw [hs] at hS HB
      have HS := Lib.hid hS
      clear r hS h0 hs
      go_enter Tryd.func35, Tryd.ntmps35
      go_wp2_with fail
      go_ret
      exact ⟨by rw [HS.out]; rfl, HB.out⟩
    · rw [hs] at hS HB
      have HS := Lib.hid hS
      clear r hS h0 hs
      go_enter Tryd.func35, Tryd.ntmps35
      go_wp2_with fail
      go_ret
      exact ⟨by rw [HS.out]; rfl, HB.out⟩

set_option maxRecDepth 100000 in
theorem rOpp_any (v : Value) (d : D) (w : World) (hv : NumV w v d) : Calls Tryd.prog 36 #[v] w fun e' w' => ∃ v', e' = .returned v' ∧ NumV w' v' (oppD d) ∧ Below w.heap.size w w' := by
  obtain ⟨V, rfl, r⟩ := hv
  obtain ⟨A, c, rfl, -, -⟩ := r.form
  have hb0 := below2 w (.cells #[.bool d.s, .slice A (nd 32 d.n) c, .int .i64 d.e] 53) (.cells #[.bool false, .slice none 0 0, .int .i64 0] 53)
  have b1 := (Box3.new w (.bool d.s) (.slice A (nd 32 d.n) c) (.int .i64 d.e) 53).alloc (.cells #[.bool false, .slice none 0 0, .int .i64 0] 53)
  have b2 := Box3.new1 w (.cells #[.bool d.s, .slice A (nd 32 d.n) c, .int .i64 d.e] 53) (.bool false) (.slice none 0 0) (.int .i64 0) 53
  obtain ⟨W, hW⟩ : ∃ W, W = (w.alloc (.cells #[.bool d.s, .slice A (nd 32 d.n) c, .int .i64 d.e] 53)).alloc (.cells #[.bool false, .slice none 0 0, .int .i64 0] 53) := ⟨_, rfl⟩
  rw [← hW] at hb0 b1 b2
  have HB := Lib.hid hb0
  have B2 := Lib.hid b2
  have R := Lib.hid r
  obtain ⟨x0, x1, x2, xf, -⟩ := b1.cells
  obtain ⟨y0, y1, y2, yf, -⟩ := b2.cells
  clear hb0 b1 b2 r
  go_enter Tryd.func36, Tryd.ntmps36
  go_upto_region 1 with (fail)
  rw [← hW]
  clear hW
  go_wp2_with fail
  have B2' := B2.out.setAll (.bool (!d.s)) (.slice A (nd 32 d.n) c) (.int .i64 d.e)
  obtain ⟨q0, q1, q2, -, -⟩ := B2'.cells
  have hbb := below_box HB.out (show w.heap.size ≤ w.heap.size + 1 by omega) (.bool (!d.s)) (.slice A (nd 32 d.n) c) (.int .i64 d.e)
  refine bodyPost_ret (v := .agg #[.bool (!d.s), .slice A (nd 32 d.n) c, .int .i64 d.e]) (by simp [results, Tryd.results36, go_sem, q0, q1, q2]) rfl ?_
  exact ⟨_, rfl, ⟨_, rfl, R.out.belowB hbb (Nat.le_refl _)⟩, hbb⟩

set_option maxRecDepth 100000 in
set_option maxHeartbeats 4000000 in
theorem rOf_any (s : Bool) (A : Option Addr) (N n c : Nat) (e : Int) (w : World) (hv : Rd 64 w (.slice A n c) N n) (hn : n ≤ 1000000) :
    Calls Tryd.prog 26 #[.agg #[.bool s, .slice A n c, .int .i64 e]] w fun e' w' => ∃ v, e' = .returned v ∧ NumV w' v ⟨s, N, e⟩ ∧ Below w.heap.size w w' := by
  have hb0 := below2 w (.cells #[.bool s, .slice A n c, .int .i64 e] 26) (.cells #[.bool false, .slice none 0 0, .int .i64 0] 53)
  have b1 := (Box3.new w (.bool s) (.slice A n c) (.int .i64 e) 26).alloc (.cells #[.bool false, .slice none 0 0, .int .i64 0] 53)
  have b2 := Box3.new1 w (.cells #[.bool s, .slice A n c, .int .i64 e] 26) (.bool false) (.slice none 0 0) (.int .i64 0) 53
  obtain ⟨W, hW⟩ : ∃ W, W = (w.alloc (.cells #[.bool s, .slice A n c, .int .i64 e] 26)).alloc (.cells #[.bool false, .slice none 0 0, .int .i64 0] 53) := ⟨_, rfl⟩
  have hWs : w.heap.size + 1 < W.heap.size := by rw [hW]; simp
  have hvW : Rd 64 W (.slice A n c) N n := by rw [hW]; exact hv.below hb0
  have HP := Lib.hid (fun wx (hb : Below W.heap.size W wx) => rDigits_any (.slice A n c) N n wx (hvW.below hb) hn)
  rw [← hW] at hb0 b1 b2
  have HWs := Lib.hid hWs
  have HB := Lib.hid hb0
  have B1 := Lib.hid b1
  have B3 := Lib.hid b2
  obtain ⟨x0, x1, x2, xf, -⟩ := b1.cells
  clear hb0 b1 b2 hWs hv hvW
  go_enter Tryd.func26, Tryd.ntmps26
  go_upto_region 1 with (fail)
  rw [← hW]
  clear hW
  refine wp_region_J0R [3, 4, 5, 6, 7, 8, 9, 10] (fun l vs wx => ∃ l0 l1 l2 l3 l4 l5 l6 l7 l8 v3 v4 v5 v6 v7 v8 v9 v10, l = [l0, l1, l2, l3, l4, l5, l6, l7, l8] ∧ vs = [v3, v4, v5, v6, v7, v8, v9, v10] ∧ (l8 = false → Below W.heap.size W wx) ∧ (l8 = true → SumF w (w.heap.size + 1) s N e wx) ∧ (l8 = true → l0 = true) ∧ (l8 = true → l1 = true) ∧ (l8 = true → l2 = true) ∧ (l8 = true → l3 = true) ∧ (l8 = true → l4 = true) ∧ (l8 = true → l5 = true) ∧ (l8 = true → l6 = true) ∧ (l8 = true → l7 = true) ∧ (l0 = true → v3 = Value.pointer (some ⟨w.heap.size, 0, none⟩)) ∧ (l1 = true → v4 = Value.bool s) ∧ (l1 = true → l0 = true) ∧ (l2 = true → v5 = Value.pointer (some ⟨w.heap.size, 1, none⟩)) ∧ (l3 = true → v6 = Value.slice A n c) ∧ (l3 = true → l2 = true) ∧ (l4 = true → l8 = false → Rd 32 wx v7 N (nd 32 N) ∧ Fr W.heap.size wx v7) ∧ (l4 = true → l3 = true) ∧ (l5 = true → v8 = Value.pointer (some ⟨w.heap.size, 2, none⟩)) ∧ (l6 = true → v9 = Value.int IntKind.i64 e) ∧ (l6 = true → l5 = true) ∧ (l7 = true → v10 = Value.agg #[.bool s, v7, .int .i64 e]) ∧ (l7 = true → l1 = true) ∧ (l7 = true → l4 = true) ∧ (l7 = true → l6 = true) ∧ (l8 = true → l7 = true)) (by kernel_rfl) (by kernel_rfl) ?_ ?_ ?_ ?_
  · refine ⟨false, false, false, false, false, false, false, false, false, _, _, _, _, _, _, _, _, rfl, rfl, fun _ => (Below.refl _ _).drew, nofun, nofun, nofun, nofun, nofun, nofun, nofun, nofun, nofun, nofun, nofun, nofun, nofun, nofun, nofun, nofun, nofun, nofun, nofun, nofun, nofun, nofun, nofun, nofun, nofun⟩
  · refine ⟨?_, ?_, ?_, ?_, ?_, ?_, ?_, ?_, ?_, trivial⟩
    · rintro _ _ wx ⟨l0, l1, l2, l3, l4, l5, l6, l7, l8, v3, v4, v5, v6, v7, v8, v9, v10, rfl, rfl, hPre, hFin, hs0, hs1, hs2, hs3, hs4, hs5, hs6, hs7, h0, h1, hd1_0, h2, h3, hd3_2, h4, hd4_3, h5, h6, hd6_5, h7, hd7_1, hd7_4, hd7_6, hd8_7⟩ hl hall K' hK
      have e0l : l0 = false := by simpa using hl
      clear hall hl
      subst e0l
      have esl : l8 = false := by cases l8 with | false => rfl | true => exact absurd (hs0 rfl) (by decide)
      subst esl
      have hB := hPre rfl
      simp only [putL, Act.put, List.setIfInBounds_toArray, List.set_cons_zero, List.set_cons_succ]
      go_simp
      have hh := hK.out [Value.pointer (some ⟨w.heap.size, 0, none⟩), v4, v5, v6, v7, v8, v9, v10] wx ⟨true, l1, l2, l3, l4, l5, l6, l7, false, Value.pointer (some ⟨w.heap.size, 0, none⟩), v4, v5, v6, v7, v8, v9, v10, rfl, rfl, fun _ => hB, nofun, fun _ => rfl, nofun, nofun, nofun, nofun, nofun, nofun, nofun, fun _ => rfl, h1, fun _ => rfl, h2, h3, hd3_2, h4, hd4_3, h5, h6, hd6_5, h7, hd7_1, hd7_4, hd7_6, hd8_7⟩
      simp only [putL, Act.put, List.setIfInBounds_toArray, List.set_cons_zero, List.set_cons_succ] at hh
      exact hh
    · rintro _ _ wx ⟨l0, l1, l2, l3, l4, l5, l6, l7, l8, v3, v4, v5, v6, v7, v8, v9, v10, rfl, rfl, hPre, hFin, hs0, hs1, hs2, hs3, hs4, hs5, hs6, hs7, h0, h1, hd1_0, h2, h3, hd3_2, h4, hd4_3, h5, h6, hd6_5, h7, hd7_1, hd7_4, hd7_6, hd8_7⟩ hl hall K' hK
      have e0l : l0 = true := hall ⟨0, .data⟩ (by simp) (by rfl)
      have e1l : l1 = false := by simpa using hl
      clear hall hl
      subst e0l e1l
      have esl : l8 = false := by cases l8 with | false => rfl | true => exact absurd (hs1 rfl) (by decide)
      subst esl
      have hB := hPre rfl
      have q0 := keep_cell hB x0
      simp only [putL, Act.put, List.setIfInBounds_toArray, List.set_cons_zero, List.set_cons_succ]
      have e0 := h0 rfl
      simp only [e0]
      go_simp
      have hh := hK.out [v3, Value.bool s, v5, v6, v7, v8, v9, v10] wx ⟨true, true, l2, l3, l4, l5, l6, l7, false, v3, Value.bool s, v5, v6, v7, v8, v9, v10, rfl, rfl, fun _ => hB, nofun, fun _ => rfl, fun _ => rfl, nofun, nofun, nofun, nofun, nofun, nofun, h0, fun _ => rfl, fun _ => rfl, h2, h3, hd3_2, h4, hd4_3, h5, h6, hd6_5, h7, fun _ => rfl, hd7_4, hd7_6, hd8_7⟩
      simp only [putL, Act.put, List.setIfInBounds_toArray, List.set_cons_zero, List.set_cons_succ] at hh
      simp only [e0] at hh
      exact hh
    · rintro _ _ wx ⟨l0, l1, l2, l3, l4, l5, l6, l7, l8, v3, v4, v5, v6, v7, v8, v9, v10, rfl, rfl, hPre, hFin, hs0, hs1, hs2, hs3, hs4, hs5, hs6, hs7, h0, h1, hd1_0, h2, h3, hd3_2, h4, hd4_3, h5, h6, hd6_5, h7, hd7_1, hd7_4, hd7_6, hd8_7⟩ hl hall K' hK
      have e2l : l2 = false := by simpa using hl
      clear hall hl
      subst e2l
      have esl : l8 = false := by cases l8 with | false => rfl | true => exact absurd (hs2 rfl) (by decide)
      subst esl
      have hB := hPre rfl
      simp only [putL, Act.put, List.setIfInBounds_toArray, List.set_cons_zero, List.set_cons_succ]
      go_simp
      have hh := hK.out [v3, v4, Value.pointer (some ⟨w.heap.size, 1, none⟩), v6, v7, v8, v9, v10] wx ⟨l0, l1, true, l3, l4, l5, l6, l7, false, v3, v4, Value.pointer (some ⟨w.heap.size, 1, none⟩), v6, v7, v8, v9, v10, rfl, rfl, fun _ => hB, nofun, nofun, nofun, fun _ => rfl, nofun, nofun, nofun, nofun, nofun, h0, h1, hd1_0, fun _ => rfl, h3, fun _ => rfl, h4, hd4_3, h5, h6, hd6_5, h7, hd7_1, hd7_4, hd7_6, hd8_7⟩
      simp only [putL, Act.put, List.setIfInBounds_toArray, List.set_cons_zero, List.set_cons_succ] at hh
      exact hh
    · rintro _ _ wx ⟨l0, l1, l2, l3, l4, l5, l6, l7, l8, v3, v4, v5, v6, v7, v8, v9, v10, rfl, rfl, hPre, hFin, hs0, hs1, hs2, hs3, hs4, hs5, hs6, hs7, h0, h1, hd1_0, h2, h3, hd3_2, h4, hd4_3, h5, h6, hd6_5, h7, hd7_1, hd7_4, hd7_6, hd8_7⟩ hl hall K' hK
      have e2l : l2 = true := hall ⟨2, .data⟩ (by simp) (by rfl)
      have e3l : l3 = false := by simpa using hl
      clear hall hl
      subst e2l e3l
      have esl : l8 = false := by cases l8 with | false => rfl | true => exact absurd (hs3 rfl) (by decide)
      subst esl
      have hB := hPre rfl
      have q0 := keep_cell hB x1
      simp only [putL, Act.put, List.setIfInBounds_toArray, List.set_cons_zero, List.set_cons_succ]
      have e2 := h2 rfl
      simp only [e2]
      go_simp
      have hh := hK.out [v3, v4, v5, Value.slice A n c, v7, v8, v9, v10] wx ⟨l0, l1, true, true, l4, l5, l6, l7, false, v3, v4, v5, Value.slice A n c, v7, v8, v9, v10, rfl, rfl, fun _ => hB, nofun, nofun, nofun, fun _ => rfl, fun _ => rfl, nofun, nofun, nofun, nofun, h0, h1, hd1_0, h2, fun _ => rfl, fun _ => rfl, h4, fun _ => rfl, h5, h6, hd6_5, h7, hd7_1, hd7_4, hd7_6, hd8_7⟩
      simp only [putL, Act.put, List.setIfInBounds_toArray, List.set_cons_zero, List.set_cons_succ] at hh
      simp only [e2] at hh
      exact hh
    · rintro _ _ wx ⟨l0, l1, l2, l3, l4, l5, l6, l7, l8, v3, v4, v5, v6, v7, v8, v9, v10, rfl, rfl, hPre, hFin, hs0, hs1, hs2, hs3, hs4, hs5, hs6, hs7, h0, h1, hd1_0, h2, h3, hd3_2, h4, hd4_3, h5, h6, hd6_5, h7, hd7_1, hd7_4, hd7_6, hd8_7⟩ hl hall K' hK
      have e3l : l3 = true := hall ⟨3, .data⟩ (by simp) (by rfl)
      have e4l : l4 = false := by simpa using hl
      clear hall hl
      subst e3l e4l
      have esl : l8 = false := by cases l8 with | false => rfl | true => exact absurd (hs4 rfl) (by decide)
      subst esl
      have hB := hPre rfl
      have eag7 : l7 = false := by cases l7 with | false => rfl | true => exact absurd (hd7_4 rfl) (by decide)
      subst eag7
      have ed2 := hd3_2 rfl
      subst ed2
      simp only [putL, Act.put, List.setIfInBounds_toArray, List.set_cons_zero, List.set_cons_succ]
      have e3 := h3 rfl
      have e2 := h2 rfl
      simp only [e3, e2]
      go_simp
      refine (HP.out wx hB).mono ?_
      rintro e w2 ⟨x2, rfl, hV2, hx1⟩
      go_simp
      have hh := hK.out [v3, v4, v5, v6, x2, v8, v9, v10] w2 ⟨l0, l1, true, true, true, l5, l6, false, false, v3, v4, v5, v6, x2, v8, v9, v10, rfl, rfl, fun _ => keep_below hB hx1, nofun, nofun, nofun, fun _ => rfl, fun _ => rfl, fun _ => rfl, nofun, nofun, nofun, h0, h1, hd1_0, h2, h3, fun _ => rfl, fun _ _ => ⟨hV2.1, hV2.2.mono hB.size⟩, fun _ => rfl, h5, h6, hd6_5, nofun, hd7_1, fun _ => rfl, hd7_6, hd8_7⟩
      simp only [putL, Act.put, List.setIfInBounds_toArray, List.set_cons_zero, List.set_cons_succ] at hh
      simp only [e3, e2] at hh
      exact hh
    · rintro _ _ wx ⟨l0, l1, l2, l3, l4, l5, l6, l7, l8, v3, v4, v5, v6, v7, v8, v9, v10, rfl, rfl, hPre, hFin, hs0, hs1, hs2, hs3, hs4, hs5, hs6, hs7, h0, h1, hd1_0, h2, h3, hd3_2, h4, hd4_3, h5, h6, hd6_5, h7, hd7_1, hd7_4, hd7_6, hd8_7⟩ hl hall K' hK
      have e5l : l5 = false := by simpa using hl
      clear hall hl
      subst e5l
      have esl : l8 = false := by cases l8 with | false => rfl | true => exact absurd (hs5 rfl) (by decide)
      subst esl
      have hB := hPre rfl
      simp only [putL, Act.put, List.setIfInBounds_toArray, List.set_cons_zero, List.set_cons_succ]
      go_simp
      have hh := hK.out [v3, v4, v5, v6, v7, Value.pointer (some ⟨w.heap.size, 2, none⟩), v9, v10] wx ⟨l0, l1, l2, l3, l4, true, l6, l7, false, v3, v4, v5, v6, v7, Value.pointer (some ⟨w.heap.size, 2, none⟩), v9, v10, rfl, rfl, fun _ => hB, nofun, nofun, nofun, nofun, nofun, nofun, fun _ => rfl, nofun, nofun, h0, h1, hd1_0, h2, h3, hd3_2, h4, hd4_3, fun _ => rfl, h6, fun _ => rfl, h7, hd7_1, hd7_4, hd7_6, hd8_7⟩
      simp only [putL, Act.put, List.setIfInBounds_toArray, List.set_cons_zero, List.set_cons_succ] at hh
      exact hh
    · rintro _ _ wx ⟨l0, l1, l2, l3, l4, l5, l6, l7, l8, v3, v4, v5, v6, v7, v8, v9, v10, rfl, rfl, hPre, hFin, hs0, hs1, hs2, hs3, hs4, hs5, hs6, hs7, h0, h1, hd1_0, h2, h3, hd3_2, h4, hd4_3, h5, h6, hd6_5, h7, hd7_1, hd7_4, hd7_6, hd8_7⟩ hl hall K' hK
      have e5l : l5 = true := hall ⟨5, .data⟩ (by simp) (by rfl)
      have e6l : l6 = false := by simpa using hl
      clear hall hl
      subst e5l e6l
      have esl : l8 = false := by cases l8 with | false => rfl | true => exact absurd (hs6 rfl) (by decide)
      subst esl
      have hB := hPre rfl
      have q0 := keep_cell hB x2
      simp only [putL, Act.put, List.setIfInBounds_toArray, List.set_cons_zero, List.set_cons_succ]
      have e5 := h5 rfl
      simp only [e5]
      go_simp
      have hh := hK.out [v3, v4, v5, v6, v7, v8, Value.int IntKind.i64 e, v10] wx ⟨l0, l1, l2, l3, l4, true, true, l7, false, v3, v4, v5, v6, v7, v8, Value.int IntKind.i64 e, v10, rfl, rfl, fun _ => hB, nofun, nofun, nofun, nofun, nofun, nofun, fun _ => rfl, fun _ => rfl, nofun, h0, h1, hd1_0, h2, h3, hd3_2, h4, hd4_3, h5, fun _ => rfl, fun _ => rfl, h7, hd7_1, hd7_4, fun _ => rfl, hd8_7⟩
      simp only [putL, Act.put, List.setIfInBounds_toArray, List.set_cons_zero, List.set_cons_succ] at hh
      simp only [e5] at hh
      exact hh
    · rintro _ _ wx ⟨l0, l1, l2, l3, l4, l5, l6, l7, l8, v3, v4, v5, v6, v7, v8, v9, v10, rfl, rfl, hPre, hFin, hs0, hs1, hs2, hs3, hs4, hs5, hs6, hs7, h0, h1, hd1_0, h2, h3, hd3_2, h4, hd4_3, h5, h6, hd6_5, h7, hd7_1, hd7_4, hd7_6, hd8_7⟩ hl hall K' hK
      have e1l : l1 = true := hall ⟨1, .data⟩ (by simp) (by rfl)
      have e4l : l4 = true := hall ⟨4, .data⟩ (by simp) (by rfl)
      have e6l : l6 = true := hall ⟨6, .data⟩ (by simp) (by rfl)
      have e7l : l7 = false := by simpa using hl
      clear hall hl
      subst e1l e4l e6l e7l
      have esl : l8 = false := by cases l8 with | false => rfl | true => exact absurd (hs7 rfl) (by decide)
      subst esl
      have hB := hPre rfl
      have ed0 := hd1_0 rfl
      subst ed0
      have ed3 := hd4_3 rfl
      subst ed3
      have ed5 := hd6_5 rfl
      subst ed5
      have ed2 := hd3_2 rfl
      subst ed2
      simp only [putL, Act.put, List.setIfInBounds_toArray, List.set_cons_zero, List.set_cons_succ]
      have e1 := h1 rfl
      have e6 := h6 rfl
      have e0 := h0 rfl
      have e3 := h3 rfl
      have e5 := h5 rfl
      have e2 := h2 rfl
      have hR4 := h4 rfl rfl
      obtain ⟨Ac, cc, ec, -⟩ := hR4.1.form
      simp only [e1, e6, e0, e3, e5, e2, ec]
      go_simp
      have hh := hK.out [v3, v4, v5, v6, v7, v8, v9, Value.agg #[.bool s, v7, .int .i64 e]] wx ⟨true, true, true, true, true, true, true, true, false, v3, v4, v5, v6, v7, v8, v9, Value.agg #[.bool s, v7, .int .i64 e], rfl, rfl, fun _ => hB, nofun, fun _ => rfl, fun _ => rfl, fun _ => rfl, fun _ => rfl, fun _ => rfl, fun _ => rfl, fun _ => rfl, fun _ => rfl, h0, h1, fun _ => rfl, h2, h3, fun _ => rfl, h4, fun _ => rfl, h5, h6, fun _ => rfl, fun _ => rfl, fun _ => rfl, fun _ => rfl, fun _ => rfl, fun _ => rfl⟩
      simp only [putL, Act.put, List.setIfInBounds_toArray, List.set_cons_zero, List.set_cons_succ] at hh
      simp only [e1, e6, e0, e3, e5, e2, ec] at hh
      exact hh
    · rintro _ _ wx ⟨l0, l1, l2, l3, l4, l5, l6, l7, l8, v3, v4, v5, v6, v7, v8, v9, v10, rfl, rfl, hPre, hFin, hs0, hs1, hs2, hs3, hs4, hs5, hs6, hs7, h0, h1, hd1_0, h2, h3, hd3_2, h4, hd4_3, h5, h6, hd6_5, h7, hd7_1, hd7_4, hd7_6, hd8_7⟩ hl hall K' hK
      have e7l : l7 = true := hall ⟨7, .data⟩ (by simp) (by rfl)
      have e8l : l8 = false := by simpa using hl
      clear hall hl
      subst e7l e8l
      have hB := hPre rfl
      have ed1 := hd7_1 rfl
      subst ed1
      have ed4 := hd7_4 rfl
      subst ed4
      have ed6 := hd7_6 rfl
      subst ed6
      have ed0 := hd1_0 rfl
      subst ed0
      have ed3 := hd4_3 rfl
      subst ed3
      have ed5 := hd6_5 rfl
      subst ed5
      have ed2 := hd3_2 rfl
      subst ed2
      simp only [putL, Act.put, List.setIfInBounds_toArray, List.set_cons_zero, List.set_cons_succ]
      have e7 := h7 rfl
      have e1 := h1 rfl
      have e6 := h6 rfl
      have e0 := h0 rfl
      have e3 := h3 rfl
      have e5 := h5 rfl
      have e2 := h2 rfl
      have hR4 := h4 rfl rfl
      obtain ⟨Ac, cc, ec, -⟩ := hR4.1.form
      rw [ec] at hR4
      have b3' := B3.out.keep hB
      obtain ⟨z0, z1, z2, zf, -⟩ := b3'.cells
      simp only [e7, e1, e6, e0, e3, e5, e2, ec]
      go_simp
      have hh := hK.out [v3, v4, v5, v6, v7, v8, v9, v10] (((wx.setCell ⟨w.heap.size + 1, 0, none⟩ (.bool s)).setCell ⟨w.heap.size + 1, 1, none⟩ (.slice Ac (nd 32 N) cc)).setCell ⟨w.heap.size + 1, 2, none⟩ (.int .i64 e)) ⟨true, true, true, true, true, true, true, true, true, v3, v4, v5, v6, v7, v8, v9, v10, rfl, rfl, nofun, fun _ => SumF.of (W := W) b3' hR4 HWs.out (by omega) (keep_belowB HB.out hB (by have := HB.out.size; omega)), fun _ => rfl, fun _ => rfl, fun _ => rfl, fun _ => rfl, fun _ => rfl, fun _ => rfl, fun _ => rfl, fun _ => rfl, h0, h1, fun _ => rfl, h2, h3, fun _ => rfl, fun _ h => absurd h (by decide), fun _ => rfl, h5, h6, fun _ => rfl, h7, fun _ => rfl, fun _ => rfl, fun _ => rfl, fun _ => rfl⟩
      simp only [putL, Act.put, List.setIfInBounds_toArray, List.set_cons_zero, List.set_cons_succ] at hh
      simp only [e7, e1, e6, e0, e3, e5, e2, ec] at hh
      exact hh
  · rintro vs wx ⟨l0, l1, l2, l3, l4, l5, l6, l7, l8, v3, v4, v5, v6, v7, v8, v9, v10, hl, rfl, hPre, hFin, hs0, hs1, hs2, hs3, hs4, hs5, hs6, hs7, h0, h1, hd1_0, h2, h3, hd3_2, h4, hd4_3, h5, h6, hd6_5, h7, hd7_1, hd7_4, hd7_6, hd8_7⟩
    obtain ⟨rfl, rfl, rfl, rfl, rfl, rfl, rfl, rfl, rfl⟩ : true = l0 ∧ true = l1 ∧ true = l2 ∧ true = l3 ∧ true = l4 ∧ true = l5 ∧ true = l6 ∧ true = l7 ∧ true = l8 := by simpa using hl
    simp only [putL, Act.put, List.setIfInBounds_toArray, List.set_cons_zero, List.set_cons_succ]
    have hF := Lib.hid (hFin rfl)
    clear hPre hFin hs0 hs1 hs2 hs3 hs4 hs5 hs6 hs7 h0 h1 hd1_0 h2 h3 hd3_2 h4 hd4_3 h5 h6 hd6_5 h7 hd7_1 hd7_4 hd7_6 hd8_7
    obtain ⟨Ax, cx, hbx, hrx, hBx⟩ := hF.out
    obtain ⟨q0, q1, q2, -, -⟩ := hbx.cells
    clear hF
    go_wp2_with fail
    refine bodyPost_ret (v := .agg #[.bool s, .slice Ax (nd 32 N) cx, .int .i64 e]) (by simp [results, Tryd.results26, go_sem, q0, q1, q2]) rfl ?_
    exact ⟨_, rfl, ⟨_, rfl, hrx⟩, hBx⟩
  · rintro _ vs wx ⟨l0, l1, l2, l3, l4, l5, l6, l7, l8, v3, v4, v5, v6, v7, v8, v9, v10, rfl, _⟩
    rfl

end Go.Proofs.YtakjbmlkcbedmaaDoor
