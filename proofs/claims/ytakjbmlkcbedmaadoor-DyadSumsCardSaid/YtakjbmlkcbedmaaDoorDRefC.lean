/- The walk of vernierref03.Canonical. Printed by gen/drefc.py. -/
import Derived.Test.YtakjbmlkcbedmaaDoorDRefA
namespace Go.Proofs.YtakjbmlkcbedmaaDoor
set_option linter.unusedVariables false
set_option linter.unusedSimpArgs false
open Go.RowKit

theorem rf_set64 {B : Nat} {w : World} {v : Value} {N n : Nat} (h : Rd 64 w v N n ∧ Fr B w v) {p : Addr} (hp : p.block < B) (u : Value) : Rd 64 (w.setCell p u) v N n ∧ Fr B (w.setCell p u) v := ⟨h.1.setCell_fr h.2 hp u, h.2.setCell hp u⟩

/-- an exact number in the result's box -/
def SumG (w : World) (g : Nat) (s : Bool) (N : Nat) (E : Int) (wx : World) : Prop :=
  ∃ A c, Box3 wx g (.bool s) (.slice A (nd 64 N) c) (.int .i64 E) ∧ DV w.heap.size wx (.agg #[.bool s, .slice A (nd 64 N) c, .int .i64 E]) ⟨s, N, E⟩ ∧ Below w.heap.size w wx

theorem SumG.of {w W wx : World} {g : Nat} {s : Bool} {N : Nat} {E : Int} {a b c0 : Value} {A : Option Addr} {c : Nat} (hb : Box3 wx g a b c0) (hr : Rd 64 wx (.slice A (nd 64 N) c) N (nd 64 N) ∧ Fr W.heap.size wx (.slice A (nd 64 N) c)) (hg : g < W.heap.size) (hw : w.heap.size ≤ g) (hbw : Below w.heap.size w wx) :
    SumG w g s N E (((wx.setCell ⟨g, 0, none⟩ (.bool s)).setCell ⟨g, 1, none⟩ (.slice A (nd 64 N) c)).setCell ⟨g, 2, none⟩ (.int .i64 E)) := by
  have h := rf_set64 (rf_set64 (rf_set64 hr (p := ⟨g, 0, none⟩) hg (.bool s)) (p := ⟨g, 1, none⟩) hg (.slice A (nd 64 N) c)) (p := ⟨g, 2, none⟩) hg (.int .i64 E)
  obtain ⟨-, h1, h2, -⟩ := h.1.at_
  exact ⟨A, c, hb.setAll _ _ _, ⟨A, c, rfl, h1, h2, h.1, h.2.mono (by omega)⟩, below_box hbw hw _ _ _⟩

set_option maxRecDepth 100000 in
set_option maxHeartbeats 16000000 in
theorem rCanonical_any (v : Value) (d : D) (w : World) (hv : NumV w v d) (hn : nd 32 d.n ≤ 20000) (he : -10000000 ≤ d.e ∧ d.e ≤ 10000000) :
    Calls Tryd.prog 61 #[v] w fun e' w' => ∃ x, e' = .returned x ∧ DV w.heap.size w' x (oddD d) ∧ Below w.heap.size w w' := by
  obtain ⟨V, rfl, r⟩ := hv
  obtain ⟨A, c, rfl, -, -⟩ := r.form
  obtain ⟨m, hm⟩ : ∃ m, m = nd 32 d.n := ⟨_, rfl⟩
  rw [← hm] at hn r ⊢
  have hb0 := below2 w (.cells #[.bool d.s, .slice A m c, .int .i64 d.e] 53) (.cells #[.bool false, .slice none 0 0, .int .i64 0] 26)
  have b1 := (Box3.new w (.bool d.s) (.slice A m c) (.int .i64 d.e) 53).alloc (.cells #[.bool false, .slice none 0 0, .int .i64 0] 26)
  have b2 := Box3.new1 w (.cells #[.bool d.s, .slice A m c, .int .i64 d.e] 53) (.bool false) (.slice none 0 0) (.int .i64 0) 26
  have hvW := r.below hb0
  have hWs : w.heap.size + 1 < ((w.alloc (.cells #[.bool d.s, .slice A m c, .int .i64 d.e] 53)).alloc (.cells #[.bool false, .slice none 0 0, .int .i64 0] 26)).heap.size := by simp
  by_cases h0 : d.n = 0
  · have hz : m = 0 := by rw [hm, h0]; exact nd_zero 32
    have ho : oddD d = D.zero := by unfold oddD; rw [if_pos h0]
    rw [ho]
    subst hz
    obtain ⟨W, hW⟩ : ∃ W, W = (w.alloc (.cells #[.bool d.s, .slice A 0 c, .int .i64 d.e] 53)).alloc (.cells #[.bool false, .slice none 0 0, .int .i64 0] 26) := ⟨_, rfl⟩
    rw [← hW] at hb0 b1 b2
    have HB := Lib.hid hb0
    have B3 := Lib.hid b2
    obtain ⟨x0, x1, x2, xf, -⟩ := b1.cells
    obtain ⟨y0, y1, y2, yf, -⟩ := b2.cells
    clear hb0 b1 b2 hvW hWs hm ho r h0 hn he
    go_enter Tryd.func61, Tryd.ntmps61
    go_upto_region 1 with (fail)
    rw [← hW]
    clear hW
    go_wp2_with fail
    obtain ⟨q0, q1, q2, -, -⟩ := (B3.out.setAll (.bool false) (.slice none 0 0) (.int .i64 0)).cells
    refine bodyPost_ret (v := .agg #[.bool false, .slice none 0 0, .int .i64 0]) (by simp [results, Tryd.results61, go_sem, y0, y1, y2, q0, q1, q2]) rfl ?_
    exact ⟨_, rfl, DV.zero, by first | exact HB.out | exact below_box HB.out (show w.heap.size ≤ w.heap.size + 1 by omega) _ _ _⟩
  · obtain ⟨W, hW⟩ : ∃ W, W = (w.alloc (.cells #[.bool d.s, .slice A m c, .int .i64 d.e] 53)).alloc (.cells #[.bool false, .slice none 0 0, .int .i64 0] 26) := ⟨_, rfl⟩
    rw [← hW] at hb0 b1 b2 hvW hWs
    have hL := rLow_any (.slice A m c) d.n W (by rw [← hm]; exact hvW) h0 (by omega)
    have ho : oddD d = ⟨d.s, d.n / 2 ^ tzN d.n, d.e + tzN d.n⟩ := by unfold oddD; rw [if_neg h0]
    have hp := nd_pos 32 d.n h0
    have hlt := hvW.lt
    have htz : tzN d.n < 32 * m := tzN_le d.n (32 * m) hlt h0
    have hz : (((m : Nat) : Int) == 0) = false := by rw [beq_eq_false_iff_ne]; omega
    rw [ho]
    obtain ⟨z, hzz⟩ : ∃ z, z = tzN d.n := ⟨_, rfl⟩
    rw [← hzz] at hL htz ⊢
    obtain ⟨D1, hD1⟩ : ∃ D1, D1 = d.n / 2 ^ z := ⟨_, rfl⟩
    have hD2 : nd 32 D1 ≤ 1000000 := Nat.le_trans (nd_le 32 D1 m (by decide) (Nat.lt_of_le_of_lt (by rw [hD1]; exact Nat.div_le_self _ _) hlt)) (by omega)
    have hP := fun wx (hb : Below W.heap.size W wx) => rRight_any (.slice A m c) d.n m z wx (hvW.below hb) (by omega) (by omega)
    rw [← hD1] at hP ⊢
    have HP := Lib.hid hP
    have HQ := Lib.hid (fun v wx (h : Rd 32 wx v D1 (nd 32 D1)) => rWords_any v D1 (nd 32 D1) wx h hD2)
    have hw : IntKind.i64.wrap (d.e + (z : Int)) = d.e + (z : Int) := by rw [IntKind.wrap_i64]; omega
    have hw' : wrap64 (d.e + (z : Int)) = d.e + (z : Int) := by unfold wrap64; omega
    have HL := Lib.hid hL
    have HWs := Lib.hid hWs
    have HB := Lib.hid hb0
    have B1 := Lib.hid b1
    have B3 := Lib.hid b2
    obtain ⟨x0, x1, x2, xf, -⟩ := b1.cells
    clear hL hb0 b1 b2 hvW hWs hm ho r h0 hn he hlt hp hD2 hP htz hzz hD1
    go_enter Tryd.func61, Tryd.ntmps61
    go_upto_region 1 with (fail)
    rw [← hW]
    clear hW
    go_wp2_with fail
    refine HL.out.mono ?_
    rintro _ _ ⟨rfl, rfl⟩
    clear HL
    go_upto_region 4 with (fail)
    refine wp_region_J0R [12, 13, 14, 15, 16, 17, 18, 19, 20, 21, 22, 23] (fun l vs wx => ∃ l0 l1 l2 l3 l4 l5 l6 l7 l8 l9 l10 l11 l12 v12 v13 v14 v15 v16 v17 v18 v19 v20 v21 v22 v23, l = [l0, l1, l2, l3, l4, l5, l6, l7, l8, l9, l10, l11, l12] ∧ vs = [v12, v13, v14, v15, v16, v17, v18, v19, v20, v21, v22, v23] ∧ (l12 = false → Below W.heap.size W wx) ∧ (l12 = true → SumG w (w.heap.size + 1) d.s D1 (d.e + (z : Int)) wx) ∧ (l12 = true → l0 = true) ∧ (l12 = true → l1 = true) ∧ (l12 = true → l2 = true) ∧ (l12 = true → l3 = true) ∧ (l12 = true → l4 = true) ∧ (l12 = true → l5 = true) ∧ (l12 = true → l6 = true) ∧ (l12 = true → l7 = true) ∧ (l12 = true → l8 = true) ∧ (l12 = true → l9 = true) ∧ (l12 = true → l10 = true) ∧ (l12 = true → l11 = true) ∧ (l0 = true → v12 = Value.pointer (some ⟨w.heap.size, 0, none⟩)) ∧ (l1 = true → v13 = Value.bool d.s) ∧ (l1 = true → l0 = true) ∧ (l2 = true → v14 = Value.pointer (some ⟨w.heap.size, 1, none⟩)) ∧ (l3 = true → v15 = Value.slice A m c) ∧ (l3 = true → l2 = true) ∧ (l4 = true → v16 = Value.int IntKind.i64 (z : Int)) ∧ (l5 = true → l6 = false → Rd 32 wx v17 D1 (nd 32 D1)) ∧ (l5 = true → l3 = true) ∧ (l5 = true → l4 = true) ∧ (l6 = true → l12 = false → Rd 64 wx v18 D1 (nd 64 D1) ∧ Fr W.heap.size wx v18) ∧ (l6 = true → l5 = true) ∧ (l7 = true → v19 = Value.pointer (some ⟨w.heap.size, 2, none⟩)) ∧ (l8 = true → v20 = Value.int IntKind.i64 d.e) ∧ (l8 = true → l7 = true) ∧ (l9 = true → v21 = Value.int IntKind.i64 (z : Int)) ∧ (l10 = true → v22 = Value.int IntKind.i64 (d.e + (z : Int))) ∧ (l10 = true → l8 = true) ∧ (l10 = true → l9 = true) ∧ (l11 = true → v23 = Value.agg #[.bool d.s, v18, .int .i64 (d.e + (z : Int))]) ∧ (l11 = true → l1 = true) ∧ (l11 = true → l6 = true) ∧ (l11 = true → l10 = true) ∧ (l12 = true → l11 = true)) (by kernel_rfl) (by kernel_rfl) ?_ ?_ ?_ ?_
    · refine ⟨false, false, false, false, false, false, false, false, false, false, false, false, false, _, _, _, _, _, _, _, _, _, _, _, _, rfl, rfl, fun _ => (Below.refl _ _).drew, nofun, nofun, nofun, nofun, nofun, nofun, nofun, nofun, nofun, nofun, nofun, nofun, nofun, nofun, nofun, nofun, nofun, nofun, nofun, nofun, nofun, nofun, nofun, nofun, nofun, nofun, nofun, nofun, nofun, nofun, nofun, nofun, nofun, nofun, nofun, nofun, nofun⟩
    · refine ⟨?_, ?_, ?_, ?_, ?_, ?_, ?_, ?_, ?_, ?_, ?_, ?_, ?_, trivial⟩
      · rintro _ _ wx ⟨l0, l1, l2, l3, l4, l5, l6, l7, l8, l9, l10, l11, l12, v12, v13, v14, v15, v16, v17, v18, v19, v20, v21, v22, v23, rfl, rfl, hPre, hFin, hs0, hs1, hs2, hs3, hs4, hs5, hs6, hs7, hs8, hs9, hs10, hs11, h0, h1, hd1_0, h2, h3, hd3_2, h4, h5, hd5_3, hd5_4, h6, hd6_5, h7, h8, hd8_7, h9, h10, hd10_8, hd10_9, h11, hd11_1, hd11_6, hd11_10, hd12_11⟩ hl hall K' hK
        have e0l : l0 = false := by simpa using hl
        clear hall hl
        subst e0l
        have esl : l12 = false := by cases l12 with | false => rfl | true => exact absurd (hs0 rfl) (by decide)
        subst esl
        have hB := hPre rfl
        simp only [putL, Act.put, List.setIfInBounds_toArray, List.set_cons_zero, List.set_cons_succ]
        go_simp
        have hh := hK.out [Value.pointer (some ⟨w.heap.size, 0, none⟩), v13, v14, v15, v16, v17, v18, v19, v20, v21, v22, v23] wx ⟨true, l1, l2, l3, l4, l5, l6, l7, l8, l9, l10, l11, false, Value.pointer (some ⟨w.heap.size, 0, none⟩), v13, v14, v15, v16, v17, v18, v19, v20, v21, v22, v23, rfl, rfl, fun _ => hB, nofun, fun _ => rfl, nofun, nofun, nofun, nofun, nofun, nofun, nofun, nofun, nofun, nofun, nofun, fun _ => rfl, h1, fun _ => rfl, h2, h3, hd3_2, h4, h5, hd5_3, hd5_4, h6, hd6_5, h7, h8, hd8_7, h9, h10, hd10_8, hd10_9, h11, hd11_1, hd11_6, hd11_10, hd12_11⟩
        simp only [putL, Act.put, List.setIfInBounds_toArray, List.set_cons_zero, List.set_cons_succ] at hh
        exact hh
      · rintro _ _ wx ⟨l0, l1, l2, l3, l4, l5, l6, l7, l8, l9, l10, l11, l12, v12, v13, v14, v15, v16, v17, v18, v19, v20, v21, v22, v23, rfl, rfl, hPre, hFin, hs0, hs1, hs2, hs3, hs4, hs5, hs6, hs7, hs8, hs9, hs10, hs11, h0, h1, hd1_0, h2, h3, hd3_2, h4, h5, hd5_3, hd5_4, h6, hd6_5, h7, h8, hd8_7, h9, h10, hd10_8, hd10_9, h11, hd11_1, hd11_6, hd11_10, hd12_11⟩ hl hall K' hK
        have e0l : l0 = true := hall ⟨0, .data⟩ (by simp) (by rfl)
        have e1l : l1 = false := by simpa using hl
        clear hall hl
        subst e0l e1l
        have esl : l12 = false := by cases l12 with | false => rfl | true => exact absurd (hs1 rfl) (by decide)
        subst esl
        have hB := hPre rfl
        have q0 := keep_cell hB x0
        simp only [putL, Act.put, List.setIfInBounds_toArray, List.set_cons_zero, List.set_cons_succ]
        have e0 := h0 rfl
        simp only [e0]
        go_simp
        have hh := hK.out [v12, Value.bool d.s, v14, v15, v16, v17, v18, v19, v20, v21, v22, v23] wx ⟨true, true, l2, l3, l4, l5, l6, l7, l8, l9, l10, l11, false, v12, Value.bool d.s, v14, v15, v16, v17, v18, v19, v20, v21, v22, v23, rfl, rfl, fun _ => hB, nofun, fun _ => rfl, fun _ => rfl, nofun, nofun, nofun, nofun, nofun, nofun, nofun, nofun, nofun, nofun, h0, fun _ => rfl, fun _ => rfl, h2, h3, hd3_2, h4, h5, hd5_3, hd5_4, h6, hd6_5, h7, h8, hd8_7, h9, h10, hd10_8, hd10_9, h11, fun _ => rfl, hd11_6, hd11_10, hd12_11⟩
        simp only [putL, Act.put, List.setIfInBounds_toArray, List.set_cons_zero, List.set_cons_succ] at hh
        simp only [e0] at hh
        exact hh
      · rintro _ _ wx ⟨l0, l1, l2, l3, l4, l5, l6, l7, l8, l9, l10, l11, l12, v12, v13, v14, v15, v16, v17, v18, v19, v20, v21, v22, v23, rfl, rfl, hPre, hFin, hs0, hs1, hs2, hs3, hs4, hs5, hs6, hs7, hs8, hs9, hs10, hs11, h0, h1, hd1_0, h2, h3, hd3_2, h4, h5, hd5_3, hd5_4, h6, hd6_5, h7, h8, hd8_7, h9, h10, hd10_8, hd10_9, h11, hd11_1, hd11_6, hd11_10, hd12_11⟩ hl hall K' hK
        have e2l : l2 = false := by simpa using hl
        clear hall hl
        subst e2l
        have esl : l12 = false := by cases l12 with | false => rfl | true => exact absurd (hs2 rfl) (by decide)
        subst esl
        have hB := hPre rfl
        simp only [putL, Act.put, List.setIfInBounds_toArray, List.set_cons_zero, List.set_cons_succ]
        go_simp
        have hh := hK.out [v12, v13, Value.pointer (some ⟨w.heap.size, 1, none⟩), v15, v16, v17, v18, v19, v20, v21, v22, v23] wx ⟨l0, l1, true, l3, l4, l5, l6, l7, l8, l9, l10, l11, false, v12, v13, Value.pointer (some ⟨w.heap.size, 1, none⟩), v15, v16, v17, v18, v19, v20, v21, v22, v23, rfl, rfl, fun _ => hB, nofun, nofun, nofun, fun _ => rfl, nofun, nofun, nofun, nofun, nofun, nofun, nofun, nofun, nofun, h0, h1, hd1_0, fun _ => rfl, h3, fun _ => rfl, h4, h5, hd5_3, hd5_4, h6, hd6_5, h7, h8, hd8_7, h9, h10, hd10_8, hd10_9, h11, hd11_1, hd11_6, hd11_10, hd12_11⟩
        simp only [putL, Act.put, List.setIfInBounds_toArray, List.set_cons_zero, List.set_cons_succ] at hh
        exact hh
      · rintro _ _ wx ⟨l0, l1, l2, l3, l4, l5, l6, l7, l8, l9, l10, l11, l12, v12, v13, v14, v15, v16, v17, v18, v19, v20, v21, v22, v23, rfl, rfl, hPre, hFin, hs0, hs1, hs2, hs3, hs4, hs5, hs6, hs7, hs8, hs9, hs10, hs11, h0, h1, hd1_0, h2, h3, hd3_2, h4, h5, hd5_3, hd5_4, h6, hd6_5, h7, h8, hd8_7, h9, h10, hd10_8, hd10_9, h11, hd11_1, hd11_6, hd11_10, hd12_11⟩ hl hall K' hK
        have e2l : l2 = true := hall ⟨2, .data⟩ (by simp) (by rfl)
        have e3l : l3 = false := by simpa using hl
        clear hall hl
        subst e2l e3l
        have esl : l12 = false := by cases l12 with | false => rfl | true => exact absurd (hs3 rfl) (by decide)
        subst esl
        have hB := hPre rfl
        have q0 := keep_cell hB x1
        simp only [putL, Act.put, List.setIfInBounds_toArray, List.set_cons_zero, List.set_cons_succ]
        have e2 := h2 rfl
        simp only [e2]
        go_simp
        have hh := hK.out [v12, v13, v14, Value.slice A m c, v16, v17, v18, v19, v20, v21, v22, v23] wx ⟨l0, l1, true, true, l4, l5, l6, l7, l8, l9, l10, l11, false, v12, v13, v14, Value.slice A m c, v16, v17, v18, v19, v20, v21, v22, v23, rfl, rfl, fun _ => hB, nofun, nofun, nofun, fun _ => rfl, fun _ => rfl, nofun, nofun, nofun, nofun, nofun, nofun, nofun, nofun, h0, h1, hd1_0, h2, fun _ => rfl, fun _ => rfl, h4, h5, fun _ => rfl, hd5_4, h6, hd6_5, h7, h8, hd8_7, h9, h10, hd10_8, hd10_9, h11, hd11_1, hd11_6, hd11_10, hd12_11⟩
        simp only [putL, Act.put, List.setIfInBounds_toArray, List.set_cons_zero, List.set_cons_succ] at hh
        simp only [e2] at hh
        exact hh
      · rintro _ _ wx ⟨l0, l1, l2, l3, l4, l5, l6, l7, l8, l9, l10, l11, l12, v12, v13, v14, v15, v16, v17, v18, v19, v20, v21, v22, v23, rfl, rfl, hPre, hFin, hs0, hs1, hs2, hs3, hs4, hs5, hs6, hs7, hs8, hs9, hs10, hs11, h0, h1, hd1_0, h2, h3, hd3_2, h4, h5, hd5_3, hd5_4, h6, hd6_5, h7, h8, hd8_7, h9, h10, hd10_8, hd10_9, h11, hd11_1, hd11_6, hd11_10, hd12_11⟩ hl hall K' hK
        have e4l : l4 = false := by simpa using hl
        clear hall hl
        subst e4l
        have esl : l12 = false := by cases l12 with | false => rfl | true => exact absurd (hs4 rfl) (by decide)
        subst esl
        have hB := hPre rfl
        simp only [putL, Act.put, List.setIfInBounds_toArray, List.set_cons_zero, List.set_cons_succ]
        go_simp
        have hh := hK.out [v12, v13, v14, v15, Value.int IntKind.i64 (z : Int), v17, v18, v19, v20, v21, v22, v23] wx ⟨l0, l1, l2, l3, true, l5, l6, l7, l8, l9, l10, l11, false, v12, v13, v14, v15, Value.int IntKind.i64 (z : Int), v17, v18, v19, v20, v21, v22, v23, rfl, rfl, fun _ => hB, nofun, nofun, nofun, nofun, nofun, fun _ => rfl, nofun, nofun, nofun, nofun, nofun, nofun, nofun, h0, h1, hd1_0, h2, h3, hd3_2, fun _ => rfl, h5, hd5_3, fun _ => rfl, h6, hd6_5, h7, h8, hd8_7, h9, h10, hd10_8, hd10_9, h11, hd11_1, hd11_6, hd11_10, hd12_11⟩
        simp only [putL, Act.put, List.setIfInBounds_toArray, List.set_cons_zero, List.set_cons_succ] at hh
        exact hh
      · rintro _ _ wx ⟨l0, l1, l2, l3, l4, l5, l6, l7, l8, l9, l10, l11, l12, v12, v13, v14, v15, v16, v17, v18, v19, v20, v21, v22, v23, rfl, rfl, hPre, hFin, hs0, hs1, hs2, hs3, hs4, hs5, hs6, hs7, hs8, hs9, hs10, hs11, h0, h1, hd1_0, h2, h3, hd3_2, h4, h5, hd5_3, hd5_4, h6, hd6_5, h7, h8, hd8_7, h9, h10, hd10_8, hd10_9, h11, hd11_1, hd11_6, hd11_10, hd12_11⟩ hl hall K' hK
        have e3l : l3 = true := hall ⟨3, .data⟩ (by simp) (by rfl)
        have e4l : l4 = true := hall ⟨4, .data⟩ (by simp) (by rfl)
        have e5l : l5 = false := by simpa using hl
        clear hall hl
        subst e3l e4l e5l
        have esl : l12 = false := by cases l12 with | false => rfl | true => exact absurd (hs5 rfl) (by decide)
        subst esl
        have hB := hPre rfl
        have ecl6 : l6 = false := by cases l6 with | false => rfl | true => exact absurd (hd6_5 rfl) (by decide)
        subst ecl6
        have eag11 : l11 = false := by cases l11 with | false => rfl | true => exact absurd (hd11_6 rfl) (by decide)
        subst eag11
        have ed2 := hd3_2 rfl
        subst ed2
        simp only [putL, Act.put, List.setIfInBounds_toArray, List.set_cons_zero, List.set_cons_succ]
        have e3 := h3 rfl
        have e4 := h4 rfl
        have e2 := h2 rfl
        simp only [e3, e4, e2]
        go_simp
        refine (HP.out wx hB).mono ?_
        rintro e w2 ⟨x2, rfl, hV2, hx1⟩
        go_simp
        have hh := hK.out [v12, v13, v14, v15, v16, x2, v18, v19, v20, v21, v22, v23] w2 ⟨l0, l1, true, true, true, true, false, l7, l8, l9, l10, false, false, v12, v13, v14, v15, v16, x2, v18, v19, v20, v21, v22, v23, rfl, rfl, fun _ => keep_below hB hx1, nofun, nofun, nofun, fun _ => rfl, fun _ => rfl, fun _ => rfl, fun _ => rfl, nofun, nofun, nofun, nofun, nofun, nofun, h0, h1, hd1_0, h2, h3, fun _ => rfl, h4, fun _ _ => hV2.1, fun _ => rfl, fun _ => rfl, nofun, fun _ => rfl, h7, h8, hd8_7, h9, h10, hd10_8, hd10_9, nofun, hd11_1, hd11_6, hd11_10, hd12_11⟩
        simp only [putL, Act.put, List.setIfInBounds_toArray, List.set_cons_zero, List.set_cons_succ] at hh
        simp only [e3, e4, e2] at hh
        exact hh
      · rintro _ _ wx ⟨l0, l1, l2, l3, l4, l5, l6, l7, l8, l9, l10, l11, l12, v12, v13, v14, v15, v16, v17, v18, v19, v20, v21, v22, v23, rfl, rfl, hPre, hFin, hs0, hs1, hs2, hs3, hs4, hs5, hs6, hs7, hs8, hs9, hs10, hs11, h0, h1, hd1_0, h2, h3, hd3_2, h4, h5, hd5_3, hd5_4, h6, hd6_5, h7, h8, hd8_7, h9, h10, hd10_8, hd10_9, h11, hd11_1, hd11_6, hd11_10, hd12_11⟩ hl hall K' hK
        have e5l : l5 = true := hall ⟨5, .data⟩ (by simp) (by rfl)
        have e6l : l6 = false := by simpa using hl
        clear hall hl
        subst e5l e6l
        have esl : l12 = false := by cases l12 with | false => rfl | true => exact absurd (hs6 rfl) (by decide)
        subst esl
        have hB := hPre rfl
        have eag11 : l11 = false := by cases l11 with | false => rfl | true => exact absurd (hd11_6 rfl) (by decide)
        subst eag11
        have ed3 := hd5_3 rfl
        subst ed3
        have ed4 := hd5_4 rfl
        subst ed4
        have ed2 := hd3_2 rfl
        subst ed2
        simp only [putL, Act.put, List.setIfInBounds_toArray, List.set_cons_zero, List.set_cons_succ]
        have e3 := h3 rfl
        have e4 := h4 rfl
        have e2 := h2 rfl
        have hR5 := h5 rfl rfl
        simp only [e3, e4, e2]
        go_simp
        refine (HQ.out v17 wx hR5).mono ?_
        rintro e w2 ⟨x2, rfl, hV2, hx1⟩
        go_simp
        have hh := hK.out [v12, v13, v14, v15, v16, v17, x2, v19, v20, v21, v22, v23] w2 ⟨l0, l1, true, true, true, true, true, l7, l8, l9, l10, false, false, v12, v13, v14, v15, v16, v17, x2, v19, v20, v21, v22, v23, rfl, rfl, fun _ => keep_below hB hx1, nofun, nofun, nofun, fun _ => rfl, fun _ => rfl, fun _ => rfl, fun _ => rfl, fun _ => rfl, nofun, nofun, nofun, nofun, nofun, h0, h1, hd1_0, h2, h3, fun _ => rfl, h4, fun _ h => absurd h (by decide), fun _ => rfl, fun _ => rfl, fun _ _ => ⟨hV2.1, hV2.2.mono hB.size⟩, fun _ => rfl, h7, h8, hd8_7, h9, h10, hd10_8, hd10_9, nofun, hd11_1, fun _ => rfl, hd11_10, hd12_11⟩
        simp only [putL, Act.put, List.setIfInBounds_toArray, List.set_cons_zero, List.set_cons_succ] at hh
        simp only [e3, e4, e2] at hh
        exact hh
      · rintro _ _ wx ⟨l0, l1, l2, l3, l4, l5, l6, l7, l8, l9, l10, l11, l12, v12, v13, v14, v15, v16, v17, v18, v19, v20, v21, v22, v23, rfl, rfl, hPre, hFin, hs0, hs1, hs2, hs3, hs4, hs5, hs6, hs7, hs8, hs9, hs10, hs11, h0, h1, hd1_0, h2, h3, hd3_2, h4, h5, hd5_3, hd5_4, h6, hd6_5, h7, h8, hd8_7, h9, h10, hd10_8, hd10_9, h11, hd11_1, hd11_6, hd11_10, hd12_11⟩ hl hall K' hK
        have e7l : l7 = false := by simpa using hl
        clear hall hl
        subst e7l
        have esl : l12 = false := by cases l12 with | false => rfl | true => exact absurd (hs7 rfl) (by decide)
        subst esl
        have hB := hPre rfl
        simp only [putL, Act.put, List.setIfInBounds_toArray, List.set_cons_zero, List.set_cons_succ]
        go_simp
        have hh := hK.out [v12, v13, v14, v15, v16, v17, v18, Value.pointer (some ⟨w.heap.size, 2, none⟩), v20, v21, v22, v23] wx ⟨l0, l1, l2, l3, l4, l5, l6, true, l8, l9, l10, l11, false, v12, v13, v14, v15, v16, v17, v18, Value.pointer (some ⟨w.heap.size, 2, none⟩), v20, v21, v22, v23, rfl, rfl, fun _ => hB, nofun, nofun, nofun, nofun, nofun, nofun, nofun, nofun, fun _ => rfl, nofun, nofun, nofun, nofun, h0, h1, hd1_0, h2, h3, hd3_2, h4, h5, hd5_3, hd5_4, h6, hd6_5, fun _ => rfl, h8, fun _ => rfl, h9, h10, hd10_8, hd10_9, h11, hd11_1, hd11_6, hd11_10, hd12_11⟩
        simp only [putL, Act.put, List.setIfInBounds_toArray, List.set_cons_zero, List.set_cons_succ] at hh
        exact hh
      · rintro _ _ wx ⟨l0, l1, l2, l3, l4, l5, l6, l7, l8, l9, l10, l11, l12, v12, v13, v14, v15, v16, v17, v18, v19, v20, v21, v22, v23, rfl, rfl, hPre, hFin, hs0, hs1, hs2, hs3, hs4, hs5, hs6, hs7, hs8, hs9, hs10, hs11, h0, h1, hd1_0, h2, h3, hd3_2, h4, h5, hd5_3, hd5_4, h6, hd6_5, h7, h8, hd8_7, h9, h10, hd10_8, hd10_9, h11, hd11_1, hd11_6, hd11_10, hd12_11⟩ hl hall K' hK
        have e7l : l7 = true := hall ⟨7, .data⟩ (by simp) (by rfl)
        have e8l : l8 = false := by simpa using hl
        clear hall hl
        subst e7l e8l
        have esl : l12 = false := by cases l12 with | false => rfl | true => exact absurd (hs8 rfl) (by decide)
        subst esl
        have hB := hPre rfl
        have q0 := keep_cell hB x2
        simp only [putL, Act.put, List.setIfInBounds_toArray, List.set_cons_zero, List.set_cons_succ]
        have e7 := h7 rfl
        simp only [e7]
        go_simp
        have hh := hK.out [v12, v13, v14, v15, v16, v17, v18, v19, Value.int IntKind.i64 d.e, v21, v22, v23] wx ⟨l0, l1, l2, l3, l4, l5, l6, true, true, l9, l10, l11, false, v12, v13, v14, v15, v16, v17, v18, v19, Value.int IntKind.i64 d.e, v21, v22, v23, rfl, rfl, fun _ => hB, nofun, nofun, nofun, nofun, nofun, nofun, nofun, nofun, fun _ => rfl, fun _ => rfl, nofun, nofun, nofun, h0, h1, hd1_0, h2, h3, hd3_2, h4, h5, hd5_3, hd5_4, h6, hd6_5, h7, fun _ => rfl, fun _ => rfl, h9, h10, fun _ => rfl, hd10_9, h11, hd11_1, hd11_6, hd11_10, hd12_11⟩
        simp only [putL, Act.put, List.setIfInBounds_toArray, List.set_cons_zero, List.set_cons_succ] at hh
        simp only [e7] at hh
        exact hh
      · rintro _ _ wx ⟨l0, l1, l2, l3, l4, l5, l6, l7, l8, l9, l10, l11, l12, v12, v13, v14, v15, v16, v17, v18, v19, v20, v21, v22, v23, rfl, rfl, hPre, hFin, hs0, hs1, hs2, hs3, hs4, hs5, hs6, hs7, hs8, hs9, hs10, hs11, h0, h1, hd1_0, h2, h3, hd3_2, h4, h5, hd5_3, hd5_4, h6, hd6_5, h7, h8, hd8_7, h9, h10, hd10_8, hd10_9, h11, hd11_1, hd11_6, hd11_10, hd12_11⟩ hl hall K' hK
        have e9l : l9 = false := by simpa using hl
        clear hall hl
        subst e9l
        have esl : l12 = false := by cases l12 with | false => rfl | true => exact absurd (hs9 rfl) (by decide)
        subst esl
        have hB := hPre rfl
        simp only [putL, Act.put, List.setIfInBounds_toArray, List.set_cons_zero, List.set_cons_succ]
        go_simp
        have hh := hK.out [v12, v13, v14, v15, v16, v17, v18, v19, v20, Value.int IntKind.i64 (z : Int), v22, v23] wx ⟨l0, l1, l2, l3, l4, l5, l6, l7, l8, true, l10, l11, false, v12, v13, v14, v15, v16, v17, v18, v19, v20, Value.int IntKind.i64 (z : Int), v22, v23, rfl, rfl, fun _ => hB, nofun, nofun, nofun, nofun, nofun, nofun, nofun, nofun, nofun, nofun, fun _ => rfl, nofun, nofun, h0, h1, hd1_0, h2, h3, hd3_2, h4, h5, hd5_3, hd5_4, h6, hd6_5, h7, h8, hd8_7, fun _ => rfl, h10, hd10_8, fun _ => rfl, h11, hd11_1, hd11_6, hd11_10, hd12_11⟩
        simp only [putL, Act.put, List.setIfInBounds_toArray, List.set_cons_zero, List.set_cons_succ] at hh
        exact hh
      · rintro _ _ wx ⟨l0, l1, l2, l3, l4, l5, l6, l7, l8, l9, l10, l11, l12, v12, v13, v14, v15, v16, v17, v18, v19, v20, v21, v22, v23, rfl, rfl, hPre, hFin, hs0, hs1, hs2, hs3, hs4, hs5, hs6, hs7, hs8, hs9, hs10, hs11, h0, h1, hd1_0, h2, h3, hd3_2, h4, h5, hd5_3, hd5_4, h6, hd6_5, h7, h8, hd8_7, h9, h10, hd10_8, hd10_9, h11, hd11_1, hd11_6, hd11_10, hd12_11⟩ hl hall K' hK
        have e8l : l8 = true := hall ⟨8, .data⟩ (by simp) (by rfl)
        have e9l : l9 = true := hall ⟨9, .data⟩ (by simp) (by rfl)
        have e10l : l10 = false := by simpa using hl
        clear hall hl
        subst e8l e9l e10l
        have esl : l12 = false := by cases l12 with | false => rfl | true => exact absurd (hs10 rfl) (by decide)
        subst esl
        have hB := hPre rfl
        have ed7 := hd8_7 rfl
        subst ed7
        simp only [putL, Act.put, List.setIfInBounds_toArray, List.set_cons_zero, List.set_cons_succ]
        have e8 := h8 rfl
        have e9 := h9 rfl
        have e7 := h7 rfl
        simp only [e8, e9, e7]
        go_simp
        try simp only [hw, hw']
        have hh := hK.out [v12, v13, v14, v15, v16, v17, v18, v19, v20, v21, Value.int IntKind.i64 (d.e + (z : Int)), v23] wx ⟨l0, l1, l2, l3, l4, l5, l6, true, true, true, true, l11, false, v12, v13, v14, v15, v16, v17, v18, v19, v20, v21, Value.int IntKind.i64 (d.e + (z : Int)), v23, rfl, rfl, fun _ => hB, nofun, nofun, nofun, nofun, nofun, nofun, nofun, nofun, fun _ => rfl, fun _ => rfl, fun _ => rfl, fun _ => rfl, nofun, h0, h1, hd1_0, h2, h3, hd3_2, h4, h5, hd5_3, hd5_4, h6, hd6_5, h7, h8, fun _ => rfl, h9, fun _ => rfl, fun _ => rfl, fun _ => rfl, h11, hd11_1, hd11_6, fun _ => rfl, hd12_11⟩
        simp only [putL, Act.put, List.setIfInBounds_toArray, List.set_cons_zero, List.set_cons_succ] at hh
        simp only [e8, e9, e7] at hh
        exact hh
      · rintro _ _ wx ⟨l0, l1, l2, l3, l4, l5, l6, l7, l8, l9, l10, l11, l12, v12, v13, v14, v15, v16, v17, v18, v19, v20, v21, v22, v23, rfl, rfl, hPre, hFin, hs0, hs1, hs2, hs3, hs4, hs5, hs6, hs7, hs8, hs9, hs10, hs11, h0, h1, hd1_0, h2, h3, hd3_2, h4, h5, hd5_3, hd5_4, h6, hd6_5, h7, h8, hd8_7, h9, h10, hd10_8, hd10_9, h11, hd11_1, hd11_6, hd11_10, hd12_11⟩ hl hall K' hK
        have e1l : l1 = true := hall ⟨1, .data⟩ (by simp) (by rfl)
        have e6l : l6 = true := hall ⟨6, .data⟩ (by simp) (by rfl)
        have e10l : l10 = true := hall ⟨10, .data⟩ (by simp) (by rfl)
        have e11l : l11 = false := by simpa using hl
        clear hall hl
        subst e1l e6l e10l e11l
        have esl : l12 = false := by cases l12 with | false => rfl | true => exact absurd (hs11 rfl) (by decide)
        subst esl
        have hB := hPre rfl
        have ed0 := hd1_0 rfl
        subst ed0
        have ed5 := hd6_5 rfl
        subst ed5
        have ed8 := hd10_8 rfl
        subst ed8
        have ed9 := hd10_9 rfl
        subst ed9
        have ed3 := hd5_3 rfl
        subst ed3
        have ed4 := hd5_4 rfl
        subst ed4
        have ed7 := hd8_7 rfl
        subst ed7
        have ed2 := hd3_2 rfl
        subst ed2
        simp only [putL, Act.put, List.setIfInBounds_toArray, List.set_cons_zero, List.set_cons_succ]
        have e1 := h1 rfl
        have e10 := h10 rfl
        have e0 := h0 rfl
        have e8 := h8 rfl
        have e9 := h9 rfl
        have e3 := h3 rfl
        have e4 := h4 rfl
        have e7 := h7 rfl
        have e2 := h2 rfl
        have hR4 := h6 rfl rfl
        obtain ⟨Ac, cc, ec, -⟩ := hR4.1.form
        simp only [e1, e10, e0, e8, e9, e3, e4, e7, e2, ec]
        go_simp
        have hh := hK.out [v12, v13, v14, v15, v16, v17, v18, v19, v20, v21, v22, Value.agg #[.bool d.s, v18, .int .i64 (d.e + (z : Int))]] wx ⟨true, true, true, true, true, true, true, true, true, true, true, true, false, v12, v13, v14, v15, v16, v17, v18, v19, v20, v21, v22, Value.agg #[.bool d.s, v18, .int .i64 (d.e + (z : Int))], rfl, rfl, fun _ => hB, nofun, fun _ => rfl, fun _ => rfl, fun _ => rfl, fun _ => rfl, fun _ => rfl, fun _ => rfl, fun _ => rfl, fun _ => rfl, fun _ => rfl, fun _ => rfl, fun _ => rfl, fun _ => rfl, h0, h1, fun _ => rfl, h2, h3, fun _ => rfl, h4, fun _ h => absurd h (by decide), fun _ => rfl, fun _ => rfl, h6, fun _ => rfl, h7, h8, fun _ => rfl, h9, h10, fun _ => rfl, fun _ => rfl, fun _ => rfl, fun _ => rfl, fun _ => rfl, fun _ => rfl, fun _ => rfl⟩
        simp only [putL, Act.put, List.setIfInBounds_toArray, List.set_cons_zero, List.set_cons_succ] at hh
        simp only [e1, e10, e0, e8, e9, e3, e4, e7, e2, ec] at hh
        exact hh
      · rintro _ _ wx ⟨l0, l1, l2, l3, l4, l5, l6, l7, l8, l9, l10, l11, l12, v12, v13, v14, v15, v16, v17, v18, v19, v20, v21, v22, v23, rfl, rfl, hPre, hFin, hs0, hs1, hs2, hs3, hs4, hs5, hs6, hs7, hs8, hs9, hs10, hs11, h0, h1, hd1_0, h2, h3, hd3_2, h4, h5, hd5_3, hd5_4, h6, hd6_5, h7, h8, hd8_7, h9, h10, hd10_8, hd10_9, h11, hd11_1, hd11_6, hd11_10, hd12_11⟩ hl hall K' hK
        have e11l : l11 = true := hall ⟨11, .data⟩ (by simp) (by rfl)
        have e12l : l12 = false := by simpa using hl
        clear hall hl
        subst e11l e12l
        have hB := hPre rfl
        have ed1 := hd11_1 rfl
        subst ed1
        have ed6 := hd11_6 rfl
        subst ed6
        have ed10 := hd11_10 rfl
        subst ed10
        have ed0 := hd1_0 rfl
        subst ed0
        have ed5 := hd6_5 rfl
        subst ed5
        have ed8 := hd10_8 rfl
        subst ed8
        have ed9 := hd10_9 rfl
        subst ed9
        have ed3 := hd5_3 rfl
        subst ed3
        have ed4 := hd5_4 rfl
        subst ed4
        have ed7 := hd8_7 rfl
        subst ed7
        have ed2 := hd3_2 rfl
        subst ed2
        simp only [putL, Act.put, List.setIfInBounds_toArray, List.set_cons_zero, List.set_cons_succ]
        have e11 := h11 rfl
        have e1 := h1 rfl
        have e10 := h10 rfl
        have e0 := h0 rfl
        have e8 := h8 rfl
        have e9 := h9 rfl
        have e3 := h3 rfl
        have e4 := h4 rfl
        have e7 := h7 rfl
        have e2 := h2 rfl
        have hR4 := h6 rfl rfl
        obtain ⟨Ac, cc, ec, -⟩ := hR4.1.form
        rw [ec] at hR4
        have b3' := B3.out.keep hB
        obtain ⟨z0, z1, z2, zf, -⟩ := b3'.cells
        simp only [e11, e1, e10, e0, e8, e9, e3, e4, e7, e2, ec]
        go_simp
        have hh := hK.out [v12, v13, v14, v15, v16, v17, v18, v19, v20, v21, v22, v23] (((wx.setCell ⟨w.heap.size + 1, 0, none⟩ (.bool d.s)).setCell ⟨w.heap.size + 1, 1, none⟩ (.slice Ac (nd 64 D1) cc)).setCell ⟨w.heap.size + 1, 2, none⟩ (.int .i64 (d.e + (z : Int)))) ⟨true, true, true, true, true, true, true, true, true, true, true, true, true, v12, v13, v14, v15, v16, v17, v18, v19, v20, v21, v22, v23, rfl, rfl, nofun, fun _ => SumG.of (W := W) b3' hR4 HWs.out (by omega) (keep_belowB HB.out hB (by have := HB.out.size; omega)), fun _ => rfl, fun _ => rfl, fun _ => rfl, fun _ => rfl, fun _ => rfl, fun _ => rfl, fun _ => rfl, fun _ => rfl, fun _ => rfl, fun _ => rfl, fun _ => rfl, fun _ => rfl, h0, h1, fun _ => rfl, h2, h3, fun _ => rfl, h4, fun _ h => absurd h (by decide), fun _ => rfl, fun _ => rfl, fun _ h => absurd h (by decide), fun _ => rfl, h7, h8, fun _ => rfl, h9, h10, fun _ => rfl, fun _ => rfl, h11, fun _ => rfl, fun _ => rfl, fun _ => rfl, fun _ => rfl⟩
        simp only [putL, Act.put, List.setIfInBounds_toArray, List.set_cons_zero, List.set_cons_succ] at hh
        simp only [e11, e1, e10, e0, e8, e9, e3, e4, e7, e2, ec] at hh
        exact hh
    · rintro vs wx ⟨l0, l1, l2, l3, l4, l5, l6, l7, l8, l9, l10, l11, l12, v12, v13, v14, v15, v16, v17, v18, v19, v20, v21, v22, v23, hl, rfl, hPre, hFin, hs0, hs1, hs2, hs3, hs4, hs5, hs6, hs7, hs8, hs9, hs10, hs11, h0, h1, hd1_0, h2, h3, hd3_2, h4, h5, hd5_3, hd5_4, h6, hd6_5, h7, h8, hd8_7, h9, h10, hd10_8, hd10_9, h11, hd11_1, hd11_6, hd11_10, hd12_11⟩
      obtain ⟨rfl, rfl, rfl, rfl, rfl, rfl, rfl, rfl, rfl, rfl, rfl, rfl, rfl⟩ : true = l0 ∧ true = l1 ∧ true = l2 ∧ true = l3 ∧ true = l4 ∧ true = l5 ∧ true = l6 ∧ true = l7 ∧ true = l8 ∧ true = l9 ∧ true = l10 ∧ true = l11 ∧ true = l12 := by simpa using hl
      simp only [putL, Act.put, List.setIfInBounds_toArray, List.set_cons_zero, List.set_cons_succ]
      have hF := Lib.hid (hFin rfl)
      clear hPre hFin hs0 hs1 hs2 hs3 hs4 hs5 hs6 hs7 hs8 hs9 hs10 hs11 h0 h1 hd1_0 h2 h3 hd3_2 h4 h5 hd5_3 hd5_4 h6 hd6_5 h7 h8 hd8_7 h9 h10 hd10_8 hd10_9 h11 hd11_1 hd11_6 hd11_10 hd12_11
      obtain ⟨Ax, cx, hbx, hrx, hBx⟩ := hF.out
      obtain ⟨q0, q1, q2, -, -⟩ := hbx.cells
      clear hF
      go_wp2_with fail
      refine bodyPost_ret (v := .agg #[.bool d.s, .slice Ax (nd 64 D1) cx, .int .i64 (d.e + (z : Int))]) (by simp [results, Tryd.results61, go_sem, q0, q1, q2]) rfl ?_
      exact ⟨_, rfl, hrx, hBx⟩
    · rintro _ vs wx ⟨l0, l1, l2, l3, l4, l5, l6, l7, l8, l9, l10, l11, l12, v12, v13, v14, v15, v16, v17, v18, v19, v20, v21, v22, v23, rfl, _⟩
      rfl

end Go.Proofs.YtakjbmlkcbedmaaDoor
