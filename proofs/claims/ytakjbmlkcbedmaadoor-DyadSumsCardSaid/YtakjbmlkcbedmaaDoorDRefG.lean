/- The walk of vernierref03.Mul. Printed by gen/drefg.py. -/
import Derived.Test.YtakjbmlkcbedmaaDoorDRefF
namespace Go.Proofs.YtakjbmlkcbedmaaDoor
set_option linter.unusedVariables false
set_option linter.unusedSimpArgs false
open Go.RowKit

theorem numV_of {w : World} {s : Bool} {A : Option Addr} {c N : Nat} {E : Int} (h : Rd 32 w (.slice A (nd 32 N) c) N (nd 32 N)) : NumV w (.agg #[.bool s, .slice A (nd 32 N) c, .int .i64 E]) ⟨s, N, E⟩ := ⟨_, rfl, h⟩

set_option maxRecDepth 100000 in
set_option maxHeartbeats 4000000 in
theorem rMul_any (s1 s2 : Bool) (A1 A2 : Option Addr) (N n1 c1 M n2 c2 : Nat) (e1 e2 : Int) (w : World) (hv : Rd 64 w (.slice A1 n1 c1) N n1) (hu : Rd 64 w (.slice A2 n2 c2) M n2) :
    Calls Tryd.prog 48 #[.agg #[.bool s1, .slice A1 n1 c1, .int .i64 e1], .agg #[.bool s2, .slice A2 n2 c2, .int .i64 e2]] w fun e' w' => ∃ x, e' = .returned (.tuple #[x, .int .i64 (mulD n1 ⟨s1, N, e1⟩ n2 ⟨s2, M, e2⟩).2]) ∧ DV w.heap.size w' x (mulD n1 ⟨s1, N, e1⟩ n2 ⟨s2, M, e2⟩).1 ∧ Below w.heap.size w w' := by
  have hb0 := below3 w (.cells #[.bool s1, .slice A1 n1 c1, .int .i64 e1] 26) (.cells #[.bool s2, .slice A2 n2 c2, .int .i64 e2] 26) (.cells #[.bool false, .slice none 0 0, .int .i64 0] 26)
  have b1 := ((Box3.new w (.bool s1) (.slice A1 n1 c1) (.int .i64 e1) 26).alloc (.cells #[.bool s2, .slice A2 n2 c2, .int .i64 e2] 26)).alloc (.cells #[.bool false, .slice none 0 0, .int .i64 0] 26)
  have b2 := (Box3.new1 w (.cells #[.bool s1, .slice A1 n1 c1, .int .i64 e1] 26) (.bool s2) (.slice A2 n2 c2) (.int .i64 e2) 26).alloc (.cells #[.bool false, .slice none 0 0, .int .i64 0] 26)
  have b3 := Box3.new2 w (.cells #[.bool s1, .slice A1 n1 c1, .int .i64 e1] 26) (.cells #[.bool s2, .slice A2 n2 c2, .int .i64 e2] 26) (.bool false) (.slice none 0 0) (.int .i64 0) 26
  obtain ⟨W, hW⟩ : ∃ W, W = ((w.alloc (.cells #[.bool s1, .slice A1 n1 c1, .int .i64 e1] 26)).alloc (.cells #[.bool s2, .slice A2 n2 c2, .int .i64 e2] 26)).alloc (.cells #[.bool false, .slice none 0 0, .int .i64 0] 26) := ⟨_, rfl⟩
  have hWs : w.heap.size + 1 + 1 < W.heap.size := by rw [hW]; simp
  have hvW : Rd 64 W (.slice A1 n1 c1) N n1 := by rw [hW]; exact hv.below hb0
  have huW : Rd 64 W (.slice A2 n2 c2) M n2 := by rw [hW]; exact hu.below hb0
  rw [← hW] at hb0 b1 b2 b3
  have HBt := Lib.hid (rBoth_any s1 s2 A1 A2 N n1 c1 M n2 c2 e1 e2 W hvW huW)
  have HB := Lib.hid hb0
  have B1 := Lib.hid b1
  have B2 := Lib.hid b2
  have B3 := Lib.hid b3
  have HWs := Lib.hid hWs
  have R1 := Lib.hid hvW
  have R2 := Lib.hid huW
  obtain ⟨p0, p1, p2, -, -⟩ := b1.cells
  obtain ⟨q0, q1, q2, -, -⟩ := b2.cells
  obtain ⟨S, hS⟩ : ∃ S, S = mulD n1 ⟨s1, N, e1⟩ n2 ⟨s2, M, e2⟩ := ⟨_, rfl⟩
  rw [← hS]
  have hlt1 := hvW.lt
  have hlt2 := huW.lt
  clear hb0 b1 b2 b3 hWs hv hvW hu huW
  go_enter Tryd.func48, Tryd.ntmps48
  go_upto_region 1 with (fail)
  rw [← hW]
  clear hW
  go_wp2_with fail
  refine HBt.out.mono ?_
  rintro _ w1 ⟨rfl, hb⟩
  replace B1 := Lib.hid (B1.out.keep hb)
  replace R1 := Lib.hid (R1.out.below hb)
  replace HB := Lib.hid (keep_belowB HB.out hb (by have := HB.out.size; omega))
  replace B2 := Lib.hid (B2.out.keep hb)
  replace B3 := Lib.hid (B3.out.keep hb)
  replace R2 := Lib.hid (R2.out.below hb)
  have hsz := hb.size
  replace HWs := Lib.hid (show w.heap.size + 1 + 1 < w1.heap.size by have := HWs.out; omega)
  clear hb HBt p0 p1 p2 q0 q1 q2 hsz
  obtain ⟨p0, p1, p2, -, -⟩ := B1.out.cells
  obtain ⟨q0, q1, q2, -, -⟩ := B2.out.cells
  obtain ⟨y0, y1, y2, yf, -⟩ := B3.out.cells
  by_cases hr : twoD n1 e1 n2 e2 = 0
  · rw [hr]
    rw [mul_ref hr hlt1 hlt2] at hS
    obtain ⟨ra, rb⟩ := twoD_zero hr
    obtain ⟨r1, r2, r3⟩ := refD_zero ra
    obtain ⟨t1, t2, t3⟩ := refD_zero rb
    have hnd1 := nd32_of hlt1 r1
    have hnd2 := nd32_of hlt2 t1
    have hHS := Lib.hid hS
    have L2 := Lib.hid (show n2 ≤ 1000000 by omega)
    have HO1 := Lib.hid (rOf_any s1 A1 N n1 c1 e1 w1 R1.out (by omega))
    have GT := Lib.hid (show nd 32 N + nd 32 M ≤ 35184372088832 by omega)
    have GA := Lib.hid (show nd 32 (N * M) ≤ 20000 by
      refine Nat.le_trans (nd_le 32 (N * M) (nd 32 N + nd 32 M) (by decide) ?_) (by omega)
      rw [Nat.mul_add, Nat.pow_add]
      exact Nat.mul_lt_mul_of_lt_of_lt (lt_nd 32 N (by decide)) (lt_nd 32 M (by decide)))
    have GB := Lib.hid (show -10000000 ≤ e1 + e2 ∧ e1 + e2 ≤ 10000000 by omega)
    have hw : IntKind.i64.wrap (e1 + e2) = e1 + e2 := by rw [IntKind.wrap_i64]; omega
    have hw' : wrap64 (e1 + e2) = e1 + e2 := by unfold wrap64; omega
    clear hr ra rb hS r1 r2 r3 t1 t2 t3 hnd1 hnd2 hlt1 hlt2
    go_wp2_with fail
    refine HO1.out.mono ?_
    rintro _ w2 ⟨_, rfl, ⟨V1, rfl, rv⟩, hb'⟩
    obtain ⟨A3, c3, rfl, -, -⟩ := rv.form
    have hb2 := below1 w2 (.cells #[.bool s1, .slice A3 (nd 32 N) c3, .int .i64 e1] 53)
    have B4 := Lib.hid (Box3.new w2 (.bool s1) (.slice A3 (nd 32 N) c3) (.int .i64 e1) 53)
    have hb := hb'.trans (hb2.mono hb'.size)
    have R4 := Lib.hid (rv.below hb2)
    have hg4 := Lib.hid (show w.heap.size + 1 + 1 < w2.heap.size by have h1 := hb'.size; have h2 := HWs.out; omega)
    replace HB := Lib.hid (keep_belowB HB.out hb (by have := HB.out.size; omega))
    replace B2 := Lib.hid (B2.out.keep hb)
    replace B3 := Lib.hid (B3.out.keep hb)
    replace R2 := Lib.hid (R2.out.below hb)
    have hsz := hb.size
    replace HWs := Lib.hid (show w.heap.size + 1 + 1 < (w2.alloc (.cells #[.bool s1, .slice A3 (nd 32 N) c3, .int .i64 e1] 53)).heap.size by have := HWs.out; omega)
    clear hb hb' hb2 HO1 p0 p1 p2 q0 q1 q2 y0 y1 y2 yf hsz rv R1 B1
    obtain ⟨q0, q1, q2, -, -⟩ := B2.out.cells
    have HO2 := Lib.hid (rOf_any s2 A2 M n2 c2 e2 _ R2.out L2.out)
    go_wp2_with fail
    refine HO2.out.mono ?_
    rintro _ w3 ⟨_, rfl, ⟨V2, rfl, rv⟩, hb'⟩
    obtain ⟨A4, c4, rfl, -, -⟩ := rv.form
    have hb2 := below1 w3 (.cells #[.bool s2, .slice A4 (nd 32 M) c4, .int .i64 e2] 53)
    have B5 := Lib.hid (Box3.new w3 (.bool s2) (.slice A4 (nd 32 M) c4) (.int .i64 e2) 53)
    have hb := hb'.trans (hb2.mono hb'.size)
    have R5 := Lib.hid (rv.below hb2)
    have hg5 := Lib.hid (show w.heap.size + 1 + 1 < w3.heap.size by have h1 := hb'.size; have h2 := HWs.out; omega)
    replace R4 := Lib.hid (R4.out.below hb)
    replace B4 := Lib.hid (B4.out.keep hb)
    replace HB := Lib.hid (keep_belowB HB.out hb (by have := HB.out.size; omega))
    replace B3 := Lib.hid (B3.out.keep hb)
    have hsz := hb.size
    replace HWs := Lib.hid (show w.heap.size + 1 + 1 < (w3.alloc (.cells #[.bool s2, .slice A4 (nd 32 M) c4, .int .i64 e2] 53)).heap.size by have := HWs.out; omega)
    clear hb hb' hb2 HO2 q0 q1 q2 hsz rv R2 B2 L2
    obtain ⟨p0, p1, p2, -, -⟩ := B4.out.cells
    obtain ⟨q0, q1, q2, -, -⟩ := B5.out.cells
    have hBW1 := HB.out
    have b2w := B3.out
    have hle2 : w.heap.size ≤ w.heap.size + 1 + 1 := by omega
    have hz1 := HWs.out
    have hg4' := hg4.out
    have hg5' := hg5.out
    have hHS' : Hid (S = ansD ⟨!(s1 == s2), N * M, e1 + e2⟩) := hHS.out
    clear HB B3 HWs B4 B5 hg4 hg5 hHS
    go_wp2_with fail
    go_region_held3 (fun w' => w'.cell? ⟨w2.heap.size, 0, none⟩ = some (.bool s1) ∧ w'.cell? ⟨w2.heap.size, 1, none⟩ = some (.slice A3 (nd 32 N) c3) ∧ w'.cell? ⟨w2.heap.size, 2, none⟩ = some (.int .i64 e1) ∧
        w'.cell? ⟨w3.heap.size, 0, none⟩ = some (.bool s2) ∧ w'.cell? ⟨w3.heap.size, 1, none⟩ = some (.slice A4 (nd 32 M) c4) ∧ w'.cell? ⟨w3.heap.size, 2, none⟩ = some (.int .i64 e2) ∧ Below w.heap.size w w')
      (first | exact ⟨p0, p1, p2, q0, q1, q2, hBW1.drew⟩ | exact ⟨keep_cell hx1 p0, keep_cell hx1 p1, keep_cell hx1 p2, keep_cell hx1 q0, keep_cell hx1 q1, keep_cell hx1 q2, keep_belowB hBW1.drew hx1 (Nat.le_refl _)⟩ | ((try go_split_ands); refine ⟨keep_cell hx2 ?_, keep_cell hx2 ?_, keep_cell hx2 ?_, keep_cell hx2 ?_, keep_cell hx2 ?_, keep_cell hx2 ?_, keep_belowB ?_ hx2 (Nat.le_refl _)⟩ <;> assumption) | ((try go_split_ands); refine ⟨cell_box_other (by omega) ?_, cell_box_other (by omega) ?_, cell_box_other (by omega) ?_, cell_box_other (by omega) ?_, cell_box_other (by omega) ?_, cell_box_other (by omega) ?_, below_box ?_ hle2 _ _ _⟩ <;> assumption))
      (first | (go_at_call 68; (with_reducible refine (rTimes_any (.slice A3 (nd 32 N) c3) (.slice A4 (nd 32 M) c4) N (nd 32 N) M (nd 32 M) _ ?_ ?_ GT.out).mono ?_); exact R4.out.drew; exact R5.out.drew; rintro e w7 ⟨v7, rfl, ⟨hV7, hF7⟩, hx1⟩; obtain ⟨A5, c5, rfl, -, -⟩ := hV7.form; have b2x := (b2w.keep (Below.refl _ _).drew).keep hx1; have hz2 := hx1.size) | (go_at_call 29; (with_reducible refine (rAnswer_any (.agg #[.bool (!(s1 == s2)), .slice A5 (nd 32 (N * M)) c5, .int .i64 (e1 + e2)]) ⟨!(s1 == s2), N * M, e1 + e2⟩ _ (numV_of hV7) GA.out GB.out).mono ?_); rw [← hHS'.out]; rintro e w8 ⟨x8, rfl, hVL, hx2⟩; obtain ⟨A6, c6, rfl, hc6, hcm6, hR6, hF6⟩ := id hVL; have b2L := b2x.keep hx2; obtain ⟨z1, z2, z3, z4, z5⟩ := b2L.cells))
    obtain ⟨z6, z7, z8, -, -⟩ := (b2L.setAll (.bool S.1.s) (.slice A6 (nd 64 S.1.n) c6) (.int .i64 S.1.e)).cells
    go_wp2
    refine bodyPost_ret (v := .tuple #[.agg #[.bool S.1.s, .slice A6 (nd 64 S.1.n) c6, .int .i64 S.1.e], .int .i64 S.2]) (by simp [results, Tryd.results48, go_sem, z6, z7, z8]) rfl ?_
    have h2 : w3.heap.size ≤ w7.heap.size := Nat.le_trans (below1 w3 _).size hz2
    exact ⟨_, rfl, (hVL.setBox (show w.heap.size + 1 + 1 < w7.heap.size by omega) _ _ _).mono (by omega), below_box (keep_belowB (keep_belowB hBW1.drew hx1 (Nat.le_refl _)) hx2 (Nat.le_refl _)) hle2 _ _ _⟩
  · have hne : (twoD n1 e1 n2 e2 != 0) = true := by simpa using hr
    have hS' : S = (D.zero, twoD n1 e1 n2 e2) := by rw [hS]; unfold mulD; exact if_neg hr
    have HS := Lib.hid hS'
    generalize twoD n1 e1 n2 e2 = rr at *
    clear hS hr hS'
    go_wp2_with fail
    obtain ⟨q0, q1, q2, -, -⟩ := (B3.out.setAll (.bool false) (.slice none 0 0) (.int .i64 0)).cells
    refine bodyPost_ret (v := .tuple #[.agg #[.bool false, .slice none 0 0, .int .i64 0], .int .i64 rr]) (by simp [results, Tryd.results48, go_sem, y0, y1, y2, q0, q1, q2]) rfl ?_
    exact ⟨_, by rw [HS.out], by rw [HS.out]; exact DV.zero, by first | exact HB.out | exact below_box HB.out (by omega) _ _ _⟩

end Go.Proofs.YtakjbmlkcbedmaaDoor
