/- The walks of vernierref03.Canon, Neg. Printed by gen/drefe.py. -/
import Derived.Test.YtakjbmlkcbedmaaDoorDRefD
namespace Go.Proofs.YtakjbmlkcbedmaaDoor
set_option linter.unusedVariables false
set_option linter.unusedSimpArgs false
open Go.RowKit

theorem nd32_of {N n : Nat} (h : N < 2 ^ (64 * n)) (hn : n ≤ 1024) : nd 32 N ≤ 2048 := by
  refine Nat.le_trans (nd_le 32 N (2 * n) (by decide) ?_) (by omega)
  rw [show 32 * (2 * n) = 64 * n by omega]; exact h


set_option maxRecDepth 100000 in
set_option maxHeartbeats 4000000 in
theorem rCanon_any (s : Bool) (A : Option Addr) (N n c : Nat) (e : Int) (w : World) (hv : Rd 64 w (.slice A n c) N n) :
    Calls Tryd.prog 39 #[.agg #[.bool s, .slice A n c, .int .i64 e]] w fun e' w' => ∃ x, e' = .returned (.tuple #[x, .int .i64 (canonD n ⟨s, N, e⟩).2]) ∧ DV w.heap.size w' x (canonD n ⟨s, N, e⟩).1 ∧ Below w.heap.size w w' := by
  have hb0 := below2 w (.cells #[.bool s, .slice A n c, .int .i64 e] 26) (.cells #[.bool false, .slice none 0 0, .int .i64 0] 26)
  have b1 := (Box3.new w (.bool s) (.slice A n c) (.int .i64 e) 26).alloc (.cells #[.bool false, .slice none 0 0, .int .i64 0] 26)
  have b2 := Box3.new1 w (.cells #[.bool s, .slice A n c, .int .i64 e] 26) (.bool false) (.slice none 0 0) (.int .i64 0) 26
  obtain ⟨W, hW⟩ : ∃ W, W = (w.alloc (.cells #[.bool s, .slice A n c, .int .i64 e] 26)).alloc (.cells #[.bool false, .slice none 0 0, .int .i64 0] 26) := ⟨_, rfl⟩
  have hWs : w.heap.size + 1 < W.heap.size := by rw [hW]; simp
  have hvW : Rd 64 W (.slice A n c) N n := by rw [hW]; exact hv.below hb0
  rw [← hW] at hb0 b1 b2
  have HBad := Lib.hid (rBad_any s A n c e W hvW.len)
  have HB := Lib.hid hb0
  have B1 := Lib.hid b1
  have B3 := Lib.hid b2
  have HWs := Lib.hid hWs
  have R := Lib.hid hvW
  obtain ⟨p0, p1, p2, -, -⟩ := b1.cells
  obtain ⟨S, hS⟩ : ∃ S, S = canonD n ⟨s, N, e⟩ := ⟨_, rfl⟩
  rw [← hS]
  unfold canonD at hS
  clear hb0 b1 b2 hWs hv hvW
  go_enter Tryd.func39, Tryd.ntmps39
  go_upto_region 1 with (fail)
  rw [← hW]
  clear hW
  go_wp2_with fail
  refine HBad.out.mono ?_
  rintro _ w1 ⟨rfl, hb⟩
  replace HB := Lib.hid (keep_belowB HB.out hb (by have := HB.out.size; omega))
  replace B1 := Lib.hid (B1.out.keep hb)
  replace B3 := Lib.hid (B3.out.keep hb)
  replace R := Lib.hid (R.out.below hb)
  have hsz := hb.size
  replace HWs := Lib.hid (show w.heap.size + 1 < w1.heap.size by have := HWs.out; omega)
  clear hb HBad p0 p1 p2 hsz
  obtain ⟨p0, p1, p2, -, -⟩ := B1.out.cells
  obtain ⟨y0, y1, y2, yf, -⟩ := B3.out.cells
  by_cases hr : refD n e = 0
  · rw [hr]
    rw [if_pos hr] at hS
    obtain ⟨r1, r2, r3⟩ := refD_zero hr
    have hnd := nd32_of R.out.lt r1
    have HO := Lib.hid (rOf_any s A N n c e w1 R.out (by omega))
    clear hr
    go_wp2_with fail
    refine HO.out.mono ?_
    rintro _ w2 ⟨v, rfl, hv, hb⟩
    replace HB := Lib.hid (keep_belowB HB.out hb (by have := HB.out.size; omega))
    replace B3 := Lib.hid (B3.out.keep hb)
    have hsz := hb.size
    replace HWs := Lib.hid (show w.heap.size + 1 < w2.heap.size by have := HWs.out; omega)
    clear hb HO p0 p1 p2 y0 y1 y2 yf R B1 hsz
    have HAn := Lib.hid (rAnswer_any _ ⟨s, N, e⟩ _ hv (show nd 32 N ≤ 20000 by omega) (show -10000000 ≤ e ∧ e ≤ 10000000 by omega))
    rw [← hS] at HAn
    clear hS hnd hv
    go_wp2_with fail
    refine HAn.out.mono ?_
    rintro _ w5 ⟨_, rfl, hdv, hb⟩
    obtain ⟨A2, c2, rfl, -⟩ := id hdv
    replace HB := Lib.hid (keep_belowB HB.out hb (by have := HB.out.size; omega))
    replace B3 := Lib.hid (B3.out.keep hb)
    have HD := Lib.hid hdv
    clear hb HAn hdv
    obtain ⟨y0, y1, y2, yf, -⟩ := B3.out.cells
    go_wp2_with fail
    obtain ⟨q0, q1, q2, -, -⟩ := (B3.out.setAll (.bool S.1.s) (.slice A2 (nd 64 S.1.n) c2) (.int .i64 S.1.e)).cells
    refine bodyPost_ret (v := .tuple #[.agg #[.bool S.1.s, .slice A2 (nd 64 S.1.n) c2, .int .i64 S.1.e], .int .i64 S.2]) (by simp [results, Tryd.results39, go_sem, q0, q1, q2]) rfl ?_
    exact ⟨_, rfl, (HD.out.setBox (by have := HWs.out; omega) _ _ _).mono (by have := HWs.out; omega), below_box HB.out (by omega) _ _ _⟩
  · have hne : (refD n e != 0) = true := by simpa using hr
    rw [if_neg hr] at hS
    have HS := Lib.hid hS
    generalize refD n e = rr at *
    clear hS hr
    go_wp2_with fail
    obtain ⟨q0, q1, q2, -, -⟩ := (B3.out.setAll (.bool false) (.slice none 0 0) (.int .i64 0)).cells
    refine bodyPost_ret (v := .tuple #[.agg #[.bool false, .slice none 0 0, .int .i64 0], .int .i64 rr]) (by simp [results, Tryd.results39, go_sem, y0, y1, y2, q0, q1, q2]) rfl ?_
    exact ⟨_, by rw [HS.out], by rw [HS.out]; exact DV.zero, by first | exact HB.out | exact below_box HB.out (by omega) _ _ _⟩

set_option maxRecDepth 100000 in
set_option maxHeartbeats 4000000 in
theorem rNeg_any (s : Bool) (A : Option Addr) (N n c : Nat) (e : Int) (w : World) (hv : Rd 64 w (.slice A n c) N n) :
    Calls Tryd.prog 43 #[.agg #[.bool s, .slice A n c, .int .i64 e]] w fun e' w' => ∃ x, e' = .returned (.tuple #[x, .int .i64 (negD n ⟨s, N, e⟩).2]) ∧ DV w.heap.size w' x (negD n ⟨s, N, e⟩).1 ∧ Below w.heap.size w w' := by
  have hb0 := below2 w (.cells #[.bool s, .slice A n c, .int .i64 e] 26) (.cells #[.bool false, .slice none 0 0, .int .i64 0] 26)
  have b1 := (Box3.new w (.bool s) (.slice A n c) (.int .i64 e) 26).alloc (.cells #[.bool false, .slice none 0 0, .int .i64 0] 26)
  have b2 := Box3.new1 w (.cells #[.bool s, .slice A n c, .int .i64 e] 26) (.bool false) (.slice none 0 0) (.int .i64 0) 26
  obtain ⟨W, hW⟩ : ∃ W, W = (w.alloc (.cells #[.bool s, .slice A n c, .int .i64 e] 26)).alloc (.cells #[.bool false, .slice none 0 0, .int .i64 0] 26) := ⟨_, rfl⟩
  have hWs : w.heap.size + 1 < W.heap.size := by rw [hW]; simp
  have hvW : Rd 64 W (.slice A n c) N n := by rw [hW]; exact hv.below hb0
  rw [← hW] at hb0 b1 b2
  have HBad := Lib.hid (rBad_any s A n c e W hvW.len)
  have HB := Lib.hid hb0
  have B1 := Lib.hid b1
  have B3 := Lib.hid b2
  have HWs := Lib.hid hWs
  have R := Lib.hid hvW
  obtain ⟨p0, p1, p2, -, -⟩ := b1.cells
  obtain ⟨S, hS⟩ : ∃ S, S = negD n ⟨s, N, e⟩ := ⟨_, rfl⟩
  rw [← hS]
  unfold negD at hS
  clear hb0 b1 b2 hWs hv hvW
  go_enter Tryd.func43, Tryd.ntmps43
  go_upto_region 1 with (fail)
  rw [← hW]
  clear hW
  go_wp2_with fail
  refine HBad.out.mono ?_
  rintro _ w1 ⟨rfl, hb⟩
  replace HB := Lib.hid (keep_belowB HB.out hb (by have := HB.out.size; omega))
  replace B1 := Lib.hid (B1.out.keep hb)
  replace B3 := Lib.hid (B3.out.keep hb)
  replace R := Lib.hid (R.out.below hb)
  have hsz := hb.size
  replace HWs := Lib.hid (show w.heap.size + 1 < w1.heap.size by have := HWs.out; omega)
  clear hb HBad p0 p1 p2 hsz
  obtain ⟨p0, p1, p2, -, -⟩ := B1.out.cells
  obtain ⟨y0, y1, y2, yf, -⟩ := B3.out.cells
  by_cases hr : refD n e = 0
  · rw [hr]
    rw [if_pos hr] at hS
    obtain ⟨r1, r2, r3⟩ := refD_zero hr
    have hnd := nd32_of R.out.lt r1
    have HO := Lib.hid (rOf_any s A N n c e w1 R.out (by omega))
    clear hr
    go_wp2_with fail
    refine HO.out.mono ?_
    rintro _ w2 ⟨v, rfl, hv, hb⟩
    replace HB := Lib.hid (keep_belowB HB.out hb (by have := HB.out.size; omega))
    replace B3 := Lib.hid (B3.out.keep hb)
    have hsz := hb.size
    replace HWs := Lib.hid (show w.heap.size + 1 < w2.heap.size by have := HWs.out; omega)
    clear hb HO p0 p1 p2 y0 y1 y2 yf R B1 hsz
    have HOp := Lib.hid (rOpp_any v ⟨s, N, e⟩ w2 hv)
    clear hv
    go_wp2_with fail
    refine HOp.out.mono ?_
    rintro _ w3 ⟨v3, rfl, hv, hb⟩
    replace HB := Lib.hid (keep_belowB HB.out hb (by have := HB.out.size; omega))
    replace B3 := Lib.hid (B3.out.keep hb)
    have hsz := hb.size
    replace HWs := Lib.hid (show w.heap.size + 1 < w3.heap.size by have := HWs.out; omega)
    clear hb HOp hsz
    have HAn := Lib.hid (rAnswer_any _ ⟨!s, N, e⟩ _ hv (show nd 32 N ≤ 20000 by omega) (show -10000000 ≤ e ∧ e ≤ 10000000 by omega))
    rw [← hS] at HAn
    clear hS hnd hv
    go_wp2_with fail
    refine HAn.out.mono ?_
    rintro _ w5 ⟨_, rfl, hdv, hb⟩
    obtain ⟨A2, c2, rfl, -⟩ := id hdv
    replace HB := Lib.hid (keep_belowB HB.out hb (by have := HB.out.size; omega))
    replace B3 := Lib.hid (B3.out.keep hb)
    have HD := Lib.hid hdv
    clear hb HAn hdv
    obtain ⟨y0, y1, y2, yf, -⟩ := B3.out.cells
    go_wp2_with fail
    obtain ⟨q0, q1, q2, -, -⟩ := (B3.out.setAll (.bool S.1.s) (.slice A2 (nd 64 S.1.n) c2) (.int .i64 S.1.e)).cells
    refine bodyPost_ret (v := .tuple #[.agg #[.bool S.1.s, .slice A2 (nd 64 S.1.n) c2, .int .i64 S.1.e], .int .i64 S.2]) (by simp [results, Tryd.results43, go_sem, q0, q1, q2]) rfl ?_
    exact ⟨_, rfl, (HD.out.setBox (by have := HWs.out; omega) _ _ _).mono (by have := HWs.out; omega), below_box HB.out (by omega) _ _ _⟩
  · have hne : (refD n e != 0) = true := by simpa using hr
    rw [if_neg hr] at hS
    have HS := Lib.hid hS
    generalize refD n e = rr at *
    clear hS hr
    go_wp2_with fail
    obtain ⟨q0, q1, q2, -, -⟩ := (B3.out.setAll (.bool false) (.slice none 0 0) (.int .i64 0)).cells
    refine bodyPost_ret (v := .tuple #[.agg #[.bool false, .slice none 0 0, .int .i64 0], .int .i64 rr]) (by simp [results, Tryd.results43, go_sem, y0, y1, y2, q0, q1, q2]) rfl ?_
    exact ⟨_, by rw [HS.out], by rw [HS.out]; exact DV.zero, by first | exact HB.out | exact below_box HB.out (by omega) _ _ _⟩

end Go.Proofs.YtakjbmlkcbedmaaDoor
