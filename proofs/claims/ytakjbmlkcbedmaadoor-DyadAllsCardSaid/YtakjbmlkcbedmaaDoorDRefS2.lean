/- The walk of vernierref03.Scale. -/
import Derived.Test.YtakjbmlkcbedmaaDoorDRefI
namespace Go.Proofs.YtakjbmlkcbedmaaDoor
set_option linter.unusedVariables false
set_option linter.unusedSimpArgs false
open Go.RowKit

set_option maxRecDepth 100000 in
set_option maxHeartbeats 4000000 in
theorem rScale_any (s : Bool) (A : Option Addr) (N n c : Nat) (e k : Int) (w : World) (hv : Rd 64 w (.slice A n c) N n) (hk : -9223372036854775808 ≤ k ∧ k ≤ 9223372036854775807) :
    Calls Tryd.prog 50 #[.agg #[.bool s, .slice A n c, .int .i64 e], .int .i64 k] w fun e' w' => ∃ x, e' = .returned (.tuple #[x, .int .i64 (scaleD n ⟨s, N, e⟩ k).2]) ∧ DV w.heap.size w' x (scaleD n ⟨s, N, e⟩ k).1 ∧ Below w.heap.size w w' := by
  have hb0 := below2 w (.cells #[.bool s, .slice A n c, .int .i64 e] 26) (.cells #[.bool false, .slice none 0 0, .int .i64 0] 26)
  have b1 := (Box3.new w (.bool s) (.slice A n c) (.int .i64 e) 26).alloc (.cells #[.bool false, .slice none 0 0, .int .i64 0] 26)
  have b2 := Box3.new1 w (.cells #[.bool s, .slice A n c, .int .i64 e] 26) (.bool false) (.slice none 0 0) (.int .i64 0) 26
  obtain ⟨W, hW⟩ : ∃ W, W = (w.alloc (.cells #[.bool s, .slice A n c, .int .i64 e] 26)).alloc (.cells #[.bool false, .slice none 0 0, .int .i64 0] 26) := ⟨_, rfl⟩
  have hWs : w.heap.size + 1 < W.heap.size := by rw [hW]; simp
  have hvW : Rd 64 W (.slice A n c) N n := by rw [hW]; exact hv.below hb0
  rw [← hW] at hb0 b1 b2
  have HBad := Lib.hid (rBad_any s A n c e W hvW.len)
  have HB := Lib.hid hb0
  have B1 := Lib.hid b1
  have B3 := Lib.hid b2
  have HWs := Lib.hid hWs
  have R := Lib.hid hvW
  obtain ⟨p0, p1, p2, -, -⟩ := b1.cells
  obtain ⟨S, hS⟩ : ∃ S, S = scaleD n ⟨s, N, e⟩ k := ⟨_, rfl⟩
  rw [← hS]
  have hlt := hvW.lt
  clear hb0 b1 b2 hWs hv hvW
  go_enter Tryd.func50, Tryd.ntmps50
  go_upto_region 1 with (fail)
  rw [← hW]
  clear hW
  go_wp2_with fail
  refine HBad.out.mono ?_
  rintro _ w1 ⟨rfl, hb⟩
  replace HB := Lib.hid (keep_belowB HB.out hb (by have := HB.out.size; omega))
  replace B1 := Lib.hid (B1.out.keep hb)
  replace B3 := Lib.hid (B3.out.keep hb)
  replace R := Lib.hid (R.out.below hb)
  have hsz := hb.size
  replace HWs := Lib.hid (show w.heap.size + 1 < w1.heap.size by have := HWs.out; omega)
  clear hb HBad p0 p1 p2 hsz
  obtain ⟨p0, p1, p2, -, -⟩ := B1.out.cells
  obtain ⟨y0, y1, y2, yf, -⟩ := B3.out.cells
  by_cases hr : refD n e = 0
  · rw [hr]
    rw [scale_ref hr hlt] at hS
    obtain ⟨r1, r2, r3⟩ := refD_zero hr
    have hnd := nd32_of hlt r1
    have HO := Lib.hid (rOf_any s A N n c e w1 R.out (by omega))
    clear hr
    go_wp2_with fail
    refine HO.out.mono ?_
    rintro _ w2 ⟨_, rfl, ⟨V, rfl, rv⟩, hb'⟩
    obtain ⟨A3, c3, rfl, -, -⟩ := rv.form
    have hb2 := below1 w2 (.cells #[.bool s, .slice A3 (nd 32 N) c3, .int .i64 e] 53)
    have B4 := Lib.hid (Box3.new w2 (.bool s) (.slice A3 (nd 32 N) c3) (.int .i64 e) 53)
    have hb := hb'.trans (hb2.mono hb'.size)
    have R4 := Lib.hid (rv.below hb2)
    have F4 := Lib.hid rv
    have HB0 := Lib.hid (keep_belowB HB.out hb' (Nat.le_refl _))
    have B30 := Lib.hid (B3.out.keep hb')
    replace HB := Lib.hid (keep_belowB HB.out hb (by have := HB.out.size; omega))
    replace B3 := Lib.hid (B3.out.keep hb)
    have hg4 := Lib.hid (show w.heap.size + 1 < w2.heap.size by have h1 := hb'.size; have h2 := HWs.out; omega)
    clear hb hb' hb2 HO p0 p1 p2 y0 y1 y2 yf rv R B1
    obtain ⟨p0, p1, p2, pf, -⟩ := B4.out.cells
    by_cases h0 : N = 0
    · rw [if_pos h0] at hS
      have hz : nd 32 N = 0 := by rw [h0]; exact nd_zero 32
      have HS := Lib.hid hS
      obtain ⟨y0, y1, y2, yf, -⟩ := B3.out.cells
      rw [hz] at p0 p1 p2 HB B3 y0 y1 y2 ⊢
      simp only [hz] at yf
      clear hS R4 F4 B4 hnd pf HB0 B30
      go_wp2_with fail
      obtain ⟨q0, q1, q2, -, -⟩ := (B3.out.setAll (.bool false) (.slice none 0 0) (.int .i64 0)).cells
      refine bodyPost_ret (v := .tuple #[.agg #[.bool false, .slice none 0 0, .int .i64 0], .int .i64 0]) (by simp [results, Tryd.results50, go_sem, y0, y1, y2, q0, q1, q2]) rfl ?_
      exact ⟨_, by rw [HS.out], by rw [HS.out]; exact DV.zero, by first | exact HB.out | exact below_box HB.out (by omega) _ _ _⟩
    · rw [if_neg h0] at hS
      have hp := nd_pos 32 N h0
      have hz : (((nd 32 N : Nat) : Int) == 0) = false := by rw [beq_eq_false_iff_ne]; omega
      have HN := Lib.hid (show nd 32 N ≤ 20000 by omega)
      have HE := Lib.hid (show -10000000 ≤ e + clampR k ∧ e + clampR k ≤ 10000000 by unfold clampR; omega)
      unfold clampR at hS HE
      have HS := Lib.hid hS
      have hw : IntKind.i64.wrap (e + max (min k 1000000) (-1000000)) = e + max (min k 1000000) (-1000000) := by rw [IntKind.wrap_i64]; omega
      clear hS
      go_wp2_with fail
      have hb2 := below1 w2 (.cells #[.bool s, .slice A3 (nd 32 N) c3, .int .i64 (e + max (min k 1000000) (-1000000))] 53)
      have hAn := rAnswer_any _ ⟨s, N, e + max (min k 1000000) (-1000000)⟩ _ (numV_of (F4.out.below hb2)) HN.out HE.out
      rw [← HS.out] at hAn
      refine hAn.mono ?_
      rintro _ w5 ⟨_, rfl, hdv, hb⟩
      obtain ⟨A2, c2, rfl, -⟩ := id hdv
      have HBn := Lib.hid (keep_belowB (keep_belowB HB0.out hb2 (Nat.le_refl _)) hb (Nat.le_refl _))
      have B3n := Lib.hid ((B30.out.keep hb2).keep hb)
      have HD := Lib.hid hdv
      have hsz : w2.heap.size ≤ (w2.alloc (.cells #[.bool s, .slice A3 (nd 32 N) c3, .int .i64 (e + max (min k 1000000) (-1000000))] 53)).heap.size := hb2.size
      have hg := Lib.hid (show w.heap.size + 1 < (w2.alloc (.cells #[.bool s, .slice A3 (nd 32 N) c3, .int .i64 (e + max (min k 1000000) (-1000000))] 53)).heap.size from Nat.lt_of_lt_of_le hg4.out hsz)
      clear hb hb2 hdv hAn hsz HB0 B30 HB B3 B4 R4 F4 HS HN HE hw p0 p1 p2 pf
      obtain ⟨y0, y1, y2, yf, -⟩ := B3n.out.cells
      go_wp2_with fail
      obtain ⟨q0, q1, q2, -, -⟩ := (B3n.out.setAll (.bool S.1.s) (.slice A2 (nd 64 S.1.n) c2) (.int .i64 S.1.e)).cells
      refine bodyPost_ret (v := .tuple #[.agg #[.bool S.1.s, .slice A2 (nd 64 S.1.n) c2, .int .i64 S.1.e], .int .i64 S.2]) (by simp [results, Tryd.results50, go_sem, q0, q1, q2]) rfl ?_
      exact ⟨_, rfl, (HD.out.setBox hg.out _ _ _).mono (Nat.le_trans (Nat.le_succ _) (Nat.le_of_lt hg.out)), below_box HBn.out (by omega) _ _ _⟩
  · have hne : (refD n e != 0) = true := by simpa using hr
    have hS' : S = (D.zero, refD n e) := by rw [hS]; unfold scaleD; exact if_neg hr
    have HS := Lib.hid hS'
    generalize refD n e = rr at *
    clear hS hr hS'
    go_wp2_with fail
    obtain ⟨q0, q1, q2, -, -⟩ := (B3.out.setAll (.bool false) (.slice none 0 0) (.int .i64 0)).cells
    refine bodyPost_ret (v := .tuple #[.agg #[.bool false, .slice none 0 0, .int .i64 0], .int .i64 rr]) (by simp [results, Tryd.results50, go_sem, y0, y1, y2, q0, q1, q2]) rfl ?_
    exact ⟨_, by rw [HS.out], by rw [HS.out]; exact DV.zero, by first | exact HB.out | exact below_box HB.out (by omega) _ _ _⟩

end Go.Proofs.YtakjbmlkcbedmaaDoor
