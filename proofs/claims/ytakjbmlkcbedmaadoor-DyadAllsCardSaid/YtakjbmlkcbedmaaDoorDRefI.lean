/- The walk of vernierref03.FromInt. -/
import Derived.Test.YtakjbmlkcbedmaaDoorDRefT
namespace Go.Proofs.YtakjbmlkcbedmaaDoor
set_option linter.unusedVariables false
set_option linter.unusedSimpArgs false
open Go.RowKit

theorem Rd.one64 (w : World) (N : Nat) (hN : N < 18446744073709551616) (t : TypeId) : Rd 64 (w.alloc (.cells #[.int .u64 N] t)) (.slice (some ⟨w.heap.size, 0, none⟩) 1 1) N 1 := by
  refine ⟨_, 1, rfl, Nat.le_refl _, by omega, by simpa using hN, fun _ => ⟨_, 0, rfl, by simp, fun j hj => ?_⟩⟩
  obtain rfl : j = 0 := by omega
  rw [World.cell?_alloc_at _ _ _ _ rfl]
  have : dg 64 N 0 = N := by unfold dg; simp; exact hN
  rw [this]; rfl

set_option maxRecDepth 100000 in
set_option maxHeartbeats 4000000 in
theorem rFromInt_any (x : Int) (w : World) (hx : -9223372036854775808 ≤ x ∧ x ≤ 9223372036854775807) :
    Calls Tryd.prog 41 #[.int .i64 x] w fun e' w' => ∃ v, e' = .returned v ∧ DV w.heap.size w' v (fromIntD x) ∧ Below w.heap.size w w' := by
  obtain ⟨m, hm⟩ : ∃ m, m = x.natAbs := ⟨_, rfl⟩
  have hml : m < 18446744073709551616 := by omega
  have hb0 := below1 w (.cells #[.bool false, .slice none 0 0, .int .i64 0] 26)
  have b1 := Box3.new w (.bool false) (.slice none 0 0) (.int .i64 0) 26
  have HB := Lib.hid hb0
  have B3 := Lib.hid b1
  obtain ⟨S, hS⟩ : ∃ S, S = fromIntD x := ⟨_, rfl⟩
  rw [← hS]
  unfold fromIntD at hS
  rw [← hm] at hS
  have HN := Lib.hid (show nd 32 m ≤ 20000 from Nat.le_trans (nd_le 32 m 2 (by decide) (by show m < 18446744073709551616; exact hml)) (by decide))
  have hD := rDigits_any (.slice (some ⟨w.heap.size + 1, 0, none⟩) 1 1) m 1 ((w.alloc (.cells #[.bool false, .slice none 0 0, .int .i64 0] 26)).alloc (.cells #[.int .u64 (m : Int)] 42))
    (by have := Rd.one64 (w.alloc (.cells #[.bool false, .slice none 0 0, .int .i64 0] 26)) m hml 42; rwa [World.size_alloc] at this) (by decide)
  have HD := Lib.hid hD
  clear hb0 b1 hD
  by_cases hneg : x < 0
  · have t1 : decide (x < 0) = true := decide_eq_true hneg
    rw [t1] at hS
    have hHS := hS
    have w1 : IntKind.u64.wrap x = 18446744073709551616 + x := by rw [IntKind.wrap_u64]; omega
    have w2 : IntKind.u64.wrap (-(18446744073709551616 + x)) = (m : Int) := by rw [IntKind.wrap_u64]; omega
    clear hS
    clear hm hx hneg 
    go_enter Tryd.func41, Tryd.ntmps41
    go_wp2_with fail
    refine HD.out.mono ?_
    rintro _ w5 ⟨v, rfl, ⟨hv, -⟩, hb⟩
    obtain ⟨A, c, rfl, -, -⟩ := hv.form
    replace HB := Lib.hid (keep_belowB (HB.out.alloc HB.out.size _) hb (by have := HB.out.size; simp <;> omega))
    replace B3 := Lib.hid ((B3.out.alloc _).keep hb)
    have hsz := hb.size
    have HWs := Lib.hid (show w.heap.size < w5.heap.size by simp at hsz; omega)
    have HC := Lib.hid (rCanonical_any _ ⟨true, m, 0⟩ w5 (numV_of hv) HN.out (show -10000000 ≤ (0 : Int) ∧ (0 : Int) ≤ 10000000 by decide))
    rw [← hHS] at HC
    clear hb HD hsz hv hHS
    go_wp2_with fail
    refine HC.out.mono ?_
    rintro _ w6 ⟨_, rfl, hdv, hb⟩
    obtain ⟨A2, c2, rfl, -⟩ := id hdv
    replace HB := Lib.hid (keep_belowB HB.out hb (by have := HB.out.size; omega))
    replace B3 := Lib.hid (B3.out.keep hb)
    have HD := Lib.hid hdv
    clear hb HC hdv
    obtain ⟨y0, y1, y2, yf, -⟩ := B3.out.cells
    go_wp2_with fail
    obtain ⟨q0, q1, q2, -, -⟩ := (B3.out.setAll (.bool S.s) (.slice A2 (nd 64 S.n) c2) (.int .i64 S.e)).cells
    refine bodyPost_ret (v := .agg #[.bool S.s, .slice A2 (nd 64 S.n) c2, .int .i64 S.e]) (by simp [results, Tryd.results41, go_sem, q0, q1, q2]) rfl ?_
    exact ⟨_, rfl, (HD.out.setBox HWs.out _ _ _).mono (by have := HWs.out; omega), below_box HB.out (Nat.le_refl _) _ _ _⟩
  · have t1 : decide (x < 0) = false := decide_eq_false hneg
    rw [t1] at hS
    have hHS := hS
    have w1 : IntKind.u64.wrap x = (m : Int) := by rw [IntKind.wrap_u64]; omega
    clear hS
    clear hm hx hneg 
    go_enter Tryd.func41, Tryd.ntmps41
    go_wp2_with fail
    refine HD.out.mono ?_
    rintro _ w5 ⟨v, rfl, ⟨hv, -⟩, hb⟩
    obtain ⟨A, c, rfl, -, -⟩ := hv.form
    replace HB := Lib.hid (keep_belowB (HB.out.alloc HB.out.size _) hb (by have := HB.out.size; simp <;> omega))
    replace B3 := Lib.hid ((B3.out.alloc _).keep hb)
    have hsz := hb.size
    have HWs := Lib.hid (show w.heap.size < w5.heap.size by simp at hsz; omega)
    have HC := Lib.hid (rCanonical_any _ ⟨false, m, 0⟩ w5 (numV_of hv) HN.out (show -10000000 ≤ (0 : Int) ∧ (0 : Int) ≤ 10000000 by decide))
    rw [← hHS] at HC
    clear hb HD hsz hv hHS
    go_wp2_with fail
    refine HC.out.mono ?_
    rintro _ w6 ⟨_, rfl, hdv, hb⟩
    obtain ⟨A2, c2, rfl, -⟩ := id hdv
    replace HB := Lib.hid (keep_belowB HB.out hb (by have := HB.out.size; omega))
    replace B3 := Lib.hid (B3.out.keep hb)
    have HD := Lib.hid hdv
    clear hb HC hdv
    obtain ⟨y0, y1, y2, yf, -⟩ := B3.out.cells
    go_wp2_with fail
    obtain ⟨q0, q1, q2, -, -⟩ := (B3.out.setAll (.bool S.s) (.slice A2 (nd 64 S.n) c2) (.int .i64 S.e)).cells
    refine bodyPost_ret (v := .agg #[.bool S.s, .slice A2 (nd 64 S.n) c2, .int .i64 S.e]) (by simp [results, Tryd.results41, go_sem, q0, q1, q2]) rfl ?_
    exact ⟨_, rfl, (HD.out.setBox HWs.out _ _ _).mono (by have := HWs.out; omega), below_box HB.out (Nat.le_refl _) _ _ _⟩

end Go.Proofs.YtakjbmlkcbedmaaDoor
