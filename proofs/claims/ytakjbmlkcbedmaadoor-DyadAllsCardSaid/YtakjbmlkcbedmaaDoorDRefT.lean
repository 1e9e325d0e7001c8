/- The walks of vernierref03.Top, Sign. -/
import Derived.Test.YtakjbmlkcbedmaaDoorDRefG
import Derived.Deep.LoopGhost
namespace Go.Proofs.YtakjbmlkcbedmaaDoor
set_option linter.unusedVariables false
set_option linter.unusedSimpArgs false
open Go.RowKit

set_option maxRecDepth 100000 in
set_option maxHeartbeats 4000000 in
theorem rTop_any (s : Bool) (A : Option Addr) (N n c : Nat) (e : Int) (w : World) (hv : Rd 64 w (.slice A n c) N n) :
    Calls Tryd.prog 20 #[.agg #[.bool s, .slice A n c, .int .i64 e]] w fun e' w' => e' = .returned (.tuple #[.int .i64 (topD n ⟨s, N, e⟩).1, .int .i64 (topD n ⟨s, N, e⟩).2]) ∧ Below w.heap.size w w' := by
  have hb0 := below1 w (.cells #[.bool s, .slice A n c, .int .i64 e] 26)
  have b1 := Box3.new w (.bool s) (.slice A n c) (.int .i64 e) 26
  have hvW := hv.below hb0
  have HBad := Lib.hid (rBad_any s A n c e (w.alloc (.cells #[.bool s, .slice A n c, .int .i64 e] 26)) hv.len)
  have HB := Lib.hid hb0
  have B1 := Lib.hid b1
  have R := Lib.hid hvW
  obtain ⟨p0, p1, p2, -, -⟩ := b1.cells
  obtain ⟨S, hS⟩ : ∃ S, S = topD n ⟨s, N, e⟩ := ⟨_, rfl⟩
  rw [← hS]
  unfold topD at hS
  clear hb0 b1 hv hvW
  go_enter Tryd.func20, Tryd.ntmps20
  go_wp2_with fail
  refine HBad.out.mono ?_
  rintro _ w1 ⟨rfl, hb⟩
  replace HB := Lib.hid (keep_belowB HB.out hb (by have := HB.out.size; omega))
  replace B1 := Lib.hid (B1.out.keep hb)
  replace R := Lib.hid (R.out.below hb)
  clear hb HBad p0 p1 p2
  obtain ⟨p0, p1, p2, -, -⟩ := B1.out.cells
  by_cases hr : refD n e = 0
  · rw [hr]
    rw [if_pos hr] at hS
    obtain ⟨r1, r2, r3⟩ := refD_zero hr
    have hnd := nd32_of R.out.lt r1
    have HO := Lib.hid (rOf_any s A N n c e w1 R.out (by omega))
    clear hr
    go_wp2_with fail
    refine HO.out.mono ?_
    rintro _ w2 ⟨_, rfl, ⟨V, rfl, rv⟩, hb'⟩
    obtain ⟨A3, c3, rfl, -, -⟩ := rv.form
    have hb2 := below1 w2 (.cells #[.bool s, .slice A3 (nd 32 N) c3, .int .i64 e] 53)
    have B4 := Lib.hid (Box3.new w2 (.bool s) (.slice A3 (nd 32 N) c3) (.int .i64 e) 53)
    have hb := hb'.trans (hb2.mono hb'.size)
    have R4 := Lib.hid (rv.below hb2)
    replace HB := Lib.hid (keep_belowB HB.out hb (by have := HB.out.size; omega))
    clear hb hb' hb2 HO p0 p1 p2 rv R B1
    obtain ⟨p0, p1, p2, -, -⟩ := B4.out.cells
    by_cases h0 : N = 0
    · rw [if_pos h0] at hS
      have hz : nd 32 N = 0 := by rw [h0]; exact nd_zero 32
      have HS := Lib.hid hS
      clear hS R4 B4 hnd
      rw [hz] at p0 p1 p2 HB ⊢
      go_wp2_with fail
      refine bodyPost_ret (v := .tuple #[.int .i64 0, .int .i64 31]) (by simp [results, Tryd.results20, go_sem]) rfl ?_
      exact ⟨by rw [HS.out], HB.out⟩
    · rw [if_neg h0] at hS
      have hp := nd_pos 32 N h0
      have hz : (((nd 32 N : Nat) : Int) == 0) = false := by rw [beq_eq_false_iff_ne]; omega
      have hbl : bl N ≤ 65536 := by
        obtain ⟨T, hT⟩ : ∃ T : Nat, T = 65536 := ⟨_, rfl⟩
        rw [← hT]
        exact bl_le_of_lt (Nat.lt_of_lt_of_le (lt_nd 32 N (by decide)) (Nat.pow_le_pow_right (by decide) (by omega)))
      have HBits := Lib.hid (fun wx h => rBits_any (.slice A3 (nd 32 N) c3) N (nd 32 N) wx h (by omega))
      have HR := R4.out
      have HS := Lib.hid hS
      generalize nd 32 N = m at *
      generalize bl N = b at *
      clear hS B4 R4
      have hBW := HB.out
      have hw : IntKind.i64.wrap (e + (b : Int)) = e + (b : Int) := by rw [IntKind.wrap_i64]; omega
      have hw' : wrap64 (e + (b : Int)) = e + (b : Int) := by unfold wrap64; omega
      have hw2 : IntKind.i64.wrap (e + (b : Int) - 1) = e + (b : Int) - 1 := by rw [IntKind.wrap_i64]; omega
      have hw2' : wrap64 (e + (b : Int) - 1) = e + (b : Int) - 1 := by unfold wrap64; omega
      go_wp2_with fail
      go_region_held3 (fun w' => w'.cell? ⟨w2.heap.size, 0, none⟩ = some (.bool s) ∧ w'.cell? ⟨w2.heap.size, 1, none⟩ = some (.slice A3 m c3) ∧ w'.cell? ⟨w2.heap.size, 2, none⟩ = some (.int .i64 e) ∧ Below w.heap.size w w')
        (first | exact ⟨p0, p1, p2, hBW.drew⟩ | assumption)
        (first | (go_at_call 38; (with_reducible refine (HBits.out _ ?_).mono ?_); exact HR.drew; rintro e' w3 ⟨rfl, rfl⟩))
      go_wp2
      refine bodyPost_ret (v := .tuple #[.int .i64 (e + (b : Int) - 1), .int .i64 0]) (by simp [results, Tryd.results20, go_sem]) rfl ?_
      exact ⟨by rw [HS.out, show (b : Int) - 1 + e = e + (b : Int) - 1 by clear hw hw' hw2 hw2'; omega], hBW.drew⟩
  · have hne : (refD n e != 0) = true := by simpa using hr
    rw [if_neg hr] at hS
    have HS := Lib.hid hS
    generalize refD n e = rr at *
    clear hS hr
    go_wp2_with fail
    refine bodyPost_ret (v := .tuple #[.int .i64 0, .int .i64 rr]) (by simp [results, Tryd.results20, go_sem]) rfl ?_
    exact ⟨by rw [HS.out], HB.out⟩

theorem mod_next64 {N j : Nat} (h : N % 2 ^ (64 * j) = 0) (hd : dg 64 N j = 0) : N % 2 ^ (64 * (j + 1)) = 0 := by
  have e1 := Nat.div_add_mod N (2 ^ (64 * j))
  rw [h, Nat.add_zero] at e1
  have e2 := div_succ 64 N j
  rw [hd, Nat.add_zero] at e2
  have e3 : 2 ^ (64 * (j + 1)) = 2 ^ (64 * j) * 2 ^ 64 := by rw [← Nat.pow_add]; congr 1
  generalize N / 2 ^ (64 * (j + 1)) = q at e2
  rw [e2] at e1
  rw [e3]
  refine Nat.mod_eq_zero_of_dvd ⟨q, ?_⟩
  rw [← e1, Nat.mul_assoc, Nat.mul_comm q]

set_option maxRecDepth 100000 in
set_option maxHeartbeats 4000000 in
theorem rSign_any (s : Bool) (A : Option Addr) (N n c : Nat) (e : Int) (w : World) (hv : Rd 64 w (.slice A n c) N n) :
    Calls Tryd.prog 17 #[.agg #[.bool s, .slice A n c, .int .i64 e]] w fun e' w' => e' = .returned (.int .i64 (sgD s N)) ∧ Below w.heap.size w w' := by
  have hb0 := below1 w (.cells #[.bool s, .slice A n c, .int .i64 e] 26)
  have b1 := Box3.new w (.bool s) (.slice A n c) (.int .i64 e) 26
  have hvW := hv.below hb0
  have hlt := hv.lt
  have hlen := hv.len
  obtain ⟨_, hnc, _, hr⟩ := hvW.at_
  obtain ⟨W, hW⟩ : ∃ W, W = w.alloc (.cells #[.bool s, .slice A n c, .int .i64 e] 26) := ⟨_, rfl⟩
  rw [← hW] at hb0 b1 hr
  have HB := Lib.hid hb0
  have HR := Lib.hid hr
  have HL := Lib.hid hlt
  obtain ⟨p0, p1, p2, -, -⟩ := b1.cells
  clear hb0 b1 hv hvW hlt hr
  go_enter Tryd.func17, Tryd.ntmps17
  go_upto_region 1 with (fail)
  rw [← hW]
  clear hW
  go_wp2_with fail
  go_loopw [3] (fun v wr => ∃ j : Nat, j ≤ n ∧ v = .int .i64 (j : Nat) ∧ Hid (N % 2 ^ (64 * j) = 0) ∧ W = wr) (fun v _ => n - (intOf v).toNat)
  case atStart => exact ⟨0, Nat.zero_le _, rfl, Lib.hid (by simp [Nat.mod_one]), rfl⟩
  case round =>
    obtain ⟨j, hj, rfl, hz, rfl⟩ := hrel
    by_cases hjn : j < n
    · obtain ⟨b, o, rfl, -, hcell⟩ := HR.out (by omega)
      have hck := hcell j hjn
      have hdl := dg_lt 64 N j
      obtain ⟨y, hy⟩ : ∃ y, y = dg 64 N j := ⟨_, rfl⟩
      rw [← hy] at hck hdl
      have hjn' : (j : Int) < n := by omega
      by_cases hy0 : y = 0
      · have Hn := Lib.hid (mod_next64 hz.out (by rw [← hy]; exact hy0))
        subst hy0
        clear hy hcell HR HL HB
        go_wp2_with fail
        go_roundw
        case rel => exact ⟨j + 1, by omega, by go_num, Hn, by first | trivial | rfl⟩
        case measure => simp only [intOf]; omega
      · have t1 : ((y : Int) == 0) = false := by rw [beq_eq_false_iff_ne]; omega
        have t2 : ((y : Int) != 0) = true := by rw [bne_iff_ne]; omega
        have hN0 : N ≠ 0 := by rintro rfl; apply hy0; rw [hy]; simp [dg]
        have HS : Hid (sgD s N = if s then -1 else 1) := by show _ = _; unfold sgD; rw [if_neg hN0]
        clear hy hcell HR HL hz hN0
        cases s
        · go_wp2_with fail
          go_ret
          exact ⟨by rw [HS.out]; rfl, HB.out⟩
        · go_wp2_with fail
          go_ret
          exact ⟨by rw [HS.out]; rfl, HB.out⟩
    · obtain rfl : j = n := by omega
      have hN0 : N = 0 := by have := Nat.mod_eq_of_lt HL.out; have := hz.out; omega
      have HS : Hid (sgD s N = 0) := by show _ = _; unfold sgD; rw [if_pos hN0]
      clear HR HL hz hN0
      go_wp2_with fail
      go_ret
      exact ⟨by rw [HS.out]; rfl, HB.out⟩

end Go.Proofs.YtakjbmlkcbedmaaDoor
