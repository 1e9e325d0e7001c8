/- Walks of the document's answer: vernierref03's Bits and Words; vernierref06's Known, Fits, Quiet, Infinity, Beyond. -/
import Derived.Outline
import Derived.Test.YtakjbmlkcbedmaaDoorRefL
namespace Go.Proofs.YtakjbmlkcbedmaaDoor
set_option linter.unusedVariables false
set_option linter.unusedSimpArgs false
open Go.RowKit

theorem bl_top32 (N : Nat) (h : N ≠ 0) : bl N = 32 * (nd 32 N - 1) + bl (dg 32 N (nd 32 N - 1)) := by
  obtain ⟨m, hm⟩ : ∃ m, nd 32 N = m + 1 := ⟨nd 32 N - 1, by have := nd_pos 32 N h; omega⟩
  have h1 := lt_nd 32 N (by decide)
  have h2 := nd_le_pow 32 N h
  rw [hm, Nat.add_sub_cancel] at *
  have e := div_succ 32 N m
  rw [Nat.div_eq_of_lt h1, Nat.zero_mul, Nat.zero_add] at e
  have hd : dg 32 N m ≠ 0 := by
    intro h0
    have := lt_of_top 32 N m h1 h0
    omega
  unfold bl
  rw [if_neg h, if_neg hd]
  have e2 : N.log2 = 32 * m + (dg 32 N m).log2 := by
    rw [← e]
    exact log2_div_add N (32 * m) (by rw [e]; exact hd)
  omega

theorem bl_step {x j : Nat} (h : x / 2 ^ j ≠ 0) : j + 1 ≤ bl x := by
  have h1 : 2 ^ j ≤ x := by
    rcases Nat.lt_or_ge x (2 ^ j) with h2 | h2
    · exact absurd (Nat.div_eq_of_lt h2) h
    · exact h2
  have h3 : x ≠ 0 := by have := pow_pos2 j; omega
  unfold bl
  rw [if_neg h3]
  have := (Nat.le_log2 h3).2 h1
  omega

set_option maxRecDepth 100000 in
set_option maxHeartbeats 1000000 in
theorem rBits_any (v : Value) (N n : Nat) (w : World) (h : Rd 32 w v N n) (hn : n ≤ 1000000) :
    Calls Tryd.prog 38 #[v] w fun e w' => e = .returned (.int .i64 (bl N)) ∧ w = w' := by
  by_cases h0 : N = 0
  · subst h0
    go_enter Tryd.func38, Tryd.ntmps38
    go_wp2_with fail
    refine (rTrim_any v 32 0 n w (by decide) h).mono ?_
    rintro e w1 ⟨v1, rfl, h1, rfl⟩
    rw [nd_zero] at h1
    obtain ⟨A, c, rfl, hc, hcm⟩ := h1.form
    go_wp2
    go_ret
    exact ⟨rfl, rfl⟩
  · have hb := Lib.hid (bl_top32 N h0)
    have hp := nd_pos 32 N h0
    have hl : nd 32 N ≤ 1000000 := Nat.le_trans (nd_le 32 N n (by decide) h.lt) hn
    have hbl : bl (dg 32 N (nd 32 N - 1)) ≤ 32 := bl_le _ 32 (dg_lt 32 N _)
    have hdl := dg32_lt N (nd 32 N - 1)
    have hz : (((nd 32 N : Nat) : Int) == 0) = false := by rw [beq_eq_false_iff_ne]; omega
    go_enter Tryd.func38, Tryd.ntmps38
    go_wp2_with fail
    refine (rTrim_any v 32 N n w (by decide) h).mono ?_
    rintro e w1 ⟨v1, rfl, h1, rfl⟩
    obtain ⟨A, c, rfl, hc, hcm⟩ := h1.form
    obtain ⟨_, _, _, hr⟩ := h1.at_
    obtain ⟨b, o, rfl, hb', hcell⟩ := hr hp
    have hck := hcell (nd 32 N - 1) (by omega)
    clear h1 h hr hcell h0
    generalize dg 32 N (nd 32 N - 1) = x at *
    generalize nd 32 N = m at *
    obtain ⟨k, rfl⟩ : ∃ k, m = k + 1 := ⟨m - 1, by omega⟩
    rw [Nat.add_sub_cancel] at *
    have hw1 : IntKind.i64.wrap (((k + 1 : Nat) : Int) - 1) = (k : Int) := by rw [IntKind.wrap_i64]; omega
    have hw2 : IntKind.i64.wrap (32 * (k : Int)) = ((32 * k : Nat) : Int) := by rw [IntKind.wrap_i64]; omega
    go_wp2
    clear hw1 hw2
    go_loopw [3, 4] (fun s y wr => ∃ j : Nat, j ≤ bl x ∧ s = .int .i64 ((32 * k + j : Nat) : Int) ∧ y = .int .u64 ((x / 2 ^ j : Nat) : Int) ∧ w = wr) (fun _ y _ => (intOf y).toNat)
    case atStart => exact ⟨0, Nat.zero_le _, rfl, by simp, rfl⟩
    case round =>
      obtain ⟨j, hj, rfl, rfl, rfl⟩ := hrel
      obtain ⟨y, hy⟩ : ∃ y, y = x / 2 ^ j := ⟨_, rfl⟩
      have hyl : y ≤ x := by rw [hy]; exact Nat.div_le_self _ _
      by_cases hy0 : y = 0
      · have hbj : bl x ≤ j := bl_le x j (by
          rw [hy] at hy0
          rcases Nat.lt_or_ge x (2 ^ j) with h2 | h2
          · exact h2
          · have := Nat.div_pos h2 (pow_pos2 j); omega)
        have H : Hid (bl N = 32 * k + j) := by show _ = _; rw [hb.out]; omega
        rw [← hy]
        have hy00 : ¬ 0 < y := by omega
        have t1 : decide (0 < y) = false := by simpa using hy00
        clear hy hy0 hb hbj hyl
        go_wp2
        go_ret
        exact ⟨by rw [H.out]; rfl, rfl⟩
      · have hj1 : j + 1 ≤ bl x := bl_step (by rw [← hy]; exact hy0)
        have hnext : y / 2 = x / 2 ^ (j + 1) := by rw [hy, Nat.pow_succ, Nat.div_div_eq_div_mul]
        have Hn := Lib.hid hnext
        rw [← hy]
        have hyp : 0 < y := by omega
        have hd2 : (y : Int) / 2 = ((y / 2 : Nat) : Int) := by omega
        have hw3 : IntKind.u64.wrap ((y / 2 : Nat) : Int) = ((y / 2 : Nat) : Int) := by rw [IntKind.wrap_u64]; omega
        have hw4 : IntKind.u64.wrap ((y : Int) / 2) = ((y / 2 : Nat) : Int) := by rw [hd2, hw3]
        have hw5 : IntKind.i64.wrap (((32 * k + j : Nat) : Int) + 1) = ((32 * k + (j + 1) : Nat) : Int) := by rw [IntKind.wrap_i64]; omega
        obtain ⟨J, hJ⟩ : ∃ J, J = 32 * k + j := ⟨_, rfl⟩
        obtain ⟨J1, hJ1⟩ : ∃ J, J = 32 * k + (j + 1) := ⟨_, rfl⟩
        rw [← hJ, ← hJ1] at hw5
        rw [← hJ]
        obtain ⟨z, hz2⟩ : ∃ z, z = y / 2 := ⟨_, rfl⟩
        rw [← hz2] at hw3 hw4 hd2 Hn
        have hzy : z < y := by omega
        have HJ := Lib.hid hJ1
        clear hy hnext hJ hJ1 hz2
        go_wp2
        go_roundw
        case rel => exact ⟨j + 1, hj1, by rw [HJ.out], by rw [Hn.out], by first | trivial | rfl⟩
        case measure => simp only [intOf]; omega

set_option maxRecDepth 100000 in
set_option maxHeartbeats 2000000 in
theorem rWords_any (v : Value) (D n : Nat) (w : World) (hv : Rd 32 w v D n) (hn : n ≤ 1000000) :
    Calls Tryd.prog 75 #[v] w fun e w' => ∃ v', e = .returned v' ∧ (Rd 64 w' v' D (nd 64 D) ∧ Fr w.heap.size w' v') ∧ Below w.heap.size w w' := by
  obtain ⟨A1, c1, rfl, hc1, hcm1⟩ := hv.form
  obtain ⟨_, _, _, hr1⟩ := hv.at_
  have HN := Lib.hid hv.lt
  obtain ⟨K, hK⟩ : ∃ K, K = (n + 1) / 2 := ⟨_, rfl⟩
  have hKl : K ≤ 35184372088832 := by omega
  have hmk := make_words K hKl
  have hw1 : IntKind.i64.wrap ((n : Int) + 1) = ((n + 1 : Nat) : Int) := by rw [IntKind.wrap_i64]; omega
  have hd1 : ((n + 1 : Nat) : Int).tdiv 2 = (K : Int) := by rw [Int.tdiv_eq_ediv_of_nonneg (by omega)]; omega
  have hw2 : IntKind.i64.wrap (K : Int) = (K : Int) := by rw [IntKind.wrap_i64]; omega
  have hw3 : ((n : Int) + 1) / 2 = (K : Int) := by omega
  have hw4 : IntKind.i64.wrap ((n : Int) + 1) = (n : Int) + 1 := by rw [IntKind.wrap_i64]; omega
  have HK := Lib.hid (And.intro hK (And.intro hKl hn))
  clear hv hK hKl hn hw1 hd1
  go_enter Tryd.func75, Tryd.ntmps75
  go_wp2
  clear hmk hw2 hw3 hw4
  go_loopw [4] (fun i wr => ∃ j : Nat, j ≤ n ∧ i = .int .i64 j ∧ Own 64 wr w.heap.size (D % 2 ^ (32 * j)) K ∧ Below w.heap.size w wr) (fun i _ => n - (intOf i).toNat)
  case atStart => exact ⟨0, Nat.zero_le _, rfl, by simpa [Nat.mod_one] using Own.make K, (Below.refl _ _).alloc (Nat.le_refl _) _⟩
  case round =>
    obtain ⟨j, hj, rfl, hown, hbw⟩ := hrel
    obtain ⟨hk1, hk2, hk3⟩ := HK.out
    by_cases hjn : j < n
    · obtain ⟨b1, o1, rfl, hb1, hcell1⟩ := hr1 (by omega)
      have hc := (hbw.cell (p := ⟨b1, o1 + j, none⟩) hb1).trans (hcell1 j hjn)
      have hx := dg32_lt D j
      have hms := mod_succ 32 D j
      clear hr1 hcell1
      obtain ⟨q, hq⟩ : ∃ q, q = j / 2 := ⟨_, rfl⟩
      have hqK : q < K := by omega
      have hd1 : (j : Int).tdiv 2 = (q : Int) := by rw [Int.tdiv_eq_ediv_of_nonneg (by omega)]; omega
      have hw2 : IntKind.i64.wrap (q : Int) = (q : Int) := by rw [IntKind.wrap_i64]; omega
      have hw6 : (j : Int) / 2 = (q : Int) := by omega
      have hw7 : j / 2 = q := hq.symm
      clear hq
      have hf := hown.free q
      have hoc := hown.cell (j := q) hqK
      rcases Nat.mod_two_eq_zero_or_one j with h2 | h2
      · have ej : 32 * j = 64 * q := by omega
        have hd2 : (j : Int).tmod 2 = 0 := by rw [Int.tmod_eq_emod_of_nonneg (by omega)]; omega
        have hO : D % 2 ^ (32 * j) < 2 ^ (64 * q) := by rw [← ej]; exact Nat.mod_lt _ (pow_pos2 _)
        have hd0 : dg 64 (D % 2 ^ (32 * j)) q = 0 := dg_high 64 _ q q hO (Nat.le_refl _)
        have hos := hown.set (j := q) hqK (d := dg 32 D j) (Nat.lt_of_lt_of_le hx (by decide))
        have e := setDg_add 64 (D % 2 ^ (32 * j)) q (dg 32 D j)
        rw [hd0, Nat.zero_mul, Nat.add_zero, ← ej, ← hms] at e
        rw [e] at hos
        have Hos := Lib.hid hos
        rw [hd0] at hoc
        clear hos e hd0 hO hown hms ej
        generalize dg 32 D j = x at *
        go_wp2
        go_roundw
        case rel => exact ⟨j + 1, by omega, by go_num, Hos.out, hbw.setCell (Nat.le_refl _) _⟩
        case measure => simp [intOf]; omega
      · have ej : 32 * j = 64 * q + 32 := by omega
        have hd2 : (j : Int).tmod 2 = 1 := by rw [Int.tmod_eq_emod_of_nonneg (by omega)]; omega
        have hlt : D % 2 ^ (32 * j) < 2 ^ (64 * q) * 4294967296 := by
          rw [ej, Nat.pow_add]; exact Nat.mod_lt _ (Nat.mul_pos (pow_pos2 _) (by decide))
        obtain ⟨y, hy⟩ : ∃ y, y = dg 64 (D % 2 ^ (32 * j)) q := ⟨_, rfl⟩
        have hyl : y < 4294967296 := by
          have h3 : D % 2 ^ (32 * j) / 2 ^ (64 * q) < 4294967296 := by rw [Nat.div_lt_iff_lt_mul (pow_pos2 _), Nat.mul_comm 4294967296]; exact hlt
          rw [hy]; unfold dg
          exact Nat.lt_of_le_of_lt (Nat.mod_le _ _) h3
        obtain ⟨x, hxe⟩ : ∃ x, x = dg 32 D j := ⟨_, rfl⟩
        rw [← hxe] at hms hx hc
        have hos := hown.set (j := q) hqK (d := y + x * 4294967296) (show _ < 18446744073709551616 by omega)
        have e := setDg_add 64 (D % 2 ^ (32 * j)) q (y + x * 4294967296)
        rw [← hy, Nat.add_mul, Nat.mul_assoc, show 4294967296 * 2 ^ (64 * q) = 2 ^ (32 * j) by rw [ej, Nat.pow_add, Nat.mul_comm]] at e
        have e2 : setDg 64 (D % 2 ^ (32 * j)) q (y + x * 4294967296) = D % 2 ^ (32 * (j + 1)) := by rw [hms]; omega
        rw [e2] at hos
        rw [← hy] at hoc
        have Hos := Lib.hid hos
        obtain ⟨xb, hxb⟩ : ∃ xb, xb = x * 4294967296 := ⟨_, rfl⟩
        rw [← hxb] at Hos
        obtain ⟨t, ht⟩ : ∃ t, t = y + xb := ⟨_, rfl⟩
        rw [← ht] at Hos
        have hw3 : IntKind.u64.wrap ((x : Int) * 4294967296) = (xb : Int) := by rw [IntKind.wrap_u64]; omega
        have hw4 : IntKind.u64.wrap ((y : Int) + (xb : Int)) = (t : Int) := by rw [IntKind.wrap_u64]; omega
        clear hos e e2 hown hms ej hlt hy hyl hxe hx hxb ht
        have Hb := Lib.hid hbw
        clear hbw
        go_upto_region 7 with (fail)
        go_region
        go_wp2
        go_roundw
        case rel => exact ⟨j + 1, by omega, by go_num, Hos.out, (Hb.out.setCell (p := ⟨w.heap.size, q, none⟩) (Nat.le_refl _) (.int .u64 t)).drew⟩
        case measure => simp [intOf]; omega
    · obtain rfl : j = n := by omega
      rw [Nat.mod_eq_of_lt HN.out] at hown
      have hT := Lib.hid (rTrim_fr _ 64 D K w.heap.size wr (by decide) (hown.rd hk2) (hown.fr (Nat.le_refl _)))
      clear hr1 hown hk1 hk2 hk3 HK
      go_wp2_with fail
      refine hT.out.mono ?_
      rintro e w3 ⟨v3, rfl, h3, rfl⟩
      go_wp2
      go_ret
      exact ⟨_, rfl, h3, hbw⟩

end Go.Proofs.YtakjbmlkcbedmaaDoor
