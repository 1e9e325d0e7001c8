/- Walks of the document's answer for layer 3: Left, Right. -/
import Derived.Outline
import Derived.Test.YtakjbmlkcbedmaaDoorRefP
namespace Go.Proofs.YtakjbmlkcbedmaaDoor
set_option linter.unusedVariables false
open Go.RowKit

/-- 'make([]uint64, q, c)' -/
theorem Row.makeN {w : World} {k B : Nat} (hB : B ≤ w.heap.size) (q c : Nat) (hq : q ≤ c) (hc : c ≤ maxLen) : Row k B (w.alloc (Obj.cells (madeCells #[.int .u64 0] c) 42)) (.slice (some ⟨w.heap.size, 0, none⟩) q c) 0 q := by
  refine ⟨⟨by rw [wds_len, Nat.mul_one], Or.inr ⟨w.heap.size, c, _, rfl, hB, heap_alloc_at w _, hq, hc, by rw [size_madeCells]; simp, ?_⟩⟩, pow_pos2 _⟩
  apply List.ext_getElem?
  intro i
  by_cases hi : i < q
  · rw [wds_get hi, Nat.mul_one, List.getElem?_take, if_pos hi, dg_zero, Array.getElem?_toList, getElem?_madeCells _ _ _ (by omega)]; rfl
  · rw [List.getElem?_eq_none (by rw [List.length_take]; omega), List.getElem?_eq_none (by rw [wds_len]; omega)]

set_option maxRecDepth 100000 in
set_option maxHeartbeats 4000000 in
theorem rLeft_any (v : Value) (D n k : Nat) (w : World) (hv : Rd 32 w v D n) (hn : n ≤ 1000000) (hk : k ≤ 1000000) :
    Calls Tryd.prog 27 #[v, .int .i64 k] w fun e w' => ∃ v', e = .returned v' ∧ (Rd 32 w' v' (D * 2 ^ k) (nd 32 (D * 2 ^ k)) ∧ Fr w.heap.size w' v') ∧ Below w.heap.size w w' := by
  obtain ⟨A1, c1, rfl, hc1, hcm1⟩ := hv.form
  obtain ⟨_, _, _, hr1⟩ := hv.at_
  have HN := Lib.hid hv.lt
  obtain ⟨q, hq⟩ : ∃ q, q = k / 32 := ⟨_, rfl⟩
  obtain ⟨r, hr⟩ : ∃ r, r = k % 32 := ⟨_, rfl⟩
  have hr32 : r < 32 := by omega
  have hkq : k = 32 * q + r := by omega
  have hqk : q ≤ 1000000 := by omega
  have hmk : ∀ wx, (Instr.makeSlice 24 (.int .i64 (q : Int)) (.int .i64 ((q : Int) + (n : Int) + 1))).run Tryd.prog wx = .ok (.slice (some ⟨wx.heap.size, 0, none⟩) q (q + n + 1)) (wx.alloc (.cells (madeCells #[.int .u64 0] (q + n + 1)) 42)) := by
    intro wx
    obtain ⟨i0, hi, hz0, hz1, hz2⟩ := info_parts info_word
    have h := run_make (P := Tryd.prog) wx 24 42 i0 (.int .u64 0) Tryd.underlying24 hi hz0 .i64 .i64 (q : Int) ((q + n + 1 : Nat) : Int) (by omega) (by omega) (by rw [hz2]; omega) (by omega)
    rw [hz1, Nat.mul_one, Int.toNat_natCast] at h
    exact h
  have hd1 : (k : Int).tdiv 32 = (q : Int) := by rw [Int.tdiv_eq_ediv_of_nonneg (by omega)]; omega
  have hd2 : (k : Int).tmod 32 = (r : Int) := by rw [Int.tmod_eq_emod_of_nonneg (by omega)]; omega
  have hw0 : IntKind.i64.wrap (q : Int) = (q : Int) := by rw [IntKind.wrap_i64]; omega
  have hw1 : IntKind.i64.wrap ((q : Int) + (n : Int)) = (q : Int) + (n : Int) := by rw [IntKind.wrap_i64]; omega
  have hw2 : IntKind.i64.wrap ((q : Int) + (n : Int) + 1) = (q : Int) + (n : Int) + 1 := by rw [IntKind.wrap_i64]; omega
  have hw3 : IntKind.u64.wrap (r : Int) = (r : Int) := by rw [IntKind.wrap_u64]; omega
  obtain ⟨S, hS⟩ : ∃ S, S = 2 ^ r := ⟨_, rfl⟩
  have hSl : S ≤ 2147483648 := by rw [hS]; exact Nat.pow_le_pow_right (n := 2) (by decide) (show r ≤ 31 by omega)
  have hw4 : IntKind.u64.wrap (2 ^ r : Int) = (S : Int) := by rw [show (2 ^ r : Int) = ((2 ^ r : Nat) : Int) from by simp, ← hS, IntKind.wrap_u64]; omega
  have hw5 : IntKind.u64.wrap (1 * 2 ^ r : Int) = (S : Int) := by rw [Int.one_mul]; exact hw4
  obtain ⟨W, hW⟩ : ∃ W, W = w.alloc (.cells (madeCells #[.int .u64 0] (q + n + 1)) 42) := ⟨_, rfl⟩
  have hB0 : Below w.heap.size w W := by rw [hW]; exact (Below.refl _ _).alloc (Nat.le_refl _) _
  have hrow0 : Row 32 w.heap.size W (.slice (some ⟨w.heap.size, 0, none⟩) q (q + n + 1)) 0 q := by rw [hW]; exact Row.makeN (Nat.le_refl _) _ _ (by omega) (by simp only [maxLen]; omega)
  have HS := Lib.hid hS
  have HK := Lib.hid hkq
  have Hb := Lib.hid (And.intro hn (And.intro hqk hSl))
  clear hv hq hr hS hkq hn hk hqk hSl
  go_enter Tryd.func27, Tryd.ntmps27
  go_wp2
  rw [← hW]
  clear hW hmk hw0 hw1 hw2 hw3 hw4 hw5 hd1 hd2
  go_loopw [5, 7, 8] (fun o c i wr => ∃ j cr O : Nat, j ≤ n ∧ i = .int .i64 j ∧ c = .int .u64 cr ∧ cr < 2 ^ r ∧ O + cr * 2 ^ (32 * (q + j)) = D % 2 ^ (32 * j) * 2 ^ (32 * q + r) ∧ Row 32 w.heap.size wr o O (q + j) ∧ Below w.heap.size w wr) (fun _ _ i _ => n - (intOf i).toNat)
  case atStart => exact ⟨0, 0, 0, Nat.zero_le _, rfl, rfl, pow_pos2 _, by simp [Nat.mod_one], hrow0, hB0⟩
  case round =>
    clear hrow0 hB0
    obtain ⟨j, cr, O, hj, rfl, rfl, hcr, hinv, hrow, hbw⟩ := hrel
    have hszw := hbw.size
    obtain ⟨hb1, hb2, hb3⟩ := Hb.out
    have hj17 : q + j + 1 ≤ 17592186044416 := by omega
    have hcrl : cr < S := by rw [HS.out]; exact hcr
    by_cases hjK : j < n
    · obtain ⟨hst1, hst2, hst3⟩ := left_step hinv hcr
      have hx := dg32_lt D j
      obtain ⟨b1, o1, rfl, hb1', hcell1⟩ := hr1 (by omega)
      have hk1 := (hbw.cell (p := ⟨b1, o1 + j, none⟩) hb1').trans (hcell1 j hjK)
      clear hr1 hcell1 hinv hcr
      rw [← HS.out] at hst1 hst2 hst3
      generalize dg 32 D j = x at *
      obtain ⟨xs, hxs⟩ : ∃ xs, xs = x * S := ⟨_, rfl⟩
      rw [← hxs] at hst1 hst2 hst3
      obtain ⟨s, hs⟩ : ∃ s, s = xs + cr := ⟨_, rfl⟩
      rw [← hs] at hst1 hst2 hst3
      have hsl : s < 9223372036854775808 := Nat.lt_of_lt_of_le hst3 (Nat.mul_le_mul_left 4294967296 hb3)
      have hw1 : IntKind.u64.wrap ((x : Int) * (S : Int)) = (xs : Int) := by
        rw [show (x : Int) * (S : Int) = ((x * S : Nat) : Int) from by simp, ← hxs, IntKind.wrap_u64]; omega
      have hw2 : IntKind.u64.wrap ((xs : Int) + (cr : Int)) = (s : Int) := by rw [IntKind.wrap_u64]; omega
      obtain ⟨hsrc, hrow', hal', hle2'⟩ := row_one hrow hbw hszw (s % 4294967296) (Nat.mod_lt _ (by decide))
      have hw4 : (s : Int).tmod 4294967296 = ((s % 4294967296 : Nat) : Int) := by rw [Int.tmod_eq_emod_of_nonneg (by omega)]; omega
      have hw5 : IntKind.u64.wrap ((s : Int) / 4294967296) = ((s / 4294967296 : Nat) : Int) := by rw [show (s : Int) / 4294967296 = ((s / 4294967296 : Nat) : Int) from by omega, wrap_u64_nat]; omega
      have Hst := Lib.hid (And.intro hst1 hst2)
      clear hst1 hst2 hst3 hs hxs hb2 hb3 hcrl hx
      generalize s % 4294967296 = lo at *
      generalize s / 4294967296 = hi0 at *
      go_wp2_with (at_builtin; refine wpList_append_words' rfl (.tmp 37) (.tmp 40) rfl rfl hrow' rfl hsrc nofun hj17 hle2' ?_; intro v' w' hR hg; have hbw' := hrow'.grown hg hal' hle2')
      go_roundw
      case rel => exact ⟨j + 1, hi0, _, by omega, by go_num, rfl, by rw [← HS.out]; exact Hst.out.2, Hst.out.1, hR, hbw'⟩
      case measure => simp [intOf]; omega
    · obtain rfl : j = n := by omega
      rw [Nat.mod_eq_of_lt HN.out, ← HK.out] at hinv
      obtain ⟨hsrc, hrow', hal', hle2'⟩ := row_one hrow hbw hszw cr (by omega)
      have HI := Lib.hid hinv
      clear hinv hr1 hcr hcrl hb3
      go_wp2_with (at_builtin; refine wpList_append_words' rfl (.tmp 44) (.tmp 46) rfl rfl hrow' rfl hsrc nofun hj17 hle2' ?_; intro v' w' hR hg; have hbw' := hrow'.grown hg hal' hle2'; rw [HI.out] at hR)
      refine (rTrim_fr _ 32 (D * 2 ^ k) (q + j + 1) w.heap.size _ (by decide) (hR.rd (by omega)) hR.fr).mono ?_
      rintro e w3 ⟨v3, rfl, h3, rfl⟩
      go_wp2
      go_ret
      exact ⟨_, rfl, h3, hbw'⟩

set_option maxRecDepth 100000 in
set_option maxHeartbeats 4000000 in
theorem rRight_any (v : Value) (D n k : Nat) (w : World) (hv : Rd 32 w v D n) (hn : n ≤ 1000000) (hk : k ≤ 1000000) :
    Calls Tryd.prog 69 #[v, .int .i64 k] w fun e w' => ∃ v', e = .returned v' ∧ (Rd 32 w' v' (D / 2 ^ k) (nd 32 (D / 2 ^ k)) ∧ Fr w.heap.size w' v') ∧ Below w.heap.size w w' := by
  obtain ⟨A1, c1, rfl, hc1, hcm1⟩ := hv.form
  obtain ⟨_, _, _, hr1⟩ := hv.at_
  have HN := Lib.hid hv.lt
  obtain ⟨q, hq⟩ : ∃ q, q = k / 32 := ⟨_, rfl⟩
  obtain ⟨r, hr⟩ : ∃ r, r = k % 32 := ⟨_, rfl⟩
  have hr32 : r < 32 := by omega
  have hkq : k = 32 * q + r := by omega
  have hqk : q ≤ 1000000 := by omega
  have hd1 : (k : Int).tdiv 32 = (q : Int) := by rw [Int.tdiv_eq_ediv_of_nonneg (by omega)]; omega
  have hd2 : (k : Int).tmod 32 = (r : Int) := by rw [Int.tmod_eq_emod_of_nonneg (by omega)]; omega
  have hw0 : IntKind.i64.wrap (q : Int) = (q : Int) := by rw [IntKind.wrap_i64]; omega
  have hw3 : IntKind.u64.wrap (r : Int) = (r : Int) := by rw [IntKind.wrap_u64]; omega
  obtain ⟨S, hS⟩ : ∃ S, S = 2 ^ r := ⟨_, rfl⟩
  have hSp : 0 < S := by rw [hS]; exact pow_pos2 _
  have hSl : S ≤ 2147483648 := by rw [hS]; exact Nat.pow_le_pow_right (n := 2) (by decide) (show r ≤ 31 by omega)
  have hw4 : IntKind.u64.wrap (2 ^ r : Int) = (S : Int) := by rw [show (2 ^ r : Int) = ((2 ^ r : Nat) : Int) from by simp, ← hS, IntKind.wrap_u64]; omega
  have hw5 : IntKind.u64.wrap (1 * 2 ^ r : Int) = (S : Int) := by rw [Int.one_mul]; exact hw4
  have hrow0 : Row 32 w.heap.size w (.slice none 0 0) 0 0 := Row.nil
  have HS := Lib.hid hS
  have HK := Lib.hid hkq
  have HR := Lib.hid hr32
  have Hb := Lib.hid (And.intro hn (And.intro hqk (And.intro hSp hSl)))
  clear hv hq hr hS hkq hn hk hqk hSl hSp
  go_enter Tryd.func69, Tryd.ntmps69
  go_wp2
  clear hw0 hw3 hw4 hw5 hd1 hd2
  go_loopw [5, 7] (fun o i wr => ∃ j : Nat, (q + j ≤ n ∨ j = 0) ∧ i = .int .i64 ((q + j : Nat) : Int) ∧ Row 32 w.heap.size wr o (D / 2 ^ k % 2 ^ (32 * j)) j ∧ Below w.heap.size w wr) (fun _ i _ => n - (intOf i).toNat)
  case atStart => exact ⟨0, Or.inr rfl, rfl, by simpa [Nat.mod_one] using hrow0, Below.refl _ _⟩
  case round =>
    clear hrow0
    obtain ⟨j, hj, rfl, hrow, hbw⟩ := hrel
    have hszw := hbw.size
    obtain ⟨hb1, hb2, hb3, hb4⟩ := Hb.out
    have hj17 : j + 1 ≤ 17592186044416 := by omega
    by_cases hjK : q + j < n
    · have hdg := right_digit D q r j HR.out
      rw [← HK.out, ← HS.out] at hdg
      have hms := mod_succ 32 (D / 2 ^ k) j
      rw [hdg] at hms
      obtain ⟨b1, o1, rfl, hb1', hcell1⟩ := hr1 (by omega)
      have hk1 := (hbw.cell (p := ⟨b1, o1 + (q + j), none⟩) hb1').trans (hcell1 (q + j) hjK)
      have hx := dg32_lt D (q + j)
      have hy := dg32_lt D (q + j + 1)
      have hi1 : IntKind.i64.wrap (((q + j : Nat) : Int) + 1) = ((q + j + 1 : Nat) : Int) := by rw [IntKind.wrap_i64]; omega
      have hS0 : ((S : Int) == 0) = false := by rw [beq_eq_false_iff_ne]; omega
      have hS1 : (S : Int) ≠ 0 := by omega
      have hS2 : S ≠ 0 := by omega
      have hS3 : (S = 0) = False := by simpa using hS2
      obtain ⟨J, hJ⟩ : ∃ J, J = q + j := ⟨_, rfl⟩
      rw [← hJ] at hms hk1 hx hy hi1 hjK ⊢
      have HJ := Lib.hid hJ
      clear hJ
      by_cases hjn : J + 1 < n
      · have hk2 := (hbw.cell (p := ⟨b1, o1 + (J + 1), none⟩) hb1').trans (hcell1 (J + 1) hjn)
        clear hr1 hcell1 hdg
        generalize dg 32 D J = x at *
        generalize dg 32 D (J + 1) = y at *
        obtain ⟨yb, hyb⟩ : ∃ yb, yb = y * 4294967296 := ⟨_, rfl⟩
        obtain ⟨t, ht⟩ : ∃ t, t = x + yb := ⟨_, rfl⟩
        rw [← hyb, ← ht] at hms
        have hw1 : IntKind.u64.wrap ((y : Int) * 4294967296) = (yb : Int) := by rw [IntKind.wrap_u64]; omega
        have hw2 : IntKind.u64.wrap ((x : Int) + (yb : Int)) = (t : Int) := by rw [IntKind.wrap_u64]; omega
        have htl : t < 18446744073709551616 := by omega
        have hqt : (t : Int) / (S : Int) = ((t / S : Nat) : Int) := by simp
        obtain ⟨u, hu⟩ : ∃ u, u = t / S := ⟨_, rfl⟩
        have hul : u < 18446744073709551616 := by rw [hu]; exact Nat.lt_of_le_of_lt (Nat.div_le_self _ _) htl
        rw [← hu] at hms hqt
        have hw3 : IntKind.u64.wrap (u : Int) = (u : Int) := by rw [IntKind.wrap_u64]; omega
        have hw6 : (u : Int).tmod 4294967296 = ((u % 4294967296 : Nat) : Int) := by rw [Int.tmod_eq_emod_of_nonneg (by omega)]; omega
        obtain ⟨hsrc, hrow', hal', hle2'⟩ := row_one hrow hbw hszw (u % 4294967296) (Nat.mod_lt _ (by decide))
        have Hms := Lib.hid hms
        clear hms hyb ht hu hul htl hx hy hb2 hb3 hb4
        generalize u % 4294967296 = lo at *
        go_wp2_with (at_builtin; refine wpList_append_words' rfl (.tmp 38) (.tmp 43) rfl rfl hrow' rfl hsrc nofun hj17 hle2' ?_; intro v' w' hR hg; have hbw' := hrow'.grown hg hal' hle2')
        go_roundw
        case rel => exact ⟨j + 1, by have := HJ.out; omega, by rw [HJ.out]; rfl, by rw [Hms.out]; exact hR, hbw'⟩
        case measure => simp only [intOf]; omega
      · have hy0 : dg 32 D (J + 1) = 0 := dg_high 32 _ (J + 1) n HN.out (by omega)
        simp only [hy0, Nat.zero_mul, Nat.add_zero] at hms
        clear hr1 hcell1 hdg hy hy0
        generalize dg 32 D J = x at *
        have hqt : (x : Int) / (S : Int) = ((x / S : Nat) : Int) := by simp
        obtain ⟨u, hu⟩ : ∃ u, u = x / S := ⟨_, rfl⟩
        have hul : u < 4294967296 := by rw [hu]; exact Nat.lt_of_le_of_lt (Nat.div_le_self _ _) hx
        rw [← hu] at hms hqt
        have hw3 : IntKind.u64.wrap (u : Int) = (u : Int) := by rw [IntKind.wrap_u64]; omega
        have hw6 : (u : Int).tmod 4294967296 = ((u % 4294967296 : Nat) : Int) := by rw [Int.tmod_eq_emod_of_nonneg (by omega)]; omega
        obtain ⟨hsrc, hrow', hal', hle2'⟩ := row_one hrow hbw hszw (u % 4294967296) (Nat.mod_lt _ (by decide))
        have Hms := Lib.hid hms
        clear hms hu hul hx hb2 hb3 hb4
        generalize u % 4294967296 = lo at *
        go_wp2_with (at_builtin; refine wpList_append_words' rfl (.tmp 38) (.tmp 43) rfl rfl hrow' rfl hsrc nofun hj17 hle2' ?_; intro v' w' hR hg; have hbw' := hrow'.grown hg hal' hle2')
        go_roundw
        case rel => exact ⟨j + 1, by have := HJ.out; omega, by rw [HJ.out]; rfl, by rw [Hms.out]; exact hR, hbw'⟩
        case measure => simp only [intOf]; omega
    · have hlt : D / 2 ^ k < 2 ^ (32 * j) := by
        rw [Nat.div_lt_iff_lt_mul (pow_pos2 _)]
        refine Nat.lt_of_lt_of_le HN.out ?_
        rw [← Nat.pow_add]
        exact Nat.pow_le_pow_right (by decide) (by rw [HK.out]; omega)
      rw [Nat.mod_eq_of_lt hlt] at hrow
      clear hr1 hlt
      go_wp2_with fail
      refine (rTrim_fr _ 32 (D / 2 ^ k) j w.heap.size _ (by decide) (hrow.rd (by omega)) hrow.fr).mono ?_
      rintro e w3 ⟨v3, rfl, h3, rfl⟩
      go_wp2
      go_ret
      exact ⟨_, rfl, h3, hbw⟩

end Go.Proofs.YtakjbmlkcbedmaaDoor
