/- Walks of the document's answer for layer 3: Plus, Left, Right. -/
import Derived.Outline
import Derived.Test.YtakjbmlkcbedmaaDoorRefK
import Derived.Test.YtakjbmlkcbedmaaDoorRefB
namespace Go.Proofs.YtakjbmlkcbedmaaDoor
set_option linter.unusedVariables false
open Go.RowKit

theorem Rd.one32 (w : World) (d : Nat) (h : d < 4294967296) : Rd 32 (w.alloc (.cells #[.int .u64 (d : Int)] 42)) (.slice (some ⟨w.heap.size, 0, none⟩) 1 1) d 1 := by
  refine ⟨_, 1, rfl, Nat.le_refl _, by omega, by omega, fun _ => ⟨_, 0, rfl, by simp, fun j hj => ?_⟩⟩
  obtain rfl : j = 0 := by omega
  rw [World.cell?_alloc_at _ _ _ _ rfl]
  have : dg 32 d 0 = d := by unfold dg; simp; omega
  rw [this]; rfl

/-- one digit appended to a row: what is needed ahead -/
theorem row_one {B : Nat} {w0 w : World} {v : Value} {O n : Nat} (h : Row 32 B w v O n) (hb : Below B w0 w) (hB : B ≤ w.heap.size) (d : Nat) (hd : d < 4294967296) :
    Rd 32 (w.alloc (.cells #[.int .u64 (d : Int)] 42)) (.slice (some ⟨w.heap.size, 0, none⟩) 1 1) d 1 ∧ Row 32 B (w.alloc (.cells #[.int .u64 (d : Int)] 42)) v O n ∧ Below B w0 (w.alloc (.cells #[.int .u64 (d : Int)] 42)) ∧ B ≤ (w.alloc (.cells #[.int .u64 (d : Int)] 42)).heap.size :=
  ⟨Rd.one32 w d hd, h.alloc _, hb.alloc hB _, by simp; omega⟩

set_option maxRecDepth 100000 in
set_option maxHeartbeats 4000000 in
theorem rPlus_any (v u : Value) (N n M m : Nat) (w : World) (hv : Rd 32 w v N n) (hu : Rd 32 w u M m) (hn : n ≤ 1000000) (hm : m ≤ 1000000) :
    Calls Tryd.prog 28 #[v, u] w fun e w' => ∃ v', e = .returned v' ∧ (Rd 32 w' v' (N + M) (nd 32 (N + M)) ∧ Fr w.heap.size w' v') ∧ Below w.heap.size w w' := by
  obtain ⟨A1, c1, rfl, hc1, hcm1⟩ := hv.form
  obtain ⟨A2, c2, rfl, hc2, hcm2⟩ := hu.form
  obtain ⟨_, _, _, hr1⟩ := hv.at_
  obtain ⟨_, _, _, hr2⟩ := hu.at_
  have HN := Lib.hid hv.lt
  have HM := Lib.hid hu.lt
  obtain ⟨K, hK⟩ : ∃ K, K = max n m := ⟨_, rfl⟩
  have hmx : max (n : Int) (m : Int) = (K : Int) := by omega
  have hKn : K ≤ 1000000 := by omega
  have hNK : N < 2 ^ (32 * K) := Nat.lt_of_lt_of_le HN.out (Nat.pow_le_pow_right (by decide) (by omega))
  have hMK : M < 2 ^ (32 * K) := Nat.lt_of_lt_of_le HM.out (Nat.pow_le_pow_right (by decide) (by omega))
  have hmk : ∀ wx, (Instr.makeSlice 24 (.int .i64 0) (.int .i64 ((K : Int) + 1))).run Tryd.prog wx = .ok (.slice (some ⟨wx.heap.size, 0, none⟩) 0 (K + 1)) (wx.alloc (.cells (madeCells #[.int .u64 0] (K + 1)) 42)) := by
    intro wx
    obtain ⟨i0, hi, hz0, hz1, hz2⟩ := info_parts info_word
    have h := run_make (P := Tryd.prog) wx 24 42 i0 (.int .u64 0) Tryd.underlying24 hi hz0 .i64 .i64 (0 : Int) ((K + 1 : Nat) : Int) (by omega) (by omega) (by rw [hz2]; omega) (by omega)
    rw [hz1, Nat.mul_one, Int.toNat_natCast] at h
    exact h
  have HNK := Lib.hid hNK
  have HMK := Lib.hid hMK
  have Hkn := Lib.hid hKn
  have hw1 : IntKind.i64.wrap ((K : Int) + 1) = (K : Int) + 1 := by rw [IntKind.wrap_i64]; omega
  obtain ⟨W, hW⟩ : ∃ W, W = w.alloc (.cells (madeCells #[.int .u64 0] (K + 1)) 42) := ⟨_, rfl⟩
  have hB0 : Below w.heap.size w W := by rw [hW]; exact (Below.refl _ _).alloc (Nat.le_refl _) _
  have hrow0 : Row 32 w.heap.size W (.slice (some ⟨w.heap.size, 0, none⟩) 0 (K + 1)) 0 0 := by rw [hW]; exact Row.make0 (Nat.le_refl _) _ (by simp only [maxLen]; omega)
  clear hv hu hK hKn hNK hMK hn hm
  go_enter Tryd.func28, Tryd.ntmps28
  go_wp2
  rw [← hW]
  clear hW hmk hmx hw1
  go_loopw [6, 7, 8] (fun o c i wr => ∃ j cr O : Nat, j ≤ K ∧ i = .int .i64 j ∧ c = .int .u64 cr ∧ cr ≤ 1 ∧ O + cr * 2 ^ (32 * j) = N % 2 ^ (32 * j) + M % 2 ^ (32 * j) ∧ Row 32 w.heap.size wr o O j ∧ Below w.heap.size w wr) (fun _ _ i _ => K - (intOf i).toNat)
  case atStart => exact ⟨0, 0, 0, Nat.zero_le _, rfl, rfl, by omega, by simp [Nat.mod_one], hrow0, hB0⟩
  case round =>
    clear hrow0 hB0
    obtain ⟨j, cr, O, hj, rfl, rfl, hcr, hinv, hrow, hbw⟩ := hrel
    have hszw := hbw.size
    have hj17 : j + 1 ≤ 17592186044416 := by have := Hkn.out; omega
    by_cases hjK : j < K
    · have hst := plus_step hinv hcr
      have hx := dg32_lt N j
      have hy := dg32_lt M j
      obtain ⟨s, hs⟩ : ∃ s, s = cr + dg 32 N j + dg 32 M j := ⟨_, rfl⟩
      rw [← hs] at hst
      have hsl : s < 18446744073709551616 := by omega
      obtain ⟨hsrc, hrow', hal', hle2'⟩ := row_one hrow hbw hszw (s % 4294967296) (Nat.mod_lt _ (by decide))
      have hw4 : (s : Int).tmod 4294967296 = ((s % 4294967296 : Nat) : Int) := by rw [Int.tmod_eq_emod_of_nonneg (by omega)]; omega
      have hw5 : IntKind.u64.wrap ((s : Int) / 4294967296) = ((s / 4294967296 : Nat) : Int) := by rw [show (s : Int) / 4294967296 = ((s / 4294967296 : Nat) : Int) from by omega, wrap_u64_nat]; omega
      have Hst := Lib.hid hst
      clear hst hinv
      generalize s % 4294967296 = lo at *
      generalize s / 4294967296 = hi0 at *
      by_cases hjn : j < n
      · obtain ⟨b1, o1, rfl, hb1, hcell1⟩ := hr1 (by omega)
        have hk1 := (hbw.cell (p := ⟨b1, o1 + j, none⟩) hb1).trans (hcell1 j hjn)
        clear hr1 hcell1
        by_cases hjm : j < m
        · obtain ⟨b2, o2, rfl, hb2, hcell2⟩ := hr2 (by omega)
          have hk2 := (hbw.cell (p := ⟨b2, o2 + j, none⟩) hb2).trans (hcell2 j hjm)
          clear hr2 hcell2
          generalize dg 32 N j = x at *
          generalize dg 32 M j = y at *
          obtain ⟨t, ht⟩ : ∃ t, t = cr + x := ⟨_, rfl⟩
          have hw2 : IntKind.u64.wrap ((cr : Int) + (x : Int)) = (t : Int) := by rw [IntKind.wrap_u64]; omega
          have hw3 : IntKind.u64.wrap ((t : Int) + (y : Int)) = (s : Int) := by rw [IntKind.wrap_u64]; omega
          clear hs ht
          go_wp2_with (at_builtin; refine wpList_append_words' rfl (.tmp 44) (.tmp 47) rfl rfl hrow' rfl hsrc nofun hj17 hle2' ?_; intro v' w' hR hg; have hbw' := hrow'.grown hg hal' hle2')
          go_roundw
          case rel => exact ⟨j + 1, hi0, _, by omega, by go_num, rfl, Hst.out.2, Hst.out.1, hR, hbw'⟩
          case measure => simp [intOf]; omega
        · have hy0 : dg 32 M j = 0 := dg_high 32 _ j m HM.out (by omega)
          rw [hy0, Nat.add_zero] at hs
          clear hr2 hy hy0
          generalize dg 32 N j = x at *
          have hw2 : IntKind.u64.wrap ((cr : Int) + (x : Int)) = (s : Int) := by rw [IntKind.wrap_u64]; omega
          clear hs
          go_wp2_with (at_builtin; refine wpList_append_words' rfl (.tmp 44) (.tmp 47) rfl rfl hrow' rfl hsrc nofun hj17 hle2' ?_; intro v' w' hR hg; have hbw' := hrow'.grown hg hal' hle2')
          go_roundw
          case rel => exact ⟨j + 1, hi0, _, by omega, by go_num, rfl, Hst.out.2, Hst.out.1, hR, hbw'⟩
          case measure => simp [intOf]; omega
      · have hx0 : dg 32 N j = 0 := dg_high 32 _ j n HN.out (by omega)
        rw [hx0, Nat.add_zero] at hs
        clear hr1 hx hx0
        by_cases hjm : j < m
        · obtain ⟨b2, o2, rfl, hb2, hcell2⟩ := hr2 (by omega)
          have hk2 := (hbw.cell (p := ⟨b2, o2 + j, none⟩) hb2).trans (hcell2 j hjm)
          clear hr2 hcell2
          generalize dg 32 M j = y at *
          have hw3 : IntKind.u64.wrap ((cr : Int) + (y : Int)) = (s : Int) := by rw [IntKind.wrap_u64]; omega
          clear hs
          go_wp2_with (at_builtin; refine wpList_append_words' rfl (.tmp 44) (.tmp 47) rfl rfl hrow' rfl hsrc nofun hj17 hle2' ?_; intro v' w' hR hg; have hbw' := hrow'.grown hg hal' hle2')
          go_roundw
          case rel => exact ⟨j + 1, hi0, _, by omega, by go_num, rfl, Hst.out.2, Hst.out.1, hR, hbw'⟩
          case measure => simp [intOf]; omega
        · have hy0 : dg 32 M j = 0 := dg_high 32 _ j m HM.out (by omega)
          rw [hy0, Nat.add_zero] at hs
          clear hr2 hy hy0
          subst hs
          go_wp2_with (at_builtin; refine wpList_append_words' rfl (.tmp 44) (.tmp 47) rfl rfl hrow' rfl hsrc nofun hj17 hle2' ?_; intro v' w' hR hg; have hbw' := hrow'.grown hg hal' hle2')
          go_roundw
          case rel => exact ⟨j + 1, hi0, _, by omega, by go_num, rfl, Hst.out.2, Hst.out.1, hR, hbw'⟩
          case measure => simp [intOf]; omega
    · obtain rfl : j = K := by omega
      rw [Nat.mod_eq_of_lt HNK.out, Nat.mod_eq_of_lt HMK.out] at hinv
      obtain ⟨hsrc, hrow', hal', hle2'⟩ := row_one hrow hbw hszw cr (by omega)
      have HI := Lib.hid hinv
      clear hinv hr1 hr2 hcr
      go_wp2_with (at_builtin; refine wpList_append_words' rfl (.tmp 51) (.tmp 53) rfl rfl hrow' rfl hsrc nofun hj17 hle2' ?_; intro v' w' hR hg; have hbw' := hrow'.grown hg hal' hle2'; rw [HI.out] at hR)
      refine (rTrim_fr _ 32 (N + M) (j + 1) w.heap.size _ (by decide) (hR.rd (by omega)) hR.fr).mono ?_
      rintro e w3 ⟨v3, rfl, h3, rfl⟩
      go_wp2
      go_ret
      exact ⟨_, rfl, h3, hbw'⟩

end Go.Proofs.YtakjbmlkcbedmaaDoor
