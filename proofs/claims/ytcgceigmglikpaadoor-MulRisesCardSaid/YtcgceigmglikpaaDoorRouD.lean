/- Walks of layer 5: cut. -/
import Derived.Test.YtcgceigmglikpaaDoorRouC
namespace Go.Proofs.YtcgceigmglikpaaDoor
set_option linter.unusedVariables false
open Go.RowKit

/-- a number under rounding, as cells -/
def numA (neg : Bool) (x : Value) (e : Int) (more : Bool) : Array Value := #[.bool neg, x, .int .i64 e, .bool more]

theorem Jam_int (v : Value) (N n : Nat) (t : Int) (w : World) (hv : Rd 64 w v N n) (h0 : 0 ≤ t) (hs : t ≤ 9223372036854775807) (hT : Gl w) :
    Calls Tryd.prog 158 #[v, .int .i64 t] w fun e w' => ∃ v', e = .returned (.tuple #[v', .int .i64 0]) ∧ Rd 64 w' v' (jamN N t.toNat) (nd 64 (jamN N t.toNat)) ∧ Fr w.heap.size w' v' ∧ Below w.heap.size w w' := by
  obtain ⟨s, rfl⟩ := Int.eq_ofNat_of_zero_le h0
  exact Jam_any v N n s w hv (by omega) hT

theorem Shl_int (v : Value) (N n : Nat) (t : Int) (w : World) (hv : Rd 64 w v N n) (h0 : 0 ≤ t) (hs : t ≤ 65536) (hn : n ≤ 1000000) (hN : nd 64 N ≤ 1024) (hNs : nd 64 (N * 2 ^ t.toNat) ≤ 1024) :
    Calls Tryd.prog 159 #[v, .int .i64 t] w fun e w' => ∃ v', e = .returned (.tuple #[v', .int .i64 0]) ∧ Rd 64 w' v' (N * 2 ^ t.toNat) (nd 64 (N * 2 ^ t.toNat)) ∧ Fr w.heap.size w' v' ∧ Below w.heap.size w w' := by
  obtain ⟨s, rfl⟩ := Int.eq_ofNat_of_zero_le h0
  exact Shl_ok v N n s w hv (by omega) hn hN hNs

theorem dg0_mod4 (J : Nat) : dg 64 J 0 % 4 = J % 4 := by unfold dg; rw [Nat.mul_zero, Nat.pow_zero, Nat.div_one]; omega
theorem dg0_mod2 (J : Nat) : dg 64 J 0 % 2 = J % 2 := by unfold dg; rw [Nat.mul_zero, Nat.pow_zero, Nat.div_one]; omega

theorem beq_one (z : Nat) : ((z : Int) == 1) = decide (z = 1) := by
  by_cases h : z = 1
  · subst h; rfl
  · simp [h]; omega

theorem jamN_lt (n s k : Nat) (h : n < 2 ^ k) (hk : 1 ≤ k) : jamN n s < 2 ^ k := by
  have h1 := Nat.lt_of_le_of_lt (Nat.div_le_self n (2 ^ s)) h
  unfold jamN; split
  · exact h1
  · exact Nat.or_lt_two_pow h1 (Nat.one_lt_two_pow (by omega))

set_option maxRecDepth 100000 in
set_option maxHeartbeats 8000000 in
theorem cut_any (neg : Bool) (A : Option Addr) (n nn c : Nat) (e q : Int) (more : Bool) (m : Nat) (w : World) (hv : Rd 64 w (.slice A nn c) n nn) (hm : m ≤ 5) (hnn : nn ≤ 1024) (he : -1000000 ≤ e ∧ e ≤ 1000000) (hq : -1000000 ≤ q ∧ q ≤ 1000000)
    (hj : q - e < 2 → 2 - (q - e) ≤ 65536 ∧ nd 64 (n * 2 ^ (2 - (q - e)).toNat) ≤ 1024) (hG : Gl w) :
    Calls Tryd.prog 138 #[.agg (numA neg (.slice A nn c) e more), .int .i64 m, .int .i64 q] w fun e' w' => ∃ v', e' = .returned (.tuple #[v', .bool (rst n more (q - e) != 0)]) ∧ Rd 64 w' v' (cutS m neg n more (q - e)) (nd 64 (cutS m neg n more (q - e))) ∧ Fr w.heap.size w' v' ∧ Below w.heap.size w w' := by
  obtain ⟨hj4, hjr⟩ := jN_facts n (q - e)
  have Hj4 := Lib.hid hj4
  have Hjr := Lib.hid (hjr more)
  have hnd := nd_le 64 n nn (by decide) hv.lt
  clear hj4 hjr
  obtain ⟨r, hr⟩ : ∃ r, r = rst n more (q - e) := ⟨_, rfl⟩
  have hr3 : r ≤ 3 := by rw [hr]; exact rst_le _ _ _
  obtain ⟨U, hU⟩ : ∃ U, U = cutS m neg n more (q - e) := ⟨_, rfl⟩
  obtain ⟨bb, hbb⟩ : ∃ bb, bb = (r != 0) := ⟨_, rfl⟩
  rw [← hr, ← hU, ← hbb]
  have Hbb := Lib.hid hbb
  clear hbb
  unfold cutS goesUp at hU
  rw [← hr] at hU Hjr
  have HU := Lib.hid hU
  clear hU hr
  obtain ⟨J, hJ⟩ : ∃ J, J = jN n (q - e) := ⟨_, rfl⟩
  rw [← hJ] at Hj4 Hjr
  have hJJ := hJ
  unfold jN at hJJ
  have HJ := Lib.hid hJJ
  obtain ⟨K, hK⟩ : ∃ K, K = 1024 := ⟨_, rfl⟩
  have hJlt : J < 2 ^ (64 * K) := by
    rw [hJJ]
    split
    · exact jamN_lt _ _ _ (Nat.lt_of_lt_of_le hv.lt (Nat.pow_le_pow_right (by decide) (by omega))) (by omega)
    · rename_i h; exact Nat.lt_of_lt_of_le (lt_nd 64 _ (by decide)) (Nat.pow_le_pow_right (by decide) (by have := (hj (by omega)).2; omega))
  have hfl9 : nd 64 (flr n (q - e)) ≤ 1024 := by rw [← Hj4.out, ← hK]; exact nd_le 64 _ _ (by decide) (Nat.lt_of_le_of_lt (Nat.div_le_self _ _) hJlt)
  clear hJ hJJ hJlt hK
  have Hv := Lib.hid hv
  have HG := Lib.hid hG
  have b0 := Bx.new w (numA neg (.slice A nn c) e more) 132
  have hb0 := below1 w (.cells (numA neg (.slice A nn c) e more) 132)
  obtain ⟨W, hW⟩ : ∃ W, W = w.alloc (.cells (numA neg (.slice A nn c) e more) 132) := ⟨_, rfl⟩
  rw [← hW] at b0 hb0
  have HW := Lib.hid hW
  have HB := Lib.hid hb0
  have B0 := Lib.hid b0
  have k0 := b0.cell 0 (show (numA neg (.slice A nn c) e more)[0]? = some (.bool neg) from rfl)
  have k1 := b0.cell 1 (show (numA neg (.slice A nn c) e more)[1]? = some (.slice A nn c) from rfl)
  have k2 := b0.cell 2 (show (numA neg (.slice A nn c) e more)[2]? = some (.int .i64 e) from rfl)
  have k3 := b0.cell 3 (show (numA neg (.slice A nn c) e more)[3]? = some (.bool more) from rfl)
  clear hv hG b0 hb0
  unfold numA at hW
  unfold numA
  go_enter Tryd.func138, Tryd.ntmps138
  go_upto_region 2 with (fail)
  rw [← hW]
  clear hW
  go_upto_if 17 with (fail)
  go_cut [8] from 17 (fun v8 wx => Rd 64 wx v8 J (nd 64 J) ∧ Fr W.heap.size wx v8 ∧ Below W.heap.size W wx)
  case first =>
    by_cases hd : 2 ≤ q - e
    · have E : Hid (J = jamN n (q - e - 2).toNat) := by show _ = _; rw [HJ.out, if_pos hd]
      go_wp2_with fail
      refine (Jam_int (.slice A nn c) n nn (q - e - 2) W (Hv.out.below HB.out) (by omega) (by omega) (HG.out.below HB.out)).mono ?_
      rintro _ w2 ⟨v2, rfl, h2, hF2, hb2⟩
      rw [← E.out] at h2
      clear E
      go_wp2_with fail
      go_meet
      case rel => exact ⟨h2, hF2, hb2⟩
    · have E : Hid (J = n * 2 ^ (2 - (q - e)).toNat) := by show _ = _; rw [HJ.out, if_neg hd]
      have hjj := hj (by omega)
      have t1 : decide (2 ≤ q - e) = false := by simpa using hd
      have hd2 : q - e < 2 := by omega
      clear hd
      go_wp2_with fail
      refine (Shl_int (.slice A nn c) n nn (2 - (q - e)) W (Hv.out.below HB.out) (by omega) hjj.1 (by omega) (by omega) hjj.2).mono ?_
      rintro _ w2 ⟨v2, rfl, h2, hF2, hb2⟩
      rw [← E.out] at h2
      clear E hjj
      go_wp2_with fail
      go_meet
      case rel => exact ⟨h2, hF2, hb2⟩
  case rest =>
    obtain ⟨jn, hjn⟩ : ∃ jn, jn = nd 64 J := ⟨_, rfl⟩
    rw [← hjn] at hcut
    have Hjn := Lib.hid hjn
    clear hjn
    obtain ⟨h2, hF2, hb2⟩ := hcut
    obtain ⟨A2, c2, rfl, hc2, hcm2⟩ := h2.form
    replace HB := Lib.hid (keep_belowB HB.out hb2 (Nat.le_refl _))
    have HBs : w.heap.size ≤ wc.heap.size := HB.out.size
    have B2 := Lib.hid (B0.out.below hb2)
    have k0 := B2.out.cell 0 (show (numA neg (.slice A nn c) e more)[0]? = some (.bool neg) from rfl)
    have k3 := B2.out.cell 3 (show (numA neg (.slice A nn c) e more)[3]? = some (.bool more) from rfl)
    have HF := Lib.hid hF2
    clear k1 k2 hF2 hb2 B0 HW HJ hj Hv hnd
    go_upto_region 6 with (fail)
    go_upto_if 42 with (fail)
    go_cut [9] from 42 (fun v9 wx => v9 = .int .u64 ((J % 4 : Nat) : Int) ∧ wx = wc)
    case first =>
      by_cases hJ0 : jn = 0
      · have e0 : J = 0 := by
          rcases Nat.eq_zero_or_pos J with h | h
          · exact h
          · have := nd_pos 64 J (by omega); have := Hjn.out; omega
        have E : Hid (J % 4 = 0) := by show _ = _; rw [e0]
        clear e0
        subst hJ0
        go_wp2_with fail
        go_meet
        case rel => exact ⟨by rw [E.out]; rfl, rfl⟩
      · obtain ⟨_, _, _, hr2⟩ := h2.at_
        obtain ⟨b, o, rfl, hb', hcell⟩ := hr2 (by omega)
        have hk := hcell 0 (by omega)
        rw [Nat.add_zero] at hk
        have hx := dg64_lt J 0
        have hand : bits .and .u64 ((dg 64 J 0 : Nat) : Int) 3 = ((J % 4 : Nat) : Int) := by
          have := bits_and_u64_nat (dg 64 J 0) 3 hx (by decide)
          have e4 : dg 64 J 0 &&& 3 = dg 64 J 0 % 2 ^ 2 := Nat.and_two_pow_sub_one_eq_mod _ 2
          rw [e4, show (2 : Nat) ^ 2 = 4 from rfl, dg0_mod4] at this
          exact this
        have hpos : 0 < jn := by omega
        clear hr2 hcell h2
        generalize dg 64 J 0 = x at *
        generalize J % 4 = y at *
        go_wp2_with fail
        go_meet
        case rel => exact ⟨rfl, rfl⟩
    case rest =>
      obtain ⟨rfl, rfl⟩ := hcut
      generalize hJ4 : J % 4 = y at *
      have HJ4 := Lib.hid hJ4
      have hy4 : y < 4 := by omega
      clear hJ4
      go_upto_region 8 with (fail)
      go_upto_if 48 with (fail)
      go_cut [9] from 48 (fun v9 wx => v9 = .int .u64 (r : Int) ∧ wx = wc)
      case first =>
        cases more
        · have E : Hid (y = r) := Hjr.out
          go_wp2_with fail
          go_meet
          case rel => exact ⟨by rw [E.out], rfl⟩
        · have E : Hid (y ||| 1 = r) := Hjr.out
          have hor : bits .or .u64 (y : Int) 1 = ((y ||| 1 : Nat) : Int) := or_nat _ 1 (by omega) (by decide)
          generalize (y ||| 1) = y2 at *
          go_wp2_with fail
          go_meet
          case rel => exact ⟨by rw [E.out], rfl⟩
      case rest =>
        obtain ⟨rfl, rfl⟩ := hcut
        have hSh := Shr_any (.slice A2 jn c2) J jn 2 wc h2 (by omega)
        rw [show J / 2 ^ 2 = J / 4 from rfl, Hj4.out] at hSh
        have HSh := Lib.hid hSh
        rw [← Hj4.out] at HU
        have hfl := Hj4.out
        obtain ⟨fl, hfl2⟩ : ∃ fl, fl = flr n (q - e) := ⟨_, rfl⟩
        rw [← hfl2] at hfl HSh hfl9
        rw [hfl] at HU
        clear hSh h2 hfl hfl2 HJ4 hy4 Hjn HF he hq Hj4
        go_wp2_with fail
        refine HSh.out.mono ?_
        rintro _ w3 ⟨v3, rfl, h3, hF3, hb3⟩
        replace HB := Lib.hid (keep_belowB HB.out hb3 (Nat.le_refl _))
        have k0 := keep_cell hb3 k0
        have HF3 := Lib.hid (hF3.mono (B' := w.heap.size) HBs)
        obtain ⟨fn, hfn⟩ : ∃ fn, fn = nd 64 fl := ⟨_, rfl⟩
        have hfs := nd_pos 64 fl
        rw [← hfn] at h3 hfs hfl9
        have Hfn := Lib.hid hfn
        clear hfn hF3 hb3 HSh
        obtain ⟨A3, c3, rfl, hc3, hcm3⟩ := h3.form
        have H3 := Lib.hid h3
        go_upto_region 11 with (fail)
        go_cut [12] from 56 (fun v12 wx => v12 = .bool (decide (fl % 2 = 1)) ∧ wx = w3)
        case first =>
          by_cases h0 : fl = 0
          · have e0 : fn = 0 := by rw [Hfn.out, h0, nd_zero]
            have E : Hid (decide (fl % 2 = 1) = false) := by show _ = _; rw [h0]; rfl
            clear h0 hfs Hfn HU H3 HF3
            subst e0
            go_wp2_with fail
            go_meet
            case rel => exact ⟨by rw [E.out], rfl⟩
          · obtain ⟨_, _, _, hr3⟩ := h3.at_
            have hpos : 0 < fn := hfs h0
            obtain ⟨b, o, rfl, hb', hcell⟩ := hr3 hpos
            have hk := hcell 0 hpos
            rw [Nat.add_zero] at hk
            have hx := dg64_lt fl 0
            have hand : bits .and .u64 ((dg 64 fl 0 : Nat) : Int) 1 = ((fl % 2 : Nat) : Int) := by
              have := bits_and_u64_nat (dg 64 fl 0) 1 hx (by decide)
              have e4 : dg 64 fl 0 &&& 1 = dg 64 fl 0 % 2 ^ 1 := Nat.and_two_pow_sub_one_eq_mod _ 1
              rw [e4, show (2 : Nat) ^ 1 = 2 from rfl, dg0_mod2] at this
              exact this
            clear hr3 hcell h3 hfs h0 HU
            generalize dg 64 fl 0 = x at *
            generalize fl % 2 = z at *
            go_wp2_with fail
            go_meet
            case rel => exact ⟨by rw [beq_one], rfl⟩
        case rest =>
          obtain ⟨rfl, rfl⟩ := hcut
          obtain ⟨od, hod⟩ : ∃ od, od = decide (fl % 2 = 1) := ⟨_, rfl⟩
          rw [← hod] at HU ⊢
          clear hod hfs h3
          by_cases h0 : r = 0
          · have E1 : Hid (U = fl) := by show _ = _; rw [HU.out, h0]; rfl
            have E2 : Hid (bb = false) := by show _ = _; rw [Hbb.out, h0]; rfl
            clear HU Hbb Hjr
            subst h0
            go_wp2_with fail
            go_ret2
            rw [E1.out, E2.out, ← Hfn.out]
            exact ⟨_, rfl, H3.out, HF3.out, HB.out⟩
          · have E2 : Hid (bb = true) := by show _ = _; rw [Hbb.out]; simpa using h0
            have t1 : ((r : Int) != 0) = true := by simpa using h0
            have hr1 : 1 ≤ r := by omega
            have hbne : (r != 0) = true := by simpa using h0
            rw [hbne, Bool.true_and] at HU
            clear Hbb h0 Hjr hbne
            go_wp2_with fail
            refine (further_any m neg od r _ hm hr1 hr3).mono ?_
            rintro _ w4 ⟨rfl, rfl⟩
            obtain ⟨ub, hub⟩ : ∃ ub, ub = upB m neg od r := ⟨_, rfl⟩
            rw [← hub] at HU ⊢
            clear hub
            cases ub
            · have E1 : Hid (U = fl) := HU.out
              clear HU
              go_wp2_with fail
              go_ret2
              rw [E1.out, E2.out, ← Hfn.out]
              exact ⟨_, rfl, H3.out, HF3.out, HB.out⟩
            · have E1 : Hid (U = fl + 1) := HU.out
              clear HU
              go_wp2_with fail
              have hR1 := Rd.one wc 1 (by decide)
              have hs9 := HB.out.size
              refine (Add_any _ _ fl fn 1 1 _ (H3.out.alloc _) hR1 (by omega) (by omega)).mono ?_
              rintro _ w5 ⟨v5, rfl, h5, hF5, hb5⟩
              replace HB := Lib.hid (keep_belowB (HB.out.alloc HB.out.size (.cells #[.int .u64 1] 22)) hb5 (Nat.le_refl _))
              have hsz := HB.out.size
              have hF5' := hF5.mono (B' := w.heap.size) (by simp; omega)
              go_wp2_with fail
              go_ret2
              rw [E1.out, E2.out]
              exact ⟨_, rfl, h5, hF5', HB.out⟩

end Go.Proofs.YtcgceigmglikpaaDoor
