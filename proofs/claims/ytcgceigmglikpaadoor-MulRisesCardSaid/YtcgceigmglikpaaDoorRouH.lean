/- Walks of layer 5: into. -/
import Derived.Test.YtcgceigmglikpaaDoorRouG
namespace Go.Proofs.YtcgceigmglikpaaDoor
set_option linter.unusedVariables false
open Go.RowKit

theorem into_def (F : Fm) (m : Nat) (neg : Bool) (n : Nat) (e : Int) (more : Bool) (U : Nat) (Q : Int) (hQ : Q = quE F n e) (hU : U = cutS m neg n more (Q - e)) :
    intoS F m neg n e more = if F.emax < topE n e then (beyondS F m neg, 20) else if F.emax < Q + bl U - 1 then (beyondS F m neg, 20) else ((Q - F.low).toNat * 2 ^ (F.p - 1) + U + F.sg neg, if rst n more (Q - e) = 0 then 0 else if tinyB F m neg n e more = true then 24 else 16) := by
  subst hQ hU
  unfold intoS tinyB
  simp only [Bool.and_eq_true, decide_eq_true_eq]

set_option maxRecDepth 100000 in
set_option maxHeartbeats 8000000 in
theorem into_any (f : Nat) (hf : f < 4) (neg : Bool) (A : Option Addr) (n nn c : Nat) (e : Int) (more : Bool) (m : Nat) (w : World) (hv : Rd 64 w (.slice A nn c) n nn) (hm : m ≤ 5) (hnn : nn ≤ 1024) (he : -100000 ≤ e ∧ e ≤ 100000) (h0 : n ≠ 0) (hG : Gl w) (hR : GlR w) :
    Calls Tryd.prog 92 #[.agg (numA neg (.slice A nn c) e more), .int .i64 f, PV (fm f), .int .i64 m] w fun e' w' => e' = .returned (.tuple #[.int .u64 ((intoS (fm f) m neg n e more).1 : Int), .int .i64 ((intoS (fm f) m neg n e more).2 : Int)]) ∧ Below w.heap.size w w' := by
  have hbey := fun wx hx => beyond_any f m neg wx hf hm hx
  obtain ⟨F, hF⟩ : ∃ F, F = fm f := ⟨_, rfl⟩
  have ok : F.Ok := by rw [hF]; exact fm_ok f
  rw [← hF] at hbey ⊢
  clear hF
  obtain ⟨p8, p53, pw, w64, emx, emn, b16, b1023⟩ := id ok
  have hp1 : 1 ≤ F.p := by omega
  have hT1 : e ≤ topE n e := topE_ge n e h0
  have hbl := bl_le_of_lt hv.lt
  have hT2 : topE n e ≤ 200000 := by unfold topE; omega
  obtain ⟨Q, hQ⟩ : ∃ Q, Q = quE F n e := ⟨_, rfl⟩
  have hQl : F.low ≤ Q := by rw [hQ]; exact quE_low F n e
  have hQt : topE n e - F.p + 1 ≤ Q := by rw [hQ]; unfold quE; omega
  have hQd : Q = max (topE n e) F.emin - F.p + 1 := hQ
  have hroom := cut_room F ok n e Q h0 hQt
  obtain ⟨hU1, hU2⟩ := cut_le_p F m neg n e Q more h0 hQt
  obtain ⟨U, hU⟩ : ∃ U, U = cutS m neg n more (Q - e) := ⟨_, rfl⟩
  have hdef := into_def F m neg n e more U Q hQ hU
  have hcut := fun wx hvx hGx => cut_any neg A n nn c e Q more m wx hvx hm hnn (by omega) (by omega) hroom hGx
  have htiny := fun wx hvx hGx => tiny_any F ok neg A n nn c e more m wx hvx hm hnn he h0 hGx
  have htop := fun wx hvx => top_num neg A n nn c e more wx hvx hnn (by omega)
  rw [← hU] at hU1 hU2 hcut
  obtain ⟨I1, hI1⟩ : ∃ I, I = (intoS F m neg n e more).1 := ⟨_, rfl⟩
  obtain ⟨I2, hI2⟩ : ∃ I, I = (intoS F m neg n e more).2 := ⟨_, rfl⟩
  rw [← hI1, ← hI2]
  rw [hdef] at hI1 hI2
  have hinf := inf_eq F ok
  have hP63 : 2 ^ (F.w - 1) ≤ 2 ^ 63 := Nat.pow_le_pow_right (by decide) (by omega)
  have hpp := pow_split F.p hp1
  have hPp := pow_pos2 (F.p - 1)
  obtain ⟨tb, htb⟩ : ∃ tb, tb = tinyB F m neg n e more := ⟨_, rfl⟩
  obtain ⟨rr, hrr⟩ : ∃ rr, rr = rst n more (Q - e) := ⟨_, rfl⟩
  obtain ⟨by1, hby1⟩ : ∃ b, b = beyondS F m neg := ⟨_, rfl⟩
  rw [← htb] at htiny hI1 hI2
  rw [← hrr] at hcut hI1 hI2
  rw [← hby1] at hbey hI1 hI2
  obtain ⟨T, hT⟩ : ∃ T, T = topE n e := ⟨_, rfl⟩
  rw [← hT] at hT1 hT2 hQd hQt hI1 hI2 htiny htop
  have HI1 := Lib.hid hI1
  have HI2 := Lib.hid hI2
  have HCut := Lib.hid hcut
  have HTiny := Lib.hid htiny
  have HTop := Lib.hid htop
  have HBey := Lib.hid hbey
  clear hI1 hI2 hcut htiny htop hbey htb hrr hby1 hT hQ hU hdef hroom hbl h0 hQt
  have bn := Bx.new w (numA neg (.slice A nn c) e more) 132
  have hb0 := below2 w (.cells (numA neg (.slice A nn c) e more) 132) (.cells #[.int .i64 F.w, .int .i64 F.p, .int .i64 F.emin, .int .i64 F.emax] 58)
  have bp := BxP.new F (w.alloc (.cells (numA neg (.slice A nn c) e more) 132)) 58
  obtain ⟨W, hW⟩ : ∃ W, W = (w.alloc (.cells (numA neg (.slice A nn c) e more) 132)).alloc (.cells #[.int .i64 F.w, .int .i64 F.p, .int .i64 F.emin, .int .i64 F.emax] 58) := ⟨_, rfl⟩
  have bnW := bn.below (below1 _ (.cells #[.int .i64 F.w, .int .i64 F.p, .int .i64 F.emin, .int .i64 F.emax] 58))
  rw [← hW] at bnW bp hb0
  rw [World.size_alloc] at bp
  obtain ⟨k0, k1, k2, k3⟩ := bnW.num
  obtain ⟨q0, q1, q2, q3⟩ := bp.cells
  have BP := Lib.hid bp
  have BN := Lib.hid bnW
  have HB := Lib.hid hb0
  have Hv := Lib.hid (hv.below hb0)
  have HG := Lib.hid (hG.below hb0)
  have HR := Lib.hid (hR.below hb0)
  have hem : -1022 ≤ F.emin ∧ F.emin ≤ -14 := by omega
  obtain ⟨hem1, hem2⟩ := hem
  have hlow : F.emin - F.p + 1 = F.low := rfl
  clear emx emn bn bnW bp hb0 hv hG hR
  unfold numA at hW
  unfold numA PV
  go_enter Tryd.func92, Tryd.ntmps92
  go_upto_region 1 with (fail)
  rw [← hW]
  clear hW
  go_wp2_with fail
  refine (HTop.out W Hv.out).mono ?_
  rintro _ w2 ⟨rfl, hb2⟩
  replace HB := Lib.hid (keep_belowB HB.out hb2 (Nat.le_refl _))
  replace Hv := Lib.hid (Hv.out.below hb2)
  replace HG := Lib.hid (HG.out.below hb2)
  replace HR := Lib.hid (HR.out.below hb2)
  replace BP := Lib.hid (BP.out.below hb2)
  replace BN := Lib.hid (BN.out.below hb2)
  obtain ⟨k0, k1, k2, k3⟩ := BN.out.num
  obtain ⟨q0, q1, q2, q3⟩ := BP.out.cells
  clear hb2 HTop
  by_cases hTop : F.emax < T
  · have E1 : Hid (I1 = by1) := by show _ = _; rw [HI1.out, if_pos hTop]
    have E2 : Hid (I2 = 20) := by show _ = _; rw [HI2.out, if_pos hTop]
    go_wp2_with fail
    refine (HBey.out w2 HR.out).mono ?_
    rintro _ w3 ⟨rfl, hb3⟩
    replace HB := Lib.hid (HB.out.trans (hb3.mono HB.out.size))
    clear hb3 HBey
    go_wp2_with fail
    go_ret2
    exact ⟨by rw [E1.out, E2.out]; rfl, HB.out⟩
  have hTop' : decide (F.emax < T) = false := by simpa using hTop
  replace HI1 := Lib.hid (HI1.out.trans (by rw [if_neg hTop]))
  replace HI2 := Lib.hid (HI2.out.trans (by rw [if_neg hTop]))
  obtain ⟨K, hK⟩ : ∃ K : Nat, Q - F.low = K := ⟨(Q - F.low).toNat, by omega⟩
  have hKn : (Q - F.low).toNat = K := by omega
  rw [hKn] at HI1 HI2
  have hKle : K ≤ (F.emax - F.p + 1 - F.low).toNat := by omega
  have hB : K * 2 ^ (F.p - 1) + U ≤ F.inf := by
    rw [hinf.1]
    have := Nat.mul_le_mul_right (2 ^ (F.p - 1)) hKle
    omega
  have hB63 : K * 2 ^ (F.p - 1) + U < 2 ^ (F.w - 1) := by omega
  obtain ⟨n1, hn1⟩ : ∃ n1, n1 = F.p - 1 := ⟨_, rfl⟩
  obtain ⟨kw, hkw⟩ : ∃ kw, kw = F.w - 1 := ⟨_, rfl⟩
  rw [← hn1, ← hkw] at hB63
  rw [← hn1] at HI1 HI2
  rw [← hkw] at hP63
  have e1 : (F.p : Int) - 1 = (n1 : Int) := by omega
  have e2 : (F.w : Int) - 1 = (kw : Int) := by omega
  have hn63 : n1 ≤ 63 := by omega
  have hkw63 : kw ≤ 63 := by omega
  have hUlt : U < 18446744073709551616 := by omega
  obtain ⟨s1, hs1⟩ : ∃ s1, s1 = K * 2 ^ n1 := ⟨_, rfl⟩
  obtain ⟨s2, hs2⟩ : ∃ s2, s2 = K * 2 ^ n1 + U := ⟨_, rfl⟩
  obtain ⟨s3, hs3⟩ : ∃ s3, s3 = 2 ^ kw := ⟨_, rfl⟩
  obtain ⟨s4, hs4⟩ : ∃ s4, s4 = s2 + s3 := ⟨_, rfl⟩
  have x1 : IntKind.u64.wrap (K : Int) = (K : Int) := by
    rw [IntKind.wrap_u64]
    have : K * 1 ≤ K * 2 ^ (F.p - 1) := Nat.mul_le_mul_left _ hPp
    omega
  have x2 : IntKind.u64.wrap ((K : Int) * 2 ^ n1) = (s1 : Int) := by rw [wrap_shl_nat, hs1, Nat.mod_eq_of_lt (by omega)]
  have x3 : IntKind.u64.wrap ((s1 : Int) + (U : Int)) = (s2 : Int) := by rw [IntKind.wrap_u64, hs1, hs2]; omega
  have x4 : IntKind.u64.wrap ((2 : Int) ^ kw) = (s3 : Int) := by
    have e0 : (2 : Int) ^ kw = ((2 ^ kw : Nat) : Int) := by simp
    rw [e0, hs3, IntKind.wrap_u64]; omega
  have x5 : bits .or .u64 (s2 : Int) (s3 : Int) = (s4 : Int) := by
    rw [or_nat _ _ (by omega) (by omega), hs4, hs3, Nat.or_comm]
    have := or_add 1 s2 kw (by omega)
    rw [Nat.one_mul] at this
    rw [this]; omega
  have hsg : F.sg neg = if neg then s3 else 0 := by unfold Fm.sg; rw [hs3, hkw]
  rw [← hs2, hsg] at HI1
  have hus : s1 + U = s2 := by omega
  have Hus := Lib.hid hus
  have Hs4 := Lib.hid hs4
  have HQd := Lib.hid hQd
  have hmx : max T F.emin - (F.p : Int) + 1 = Q := hQd.symm
  clear hsg hs1 hs2 hs3 hs4 hn1 hkw hB hB63 hKle hKn hinf hP63 hpp hPp hus hU1 hQd
  go_wp2_with fail
  refine (HCut.out w2 Hv.out HG.out).mono ?_
  rintro _ w3 ⟨v3, rfl, h3, hF3, hb3⟩
  replace HB := Lib.hid (keep_belowB HB.out hb3 (Nat.le_refl _))
  replace Hv := Lib.hid (Hv.out.below hb3)
  replace HG := Lib.hid (HG.out.below hb3)
  replace HR := Lib.hid (HR.out.below hb3)
  replace BP := Lib.hid (BP.out.below hb3)
  replace BN := Lib.hid (BN.out.below hb3)
  obtain ⟨k0, k1, k2, k3⟩ := BN.out.num
  obtain ⟨q0, q1, q2, q3⟩ := BP.out.cells
  have hUn : U = 0 ∨ nd 64 U = 1 := by
    rcases Nat.eq_zero_or_pos U with h | h
    · exact Or.inl h
    · exact Or.inr (nd_word (by omega) hUlt)
  obtain ⟨un, hun⟩ : ∃ un, un = nd 64 U := ⟨_, rfl⟩
  rw [← hun] at h3 hUn
  have Hun := Lib.hid hun
  clear hun hb3 HCut hF3
  obtain ⟨A3, c3, rfl, hc3, hcm3⟩ := h3.form
  have H3 := Lib.hid h3
  go_upto_region 8 with (fail)
  go_upto_if 58 with (fail)
  go_cut [15] from 58 (fun v15 wx => v15 = .int .u64 (s2 : Int) ∧ wx = w3)
  case first =>
    rcases hUn with hU0 | hU1
    · have e0 : un = 0 := by rw [Hun.out, hU0, nd_zero]
      have E : Hid (s1 = s2) := by show _ = _; have := Hus.out; omega
      clear Hun Hus h3 H3
      subst e0
      go_wp2_with fail
      go_meet
      case rel => exact ⟨by rw [E.out], rfl⟩
    · obtain ⟨_, _, _, hr3⟩ := h3.at_
      obtain ⟨b, o, rfl, hb', hcell⟩ := hr3 (by omega)
      have hk := hcell 0 (by omega)
      have hd : dg 64 U 0 = U := by unfold dg; rw [Nat.mul_zero, Nat.pow_zero, Nat.div_one]; exact Nat.mod_eq_of_lt hUlt
      rw [Nat.add_zero, hd] at hk
      clear hr3 hcell hd h3 H3 Hun
      subst hU1
      go_wp2_with fail
      go_meet
      case rel => exact ⟨rfl, rfl⟩
  case rest =>
    obtain ⟨rfl, rfl⟩ := hcut
    have hL := fun wx (h : Rd 64 wx (.slice A3 un c3) U un) => Len_any (.slice A3 un c3) U un wx h
    have HL := Lib.hid hL
    have hQ9 : -100000 ≤ Q ∧ Q ≤ 300000 := by have := HQd.out; omega
    have y1 : IntKind.i64.wrap (Q + (bl U : Int)) = Q + (bl U : Int) := IntWalk.i64_in _ (by omega)
    have y2 : IntKind.i64.wrap (Q + (bl U : Int) - 1) = Q + (bl U : Int) - 1 := IntWalk.i64_in _ (by omega)
    clear hL hUn Hus Hun
    have h33 := H3.out
    go_upto_region 10 with (fail)
    go_quiet ((go_at_call 104; exact quiet_eq (HL.out _ h33)))
    clear y1 y2 HL
    have HB' := Lib.hid (below_drewN HB.out nq)
    have HR' := Lib.hid (show GlR (wc.drewN nq) from HR.out)
    have HG' := Lib.hid (show Gl (wc.drewN nq) from HG.out)
    have Hv' := Lib.hid (show Rd 64 (wc.drewN nq) (.slice A nn c) n nn from Hv.out)
    have BN' := Lib.hid (show Bx (wc.drewN nq) w.heap.size (numA neg (.slice A nn c) e more) from BN.out)
    have BP' := Lib.hid (show BxP F (wc.drewN nq) (w.heap.size + 1) from BP.out)
    clear HB HR HG Hv BN BP k0 k1 k2 k3 q0 q1 q2 q3 H3 h3 h33
    generalize wc.drewN nq = w4 at *
    obtain ⟨k0, k1, k2, k3⟩ := BN'.out.num
    obtain ⟨q0, q1, q2, q3⟩ := BP'.out.cells
    by_cases hO : F.emax < Q + (bl U : Int) - 1
    · have E1 : Hid (I1 = by1) := by show _ = _; rw [HI1.out, if_pos hO]
      have E2 : Hid (I2 = 20) := by show _ = _; rw [HI2.out, if_pos hO]
      clear HI1 HI2
      go_wp2_with fail
      refine (HBey.out w4 HR'.out).mono ?_
      rintro _ w5 ⟨rfl, hb5⟩
      have HB := Lib.hid (HB'.out.trans (hb5.mono HB'.out.size))
      clear hb5 HBey
      go_wp2_with fail
      go_ret2
      exact ⟨by rw [E1.out, E2.out]; rfl, HB.out⟩
    have hO' : decide (F.emax < Q + (bl U : Int) - 1) = false := by simpa using hO
    have hO2 : decide (F.emax + 1 < Q + (bl U : Int)) = false := by simp; omega
    have hO3 : ¬ F.emax + 1 < Q + (bl U : Int) := by omega
    have hO4 : Q + (bl U : Int) - 1 ≤ F.emax := by omega
    have hO5 : ¬ F.emax < Q + (bl U : Int) - 1 := hO
    replace HI1 := Lib.hid (HI1.out.trans (by rw [if_neg hO]))
    replace HI2 := Lib.hid (HI2.out.trans (by rw [if_neg hO]))
    have HI1' : Hid (I1 = s2 + (if neg = true then s3 else 0)) := HI1.out
    have HI2' : Hid (I2 = if rr = 0 then 0 else if tb = true then 24 else 16) := HI2.out
    clear HI1 HI2 HBey
    go_upto_region 12 with (fail)
    go_upto_if 78 with (fail)
    go_cut [15, 71] from 78 (fun v15 v71 wx => v15 = .int .u64 (I1 : Int) ∧ v71 = .bool false ∧ wx = w4)
    case first =>
      cases neg
      · have E : Hid (I1 = s2) := HI1'.out
        go_wp2_with fail
        go_meet
        case rel => exact ⟨by rw [E.out], rfl, rfl⟩
      · have E : Hid (I1 = s4) := by show _ = _; rw [HI1'.out, Hs4.out]; rfl
        go_wp2_with fail
        go_meet
        case rel => exact ⟨by rw [E.out], rfl, rfl⟩
    case rest =>
      obtain ⟨rfl, rfl, rfl⟩ := hcut
      by_cases hr0 : rr = 0
      · have t1 : (rr != 0) = false := by simp [hr0]
        have E2 : Hid (I2 = 0) := by show _ = _; rw [HI2'.out, if_pos hr0]
        clear hr0
        go_wp2_with fail
        go_ret2
        exact ⟨by rw [E2.out]; rfl, HB'.out⟩
      · have t1 : (rr != 0) = true := by simp [hr0]
        have E2 : Hid (I2 = if tb = true then 24 else 16) := by show _ = _; rw [HI2'.out, if_neg hr0]
        clear hr0
        go_wp2_with fail
        refine (HTiny.out _ Hv'.out HG'.out).mono ?_
        rintro _ w5 ⟨rfl, hb5⟩
        have HB := Lib.hid (keep_belowB HB'.out hb5 (Nat.le_refl _))
        clear hb5
        cases tb
        · have E3 : Hid (I2 = 16) := E2.out
          go_wp2_with fail
          go_ret2
          exact ⟨by rw [E3.out]; rfl, HB.out⟩
        · have E3 : Hid (I2 = 24) := E2.out
          go_wp2_with fail
          go_ret2
          exact ⟨by rw [E3.out]; rfl, HB.out⟩

end Go.Proofs.YtcgceigmglikpaaDoor
