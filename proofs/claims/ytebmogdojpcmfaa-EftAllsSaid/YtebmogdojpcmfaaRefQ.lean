/- The walks of vernierref06.Round and Final. -/
import Derived.Outline
import Derived.Deep.CutBlock
import Derived.Deep.RegionHeld3
import Derived.Test.YtebmogdojpcmfaaRefI
import Derived.Test.YtebmogdojpcmfaaRefV
namespace Go.Proofs.Ytebmogdojpcmfaa
set_option linter.unusedVariables false
set_option linter.unusedSimpArgs false
open Go.RowKit

theorem nd_low {n p : Nat} (h : n ≤ 2 ^ p) (hp : p ≤ 53) : nd 32 n ≤ 2 := by
  refine nd_le 32 n 2 (by decide) ?_
  have : (2 : Nat) ^ p ≤ 2 ^ 53 := Nat.pow_le_pow_right (by decide) hp
  exact Nat.lt_of_le_of_lt (Nat.le_trans h this) (by decide)

theorem bl_small {n p : Nat} (h : n ≤ 2 ^ p) (hp : p ≤ 53) : bl n ≤ 54 := bl_le n 54 (by
  have : (2 : Nat) ^ p ≤ 2 ^ 53 := Nat.pow_le_pow_right (by decide) hp
  exact Nat.lt_of_le_of_lt (Nat.le_trans h this) (by decide))

theorem wi (x y : Int) (e : x = y) (h1 : -9223372036854775808 ≤ y) (h2 : y < 9223372036854775808) : IntKind.i64.wrap x = y := by rw [e, IntKind.wrap_i64]; omega

/-- the wraps of Round -/
structure RoundW (F : Fm) (e T Q M : Int) (b b1 b2 k : Nat) : Prop where
  mx : max T F.emin = M
  w1 : IntKind.i64.wrap (1 - F.emin) = F.emax
  w2 : IntKind.i64.wrap (e + (b : Nat)) = T + 1
  w3 : IntKind.i64.wrap T = T
  w4 : IntKind.i64.wrap (M - F.p) = Q - 1
  w5 : IntKind.i64.wrap Q = Q
  w6 : IntKind.i64.wrap (Q + (b1 : Nat)) = Q + b1
  w7 : IntKind.i64.wrap (Q + (b1 : Nat) - 1) = Q + b1 - 1
  x1 : IntKind.i64.wrap (F.emin - F.p) = F.low - 1
  x2 : IntKind.i64.wrap F.low = F.low
  x3 : IntKind.i64.wrap (Q - F.low) = (k : Int)
  x4 : IntKind.u64.wrap (k : Int) = (k : Int)
  x5 : IntKind.i64.wrap ((F.p : Int) - 1) = ((F.p - 1 : Nat) : Int)
  x6 : IntKind.u64.wrap ((F.p - 1 : Nat) : Int) = ((F.p - 1 : Nat) : Int)
  y1 : IntKind.i64.wrap (T - F.p) = T - F.p
  y2 : IntKind.i64.wrap (T - F.p + 1) = T - F.p + 1
  y3 : IntKind.i64.wrap (T - F.p + (b2 : Nat)) = T - F.p + b2

theorem round_wraps {F : Fm} (ok : F.Ok) {e T Q : Int} {b b1 b2 k : Nat} (he : -20000 ≤ e ∧ e ≤ 20000) (hb : b ≤ 32000) (hT : T = e + b - 1) (hQ : Q = max T F.emin - F.p + 1) (h1 : b1 ≤ 54) (h2 : b2 ≤ 54) (hk : k = (Q - F.low).toNat) : RoundW F e T Q (Q + F.p - 1) b b1 b2 k := by
  obtain ⟨p8, p53, pw, w64, -, emn, b16, b1023⟩ := ok
  have hl : F.low = F.emin - F.p + 1 := rfl
  refine ⟨by omega, wi _ _ (by omega) (by omega) (by omega), wi _ _ (by omega) (by omega) (by omega), wi _ _ rfl (by omega) (by omega), wi _ _ (by omega) (by omega) (by omega), wi _ _ rfl (by omega) (by omega), wi _ _ rfl (by omega) (by omega), wi _ _ rfl (by omega) (by omega), wi _ _ (by omega) (by omega) (by omega), wi _ _ rfl (by omega) (by omega), wi _ _ (by omega) (by omega) (by omega), ?_, wi _ _ (by omega) (by omega) (by omega), ?_, wi _ _ rfl (by omega) (by omega), wi _ _ rfl (by omega) (by omega), wi _ _ rfl (by omega) (by omega)⟩
  · rw [IntKind.wrap_u64]; omega
  · rw [IntKind.wrap_u64]; omega

set_option maxRecDepth 100000 in
set_option maxHeartbeats 8000000 in
theorem rRound_any (n m : Nat) (x : Value) (d : D) (w : World) (hn : n < 4) (hm : m ≤ 5) (hx : NumV w x d) (h0 : d.n ≠ 0) (hd : nd 32 d.n ≤ 1000) (hde : -20000 ≤ d.e ∧ d.e ≤ 20000) :
    Calls Try.prog 59 #[.int .i64 n, .int .i64 m, x] w fun e' w' => e' = .returned (.tuple #[.int .u64 ((intoS (fm n) m d.s d.n d.e false).1 : Int), .int .i64 ((intoS (fm n) m d.s d.n d.e false).2 : Int)]) ∧ Below w.heap.size w w' := by
  obtain ⟨V1, rfl, r1⟩ := hx
  obtain ⟨A1, c1, rfl, -, -⟩ := r1.form
  have ok := fm_ok n
  have hpar := rparams_ok n
  have hbey := fun wx => rbeyond_ok n m d.s wx hn hm
  have hsgn := fun wx => rsign_ok n d.s wx hn
  have RF := round_facts ok m d.s d.n d.e h0
  have hTlo := topE_ge d.n d.e h0
  have hbl : bl d.n ≤ 32000 := Nat.le_trans (bl_le d.n (32 * nd 32 d.n) (lt_nd 32 d.n (by decide))) (by omega)
  obtain ⟨r, hr⟩ : ∃ r, r = intoS (fm n) m d.s d.n d.e false := ⟨_, rfl⟩
  rw [← hr]
  unfold intoS at hr
  have hpr : ∀ wx, Calls Try.prog 47 #[.int .i64 n] wx fun e w' => e = .returned (.tuple #[.int .i64 (fm n).w, .int .i64 (fm n).p, .int .i64 (fm n).emin]) ∧ wx = w' := fun wx => hpar wx hn
  obtain ⟨F, hF⟩ : ∃ F, F = fm n := ⟨_, rfl⟩
  rw [← hF] at hpr hbey hsgn RF ok hr
  clear hF hpar
  obtain ⟨p8, p53, pw, w64, -, emn, b16, b1023⟩ := id ok
  obtain ⟨q1, q2, q3, q4⟩ := RF
  obtain ⟨T, hT⟩ : ∃ T, T = topE d.n d.e := ⟨_, rfl⟩
  obtain ⟨Q, hQ⟩ : ∃ Q, Q = quE F d.n d.e := ⟨_, rfl⟩
  rw [← hT] at hTlo hr q2 q4
  rw [← hQ] at hr q1 q3 q4
  have hT2 : T = d.e + bl d.n - 1 := by rw [hT]; rfl
  have hQ2 : Q = max T F.emin - F.p + 1 := by rw [hQ, hT]; rfl
  have hlow : F.low = F.emin - F.p + 1 := rfl
  obtain ⟨k1, hk1⟩ : ∃ k, k = cutS m d.s d.n false (Q - d.e) := ⟨_, rfl⟩
  obtain ⟨k2, hk2⟩ : ∃ k, k = cutS m d.s d.n false (T - F.p + 1 - d.e) := ⟨_, rfl⟩
  have hWh := fun (qx : Int) wx (hb : Below w.heap.size w wx) (hq : -100000 ≤ qx ∧ qx ≤ 100000) => rWhole_any m (.agg #[.bool d.s, .slice A1 (nd 32 d.n) c1, .int .i64 d.e]) d qx wx hm ⟨_, rfl, r1.belowB hb (Nat.le_refl _)⟩ (by omega) ⟨by omega, by omega⟩ hq
  have hqb : (-100000 ≤ Q ∧ Q ≤ 100000) ∧ (-100000 ≤ T - F.p + 1 ∧ T - F.p + 1 ≤ 100000) := by omega
  have hW1 := fun wx hb => hWh Q wx hb hqb.1
  have hW2 := fun wx hb => hWh (T - F.p + 1) wx hb hqb.2
  rw [← hk1] at hr q1 q3 q4 hW1
  rw [← hk2] at hr q2 hW2
  obtain ⟨k, hk⟩ : ∃ k, k = (Q - F.low).toNat := ⟨_, rfl⟩
  rw [← hk] at hr q3 q4
  have n1 := nd_low q1 p53
  have n2 := nd_low q2 p53
  have l1 := bl_small q1 p53
  have l2 := bl_small q2 p53
  obtain ⟨ot, hot⟩ : ∃ o, o = decide (rst d.n false (Q - d.e) ≠ 0) := ⟨_, rfl⟩
  rw [← hot] at hW1
  have HB1 := Lib.hid (fun wx (hb : Below w.heap.size w wx) => rBits_any (.slice A1 (nd 32 d.n) c1) d.n (nd 32 d.n) wx (r1.belowB hb (Nat.le_refl _)) (by omega))
  have RW := round_wraps ok hde hbl hT2 hQ2 l1 l2 hk
  obtain ⟨M, hM⟩ : ∃ M, M = Q + F.p - 1 := ⟨_, rfl⟩
  rw [← hM] at RW
  obtain ⟨hmx, w1, w2, w3, w4, w5, w6, w7, x1, x2, x3, x4, x5, x6, y1, y2, y3⟩ := RW
  have hkl : k ≤ 60000 := by omega
  obtain ⟨p1, hp1⟩ : ∃ p, p = F.p - 1 := ⟨_, rfl⟩
  rw [← hp1] at x5 x6 hr q4
  have hp1l : p1 < 64 := by omega
  have hb0 := below1 w (.cells #[.bool d.s, .slice A1 (nd 32 d.n) c1, .int .i64 d.e] 73)
  have b1 := Box3.new w (.bool d.s) (.slice A1 (nd 32 d.n) c1) (.int .i64 d.e) 73
  obtain ⟨W, hW⟩ : ∃ W, W = w.alloc (.cells #[.bool d.s, .slice A1 (nd 32 d.n) c1, .int .i64 d.e] 73) := ⟨_, rfl⟩
  rw [← hW] at hb0 b1
  have HB := Lib.hid hb0
  have B1 := Lib.hid b1
  have HP := Lib.hid hpr
  have HY := Lib.hid hbey
  have HSG := Lib.hid hsgn
  have HW1 := Lib.hid hW1
  have HW2 := Lib.hid hW2
  have HR := Lib.hid hr
  have HOT := Lib.hid hot
  have HQ34 := Lib.hid (And.intro q3 q4)
  have HN := Lib.hid (And.intro n1 n2)
  have hw64 : (2 : Nat) ^ F.w ≤ 2 ^ 64 := Nat.pow_le_pow_right (by decide) w64
  have HW64 := Lib.hid hw64
  have XF := Lib.hid (And.intro x1 (And.intro x2 (And.intro x3 (And.intro x4 (And.intro x5 x6)))))
  have YF := Lib.hid (And.intro y1 (And.intro y2 y3))
  have HM := Lib.hid hM
  have WF := Lib.hid (And.intro w4 (And.intro w5 (And.intro w6 w7)))
  obtain ⟨E, hE⟩ : ∃ E, E = F.emax := ⟨_, rfl⟩
  rw [← hE] at w1
  have HE := Lib.hid hE
  have HK := Lib.hid (And.intro hp1l hkl)
  have QQ := Lib.hid (And.intro q1 (And.intro q2 (And.intro p53 hp1)))
  clear hpr hbey hsgn hW1 hW2 hWh hr hot q1 q2 q3 q4 n1 n2 hw64 x1 x2 x3 x4 x5 x6 y1 y2 y3 w4 w5 w6 w7 hb0 r1 p8 p53 pw w64 emn b16 b1023 hTlo hbl hT hQ hT2 hQ2 hlow hk1 hk2 hk hkl hp1 hqb hM l1 l2 hE ok h0 hd hde hn hm hp1l
  obtain ⟨z0, z1, z2, zf, -⟩ := b1.cells
  clear b1
  go_enter Try.func59, Try.ntmps59
  go_upto_region 1 with (fail)
  rw [← hW]
  clear hW
  go_wp2_with fail
  refine (HP.out _).mono ?_
  rintro _ _ ⟨rfl, rfl⟩
  clear HP
  go_upto_region 3 with (fail)
  have HB1' := Lib.hid (fun wx (hb : Below W.heap.size W wx) => HB1.out wx (keep_belowB HB.out hb (by have := HB.out.size; omega)))
  go_region_held3 (fun v => v.cell? ⟨w.heap.size, 1, none⟩ = some (.slice A1 (nd 32 d.n) c1) ∧ v.cell? ⟨w.heap.size, 2, none⟩ = some (.int .i64 d.e) ∧ Below W.heap.size W v)
    (first | exact ⟨z1, z2, (Below.refl _ _).drew⟩ | assumption)
    ((go_at_call 55; refine (HB1'.out _ ?_).mono ?_; (first | exact (Below.refl _ _).drew | (go_split_ands; assumption)); rintro _ wz ⟨rfl, rfl⟩))
  have HBd := Lib.hid HB.out.drew
  have B1d := Lib.hid (show Box3 W.drew w.heap.size _ _ _ from B1.out)
  clear HB1 HB1' HB B1 w2 z0 z1 z2 zf
  generalize W.drew = W1 at *
  obtain ⟨z0, z1, z2, zf, -⟩ := B1d.out.cells
  go_upto_region 4 with (fail)
  by_cases ht1 : E < T
  · have e1 : Hid (r = (beyondS F m d.s, 20)) := by show _ = _; rw [HR.out, ← HE.out, if_pos ht1]
    clear HR HW1 HW2 HSG XF YF WF HQ34 HN
    go_wp2_with fail
    refine (HY.out _).mono ?_
    rintro _ _ ⟨rfl, rfl⟩
    go_wp2_with fail
    refine bodyPost_ret (v := .tuple #[.int .u64 (beyondS F m d.s : Nat), .int .i64 20]) (by simp [results, Try.results59, go_sem]) rfl ?_
    exact ⟨by rw [e1.out]; rfl, HBd.out⟩
  have tt1 : decide (E < T) = false := by simpa using ht1
  obtain ⟨w4, w5, w6, w7⟩ := WF.out
  have HT1 := Lib.hid ht1
  clear ht1 w3 w1
  go_wp2_with fail
  refine (HW1.out _ HBd.out).mono ?_
  rintro _ W2 ⟨V2, rfl, hr2, hb⟩
  obtain ⟨A2, c2, rfl, -, -⟩ := hr2.form
  have S2 := Lib.hid hr2
  replace HBd := Lib.hid (keep_belowB HBd.out hb (by have := HBd.out.size; omega))
  replace B1d := Lib.hid (B1d.out.keep hb)
  have HB2 := Lib.hid (fun wx (hb : Below W2.heap.size W2 wx) => rBits_any (.slice A2 (nd 32 k1) c2) k1 (nd 32 k1) wx (S2.out.below hb) (by have := HN.out; omega))
  clear hb hr2 HW1 w4 w5 z0 z1 z2 zf hmx
  go_wp2_with fail
  refine (HB2.out W2 (Below.refl _ _)).mono ?_
  rintro _ _ ⟨rfl, rfl⟩
  clear HB2
  obtain ⟨z0, z1, z2, zf, -⟩ := B1d.out.cells
  by_cases ht2 : E < Q + bl k1 - 1
  · have e1 : Hid (r = (beyondS F m d.s, 20)) := by
      show _ = _; rw [HR.out, ← HE.out, if_neg (show ¬ E < T by have h := HT1.out; omega), if_pos ht2]
    clear HR HW2 HSG XF YF HQ34 HN
    go_wp2_with fail
    refine (HY.out _).mono ?_
    rintro _ _ ⟨rfl, rfl⟩
    go_wp2_with fail
    refine bodyPost_ret (v := .tuple #[.int .u64 (beyondS F m d.s : Nat), .int .i64 20]) (by simp [results, Try.results59, go_sem]) rfl ?_
    exact ⟨by rw [e1.out]; rfl, HBd.out⟩
  have tt2 : decide (E < Q + bl k1 - 1) = false := by simpa using ht2
  have HT2 := Lib.hid ht2
  obtain ⟨q3, q4⟩ := HQ34.out
  have hlt := q4 (by have h := HT1.out; have h2 := HE.out; omega) (by have h := ht2; have h2 := HE.out; omega)
  have HLT := Lib.hid (And.intro (Nat.lt_of_lt_of_le hlt HW64.out) q3)
  have hr1 := HR.out
  rw [← HE.out, if_neg (show ¬ E < T by have h := HT1.out; omega), if_neg ht2] at hr1
  have HR1 := Lib.hid hr1
  have HWo := Lib.hid (rWords_any (.slice A2 (nd 32 k1) c2) k1 (nd 32 k1) W2 S2.out (by have := HN.out; omega))
  clear ht2 q3 q4 hlt hr1 HR HQ34 HY HW64
  go_wp2_with fail
  refine (HSG.out _).mono ?_
  rintro _ _ ⟨rfl, rfl⟩
  clear HSG w6 w7 tt2
  go_wp2_with fail
  refine HWo.out.mono ?_
  rintro _ W3 ⟨V3, rfl, ⟨hr3, -⟩, hb⟩
  obtain ⟨A3, c3, rfl, -, -⟩ := hr3.form
  have S3 := Lib.hid hr3
  replace HBd := Lib.hid (keep_belowB HBd.out hb (by have := HBd.out.size; omega))
  replace B1d := Lib.hid (B1d.out.keep hb)
  clear hb hr3 HWo z0 z1 z2 zf S2
  obtain ⟨z0, z1, z2, zf, -⟩ := B1d.out.cells
  obtain ⟨sg, hsg⟩ : ∃ s, s = F.sg d.s := ⟨_, rfl⟩
  have hlq := HLT.out
  have hr1 := HR1.out
  rw [← hsg] at hlq hr1 ⊢
  have HLT' := Lib.hid hlq
  have HR2 := Lib.hid hr1
  clear hlq hr1 HLT HR1 hsg
  obtain ⟨bits, hbits⟩ : ∃ b, b = k * 2 ^ p1 + k1 + sg := ⟨_, rfl⟩
  go_upto_if 77 with (fail)
  go_cut [16, 77] from 78 (fun v16 v77 wx => v16 = .int .u64 (bits : Int) ∧ W3 = wx)
  case first =>
    obtain ⟨x1, x2, x3, x4, x5, x6⟩ := XF.out
    obtain ⟨hlt, hz⟩ := HLT'.out
    by_cases hk0 : k1 = 0
    · have hn0 : ¬ 0 < nd 64 k1 := by rw [hk0, nd_zero]; omega
      have tn : decide (0 < nd 64 k1) = false := by simpa using hn0
      have hb0 : bits = sg := by rw [hbits, hz hk0, hk0]; simp
      subst hb0
      clear hbits hk0 hlt hz x1 x2 x3 x4 x5 x6 XF z0 z1 z2 zf
      go_wp2_with fail
      go_meet
      case rel => exact ⟨rfl, rfl⟩
    · have hnz : 0 < nd 64 k1 := nd_pos 64 k1 hk0
      obtain ⟨_, _, _, hrd⟩ := S3.out.at_
      obtain ⟨b, o, rfl, hb', hcell⟩ := hrd hnz
      have hk := hcell 0 hnz
      rw [Nat.add_zero] at hk
      have hd0 : dg 64 k1 0 = k1 := by
        unfold dg; rw [Nat.mul_zero, Nat.pow_zero, Nat.div_one]
        exact Nat.mod_eq_of_lt (by omega)
      rw [hd0] at hk
      obtain ⟨hp1l, hkl⟩ := HK.out
      have hkp : k * 2 ^ p1 < 18446744073709551616 := by omega
      have y1 : IntKind.u64.wrap ((k : Int) * 2 ^ p1) = ((k * 2 ^ p1 : Nat) : Int) := by
        rw [show (k : Int) * 2 ^ p1 = ((k * 2 ^ p1 : Nat) : Int) from by simp, IntKind.wrap_u64]; omega
      obtain ⟨kp, hkp2⟩ : ∃ z, z = k * 2 ^ p1 := ⟨_, rfl⟩
      rw [← hkp2] at y1 hlt hbits hkp
      obtain ⟨t, ht⟩ : ∃ t, t = k1 + kp := ⟨_, rfl⟩
      have y2 : IntKind.u64.wrap ((k1 : Int) + (kp : Int)) = (t : Int) := by rw [IntKind.wrap_u64]; omega
      have y3 : IntKind.u64.wrap ((sg : Int) + (t : Int)) = (bits : Int) := by rw [IntKind.wrap_u64]; omega
      clear hrd hcell hbits hkp2 ht hlt hz hk0 hkp hkl hd0 XF S3
      go_wp2_with fail
      go_meet
      case rel => exact ⟨rfl, rfl⟩
  case rest =>
    obtain ⟨rfl, rfl⟩ := hcut
    have hr2 := HR2.out
    rw [← hbits] at hr2
    have hots := HOT.out
    have HO : Hid (r = (bits, if ot = false then 0 else if T < F.emin ∧ T - F.p + bl k2 < F.emin then 24 else 16)) := by
      show _ = _
      rw [hr2, hots]
      congr 1
      by_cases h : rst d.n false (Q - d.e) = 0
      · simp [h]
      · simp [h]
    clear hr2 hots HOT HR2 hbits HLT' XF S3 HK HT1 HT2 HE
    cases ot
    · have e1 : Hid (r = (bits, 0)) := HO.out
      clear HO HW2 YF HN
      go_wp2_with fail
      refine bodyPost_ret (v := .tuple #[.int .u64 bits, .int .i64 0]) (by simp [results, Try.results59, go_sem]) rfl ?_
      exact ⟨by rw [e1.out]; rfl, HBd.out⟩
    have e0 : Hid (r = (bits, if T < F.emin ∧ T - F.p + bl k2 < F.emin then 24 else 16)) := HO.out
    clear HO
    by_cases hte : T < F.emin
    · obtain ⟨y1, y2, y3⟩ := YF.out
      clear YF
      go_wp2_with fail
      refine (HW2.out _ HBd.out).mono ?_
      rintro _ W4 ⟨V4, rfl, hr4, hb⟩
      obtain ⟨A4, c4, rfl, -, -⟩ := hr4.form
      have S4 := Lib.hid hr4
      have HB4 := Lib.hid (rBits_any (.slice A4 (nd 32 k2) c4) k2 (nd 32 k2) W4 hr4 (by have := HN.out; omega))
      replace HBd := Lib.hid (keep_belowB HBd.out hb (by have := HBd.out.size; omega))
      clear hb hr4 HW2 z0 z1 z2 zf B1d HN S4
      go_wp2_with fail
      refine HB4.out.mono ?_
      rintro _ _ ⟨rfl, rfl⟩
      clear HB4
      by_cases htf : T - F.p + bl k2 < F.emin
      · have e1 : Hid (r = (bits, 24)) := by show _ = _; rw [e0.out, if_pos ⟨hte, htf⟩]
        clear e0 hte
        go_wp2_with fail
        refine bodyPost_ret (v := .tuple #[.int .u64 bits, .int .i64 24]) (by simp [results, Try.results59, go_sem]; try decide +kernel) rfl ?_
        exact ⟨by rw [e1.out]; rfl, HBd.out⟩
      · have e1 : Hid (r = (bits, 16)) := by show _ = _; rw [e0.out, if_neg (fun h => htf h.2)]
        have tf : decide (T - F.p + bl k2 < F.emin) = false := by simpa using htf
        clear e0 hte htf
        go_wp2_with fail
        refine bodyPost_ret (v := .tuple #[.int .u64 bits, .int .i64 16]) (by simp [results, Try.results59, go_sem]) rfl ?_
        exact ⟨by rw [e1.out]; rfl, HBd.out⟩
    · have e1 : Hid (r = (bits, 16)) := by show _ = _; rw [e0.out, if_neg (fun h => hte h.1)]
      have tf : decide (T < F.emin) = false := by simpa using hte
      clear e0 hte YF HW2 HN
      go_wp2_with fail
      refine bodyPost_ret (v := .tuple #[.int .u64 bits, .int .i64 16]) (by simp [results, Try.results59, go_sem]) rfl ?_
      exact ⟨by rw [e1.out]; rfl, HBd.out⟩

set_option maxRecDepth 100000 in
theorem rFinal_any (n m : Nat) (x : Value) (d : D) (neg : Bool) (w : World) (hn : n < 4) (hm : m ≤ 5) (hx : NumV w x d) (hd : nd 32 d.n ≤ 1000) (hde : -20000 ≤ d.e ∧ d.e ≤ 20000) :
    Calls Try.prog 53 #[.int .i64 n, .int .i64 m, x, .bool neg] w fun e' w' => e' = .returned (.tuple #[.int .u64 ((finR (fm n) m d neg).1 : Int), .int .i64 ((finR (fm n) m d neg).2 : Int)]) ∧ Below w.heap.size w w' := by
  have HX := Lib.hid hx
  obtain ⟨V1, rfl, r1⟩ := hx
  obtain ⟨A1, c1, rfl, -, -⟩ := r1.form
  have hb0 := below1 w (.cells #[.bool d.s, .slice A1 (nd 32 d.n) c1, .int .i64 d.e] 73)
  have b1 := Box3.new w (.bool d.s) (.slice A1 (nd 32 d.n) c1) (.int .i64 d.e) 73
  obtain ⟨W, hW⟩ : ∃ W, W = w.alloc (.cells #[.bool d.s, .slice A1 (nd 32 d.n) c1, .int .i64 d.e] 73) := ⟨_, rfl⟩
  rw [← hW] at hb0 b1
  have HB := Lib.hid hb0
  obtain ⟨z0, z1, z2, zf, -⟩ := b1.cells
  obtain ⟨r, hr⟩ : ∃ r, r = finR (fm n) m d neg := ⟨_, rfl⟩
  rw [← hr]
  unfold finR at hr
  by_cases h0 : d.n = 0
  · rw [if_pos h0] at hr
    have HN := Lib.hid (rnought_ok n neg W hn)
    have hn0 : nd 32 d.n = 0 := by rw [h0]; rfl
    rw [hn0] at z1
    generalize (fm n).sg neg = q at *
    have e1 := Lib.hid hr
    clear hr h0 hd hde hn hm hb0 b1 r1 HX hn0
    go_enter Try.func53, Try.ntmps53
    go_upto_region 1 with (fail)
    rw [← hW]
    clear hW
    go_wp2_with fail
    refine HN.out.mono ?_
    rintro _ _ ⟨rfl, rfl⟩
    go_wp2_with fail
    refine bodyPost_ret (v := .tuple #[.int .u64 q, .int .i64 0]) (by simp [results, Try.results53, go_sem]) rfl ?_
    exact ⟨by rw [e1.out]; rfl, HB.out⟩
  · rw [if_neg h0] at hr
    have hnz : nd 32 d.n ≠ 0 := by have := nd_pos 32 d.n h0; omega
    have tz : (((nd 32 d.n : Nat) : Int) == 0) = false := by rw [beq_eq_false_iff_ne]; omega
    have tz' : (nd 32 d.n == 0) = false := by rw [beq_eq_false_iff_ne]; omega
    have HR := Lib.hid (rRound_any n m (.agg #[.bool d.s, .slice A1 (nd 32 d.n) c1, .int .i64 d.e]) d W hn hm (HX.out.belowB hb0 (Nat.le_refl _)) h0 hd hde)
    rw [← hr] at HR
    clear hr h0 hd hde hn hm hb0 b1 r1 HX hnz
    go_enter Try.func53, Try.ntmps53
    go_upto_region 1 with (fail)
    rw [← hW]
    clear hW
    go_wp2_with fail
    refine HR.out.mono ?_
    rintro _ w1 ⟨rfl, hb⟩
    replace HB := Lib.hid (keep_belowB HB.out hb (by have := HB.out.size; omega))
    clear hb HR
    go_wp2_with fail
    refine bodyPost_ret (v := .tuple #[.int .u64 r.1, .int .i64 r.2]) (by simp [results, Try.results53, go_sem]) rfl ?_
    exact ⟨rfl, HB.out⟩

end Go.Proofs.Ytebmogdojpcmfaa
