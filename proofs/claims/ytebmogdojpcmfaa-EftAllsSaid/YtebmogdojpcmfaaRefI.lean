/- The walk of vernierref06.Whole. -/
import Derived.Outline
import Derived.Deep.CutBlock
import Derived.Deep.RegionHeld3
import Derived.Test.YtebmogdojpcmfaaRefH
import Derived.Test.YtebmogdojpcmfaaRefW
namespace Go.Proofs.Ytebmogdojpcmfaa
set_option linter.unusedVariables false
set_option linter.unusedSimpArgs false
open Go.RowKit

theorem cmp_cases (a b : Nat) : cmpN a b = -1 ∨ cmpN a b = 0 ∨ cmpN a b = 1 := by
  unfold cmpN; split
  · exact Or.inl rfl
  · split
    · exact Or.inr (Or.inr rfl)
    · exact Or.inr (Or.inl rfl)

theorem sub_rest (n s : Nat) : n - n / 2 ^ s * 2 ^ s = n % 2 ^ s ∧ n / 2 ^ s * 2 ^ s ≤ n := by
  have h := Nat.div_add_mod n (2 ^ s)
  rw [Nat.mul_comm] at h
  omega

theorem dg32_mod2 (n : Nat) : dg 32 n 0 % 2 = n % 2 := by unfold dg; simp

set_option maxRecDepth 100000 in
set_option maxHeartbeats 8000000 in
theorem rWhole_any (m : Nat) (x : Value) (d : D) (q : Int) (w : World) (hm : m ≤ 5) (hx : NumV w x d) (hd : nd 32 d.n ≤ 20000) (hde : -100000 ≤ d.e ∧ d.e ≤ 100000) (hq : -100000 ≤ q ∧ q ≤ 100000) :
    Calls Try.prog 70 #[.int .i64 m, x, .int .i64 q] w fun e' w' => ∃ V, e' = .returned (.tuple #[V, .bool (decide (rst d.n false (q - d.e) ≠ 0))]) ∧ Rd 32 w' V (cutS m d.s d.n false (q - d.e)) (nd 32 (cutS m d.s d.n false (q - d.e))) ∧ Below w.heap.size w w' := by
  obtain ⟨V1, rfl, r1⟩ := hx
  obtain ⟨A1, c1, rfl, -, -⟩ := r1.form
  have hb0 := below1 w (.cells #[.bool d.s, .slice A1 (nd 32 d.n) c1, .int .i64 d.e] 73)
  have b1 := Box3.new w (.bool d.s) (.slice A1 (nd 32 d.n) c1) (.int .i64 d.e) 73
  obtain ⟨W, hW⟩ : ∃ W, W = w.alloc (.cells #[.bool d.s, .slice A1 (nd 32 d.n) c1, .int .i64 d.e] 73) := ⟨_, rfl⟩
  have hWs : w.heap.size < W.heap.size := by rw [hW]; simp
  rw [← hW] at hb0 b1
  have HWs := Lib.hid hWs
  have HB := Lib.hid hb0
  have B1 := Lib.hid b1
  have R1 := Lib.hid r1
  obtain ⟨U, hU⟩ : ∃ U, U = cutS m d.s d.n false (q - d.e) := ⟨_, rfl⟩
  obtain ⟨ot, hot⟩ : ∃ o, o = decide (rst d.n false (q - d.e) ≠ 0) := ⟨_, rfl⟩
  rw [← hU, ← hot]
  obtain ⟨x0, x1, x2, xf, -⟩ := b1.cells
  by_cases hle : q ≤ d.e
  · obtain ⟨e1, e2⟩ := whole_low m d.s d.n hle
    rw [e1] at hU
    rw [e2] at hot
    obtain ⟨k, hk⟩ : ∃ k, k = (d.e - q).toNat := ⟨_, rfl⟩
    rw [← hk] at hU
    have hw1 : IntKind.i64.wrap (d.e - q) = (k : Int) := by rw [IntKind.wrap_i64]; omega
    have L1 := Lib.hid (fun wx (hb : Below w.heap.size w wx) => rLeft_any (.slice A1 (nd 32 d.n) c1) d.n (nd 32 d.n) k wx (R1.out.belowB hb (Nat.le_refl _)) (by omega) (by omega))
    rw [← hU] at L1
    have Hot : Hid (ot = false) := by show _ = _; rw [hot]; rfl
    clear hd hde hq hU hot e1 e2 hk hb0 b1 r1 hWs hm
    go_enter Try.func70, Try.ntmps70
    go_upto_region 1 with (fail)
    rw [← hW]
    clear hW
    go_wp2_with fail
    refine (L1.out _ HB.out).mono ?_
    rintro _ w1 ⟨u1, rfl, ⟨s1, f1⟩, hb⟩
    obtain ⟨A3, c3, rfl, -, -⟩ := s1.form
    have S1 := Lib.hid s1
    replace HB := Lib.hid (keep_belowB HB.out hb (by have := HB.out.size; omega))
    clear hb s1 f1 L1 hw1 x0 x1 x2 xf
    go_wp2_with fail
    refine bodyPost_ret (v := .tuple #[.slice A3 (nd 32 U) c3, .bool false]) (by simp [results, Try.results70, go_sem]) rfl ?_
    exact ⟨_, by rw [Hot.out], S1.out, HB.out⟩
  obtain ⟨s, hs⟩ : ∃ s, s = (q - d.e).toNat := ⟨_, rfl⟩
  have hsq : q - d.e = (s : Int) := by omega
  have hs1 : 1 ≤ s := by omega
  have hsl : s ≤ 200000 := by omega
  rw [hsq] at hU hot
  have hw1 : IntKind.i64.wrap (q - d.e) = (s : Int) := by rw [IntKind.wrap_i64]; omega
  have tle : decide (q ≤ d.e) = false := by simpa using hle
  obtain ⟨u, hu⟩ : ∃ u, u = d.n / 2 ^ s := ⟨_, rfl⟩
  have hun : nd 32 u ≤ 20000 := Nat.le_trans (nd_le 32 u (nd 32 d.n) (by decide) (Nat.lt_of_le_of_lt (by rw [hu]; exact Nat.div_le_self _ _) (lt_nd 32 d.n (by decide)))) hd
  have L1 := Lib.hid (fun wx (hb : Below w.heap.size w wx) => rRight_any (.slice A1 (nd 32 d.n) c1) d.n (nd 32 d.n) s wx (R1.out.belowB hb (Nat.le_refl _)) (by omega) (by omega))
  obtain ⟨hsub, hsubl⟩ := sub_rest d.n s
  rw [← hu] at L1 hsub hsubl
  have L3 := Lib.hid (fun wx v (hb : Below w.heap.size w wx) (hv : Rd 32 wx v (u * 2 ^ s) (nd 32 (u * 2 ^ s))) => rMinus_any (.slice A1 (nd 32 d.n) c1) v d.n (nd 32 d.n) (u * 2 ^ s) (nd 32 (u * 2 ^ s)) wx (R1.out.belowB hb (Nat.le_refl _)) hv hsubl)
  rw [hsub] at L3
  have hrl : nd 32 (d.n % 2 ^ s) ≤ 20000 := Nat.le_trans (nd_le 32 _ (nd 32 d.n) (by decide) (Nat.lt_of_le_of_lt (Nat.mod_le _ _) (lt_nd 32 d.n (by decide)))) hd
  have WE := Lib.hid (fun h => whole_exact m d.s (n := d.n) (s := s) h)
  have WU := Lib.hid (fun h => whole_up m d.s (n := d.n) (s := s) h)
  rw [← hu] at WE WU
  have UR := Lib.hid (fun odd (h : d.n % 2 ^ s ≠ 0) => up_ref d.s odd hs1 h)
  have HU := Lib.hid hU
  have HO := Lib.hid hot
  have Hn := Lib.hid (And.intro hun (And.intro hrl (And.intro hs1 hsl)))
  have hw2 : IntKind.i64.wrap ((s : Int) - 1) = ((s - 1 : Nat) : Int) := by rw [IntKind.wrap_i64]; omega
  obtain ⟨sp, hsp⟩ : ∃ sp, sp = s - 1 := ⟨_, rfl⟩
  rw [← hsp] at hw2 UR
  have HSP := Lib.hid hsp
  clear hd hde hq hU hot hs hsq hs1 hsl hle hu hsub hsubl hun hrl hb0 b1 r1 hWs hsp
  go_enter Try.func70, Try.ntmps70
  go_upto_region 1 with (fail)
  rw [← hW]
  clear hW
  go_wp2_with fail
  refine (L1.out _ HB.out).mono ?_
  rintro _ w1 ⟨u1, rfl, ⟨s1, f1⟩, hb⟩
  obtain ⟨A3, c3, rfl, -, -⟩ := s1.form
  have S1 := Lib.hid s1
  replace HB := Lib.hid (keep_belowB HB.out hb (by have := HB.out.size; omega))
  replace B1 := Lib.hid (B1.out.keep hb)
  clear hb s1 f1 L1 hw1 x0 x1 x2 xf HWs
  obtain ⟨x0, x1, x2, xf, -⟩ := B1.out.cells
  go_upto_region 5 with (fail)
  have hHB := HB.out
  have HB3 : ∀ wx, Below w1.heap.size w1 wx → Below w.heap.size w wx := fun wx h => keep_belowB HB.out h (by have := HB.out.size; omega)
  have L2' := Lib.hid (fun wx (hb : Below w1.heap.size w1 wx) => rLeft_any (.slice A3 (nd 32 u) c3) u (nd 32 u) s wx (S1.out.below hb) (by have := Hn.out; omega) (by have := Hn.out; omega))
  have L3' := Lib.hid (fun wx v (hb : Below w1.heap.size w1 wx) hv => L3.out wx v (HB3 wx hb) hv)
  clear L3 HB3 hHB
  go_region_held3 (fun v => v.cell? ⟨w.heap.size, 1, none⟩ = some (.slice A1 (nd 32 d.n) c1) ∧ Below w1.heap.size w1 v)
    (first | exact ⟨x1, (Below.refl _ _).drew⟩ | exact ⟨keep_cell hb1 x1, keep_below (Below.refl _ _).drew hb1⟩ | ((try go_split_ands); (try dsimp only); refine ⟨keep_cell hb1 ?_, keep_below ?_ hb1⟩ <;> assumption))
    ((first | (go_at_call 65; refine (L2'.out _ ?_).mono ?_; (first | exact (Below.refl _ _).drew | (go_split_ands; assumption)); rintro _ wz ⟨v1, rfl, ⟨hr1, -⟩, hb1⟩) | (go_at_call 68; refine (L3'.out _ _ ?_ ?_).mono ?_; (go_split_ands; assumption); assumption; rintro _ wz ⟨v2, rfl, ⟨hr2, -⟩, hb1⟩)))
  have hbz : Below w1.heap.size w1 wz := by
    go_split_ands
    assumption
  obtain ⟨A5, c5, rfl, -, -⟩ := hr2.form
  replace HB := Lib.hid (keep_belowB HB.out hbz (by have := HB.out.size; omega))
  replace S1 := Lib.hid (S1.out.below hbz)
  replace B1 := Lib.hid (B1.out.keep hbz)
  have S2 := Lib.hid hr2
  obtain ⟨r, hr⟩ : ∃ r, r = d.n % 2 ^ s := ⟨_, rfl⟩
  rw [← hr] at S2 WE WU UR Hn ⊢
  have HRR := Lib.hid hr
  clear hr hr2 hbz hb1 x0 x1 x2 xf L2' L3'
  by_cases hr0 : r = 0
  · obtain ⟨e1, e2⟩ := WE.out hr0
    have e3 : Hid (U = u) := by show _ = _; rw [HU.out, e1]
    have e4 : Hid (ot = false) := by show _ = _; rw [HO.out, e2]; rfl
    have hn0 : nd 32 r = 0 := by rw [hr0]; rfl
    rw [hn0]
    clear WE WU UR HU HO hr0 hn0 e1 e2 S2 HRR
    go_wp2_with fail
    refine bodyPost_ret (v := .tuple #[.slice A3 (nd 32 u) c3, .bool false]) (by simp [results, Try.results70, go_sem]) rfl ?_
    exact ⟨_, by rw [e4.out], by rw [e3.out]; exact S1.out, HB.out⟩
  obtain ⟨e1, e2⟩ := WU.out hr0
  have e4 : Hid (ot = true) := by show _ = _; rw [HO.out]; exact decide_eq_true e2
  have hnz : nd 32 r ≠ 0 := by have := nd_pos 32 r hr0; omega
  have tz : (((nd 32 r : Nat) : Int) == 0) = false := by rw [beq_eq_false_iff_ne]; omega
  have tz' : (nd 32 r == 0) = false := by rw [beq_eq_false_iff_ne]; omega
  have UR' := Lib.hid (fun odd => UR.out odd hr0)
  have HU' : Hid (U = if upB m d.s (decide (u % 2 = 1)) (cls r (2 ^ s) false) then u + 1 else u) := by show _ = _; rw [HU.out, e1]
  obtain ⟨R, hR⟩ : ∃ R, R = cls r (2 ^ s) false := ⟨_, rfl⟩
  rw [← hR] at HU'
  have UR2 := UR'.out
  rw [← hR] at UR2
  have UR3 := Lib.hid UR2
  have L4 := Lib.hid (fun (wx : World) => rLeft_any (.slice (some ⟨wx.heap.size, 0, none⟩) 1 1) 1 1 sp (wx.alloc (.cells #[.int .u64 ((1 : Nat) : Int)] 24)) (Rd.one32 wx 1 (by decide)) (by decide) (by have := Hn.out; have := HSP.out; omega))
  clear WE WU UR UR' UR2 HU HO hr0 e1 e2 hnz HRR HSP hR
  go_wp2_with fail
  refine (L4.out wz).mono ?_
  rintro _ w3 ⟨v3, rfl, ⟨hr3, -⟩, hb⟩
  obtain ⟨A6, c6, rfl, -, -⟩ := hr3.form
  have hb2 : Below wz.heap.size wz w3 := (below1 wz _).trans (hb.mono (by simp))
  rw [Nat.one_mul] at hr3 ⊢
  replace HB := Lib.hid (keep_belowB HB.out hb2 (by have := HB.out.size; omega))
  replace S1 := Lib.hid (S1.out.below hb2)
  replace S2 := Lib.hid (S2.out.below hb2)
  replace B1 := Lib.hid (B1.out.keep hb2)
  have C1 := Lib.hid (rCmp_any (.slice A5 (nd 32 r) c5) (.slice A6 (nd 32 (2 ^ sp)) c6) r (2 ^ sp) w3 S2.out hr3)
  clear hb hb2 hr3 L4 tz tz' hw2
  go_wp2_with fail
  refine C1.out.mono ?_
  rintro _ _ ⟨rfl, dn, rfl⟩
  have HB' := Lib.hid (below_drewN HB.out dn)
  have S1' := Lib.hid (show Rd 32 (w3.drewN dn) (.slice A3 (nd 32 u) c3) u (nd 32 u) from S1.out)
  have B1' := Lib.hid (show Box3 (w3.drewN dn) w.heap.size _ _ _ from B1.out)
  clear C1 HB S1 S2 B1
  generalize w3.drewN dn = w4 at *
  obtain ⟨c, hc⟩ : ∃ c, c = cmpN r (2 ^ sp) := ⟨_, rfl⟩
  have hc3 : c = -1 ∨ c = 0 ∨ c = 1 := by rw [hc]; exact cmp_cases _ _
  have UR4 := UR3.out
  rw [← hc] at UR4 ⊢
  have UR5 := Lib.hid UR4
  have HC3 := Lib.hid hc3
  clear hc hc3 UR3 UR4
  obtain ⟨odd, hodd⟩ : ∃ o, o = decide (u % 2 = 1) := ⟨_, rfl⟩
  have HUo := HU'.out
  rw [← hodd] at HUo
  have HU2 := Lib.hid HUo
  clear HUo HU'
  go_upto_region 9 with (fail)
  go_cut [12] from 49 (fun v12 wx => v12 = .bool odd ∧ w4 = wx)
  case first =>
    by_cases hu0 : u = 0
    · have hn0 : nd 32 u = 0 := by rw [hu0]; rfl
      have ho : odd = false := by rw [hodd, hu0]; rfl
      subst ho
      have hn00 : ¬ 0 < nd 32 u := by omega
      have tn : decide (0 < nd 32 u) = false := by simpa using hn00
      clear hodd hu0 hn0
      go_wp2_with fail
      go_meet
      case rel => exact ⟨rfl, rfl⟩
    · have hnz : 0 < nd 32 u := nd_pos 32 u hu0
      obtain ⟨_, _, _, hrd⟩ := S1'.out.at_
      obtain ⟨b, o, rfl, hb', hcell⟩ := hrd hnz
      have hk := hcell 0 hnz
      rw [Nat.add_zero] at hk
      have ho : odd = decide (dg 32 u 0 % 2 = 1) := by rw [hodd, dg32_mod2]
      have hyl := dg32_lt u 0
      clear hrd hcell hodd hu0
      generalize dg 32 u 0 = y at *
      have hm2 : (y : Int).tmod 2 = ((y % 2 : Nat) : Int) := by rw [Int.tmod_eq_emod_of_nonneg (by omega)]; omega
      have ho2 : (((y % 2 : Nat) : Int) == 1) = odd := by
        rw [ho]; by_cases h : y % 2 = 1
        · rw [decide_eq_true h, h]; rfl
        · rw [decide_eq_false h, beq_eq_false_iff_ne]; omega
      obtain ⟨z, hz⟩ : ∃ z, z = y % 2 := ⟨_, rfl⟩
      rw [← hz] at hm2 ho2
      clear ho hz
      go_wp2_with fail
      go_meet
      case rel => exact ⟨rfl, rfl⟩
  case rest =>
    obtain ⟨rfl, rfl⟩ := hcut
    obtain ⟨up, hup⟩ : ∃ b, b = upB m d.s odd R := ⟨_, rfl⟩
    have HU3 := HU2.out
    rw [← hup] at HU3
    have HU4 := Lib.hid HU3
    obtain ⟨a0, a1⟩ := UR5.out odd
    clear HU3 HU2 UR5 hodd
    obtain ⟨x0, x1, x2, xf, -⟩ := B1'.out.cells
    go_upto_block 0 with (fail)
    go_cut [13] from 60 (fun v13 wx => v13 = .bool up ∧ w4 = wx)
    case first =>
      have hm6 : m = 0 ∨ m = 1 ∨ m = 2 ∨ m = 3 ∨ m = 4 ∨ m = 5 := by omega
      have hc3 := HC3.out
      clear hm HC3
      rcases hm6 with rfl | rfl | rfl | rfl | rfl | rfl
      · rcases hc3 with rfl | rfl | rfl
        · have hup' : up = false := by rw [hup, a0]; rfl
          clear a0 a1 hup
          subst hup'
          go_wp2_with fail
          go_meet
          case rel => exact ⟨rfl, rfl⟩
        · have hup' : up = odd := by rw [hup, a0]; simp
          clear a0 a1 hup
          subst hup'
          go_wp2_with fail
          go_meet
          case rel => exact ⟨rfl, rfl⟩
        · have hup' : up = true := by rw [hup, a0]; rfl
          clear a0 a1 hup
          subst hup'
          go_wp2_with fail
          go_meet
          case rel => exact ⟨rfl, rfl⟩
      · rcases hc3 with rfl | rfl | rfl
        · have hup' : up = false := by rw [hup, a1]; rfl
          clear a0 a1 hup
          subst hup'
          go_wp2_with fail
          go_meet
          case rel => exact ⟨rfl, rfl⟩
        · have hup' : up = true := by rw [hup, a1]; rfl
          clear a0 a1 hup
          subst hup'
          go_wp2_with fail
          go_meet
          case rel => exact ⟨rfl, rfl⟩
        · have hup' : up = true := by rw [hup, a1]; rfl
          clear a0 a1 hup
          subst hup'
          go_wp2_with fail
          go_meet
          case rel => exact ⟨rfl, rfl⟩
      · have hup' : up = false := by rw [hup]; rfl
        clear a0 a1 hup hc3
        subst hup'
        go_wp2_with fail
        go_meet
        case rel => exact ⟨rfl, rfl⟩
      · have hup' : up = !d.s := by rw [hup]; rfl
        clear a0 a1 hup hc3
        subst hup'
        go_wp2_with fail
        go_meet
        case rel => exact ⟨rfl, rfl⟩
      · have hup' : up = d.s := by rw [hup]; rfl
        clear a0 a1 hup hc3
        subst hup'
        go_wp2_with fail
        go_meet
        case rel => exact ⟨rfl, rfl⟩
      · have hup' : up = !odd := by rw [hup]; rfl
        clear a0 a1 hup hc3
        subst hup'
        go_wp2_with fail
        go_meet
        case rel => exact ⟨rfl, rfl⟩
    case rest =>
      obtain ⟨rfl, rfl⟩ := hcut
      clear a0 a1 hup x0 x1 x2 xf B1' HC3
      cases up
      · have e5 : Hid (U = u) := HU4.out
        clear HU4
        go_wp2_with fail
        refine bodyPost_ret (v := .tuple #[.slice A3 (nd 32 u) c3, .bool true]) (by simp [results, Try.results70, go_sem]) rfl ?_
        exact ⟨_, by rw [e4.out], by rw [e5.out]; exact S1'.out, HB'.out⟩
      · have e5 : Hid (U = u + 1) := HU4.out
        clear HU4
        have P1 := Lib.hid (rPlus_any (.slice A3 (nd 32 u) c3) (.slice (some ⟨w4.heap.size, 0, none⟩) 1 1) u (nd 32 u) 1 1 (w4.alloc (.cells #[.int .u64 ((1 : Nat) : Int)] 24)) (S1'.out.alloc _) (Rd.one32 w4 1 (by decide)) (by have := Hn.out; omega) (by decide))
        go_wp2_with fail
        refine P1.out.mono ?_
        rintro _ w5 ⟨v5, rfl, ⟨hr5, -⟩, hb⟩
        obtain ⟨A7, c7, rfl, -, -⟩ := hr5.form
        have S5 := Lib.hid hr5
        have hb2 : Below w4.heap.size w4 w5 := (below1 w4 _).trans (hb.mono (by simp))
        replace HB' := Lib.hid (keep_belowB HB'.out hb2 (by have := HB'.out.size; omega))
        clear hb hb2 hr5 P1
        go_wp2_with fail
        refine bodyPost_ret (v := .tuple #[.slice A7 (nd 32 (u + 1)) c7, .bool true]) (by simp [results, Try.results70, go_sem]) rfl ?_
        exact ⟨_, by rw [e4.out], by rw [e5.out]; exact S5.out, HB'.out⟩

end Go.Proofs.Ytebmogdojpcmfaa
