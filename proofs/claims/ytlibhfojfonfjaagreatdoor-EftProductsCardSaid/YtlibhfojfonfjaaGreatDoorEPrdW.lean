/- The walk of EftProducts. Printed by gen/eftprd.py. -/
import Derived.Test.YtlibhfojfonfjaaGreatDoorEPrdL
import Derived.Test.YtlibhfojfonfjaaGreatDoorESumW
import Derived.Test.YtlibhfojfonfjaaGreatDoorPackU
import Derived.Test.YtlibhfojfonfjaaGreatDoorPackM
namespace Go.Proofs.YtlibhfojfonfjaaGreatDoor
set_option linter.unusedVariables false
set_option linter.unusedSimpArgs false
open Go.RowKit

theorem TwoProd_m (n a b : Nat) (w : World) (hn : n = 2 ∨ n = 3) (ha : a < 18446744073709551616) (hb : b < 18446744073709551616) :
    Calls Tryz.prog 8 #[.int .i64 n, .int .u64 a, .int .u64 b] w fun e w' => e = .returned (tupE (prodE n a b)) ∧ Below w.heap.size w w' := by
  rcases hn with rfl | rfl
  · exact TwoProd_c2 a b w
  · exact TwoProd_c3 a b w ha hb

set_option maxRecDepth 100000 in
set_option maxHeartbeats 16000000 in
theorem products_any (f : Int) (a0 b0 : Nat) (w : World) (ha0 : a0 < 18446744073709551616) (hb0 : b0 < 18446744073709551616) (hG : Gl w) (hR : GlR w) :
    Calls Tryz.prog 3 #[.int .i64 f, .int .u64 a0, .int .u64 b0] w fun e w' => e = .returned (.bool true) ∧ Below w.heap.size w w' := by
  have HA := Lib.hid (awakeE_any w)
  have HT := Lib.hid (fun wx => two18_any f wx)
  have hn := twoF_ok f
  generalize twoF f = n at *
  have hn4 : n < 4 := by omega
  have la := rightF_lt hn ha0
  have lb := rightF_lt hn hb0
  have HRa := Lib.hid (fun wx => right18_any n a0 wx hn ha0)
  have HRb := Lib.hid (fun wx => right18_any n b0 wx hn hb0)
  generalize rightF n a0 = a at *
  generalize rightF n b0 = b at *
  have hS := fun wx => TwoProd_m n a b wx hn (lt_64' la) (lt_64' lb)
  have hV := fun wx h1 h2 => value18 n a wx hn4 la h1 h2
  have hU := fun wx h1 h2 => value18 n b wx hn4 lb h1 h2
  have hZ := fun wx h1 h2 => Mul_ok n 0 a b wx hn4 (by decide) la lb h1 h2
  have hlaw := prods_law hn la lb
  have HG := Lib.hid hG
  have HR := Lib.hid hR
  have hfalse : ∀ s r : Nat, ∀ e : Int, tupE (s, r, e) = .tuple #[.int .u64 (s : Int), .int .u64 (r : Int), .int .i64 e] := fun _ _ _ => rfl
  clear hG hR ha0 hb0
  rcases hlaw with ⟨hf, es⟩ | ⟨fa, fb, d, hd, hc, ⟨es, htop⟩ | ⟨p, r, es, g1, lp, lr, fp, fr, gadd, glight, t, gt, lt, gtr⟩⟩
  · rw [es, hfalse] at hS
    have HS := Lib.hid hS
    have HV := Lib.hid hV
    have HU := Lib.hid hU
    generalize valA n a = x at *
    generalize valA n b = y at *
    clear hS hV hU
    clear hZ es hfalse hn hn4 la lb
    generalize finP (fm n) a = pa at *
    generalize finP (fm n) b = pb at *
    cases pa
    · clear hf
      go_enter Tryz.func3, Tryz.ntmps3
      go_wp2_with fail
      refine HA.out.mono ?_
      rintro _ w1 ⟨rfl, hb⟩
      have HB := Lib.hid hb
      clear hb HA
      go_wp2_with fail
      refine (HT.out _).mono ?_
      rintro _ _ ⟨rfl, rfl⟩
      clear HT
      go_wp2_with fail
      refine (HRa.out _).mono ?_
      rintro _ _ ⟨rfl, rfl⟩
      clear HRa
      go_wp2_with fail
      refine (HRb.out _).mono ?_
      rintro _ _ ⟨rfl, rfl⟩
      clear HRb
      go_wp2_with fail
      refine (HV.out _ (HG.out.below HB.out) (HR.out.below HB.out)).mono ?_
      rintro _ w2 ⟨A1, c1, rfl, hrd, hb1⟩
      have hb2 := below1 w2 (.cells #[.bool x.s, .slice A1 (nd 64 x.n) c1, .int .i64 x.e] 28)
      have hb := hb1.trans (hb2.mono hb1.size)
      have V1 := Lib.hid (VB.new hrd 28)
      replace HB := Lib.hid (HB.out.trans (hb.mono HB.out.size))
      clear hb1 hb2 hb HV hrd
      go_wp2_with fail
      refine (HU.out _ (HG.out.below HB.out) (HR.out.below HB.out)).mono ?_
      rintro _ w3 ⟨A2, c2, rfl, hrd, hb1⟩
      have hb2 := below1 w3 (.cells #[.bool y.s, .slice A2 (nd 64 y.n) c2, .int .i64 y.e] 28)
      have hb := hb1.trans (hb2.mono hb1.size)
      have V2 := Lib.hid (VB.new hrd 28)
      replace V1 := Lib.hid (V1.out.below hb)
      replace HB := Lib.hid (HB.out.trans (hb.mono HB.out.size))
      clear hb1 hb2 hb HU hrd
      go_wp2_with fail
      refine (HS.out _).mono ?_
      rintro _ w4 ⟨rfl, hb⟩
      replace HB := Lib.hid (HB.out.trans (hb.mono HB.out.size))
      replace V1 := Lib.hid (V1.out.below hb)
      replace V2 := Lib.hid (V2.out.below hb)
      clear hb HS
      go_wp2_with fail
      go_ret
      exact ⟨rfl, HB.out⟩
    · cases pb
      rotate_left
      · simp at hf
      clear hf
      go_enter Tryz.func3, Tryz.ntmps3
      go_wp2_with fail
      refine HA.out.mono ?_
      rintro _ w1 ⟨rfl, hb⟩
      have HB := Lib.hid hb
      clear hb HA
      go_wp2_with fail
      refine (HT.out _).mono ?_
      rintro _ _ ⟨rfl, rfl⟩
      clear HT
      go_wp2_with fail
      refine (HRa.out _).mono ?_
      rintro _ _ ⟨rfl, rfl⟩
      clear HRa
      go_wp2_with fail
      refine (HRb.out _).mono ?_
      rintro _ _ ⟨rfl, rfl⟩
      clear HRb
      go_wp2_with fail
      refine (HV.out _ (HG.out.below HB.out) (HR.out.below HB.out)).mono ?_
      rintro _ w2 ⟨A1, c1, rfl, hrd, hb1⟩
      have hb2 := below1 w2 (.cells #[.bool x.s, .slice A1 (nd 64 x.n) c1, .int .i64 x.e] 28)
      have hb := hb1.trans (hb2.mono hb1.size)
      have V1 := Lib.hid (VB.new hrd 28)
      replace HB := Lib.hid (HB.out.trans (hb.mono HB.out.size))
      clear hb1 hb2 hb HV hrd
      go_wp2_with fail
      refine (HU.out _ (HG.out.below HB.out) (HR.out.below HB.out)).mono ?_
      rintro _ w3 ⟨A2, c2, rfl, hrd, hb1⟩
      have hb2 := below1 w3 (.cells #[.bool y.s, .slice A2 (nd 64 y.n) c2, .int .i64 y.e] 28)
      have hb := hb1.trans (hb2.mono hb1.size)
      have V2 := Lib.hid (VB.new hrd 28)
      replace V1 := Lib.hid (V1.out.below hb)
      replace HB := Lib.hid (HB.out.trans (hb.mono HB.out.size))
      clear hb1 hb2 hb HU hrd
      go_wp2_with fail
      refine (HS.out _).mono ?_
      rintro _ w4 ⟨rfl, hb⟩
      replace HB := Lib.hid (HB.out.trans (hb.mono HB.out.size))
      replace V1 := Lib.hid (V1.out.below hb)
      replace V2 := Lib.hid (V2.out.below hb)
      clear hb HS
      go_wp2_with fail
      go_ret
      exact ⟨rfl, HB.out⟩
  · rw [es, hfalse] at hS
    rw [fa] at hV
    rw [fb] at hU
    have HD := Lib.hid hd
    have HS := Lib.hid hS
    have HV := Lib.hid hV
    have HU := Lib.hid hU
    generalize valA n a = x at *
    generalize valA n b = y at *
    clear hS hV hU
    obtain ⟨m, e1, hm⟩ : ∃ m e1, topD (nd 64 x.n) x = (m, e1) := ⟨_, _, rfl⟩
    obtain ⟨q, e2, hq⟩ : ∃ q e2, topD (nd 64 y.n) y = (q, e2) := ⟨_, _, rfl⟩
    rw [hm, hq] at htop
    have HM := Lib.hid hm
    have HQ := Lib.hid hq
    have htop : m < -40 ∨ 60 < m ∨ q < -40 ∨ 60 < q := htop
    obtain ⟨b1, d1⟩ : ∃ b, decide (m < -40) = b := ⟨_, rfl⟩
    obtain ⟨b2, d2⟩ : ∃ b, decide (60 < m) = b := ⟨_, rfl⟩
    obtain ⟨b3, d3⟩ : ∃ b, decide (q < -40) = b := ⟨_, rfl⟩
    obtain ⟨b4, d4⟩ : ∃ b, decide (60 < q) = b := ⟨_, rfl⟩
    have hor : b1 = true ∨ b2 = true ∨ b3 = true ∨ b4 = true := by
      rw [← d1, ← d2, ← d3, ← d4]
      simpa using htop
    clear hZ es hfalse hn hn4 la lb hd hc fa fb hm hq htop
    go_enter Tryz.func3, Tryz.ntmps3
    go_wp2_with fail
    refine HA.out.mono ?_
    rintro _ w1 ⟨rfl, hb⟩
    have HB := Lib.hid hb
    clear hb HA
    go_wp2_with fail
    refine (HT.out _).mono ?_
    rintro _ _ ⟨rfl, rfl⟩
    clear HT
    go_wp2_with fail
    refine (HRa.out _).mono ?_
    rintro _ _ ⟨rfl, rfl⟩
    clear HRa
    go_wp2_with fail
    refine (HRb.out _).mono ?_
    rintro _ _ ⟨rfl, rfl⟩
    clear HRb
    go_wp2_with fail
    refine (HV.out _ (HG.out.below HB.out) (HR.out.below HB.out)).mono ?_
    rintro _ w2 ⟨A1, c1, rfl, hrd, hb1⟩
    have hb2 := below1 w2 (.cells #[.bool x.s, .slice A1 (nd 64 x.n) c1, .int .i64 x.e] 28)
    have hb := hb1.trans (hb2.mono hb1.size)
    have V1 := Lib.hid (VB.new hrd 28)
    replace HB := Lib.hid (HB.out.trans (hb.mono HB.out.size))
    clear hb1 hb2 hb HV hrd
    go_wp2_with fail
    refine (HU.out _ (HG.out.below HB.out) (HR.out.below HB.out)).mono ?_
    rintro _ w3 ⟨A2, c2, rfl, hrd, hb1⟩
    have hb2 := below1 w3 (.cells #[.bool y.s, .slice A2 (nd 64 y.n) c2, .int .i64 y.e] 28)
    have hb := hb1.trans (hb2.mono hb1.size)
    have V2 := Lib.hid (VB.new hrd 28)
    replace V1 := Lib.hid (V1.out.below hb)
    replace HB := Lib.hid (HB.out.trans (hb.mono HB.out.size))
    clear hb1 hb2 hb HU hrd
    go_wp2_with fail
    refine (HS.out _).mono ?_
    rintro _ w4 ⟨rfl, hb⟩
    replace HB := Lib.hid (HB.out.trans (hb.mono HB.out.size))
    replace V1 := Lib.hid (V1.out.below hb)
    replace V2 := Lib.hid (V2.out.below hb)
    clear hb HS
    have hA := DMul_vb V1.out V2.out (HG.out.below HB.out) HD.out
    have HAd := Lib.hid hA
    obtain ⟨x0, x1, x2, -, -⟩ := V1.out.bx.cells
    obtain ⟨y0, y1, y2, -, -⟩ := V2.out.bx.cells
    clear hA
    go_wp2_with fail
    refine HAd.out.mono ?_
    rintro _ w6 ⟨A3, c3, rfl, hrd, hb1⟩
    have hb2 := below1 w6 (.cells #[.bool d.s, .slice A3 (nd 64 d.n) c3, .int .i64 d.e] 28)
    have V3 := Lib.hid (VB.new hrd 28)
    have hb := hb1.trans (hb2.mono hb1.size)
    replace HB := Lib.hid (HB.out.trans (hb.mono HB.out.size))
    replace V1 := Lib.hid (V1.out.below hb)
    replace V2 := Lib.hid (V2.out.below hb)
    clear hb1 hb2 hb HAd hrd x0 x1 x2 y0 y1 y2 HD
    have hX := Top_any x.s A1 x.n (nd 64 x.n) c1 x.e _ V1.out.rd
    rw [show topD (nd 64 x.n) ⟨x.s, x.n, x.e⟩ = (m, e1) from HM.out] at hX
    have HX := Lib.hid hX
    obtain ⟨x0, x1, x2, -, -⟩ := V1.out.bx.cells
    clear hX
    go_wp2_with fail
    refine HX.out.mono ?_
    rintro _ w8 ⟨rfl, hb⟩
    replace HB := Lib.hid (HB.out.trans (hb.mono HB.out.size))
    replace V2 := Lib.hid (V2.out.below hb)
    clear hb HX x0 x1 x2 HM
    have hX := Top_any y.s A2 y.n (nd 64 y.n) c2 y.e _ V2.out.rd
    rw [show topD (nd 64 y.n) ⟨y.s, y.n, y.e⟩ = (q, e2) from HQ.out] at hX
    have HX := Lib.hid hX
    obtain ⟨x0, x1, x2, -, -⟩ := V2.out.bx.cells
    clear hX
    go_wp2_with fail
    refine HX.out.mono ?_
    rintro _ w8 ⟨rfl, hb⟩
    replace HB := Lib.hid (HB.out.trans (hb.mono HB.out.size))
    replace V2 := Lib.hid (V2.out.below hb)
    clear hb HX x0 x1 x2 HQ
    clear V1 V2 V3
    cases b1
    rotate_left
    · go_wp2_with fail
      go_ret
      exact ⟨rfl, HB.out⟩
    cases b2
    rotate_left
    · go_wp2_with fail
      go_ret
      exact ⟨rfl, HB.out⟩
    cases b3
    rotate_left
    · go_wp2_with fail
      go_ret
      exact ⟨rfl, HB.out⟩
    cases b4
    rotate_left
    · go_wp2_with fail
      go_ret
      exact ⟨rfl, HB.out⟩
    simp at hor
  · rw [es, hfalse] at hS
    rw [fa] at hV
    rw [fb] at hU
    have HD := Lib.hid hd
    have hF := fun wx h1 h2 => Fms_ok n 0 a b p wx hn4 (by decide) la lb lp h1 h2
    rw [show fmaS (fm n) 0 a b ((fm n).flip p) = (t, 0) from (fma_z (fm_ok n) 0 a b _).trans gt] at hF
    have hTG := fun A c wx h1 h2 h3 => together18 n p r d A c wx hn4 lp lr fp fr gadd hc h1 h2 h3
    have hL := fun wx h1 h2 => light18 n p r wx hn lp lr glight h1 h2
    have hz1 := fun wx => sz_n n t wx hn (lt_64' lt)
    have hz2 := fun wx => sz_n n r wx hn (lt_64' lr)
    rw [show (mulS (fm n) 0 a b).1 = p from g1.symm] at hZ
    generalize (mulS (fm n) 0 a b).2 = fl at *
    have HZ := Lib.hid hZ
    have HF := Lib.hid hF
    have HTG := Lib.hid hTG
    have HL := Lib.hid hL
    have HS := Lib.hid hS
    have HV := Lib.hid hV
    have HU := Lib.hid hU
    generalize valA n a = x at *
    generalize valA n b = y at *
    clear hS hV hU
    have hcase : t = r ∨ (t ≠ r ∧ (fm n).abs t = 0 ∧ (fm n).abs r = 0) := by
      by_cases h : t = r
      · exact Or.inl h
      · exact Or.inr ⟨h, gtr.resolve_left h⟩
    clear es hfalse hn hn4 la lb hd hc fa fb hZ hF hTG hL gadd glight gt gtr g1 fp fr lp lr lt
    rcases hcase with ht | ⟨ht, t0, r0⟩
    · subst ht
      clear hz1 hz2
      go_enter Tryz.func3, Tryz.ntmps3
      go_wp2_with fail
      refine HA.out.mono ?_
      rintro _ w1 ⟨rfl, hb⟩
      have HB := Lib.hid hb
      clear hb HA
      go_wp2_with fail
      refine (HT.out _).mono ?_
      rintro _ _ ⟨rfl, rfl⟩
      clear HT
      go_wp2_with fail
      refine (HRa.out _).mono ?_
      rintro _ _ ⟨rfl, rfl⟩
      clear HRa
      go_wp2_with fail
      refine (HRb.out _).mono ?_
      rintro _ _ ⟨rfl, rfl⟩
      clear HRb
      go_wp2_with fail
      refine (HV.out _ (HG.out.below HB.out) (HR.out.below HB.out)).mono ?_
      rintro _ w2 ⟨A1, c1, rfl, hrd, hb1⟩
      have hb2 := below1 w2 (.cells #[.bool x.s, .slice A1 (nd 64 x.n) c1, .int .i64 x.e] 28)
      have hb := hb1.trans (hb2.mono hb1.size)
      have V1 := Lib.hid (VB.new hrd 28)
      replace HB := Lib.hid (HB.out.trans (hb.mono HB.out.size))
      clear hb1 hb2 hb HV hrd
      go_wp2_with fail
      refine (HU.out _ (HG.out.below HB.out) (HR.out.below HB.out)).mono ?_
      rintro _ w3 ⟨A2, c2, rfl, hrd, hb1⟩
      have hb2 := below1 w3 (.cells #[.bool y.s, .slice A2 (nd 64 y.n) c2, .int .i64 y.e] 28)
      have hb := hb1.trans (hb2.mono hb1.size)
      have V2 := Lib.hid (VB.new hrd 28)
      replace V1 := Lib.hid (V1.out.below hb)
      replace HB := Lib.hid (HB.out.trans (hb.mono HB.out.size))
      clear hb1 hb2 hb HU hrd
      go_wp2_with fail
      refine (HS.out _).mono ?_
      rintro _ w4 ⟨rfl, hb⟩
      replace HB := Lib.hid (HB.out.trans (hb.mono HB.out.size))
      replace V1 := Lib.hid (V1.out.below hb)
      replace V2 := Lib.hid (V2.out.below hb)
      clear hb HS
      have hA := DMul_vb V1.out V2.out (HG.out.below HB.out) HD.out
      have HAd := Lib.hid hA
      obtain ⟨x0, x1, x2, -, -⟩ := V1.out.bx.cells
      obtain ⟨y0, y1, y2, -, -⟩ := V2.out.bx.cells
      clear hA
      go_wp2_with fail
      refine HAd.out.mono ?_
      rintro _ w6 ⟨A3, c3, rfl, hrd, hb1⟩
      have hb2 := below1 w6 (.cells #[.bool d.s, .slice A3 (nd 64 d.n) c3, .int .i64 d.e] 28)
      have V3 := Lib.hid (VB.new hrd 28)
      have hb := hb1.trans (hb2.mono hb1.size)
      replace HB := Lib.hid (HB.out.trans (hb.mono HB.out.size))
      replace V1 := Lib.hid (V1.out.below hb)
      replace V2 := Lib.hid (V2.out.below hb)
      clear hb1 hb2 hb HAd hrd x0 x1 x2 y0 y1 y2 HD
      go_wp2_with fail
      refine (HZ.out _ (HG.out.below HB.out) (HR.out.below HB.out)).mono ?_
      rintro _ w7 ⟨rfl, hb⟩
      replace HB := Lib.hid (HB.out.trans (hb.mono HB.out.size))
      replace V3 := Lib.hid (V3.out.below hb)
      clear hb HZ V1 V2
      go_wp2_with fail
      refine (HF.out _ (HG.out.below HB.out) (HR.out.below HB.out)).mono ?_
      rintro _ w7 ⟨rfl, hb⟩
      replace HB := Lib.hid (HB.out.trans (hb.mono HB.out.size))
      replace V3 := Lib.hid (V3.out.below hb)
      clear hb HF
      obtain ⟨z0, z1, z2, -, -⟩ := V3.out.bx.cells
      go_wp2_with fail
      refine (HTG.out A3 c3 _ V3.out.rd (HG.out.below HB.out) (HR.out.below HB.out)).mono ?_
      rintro _ w8 ⟨rfl, hb⟩
      replace HB := Lib.hid (HB.out.trans (hb.mono HB.out.size))
      clear hb HTG z0 z1 z2 V3
      go_wp2_with fail
      refine (HL.out _ (HG.out.below HB.out) (HR.out.below HB.out)).mono ?_
      rintro _ w8 ⟨rfl, hb⟩
      replace HB := Lib.hid (HB.out.trans (hb.mono HB.out.size))
      clear hb HL
      go_wp2_with fail
      go_ret
      exact ⟨rfl, HB.out⟩
    · have hne : ((t : Int) == r) = false := by
        simp only [beq_eq_false_iff_ne]
        omega
      rw [t0] at hz1
      rw [r0] at hz2
      have HZ1 := Lib.hid hz1
      have HZ2 := Lib.hid hz2
      clear hz1 hz2 t0 r0 ht
      go_enter Tryz.func3, Tryz.ntmps3
      go_wp2_with fail
      refine HA.out.mono ?_
      rintro _ w1 ⟨rfl, hb⟩
      have HB := Lib.hid hb
      clear hb HA
      go_wp2_with fail
      refine (HT.out _).mono ?_
      rintro _ _ ⟨rfl, rfl⟩
      clear HT
      go_wp2_with fail
      refine (HRa.out _).mono ?_
      rintro _ _ ⟨rfl, rfl⟩
      clear HRa
      go_wp2_with fail
      refine (HRb.out _).mono ?_
      rintro _ _ ⟨rfl, rfl⟩
      clear HRb
      go_wp2_with fail
      refine (HV.out _ (HG.out.below HB.out) (HR.out.below HB.out)).mono ?_
      rintro _ w2 ⟨A1, c1, rfl, hrd, hb1⟩
      have hb2 := below1 w2 (.cells #[.bool x.s, .slice A1 (nd 64 x.n) c1, .int .i64 x.e] 28)
      have hb := hb1.trans (hb2.mono hb1.size)
      have V1 := Lib.hid (VB.new hrd 28)
      replace HB := Lib.hid (HB.out.trans (hb.mono HB.out.size))
      clear hb1 hb2 hb HV hrd
      go_wp2_with fail
      refine (HU.out _ (HG.out.below HB.out) (HR.out.below HB.out)).mono ?_
      rintro _ w3 ⟨A2, c2, rfl, hrd, hb1⟩
      have hb2 := below1 w3 (.cells #[.bool y.s, .slice A2 (nd 64 y.n) c2, .int .i64 y.e] 28)
      have hb := hb1.trans (hb2.mono hb1.size)
      have V2 := Lib.hid (VB.new hrd 28)
      replace V1 := Lib.hid (V1.out.below hb)
      replace HB := Lib.hid (HB.out.trans (hb.mono HB.out.size))
      clear hb1 hb2 hb HU hrd
      go_wp2_with fail
      refine (HS.out _).mono ?_
      rintro _ w4 ⟨rfl, hb⟩
      replace HB := Lib.hid (HB.out.trans (hb.mono HB.out.size))
      replace V1 := Lib.hid (V1.out.below hb)
      replace V2 := Lib.hid (V2.out.below hb)
      clear hb HS
      have hA := DMul_vb V1.out V2.out (HG.out.below HB.out) HD.out
      have HAd := Lib.hid hA
      obtain ⟨x0, x1, x2, -, -⟩ := V1.out.bx.cells
      obtain ⟨y0, y1, y2, -, -⟩ := V2.out.bx.cells
      clear hA
      go_wp2_with fail
      refine HAd.out.mono ?_
      rintro _ w6 ⟨A3, c3, rfl, hrd, hb1⟩
      have hb2 := below1 w6 (.cells #[.bool d.s, .slice A3 (nd 64 d.n) c3, .int .i64 d.e] 28)
      have V3 := Lib.hid (VB.new hrd 28)
      have hb := hb1.trans (hb2.mono hb1.size)
      replace HB := Lib.hid (HB.out.trans (hb.mono HB.out.size))
      replace V1 := Lib.hid (V1.out.below hb)
      replace V2 := Lib.hid (V2.out.below hb)
      clear hb1 hb2 hb HAd hrd x0 x1 x2 y0 y1 y2 HD
      go_wp2_with fail
      refine (HZ.out _ (HG.out.below HB.out) (HR.out.below HB.out)).mono ?_
      rintro _ w7 ⟨rfl, hb⟩
      replace HB := Lib.hid (HB.out.trans (hb.mono HB.out.size))
      replace V3 := Lib.hid (V3.out.below hb)
      clear hb HZ V1 V2
      go_wp2_with fail
      refine (HF.out _ (HG.out.below HB.out) (HR.out.below HB.out)).mono ?_
      rintro _ w7 ⟨rfl, hb⟩
      replace HB := Lib.hid (HB.out.trans (hb.mono HB.out.size))
      replace V3 := Lib.hid (V3.out.below hb)
      clear hb HF
      obtain ⟨z0, z1, z2, -, -⟩ := V3.out.bx.cells
      go_wp2_with fail
      refine (HTG.out A3 c3 _ V3.out.rd (HG.out.below HB.out) (HR.out.below HB.out)).mono ?_
      rintro _ w8 ⟨rfl, hb⟩
      replace HB := Lib.hid (HB.out.trans (hb.mono HB.out.size))
      clear hb HTG z0 z1 z2 V3
      go_wp2_with fail
      refine (HL.out _ (HG.out.below HB.out) (HR.out.below HB.out)).mono ?_
      rintro _ w8 ⟨rfl, hb⟩
      replace HB := Lib.hid (HB.out.trans (hb.mono HB.out.size))
      clear hb HL
      go_wp2_with fail
      refine (HZ1.out _).mono ?_
      rintro _ _ ⟨rfl, rfl⟩
      go_wp2_with fail
      refine (HZ2.out _).mono ?_
      rintro _ _ ⟨rfl, rfl⟩
      clear HZ1 HZ2
      go_wp2_with fail
      go_ret
      exact ⟨rfl, HB.out⟩

end Go.Proofs.YtlibhfojfonfjaaGreatDoor
