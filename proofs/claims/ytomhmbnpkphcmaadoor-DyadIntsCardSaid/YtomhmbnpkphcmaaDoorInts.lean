/- The walk of DyadInts. -/
import Derived.Outline
import Derived.Deep.CutBlock
import Derived.Deep.RegionHeld3
import Derived.Test.YtomhmbnpkphcmaaDoorLawI
import Derived.Test.YtomhmbnpkphcmaaDoorLawC
import Derived.Test.YtomhmbnpkphcmaaDoorInv
namespace Go.Proofs.YtomhmbnpkphcmaaDoor
set_option linter.unusedVariables false
open Go.RowKit

set_option maxRecDepth 100000 in
set_option maxHeartbeats 8000000 in
theorem ints_any (x y : Int) (w : World) (hG : Gl w) (hx : -9223372036854775808 ≤ x ∧ x ≤ 9223372036854775807) (hy : -9223372036854775808 ≤ y ∧ y ≤ 9223372036854775807) :
    Calls Tryd.prog 8 #[.int .i64 x, .int .i64 y] w fun e' w' => e' = .returned (.bool true) ∧ Below w.heap.size w w' := by
  have HB : Hid (Below w.heap.size w w) := Below.refl _ _
  have HG := Lib.hid hG
  clear hG
  go_enter Tryd.func8, Tryd.ntmps8
  go_wp2_with fail
  refine (awake_any w (HG.out.below HB.out)).mono ?_
  rintro _ x0 ⟨rfl, hb0⟩
  replace HB := Lib.hid (keep_belowB HB.out hb0 (Nat.le_refl _))
  clear hb0
  obtain ⟨a, ha⟩ : ∃ a, a = fromIntD x := ⟨_, rfl⟩
  obtain ⟨b, hb⟩ : ∃ b, b = fromIntD y := ⟨_, rfl⟩
  have Ca : Hid a.can := by show a.can; rw [ha]; exact fromInt_can x
  have Cb : Hid b.can := by show b.can; rw [hb]; exact fromInt_can y
  obtain ⟨cc, hcc, hc1, hc2⟩ : ∃ cc : Int, sgI (x - y) = cc ∧ (decide (cc < 0) = decide (x < y)) ∧ (decide (0 < cc) = decide (y < x)) := ⟨_, rfl, by unfold sgI; split <;> (try split) <;> simp <;> omega, by unfold sgI; split <;> (try split) <;> simp <;> omega⟩
  have L1 : Hid (cmpD (nd 64 a.n) a (nd 64 b.n) b = (cc, 0)) := by show _ = _; rw [ha, hb, ← hcc]; exact int_cmp hx hy
  have HC1 := Lib.hid hc1
  have HC2 := Lib.hid hc2
  clear hcc hc1 hc2
  have L2 : Hid (sgD a.s a.n = sgI x) := by show _ = _; rw [ha]; exact int_sign x
  have Ha := Lib.hid ha
  have Hb := Lib.hid hb
  clear ha hb
  go_wp2_with fail
  refine (FromInt_any x x0 hx (HG.out.below HB.out)).mono ?_
  rintro _ x2 ⟨y2, rfl, hV2, hb2⟩
  rw [← Ha.out] at hV2
  obtain ⟨A2, c2, rfl, -⟩ := id hV2
  obtain ⟨X2, hX2⟩ : ∃ X2, X2 = x2.alloc (Obj.cells #[Value.bool a.s, Value.slice A2 (nd 64 a.n) c2, Value.int IntKind.i64 a.e] 26) := ⟨_, rfl⟩
  have ha2 : Below x2.heap.size x2 X2 := by rw [hX2]; exact below1 ..
  have Da : Hid (DVB 0 x2.heap.size a X2) := by show DVB 0 x2.heap.size a X2; rw [hX2]; exact (DVB.new hV2).mono (Nat.zero_le _)
  replace HB := Lib.hid (keep_belowB HB.out hb2 (Nat.le_refl _))
  replace HB := Lib.hid (keep_belowB HB.out ha2 (Nat.le_refl _))
  clear hV2 hb2 ha2 
  go_upto_region 4 with (fail)
  rw [← hX2]
  clear hX2
  go_wp2_with fail
  refine (FromInt_any y X2 hy (HG.out.below HB.out)).mono ?_
  rintro _ x3 ⟨y3, rfl, hV3, hb3⟩
  rw [← Hb.out] at hV3
  obtain ⟨A3, c3, rfl, -⟩ := id hV3
  obtain ⟨X3, hX3⟩ : ∃ X3, X3 = x3.alloc (Obj.cells #[Value.bool b.s, Value.slice A3 (nd 64 b.n) c3, Value.int IntKind.i64 b.e] 26) := ⟨_, rfl⟩
  have ha3 : Below x3.heap.size x3 X3 := by rw [hX3]; exact below1 ..
  have Db : Hid (DVB 0 x3.heap.size b X3) := by show DVB 0 x3.heap.size b X3; rw [hX3]; exact (DVB.new hV3).mono (Nat.zero_le _)
  replace HB := Lib.hid (keep_belowB HB.out hb3 (Nat.le_refl _))
  replace Da := Lib.hid (Da.out.below hb3)
  replace HB := Lib.hid (keep_belowB HB.out ha3 (Nat.le_refl _))
  replace Da := Lib.hid (Da.out.below ha3)
  clear hV3 hb3 ha3 
  go_upto_region 5 with (fail)
  rw [← hX3]
  clear hX3
  obtain ⟨Au, cu, ⟨u0, u1, u2, u3⟩, ru⟩ := Da.out.open
  have Ru := Lib.hid ru
  clear ru
  obtain ⟨Av, cv, ⟨v0, v1, v2, v3⟩, rv⟩ := Db.out.open
  have Rv := Lib.hid rv
  clear rv
  go_wp2_with fail
  refine (DCmp_any a.s b.s Au Av a.n _ cu b.n _ cv a.e b.e X3 Ru.out Rv.out (HG.out.below HB.out)).mono ?_
  rintro _ x4 ⟨rfl, hb4⟩
  rw [L1.out]
  replace HB := Lib.hid (keep_belowB HB.out hb4 (Nat.le_refl _))
  replace Da := Lib.hid (Da.out.below hb4)
  replace Db := Lib.hid (Db.out.below hb4)
  clear hb4 u0 u1 u2 u3 Ru v0 v1 v2 v3 Rv
  go_upto_region 6 with (fail)
  go_cut [74] from 31 (fun v wx => v = .bool false ∧ Below x4.heap.size x4 wx)
  case first =>
    have HB0 : Hid (Below x4.heap.size x4 x4) := Below.refl _ _
    have hc1 := HC1.out
    have hc2 := HC2.out
    obtain ⟨sx, hsx, hs1, hs2⟩ : ∃ sx : Int, sgI x = sx ∧ (decide (sx < 0) = decide (x < 0)) ∧ (decide (0 < sx) = decide (0 < x)) := ⟨_, rfl, by unfold sgI; split <;> (try split) <;> simp <;> omega, by unfold sgI; split <;> (try split) <;> simp <;> omega⟩
    have Hsx := Lib.hid hsx
    clear hsx L1
    obtain ⟨Au, cu, ⟨u0, u1, u2, u3⟩, ru⟩ := Da.out.open
    have Ru := Lib.hid ru
    clear ru
    go_wp2_with fail
    refine (oddL_any a Au cu x4 Ca.out Ru.out).mono ?_
    rintro _ x5 ⟨rfl, hb5⟩
    replace HB := Lib.hid (keep_belowB HB.out hb5 (Nat.le_refl _))
    replace HB0 := Lib.hid (keep_belowB HB0.out hb5 (Nat.le_refl _))
    replace Da := Lib.hid (Da.out.below hb5)
    replace Db := Lib.hid (Db.out.below hb5)
    clear hb5 u0 u1 u2 u3 Ru
    obtain ⟨Au, cu, ⟨u0, u1, u2, u3⟩, ru⟩ := Db.out.open
    have Ru := Lib.hid ru
    clear ru
    go_wp2_with fail
    refine (oddL_any b Au cu x5 Cb.out Ru.out).mono ?_
    rintro _ x6 ⟨rfl, hb6⟩
    replace HB := Lib.hid (keep_belowB HB.out hb6 (Nat.le_refl _))
    replace HB0 := Lib.hid (keep_belowB HB0.out hb6 (Nat.le_refl _))
    replace Da := Lib.hid (Da.out.below hb6)
    replace Db := Lib.hid (Db.out.below hb6)
    clear hb6 u0 u1 u2 u3 Ru
    obtain ⟨Au, cu, ⟨u0, u1, u2, u3⟩, ru⟩ := Da.out.open
    have Ru := Lib.hid ru
    clear ru
    go_wp2_with fail
    refine (Sign_any a.s Au a.n _ cu a.e x6 Ru.out).mono ?_
    rintro _ x7 ⟨rfl, hb7⟩
    rw [L2.out, Hsx.out]
    replace HB := Lib.hid (keep_belowB HB.out hb7 (Nat.le_refl _))
    replace HB0 := Lib.hid (keep_belowB HB0.out hb7 (Nat.le_refl _))
    replace Da := Lib.hid (Da.out.below hb7)
    replace Db := Lib.hid (Db.out.below hb7)
    clear hb7 u0 u1 u2 u3 Ru
    obtain ⟨Au, cu, ⟨u0, u1, u2, u3⟩, ru⟩ := Da.out.open
    have Ru := Lib.hid ru
    clear ru
    go_wp2_with fail
    refine (Sign_any a.s Au a.n _ cu a.e x7 Ru.out).mono ?_
    rintro _ x8 ⟨rfl, hb8⟩
    rw [L2.out, Hsx.out]
    replace HB := Lib.hid (keep_belowB HB.out hb8 (Nat.le_refl _))
    replace HB0 := Lib.hid (keep_belowB HB0.out hb8 (Nat.le_refl _))
    replace Da := Lib.hid (Da.out.below hb8)
    replace Db := Lib.hid (Db.out.below hb8)
    clear hb8 u0 u1 u2 u3 Ru
    go_wp2_with fail
    go_meet
    case rel => exact ⟨by simp, HB0.out⟩
  case rest =>
    obtain ⟨rfl, hbc⟩ := hcut
    replace HB := Lib.hid (keep_belowB HB.out hbc (Nat.le_refl _))
    replace Da := Lib.hid (Da.out.below hbc)
    replace Db := Lib.hid (Db.out.below hbc)
    clear hbc L1 L2 Ca Cb Db
    obtain ⟨m, hm⟩ : ∃ m, m = x.tmod 2147483648 := ⟨_, rfl⟩
    obtain ⟨n, hn⟩ : ∃ n, n = y.tmod 2147483648 := ⟨_, rfl⟩
    have bm : -2147483648 < m ∧ m < 2147483648 := by rw [hm]; exact ⟨Int.lt_tmod_of_pos x (by decide), Int.tmod_lt_of_pos x (by decide)⟩
    have bn : -2147483648 < n ∧ n < 2147483648 := by rw [hn]; exact ⟨Int.lt_tmod_of_pos y (by decide), Int.tmod_lt_of_pos y (by decide)⟩
    have bmn := mul_small bm bn
    have bm' : -9223372036854775808 ≤ m ∧ m ≤ 9223372036854775807 := by omega
    have bn' : -9223372036854775808 ≤ n ∧ n ≤ 9223372036854775807 := by omega
    have b1 : -9223372036854775808 ≤ m + n ∧ m + n ≤ 9223372036854775807 := by omega
    have b2 : -9223372036854775808 ≤ m - n ∧ m - n ≤ 9223372036854775807 := by omega
    have b3 : -9223372036854775808 ≤ m * n ∧ m * n ≤ 9223372036854775807 := by omega
    have w1 : IntKind.i64.wrap (m + n) = m + n := by rw [IntKind.wrap_i64]; omega
    have w2 : IntKind.i64.wrap (m - n) = m - n := by rw [IntKind.wrap_i64]; omega
    have w3 : IntKind.i64.wrap (m * n) = m * n := by rw [IntKind.wrap_i64]; omega
    obtain ⟨p, hp⟩ : ∃ p, p = fromIntD m := ⟨_, rfl⟩
    obtain ⟨q, hq⟩ : ∃ q, q = fromIntD n := ⟨_, rfl⟩
    obtain ⟨s, hs⟩ : ∃ s : D × Int, s = (fromIntD (m + n), 0) := ⟨_, rfl⟩
    obtain ⟨d, hd⟩ : ∃ d : D × Int, d = (fromIntD (m - n), 0) := ⟨_, rfl⟩
    obtain ⟨t, ht⟩ : ∃ t : D × Int, t = (fromIntD (m * n), 0) := ⟨_, rfl⟩
    have L3 : Hid (addD (nd 64 p.n) p (nd 64 q.n) q = s) := by show _ = _; rw [hp, hq, hs]; exact int_add bm bn
    have L4 : Hid (subD (nd 64 p.n) p (nd 64 q.n) q = d) := by show _ = _; rw [hp, hq, hd]; exact int_sub bm bn
    have L5 : Hid (mulD (nd 64 p.n) p (nd 64 q.n) q = t) := by show _ = _; rw [hp, hq, ht]; exact int_mul bm bn
    have Hm := Lib.hid hm
    have Hn := Lib.hid hn
    have Hp := Lib.hid hp
    have Hq := Lib.hid hq
    have Hs := Lib.hid hs
    have Hd := Lib.hid hd
    have Ht := Lib.hid ht
    clear hp hq hs hd ht bmn
    go_upto_region 10 with (fail)
    try simp only [← hm, ← hn]
    clear hm hn
    go_wp2_with fail
    refine (FromInt_any m wc bm' (HG.out.below HB.out)).mono ?_
    rintro _ x9 ⟨y9, rfl, hV9, hb9⟩
    rw [← Hp.out] at hV9
    replace HB := Lib.hid (keep_belowB HB.out hb9 (Nat.le_refl _))
    replace Da := Lib.hid (Da.out.below hb9)
    obtain ⟨Ag, cg, rfl, -, -, rg, -⟩ := id hV9
    have Rg := Lib.hid rg
    clear rg hV9 hb9
    go_wp2_with fail
    refine (FromInt_any n x9 bn' (HG.out.below HB.out)).mono ?_
    rintro _ x10 ⟨y10, rfl, hV10, hb10⟩
    rw [← Hq.out] at hV10
    replace HB := Lib.hid (keep_belowB HB.out hb10 (Nat.le_refl _))
    replace Da := Lib.hid (Da.out.below hb10)
    replace Rg := Lib.hid (Rg.out.below hb10)
    obtain ⟨Ah, ch, rfl, -, -, rh, -⟩ := id hV10
    have Rh := Lib.hid rh
    clear rh hV10 hb10
    go_wp2_with fail
    refine (DAdd_any p.s q.s Ag Ah p.n _ cg q.n _ ch p.e q.e x10 Rg.out Rh.out (HG.out.below HB.out)).mono ?_
    rintro _ x11 ⟨y11, rfl, hV11, hb11⟩
    rw [L3.out] at hV11 ⊢
    obtain ⟨A11, c11, rfl, -⟩ := id hV11
    obtain ⟨X11, hX11⟩ : ∃ X11, X11 = x11.alloc (Obj.cells #[Value.bool s.1.s, Value.slice A11 (nd 64 s.1.n) c11, Value.int IntKind.i64 s.1.e] 26) := ⟨_, rfl⟩
    have ha11 : Below x11.heap.size x11 X11 := by rw [hX11]; exact below1 ..
    have Ds : Hid (DVB 0 x11.heap.size s.1 X11) := by show DVB 0 x11.heap.size s.1 X11; rw [hX11]; exact (DVB.new hV11).mono (Nat.zero_le _)
    replace HB := Lib.hid (keep_belowB HB.out hb11 (Nat.le_refl _))
    replace Da := Lib.hid (Da.out.below hb11)
    replace HB := Lib.hid (keep_belowB HB.out ha11 (Nat.le_refl _))
    replace Da := Lib.hid (Da.out.below ha11)
    clear hV11 hb11 ha11 Rg Rh
    go_upto_region 11 with (fail)
    rw [← hX11]
    clear hX11
    go_wp2_with fail
    refine (FromInt_any m X11 bm' (HG.out.below HB.out)).mono ?_
    rintro _ x12 ⟨y12, rfl, hV12, hb12⟩
    rw [← Hp.out] at hV12
    replace HB := Lib.hid (keep_belowB HB.out hb12 (Nat.le_refl _))
    replace Da := Lib.hid (Da.out.below hb12)
    replace Ds := Lib.hid (Ds.out.below hb12)
    obtain ⟨Ag, cg, rfl, -, -, rg, -⟩ := id hV12
    have Rg := Lib.hid rg
    clear rg hV12 hb12
    go_wp2_with fail
    refine (FromInt_any n x12 bn' (HG.out.below HB.out)).mono ?_
    rintro _ x13 ⟨y13, rfl, hV13, hb13⟩
    rw [← Hq.out] at hV13
    replace HB := Lib.hid (keep_belowB HB.out hb13 (Nat.le_refl _))
    replace Da := Lib.hid (Da.out.below hb13)
    replace Ds := Lib.hid (Ds.out.below hb13)
    replace Rg := Lib.hid (Rg.out.below hb13)
    obtain ⟨Ah, ch, rfl, -, -, rh, -⟩ := id hV13
    have Rh := Lib.hid rh
    clear rh hV13 hb13
    go_wp2_with fail
    refine (DSub_any p.s q.s Ag Ah p.n _ cg q.n _ ch p.e q.e x13 Rg.out Rh.out (HG.out.below HB.out)).mono ?_
    rintro _ x14 ⟨y14, rfl, hV14, hb14⟩
    rw [L4.out] at hV14 ⊢
    obtain ⟨A14, c14, rfl, -⟩ := id hV14
    obtain ⟨X14, hX14⟩ : ∃ X14, X14 = x14.alloc (Obj.cells #[Value.bool d.1.s, Value.slice A14 (nd 64 d.1.n) c14, Value.int IntKind.i64 d.1.e] 26) := ⟨_, rfl⟩
    have ha14 : Below x14.heap.size x14 X14 := by rw [hX14]; exact below1 ..
    have Dd : Hid (DVB 0 x14.heap.size d.1 X14) := by show DVB 0 x14.heap.size d.1 X14; rw [hX14]; exact (DVB.new hV14).mono (Nat.zero_le _)
    replace HB := Lib.hid (keep_belowB HB.out hb14 (Nat.le_refl _))
    replace Da := Lib.hid (Da.out.below hb14)
    replace Ds := Lib.hid (Ds.out.below hb14)
    replace HB := Lib.hid (keep_belowB HB.out ha14 (Nat.le_refl _))
    replace Da := Lib.hid (Da.out.below ha14)
    replace Ds := Lib.hid (Ds.out.below ha14)
    clear hV14 hb14 ha14 Rg Rh
    go_upto_region 12 with (fail)
    rw [← hX14]
    clear hX14
    go_wp2_with fail
    refine (FromInt_any m X14 bm' (HG.out.below HB.out)).mono ?_
    rintro _ x15 ⟨y15, rfl, hV15, hb15⟩
    rw [← Hp.out] at hV15
    replace HB := Lib.hid (keep_belowB HB.out hb15 (Nat.le_refl _))
    replace Da := Lib.hid (Da.out.below hb15)
    replace Ds := Lib.hid (Ds.out.below hb15)
    replace Dd := Lib.hid (Dd.out.below hb15)
    obtain ⟨Ag, cg, rfl, -, -, rg, -⟩ := id hV15
    have Rg := Lib.hid rg
    clear rg hV15 hb15
    go_wp2_with fail
    refine (FromInt_any n x15 bn' (HG.out.below HB.out)).mono ?_
    rintro _ x16 ⟨y16, rfl, hV16, hb16⟩
    rw [← Hq.out] at hV16
    replace HB := Lib.hid (keep_belowB HB.out hb16 (Nat.le_refl _))
    replace Da := Lib.hid (Da.out.below hb16)
    replace Ds := Lib.hid (Ds.out.below hb16)
    replace Dd := Lib.hid (Dd.out.below hb16)
    replace Rg := Lib.hid (Rg.out.below hb16)
    obtain ⟨Ah, ch, rfl, -, -, rh, -⟩ := id hV16
    have Rh := Lib.hid rh
    clear rh hV16 hb16
    go_wp2_with fail
    refine (DMul_any p.s q.s Ag Ah p.n _ cg q.n _ ch p.e q.e x16 Rg.out Rh.out (HG.out.below HB.out)).mono ?_
    rintro _ x17 ⟨y17, rfl, hV17, hb17⟩
    rw [L5.out] at hV17 ⊢
    obtain ⟨A17, c17, rfl, -⟩ := id hV17
    obtain ⟨X17, hX17⟩ : ∃ X17, X17 = x17.alloc (Obj.cells #[Value.bool t.1.s, Value.slice A17 (nd 64 t.1.n) c17, Value.int IntKind.i64 t.1.e] 26) := ⟨_, rfl⟩
    have ha17 : Below x17.heap.size x17 X17 := by rw [hX17]; exact below1 ..
    have Dt : Hid (DVB 0 x17.heap.size t.1 X17) := by show DVB 0 x17.heap.size t.1 X17; rw [hX17]; exact (DVB.new hV17).mono (Nat.zero_le _)
    replace HB := Lib.hid (keep_belowB HB.out hb17 (Nat.le_refl _))
    replace Da := Lib.hid (Da.out.below hb17)
    replace Ds := Lib.hid (Ds.out.below hb17)
    replace Dd := Lib.hid (Dd.out.below hb17)
    replace HB := Lib.hid (keep_belowB HB.out ha17 (Nat.le_refl _))
    replace Da := Lib.hid (Da.out.below ha17)
    replace Ds := Lib.hid (Ds.out.below ha17)
    replace Dd := Lib.hid (Dd.out.below ha17)
    clear hV17 hb17 ha17 Rg Rh
    go_upto_region 13 with (fail)
    rw [← hX17]
    clear hX17
    clear L3 L4 L5 Hp Hq
    obtain ⟨b1l, b1h⟩ := b1
    obtain ⟨b2l, b2h⟩ := b2
    obtain ⟨b3l, b3h⟩ := b3
    have K1 : Hid (fromIntD (m + n) = s.1) := by show _ = _; rw [Hs.out]
    have K2 : Hid (fromIntD (m - n) = d.1) := by show _ = _; rw [Hd.out]
    have K3 : Hid (fromIntD (m * n) = t.1) := by show _ = _; rw [Ht.out]
    have t1 : (s.2 != 0) = false := by rw [Hs.out]; rfl
    have t2 : (d.2 != 0) = false := by rw [Hd.out]; rfl
    have t3 : (t.2 != 0) = false := by rw [Ht.out]; rfl
    have Ss : Hid (sameB s.1.s (nd 64 s.1.n) s.1.n s.1.e s.1.s (nd 64 s.1.n) s.1.n s.1.e = true) := by show _ = _; simp [sameB, sameW]
    have Sd : Hid (sameB d.1.s (nd 64 d.1.n) d.1.n d.1.e d.1.s (nd 64 d.1.n) d.1.n d.1.e = true) := by show _ = _; simp [sameB, sameW]
    have St : Hid (sameB t.1.s (nd 64 t.1.n) t.1.n t.1.e t.1.s (nd 64 t.1.n) t.1.n t.1.e = true) := by show _ = _; simp [sameB, sameW]
    obtain ⟨Au, cu, ⟨u0, u1, u2, u3⟩, ru⟩ := Ds.out.open
    have Ru := Lib.hid ru
    clear ru
    obtain ⟨Av, cv, ⟨v0, v1, v2, v3⟩, rv⟩ := Dd.out.open
    have Rv := Lib.hid rv
    clear rv
    obtain ⟨Ak, ck, ⟨k0, k1, k2, k3⟩, rk⟩ := Dt.out.open
    have Rk := Lib.hid rk
    clear rk
    have hGX := (HG.out.below HB.out)
    clear u3 v3 k3
    go_cut [139] from 103 (fun v wx => v = .bool false ∧ Below X17.heap.size X17 wx)
    case first =>
      go_region_held3 (fun w' => w'.cell? ⟨x11.heap.size, 0, none⟩ = some (.bool s.1.s) ∧ w'.cell? ⟨x11.heap.size, 1, none⟩ = some (.slice Au (nd 64 s.1.n) cu) ∧ w'.cell? ⟨x11.heap.size, 2, none⟩ = some (.int .i64 s.1.e) ∧ w'.cell? ⟨x14.heap.size, 0, none⟩ = some (.bool d.1.s) ∧ w'.cell? ⟨x14.heap.size, 1, none⟩ = some (.slice Av (nd 64 d.1.n) cv) ∧ w'.cell? ⟨x14.heap.size, 2, none⟩ = some (.int .i64 d.1.e) ∧ w'.cell? ⟨x17.heap.size, 0, none⟩ = some (.bool t.1.s) ∧ w'.cell? ⟨x17.heap.size, 1, none⟩ = some (.slice Ak (nd 64 t.1.n) ck) ∧ w'.cell? ⟨x17.heap.size, 2, none⟩ = some (.int .i64 t.1.e) ∧ Below X17.heap.size X17 w')
        (first | exact ⟨u0, u1, u2, v0, v1, v2, k0, k1, k2, (Below.refl _ _).drew⟩ | ((try go_split_ands); refine ⟨keep_cell hx6 ?_, keep_cell hx6 ?_, keep_cell hx6 ?_, keep_cell hx6 ?_, keep_cell hx6 ?_, keep_cell hx6 ?_, keep_cell hx6 ?_, keep_cell hx6 ?_, keep_cell hx6 ?_, keep_below ?_ hx6⟩ <;> assumption) | ((try go_split_ands); refine ⟨keep_cell hx5 ?_, keep_cell hx5 ?_, keep_cell hx5 ?_, keep_cell hx5 ?_, keep_cell hx5 ?_, keep_cell hx5 ?_, keep_cell hx5 ?_, keep_cell hx5 ?_, keep_cell hx5 ?_, keep_below ?_ hx5⟩ <;> assumption) | ((try go_split_ands); refine ⟨keep_cell hx4 ?_, keep_cell hx4 ?_, keep_cell hx4 ?_, keep_cell hx4 ?_, keep_cell hx4 ?_, keep_cell hx4 ?_, keep_cell hx4 ?_, keep_cell hx4 ?_, keep_cell hx4 ?_, keep_below ?_ hx4⟩ <;> assumption) | ((try go_split_ands); refine ⟨keep_cell hx3 ?_, keep_cell hx3 ?_, keep_cell hx3 ?_, keep_cell hx3 ?_, keep_cell hx3 ?_, keep_cell hx3 ?_, keep_cell hx3 ?_, keep_cell hx3 ?_, keep_cell hx3 ?_, keep_below ?_ hx3⟩ <;> assumption) | ((try go_split_ands); refine ⟨keep_cell hx2 ?_, keep_cell hx2 ?_, keep_cell hx2 ?_, keep_cell hx2 ?_, keep_cell hx2 ?_, keep_cell hx2 ?_, keep_cell hx2 ?_, keep_cell hx2 ?_, keep_cell hx2 ?_, keep_below ?_ hx2⟩ <;> assumption) | ((try go_split_ands); refine ⟨keep_cell hx1 ?_, keep_cell hx1 ?_, keep_cell hx1 ?_, keep_cell hx1 ?_, keep_cell hx1 ?_, keep_cell hx1 ?_, keep_cell hx1 ?_, keep_cell hx1 ?_, keep_cell hx1 ?_, keep_below ?_ hx1⟩ <;> assumption))
        (first | (go_at_call 29; (try go_split_ands); (try simp only [w1]); (with_reducible refine (FromInt_any (m + n) _ ⟨b1l, b1h⟩ ?_).mono ?_); refine hGX.below ?_; assumption; rintro e w0 ⟨v05, rfl, hV0, hx1⟩; rw [K1.out] at hV0; obtain ⟨B0, b05, rfl, -, -, rr0, -⟩ := id hV0) | (go_at_call 16; (try go_split_ands); (with_reducible refine (same_any s.1.s s.1.s Au B0 s.1.n _ cu s.1.n _ b05 s.1.e s.1.e _ ?_ ?_).mono ?_); refine Ru.out.below ?_; assumption; exact rr0; rintro e w06 ⟨rfl, hx2⟩; rw [Ss.out]) | (go_at_call 29; (try go_split_ands); (try simp only [w2]); (with_reducible refine (FromInt_any (m - n) _ ⟨b2l, b2h⟩ ?_).mono ?_); refine hGX.below ?_; assumption; rintro e w1 ⟨v15, rfl, hV1, hx3⟩; rw [K2.out] at hV1; obtain ⟨B1, b15, rfl, -, -, rr1, -⟩ := id hV1) | (go_at_call 16; (try go_split_ands); (with_reducible refine (same_any d.1.s d.1.s Av B1 d.1.n _ cv d.1.n _ b15 d.1.e d.1.e _ ?_ ?_).mono ?_); refine Rv.out.below ?_; assumption; exact rr1; rintro e w16 ⟨rfl, hx4⟩; rw [Sd.out]) | (go_at_call 29; (try go_split_ands); (try simp only [w3]); (with_reducible refine (FromInt_any (m * n) _ ⟨b3l, b3h⟩ ?_).mono ?_); refine hGX.below ?_; assumption; rintro e w2 ⟨v25, rfl, hV2, hx5⟩; rw [K3.out] at hV2; obtain ⟨B2, b25, rfl, -, -, rr2, -⟩ := id hV2) | (go_at_call 16; (try go_split_ands); (with_reducible refine (same_any t.1.s t.1.s Ak B2 t.1.n _ ck t.1.n _ b25 t.1.e t.1.e _ ?_ ?_).mono ?_); refine Rk.out.below ?_; assumption; exact rr2; rintro e w26 ⟨rfl, hx6⟩; rw [St.out]))
      all_goals go_wp2_with fail
      all_goals go_meet
      case rel => exact ⟨rfl, by go_split_ands; assumption⟩
    case rest =>
      obtain ⟨rfl, hbc⟩ := hcut
      clear u0 u1 u2 Ru v0 v1 v2 Rv k0 k1 k2 Rk t1 t2 t3 Ss Sd St K1 K2 K3 hGX Ds Dd Dt w1 w2 w3
      replace HB := Lib.hid (keep_belowB HB.out hbc (Nat.le_refl _))
      replace Da := Lib.hid (Da.out.below hbc)
      clear hbc
      have Hsc : Hid ((scaleD (nd 64 a.n) a (-1)).2 = 0) := by show _ = _; rw [Ha.out]; exact int_scale hx
      obtain ⟨fl, hfl⟩ : ∃ fl : D × Int, fl = (fromIntD (halfI x), 0) := ⟨_, rfl⟩
      have Hfl := Lib.hid hfl
      clear hfl
      obtain ⟨Au, cu, ⟨u0, u1, u2, u3⟩, ru⟩ := Da.out.open
      have Ru := Lib.hid ru
      clear ru
      go_wp2_with fail
      refine (Scale_any a.s Au a.n _ cu a.e (-1) wc Ru.out (HG.out.below HB.out) (by decide)).mono ?_
      rintro _ x18 ⟨y18, rfl, hV18, hb18⟩
      obtain ⟨hh, hhh⟩ : ∃ hh, hh = scaleD (nd 64 a.n) a (-1) := ⟨_, rfl⟩
      rw [← hhh] at hV18 ⊢
      have Hhh := Lib.hid hhh
      clear hhh
      obtain ⟨A18, c18, rfl, -⟩ := id hV18
      obtain ⟨X18, hX18⟩ : ∃ X18, X18 = x18.alloc (Obj.cells #[Value.bool hh.1.s, Value.slice A18 (nd 64 hh.1.n) c18, Value.int IntKind.i64 hh.1.e] 26) := ⟨_, rfl⟩
      have ha18 : Below x18.heap.size x18 X18 := by rw [hX18]; exact below1 ..
      have Dh : Hid (DVB 0 x18.heap.size hh.1 X18) := by show DVB 0 x18.heap.size hh.1 X18; rw [hX18]; exact (DVB.new hV18).mono (Nat.zero_le _)
      replace HB := Lib.hid (keep_belowB HB.out hb18 (Nat.le_refl _))
      replace Da := Lib.hid (Da.out.below hb18)
      replace HB := Lib.hid (keep_belowB HB.out ha18 (Nat.le_refl _))
      replace Da := Lib.hid (Da.out.below ha18)
      clear hV18 hb18 ha18 u0 u1 u2 u3 Ru
      go_upto_region 16 with (fail)
      rw [← hX18]
      clear hX18
      have L6 : Hid (floorD (nd 64 hh.1.n) hh.1 = fl) := by show _ = _; rw [Hhh.out, Ha.out, Hfl.out]; exact int_half hx _ rfl
      obtain ⟨Au, cu, ⟨u0, u1, u2, u3⟩, ru⟩ := Dh.out.open
      have Ru := Lib.hid ru
      clear ru
      go_wp2_with fail
      refine (Floor_any hh.1.s Au hh.1.n _ cu hh.1.e X18 Ru.out (HG.out.below HB.out)).mono ?_
      rintro _ x19 ⟨y19, rfl, hV19, hb19⟩
      rw [L6.out] at hV19 ⊢
      obtain ⟨A19, c19, rfl, -⟩ := id hV19
      obtain ⟨X19, hX19⟩ : ∃ X19, X19 = x19.alloc (Obj.cells #[Value.bool fl.1.s, Value.slice A19 (nd 64 fl.1.n) c19, Value.int IntKind.i64 fl.1.e] 26) := ⟨_, rfl⟩
      have ha19 : Below x19.heap.size x19 X19 := by rw [hX19]; exact below1 ..
      have Df : Hid (DVB 0 x19.heap.size fl.1 X19) := by show DVB 0 x19.heap.size fl.1 X19; rw [hX19]; exact (DVB.new hV19).mono (Nat.zero_le _)
      replace HB := Lib.hid (keep_belowB HB.out hb19 (Nat.le_refl _))
      replace Da := Lib.hid (Da.out.below hb19)
      replace Dh := Lib.hid (Dh.out.below hb19)
      replace HB := Lib.hid (keep_belowB HB.out ha19 (Nat.le_refl _))
      replace Da := Lib.hid (Da.out.below ha19)
      replace Dh := Lib.hid (Dh.out.below ha19)
      clear hV19 hb19 ha19 u0 u1 u2 u3 Ru
      go_upto_region 17 with (fail)
      rw [← hX19]
      clear hX19
      have hd2 := Int.tmod_add_mul_tdiv x 2
      have h2a : -2 < x.tmod 2 := Int.lt_tmod_of_pos x (by decide)
      have h2b : x.tmod 2 < 2 := Int.tmod_lt_of_pos x (by decide)
      have w1 : IntKind.i64.wrap (x.tdiv 2) = x.tdiv 2 := by rw [IntKind.wrap_i64]; omega
      have hbh : -9223372036854775808 ≤ halfI x ∧ halfI x ≤ 9223372036854775807 := by rw [halfI_eq]; omega
      go_upto_if 154 with (fail)
      go_cut [18] from 19 (fun v wx => v = .int .i64 (halfI x) ∧ wx = X19)
      case first =>
        by_cases hx2 : x.tmod 2 < 0
        · have w2 : IntKind.i64.wrap (x.tdiv 2 - 1) = x.tdiv 2 - 1 := by rw [IntKind.wrap_i64]; omega
          have HE : Hid (halfI x = x.tdiv 2 - 1) := by show _ = _; unfold halfI; rw [if_pos hx2]
          go_wp2_with fail
          go_meet
          case rel => exact ⟨by rw [HE.out], rfl⟩
        · have HE : Hid (halfI x = x.tdiv 2) := by show _ = _; unfold halfI; rw [if_neg hx2]
          go_wp2_with fail
          go_meet
          case rel => exact ⟨by rw [HE.out], rfl⟩
      case rest =>
        obtain ⟨rfl, rfl⟩ := hcut
        clear hd2 h2a h2b w1
        have K1 : Hid (fromIntD (halfI x) = fl.1) := by show _ = _; rw [Hfl.out]
        generalize halfI x = hf at *
        have t1 : (hh.2 == 0) = true := by rw [Hhh.out, Hsc.out]; rfl
        have t2 : (fl.2 == 0) = true := by rw [Hfl.out]; rfl
        have Sf : Hid (sameB fl.1.s (nd 64 fl.1.n) fl.1.n fl.1.e fl.1.s (nd 64 fl.1.n) fl.1.n fl.1.e = true) := by show _ = _; simp [sameB, sameW]
        obtain ⟨Au, cu, ⟨u0, u1, u2, u3⟩, ru⟩ := Df.out.open
        have Ru := Lib.hid ru
        clear ru
        have hGX := (HG.out.below HB.out)
        clear u3
        obtain ⟨hbl, hbu⟩ := hbh
        go_upto_region 20 with (fail)
        go_cut [4] from 19 (fun v wx => v = .bool true ∧ Below wc.heap.size wc wx)
        case first =>
          go_region_held3 (fun w' => w'.cell? ⟨x19.heap.size, 0, none⟩ = some (.bool fl.1.s) ∧ w'.cell? ⟨x19.heap.size, 1, none⟩ = some (.slice Au (nd 64 fl.1.n) cu) ∧ w'.cell? ⟨x19.heap.size, 2, none⟩ = some (.int .i64 fl.1.e) ∧ Below wc.heap.size wc w')
            (first | exact ⟨u0, u1, u2, (Below.refl _ _).drew⟩ | ((try go_split_ands); refine ⟨keep_cell hx2 ?_, keep_cell hx2 ?_, keep_cell hx2 ?_, keep_below ?_ hx2⟩ <;> assumption) | ((try go_split_ands); refine ⟨keep_cell hx1 ?_, keep_cell hx1 ?_, keep_cell hx1 ?_, keep_below ?_ hx1⟩ <;> assumption))
            (first | (go_at_call 29; (try go_split_ands); (with_reducible refine (FromInt_any hf _ ⟨hbl, hbu⟩ ?_).mono ?_); refine hGX.below ?_; assumption; rintro e w1 ⟨v15, rfl, hV1, hx1⟩; rw [K1.out] at hV1; obtain ⟨B1, b15, rfl, -, -, rr1, -⟩ := id hV1) | (go_at_call 16; (try go_split_ands); (with_reducible refine (same_any fl.1.s fl.1.s Au B1 fl.1.n _ cu fl.1.n _ b15 fl.1.e fl.1.e _ ?_ ?_).mono ?_); refine Ru.out.below ?_; assumption; exact rr1; rintro e w16 ⟨rfl, hx2⟩; rw [Sf.out]))
          all_goals go_wp2_with fail
          all_goals go_meet
          case rel => exact ⟨rfl, by go_split_ands; assumption⟩
        case rest =>
          obtain ⟨rfl, hbc⟩ := hcut
          have HB9 := Lib.hid (keep_belowB HB.out hbc (Nat.le_refl _))
          clear hbc u0 u1 u2 t1 t2
          go_wp2_with fail
          go_ret
          exact ⟨rfl, HB9.out⟩

end Go.Proofs.YtomhmbnpkphcmaaDoor
