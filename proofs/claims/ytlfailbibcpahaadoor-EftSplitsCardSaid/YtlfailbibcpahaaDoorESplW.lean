/- The walk of EftSplits. Printed by gen/eftspl.py. -/
import Derived.Test.YtlfailbibcpahaaDoorETog
import Derived.Test.YtlfailbibcpahaaDoorEMirW
namespace Go.Proofs.YtlfailbibcpahaaDoor
set_option linter.unusedVariables false
set_option linter.unusedSimpArgs false
open Go.RowKit

theorem word_case {w : World} {A : Option Addr} {c N : Nat} (h : Rd 64 w (.slice A (nd 64 N) c) N (nd 64 N)) (hN : N < 18446744073709551616) :
    nd 64 N = 0 ∨ (nd 64 N = 1 ∧ ∃ b o, A = some ⟨b, o, none⟩ ∧ w.cell? ⟨b, o, none⟩ = some (.int .u64 N)) := by
  by_cases h0 : N = 0
  · left; rw [h0]; exact nd_zero 64
  · right
    have h1 := nd_word h0 hN
    refine ⟨h1, ?_⟩
    rw [h1] at h
    obtain ⟨A', c', e, -, -, -, hc⟩ := h
    injection e with e1 e2 e3
    subst e1 e3
    obtain ⟨b, o, rfl, -, hj⟩ := hc (by decide)
    refine ⟨b, o, rfl, ?_⟩
    have := hj 0 (by decide)
    rw [Nat.add_zero] at this
    rw [this]
    have : dg 64 N 0 = N := by unfold dg; simp; exact hN
    rw [this]



set_option maxRecDepth 100000 in
set_option maxHeartbeats 8000000 in
theorem splits_2 (f : Int) (a0 : Nat) (w : World) (hf : twoF f = 2) (ha0 : a0 < 18446744073709551616) (hG : Gl w) (hR : GlR w) :
    Calls Tryd.prog 4 #[.int .i64 f, .int .u64 a0] w fun e w' => e = .returned (.bool true) ∧ Below w.heap.size w w' := by
  have HA := Lib.hid (awakeE_any w)
  have hT := fun wx => two18_any f wx
  rw [hf] at hT
  have HT := Lib.hid hT
  have hn : 2 = 2 ∨ 2 = 3 := by decide
  have la := rightF_lt hn ha0
  have HRa := Lib.hid (fun wx => right18_any 2 a0 wx hn ha0)
  generalize rightF 2 a0 = a at *
  have hS := fun wx => Split_n 2 a wx hn (lt_64 la)
  have hV := fun wx h1 h2 => value18 2 a wx (by decide) la h1 h2
  have hlaw := split_law hn la
  have HG := Lib.hid hG
  have HR := Lib.hid hR
  clear hG hR hT ha0 hf hn
  rcases hlaw with ⟨fa, es⟩ | ⟨fa, es, t, et, ht⟩ | ⟨fa, h, l, lh, ll, es, fh, fl, mh, ml, ea, ec⟩
  · skip
    rw [fa] at hV
    rw [es] at hS
    rw [show tupE (0, 0, 40) = .tuple #[.int .u64 0, .int .u64 0, .int .i64 40] from rfl] at hS
    have HS := Lib.hid hS
    have HV := Lib.hid hV
    clear hS hV fa es la
    go_enter Tryd.func4, Tryd.ntmps4
    go_wp2_with fail
    refine HA.out.mono ?_
    rintro _ w1 ⟨rfl, hb⟩
    have HB := Lib.hid hb
    clear hb HA
    go_wp2_with fail
    refine (HT.out _).mono ?_
    rintro _ _ ⟨rfl, rfl⟩
    clear HT
    go_wp2_with fail
    refine (HRa.out _).mono ?_
    rintro _ _ ⟨rfl, rfl⟩
    clear HRa
    go_wp2_with fail
    refine (HV.out _ (HG.out.below HB.out) (HR.out.below HB.out)).mono ?_
    rintro _ w2 ⟨A1, c1, rfl, hrd, hb1⟩
    have hb2 := below1 w2 (.cells #[.bool (valA 2 a).s, .slice A1 (nd 64 (valA 2 a).n) c1, .int .i64 (valA 2 a).e] 34)
    have hb := hb1.trans (hb2.mono hb1.size)
    have V1 := Lib.hid (VB.new hrd 34)
    replace HB := Lib.hid (HB.out.trans (hb.mono HB.out.size))
    clear hb1 hb2 hb HV hrd
    go_wp2_with fail
    refine (HS.out _).mono ?_
    rintro _ w3 ⟨rfl, hb⟩
    replace HB := Lib.hid (HB.out.trans (hb.mono HB.out.size))
    replace V1 := Lib.hid (V1.out.below hb)
    clear hb HS
    go_wp2_with fail
    go_ret
    exact ⟨rfl, HB.out⟩
  · skip
    rw [fa] at hV
    rw [es] at hS
    rw [show tupE (0, 0, 7) = .tuple #[.int .u64 0, .int .u64 0, .int .i64 7] from rfl] at hS
    have hd : decide (99 ≤ t) = true := decide_eq_true ht
    have ET := Lib.hid et
    have HS := Lib.hid hS
    have HV := Lib.hid hV
    clear hS hV fa es la et ht
    go_enter Tryd.func4, Tryd.ntmps4
    go_wp2_with fail
    refine HA.out.mono ?_
    rintro _ w1 ⟨rfl, hb⟩
    have HB := Lib.hid hb
    clear hb HA
    go_wp2_with fail
    refine (HT.out _).mono ?_
    rintro _ _ ⟨rfl, rfl⟩
    clear HT
    go_wp2_with fail
    refine (HRa.out _).mono ?_
    rintro _ _ ⟨rfl, rfl⟩
    clear HRa
    go_wp2_with fail
    refine (HV.out _ (HG.out.below HB.out) (HR.out.below HB.out)).mono ?_
    rintro _ w2 ⟨A1, c1, rfl, hrd, hb1⟩
    have hb2 := below1 w2 (.cells #[.bool (valA 2 a).s, .slice A1 (nd 64 (valA 2 a).n) c1, .int .i64 (valA 2 a).e] 34)
    have hb := hb1.trans (hb2.mono hb1.size)
    have V1 := Lib.hid (VB.new hrd 34)
    replace HB := Lib.hid (HB.out.trans (hb.mono HB.out.size))
    clear hb1 hb2 hb HV hrd
    go_wp2_with fail
    refine (HS.out _).mono ?_
    rintro _ w3 ⟨rfl, hb⟩
    replace HB := Lib.hid (HB.out.trans (hb.mono HB.out.size))
    replace V1 := Lib.hid (V1.out.below hb)
    clear hb HS
    obtain ⟨x0, x1, x2, -, -⟩ := V1.out.bx.cells
    have hX := Top_any (valA 2 a).s A1 (valA 2 a).n (nd 64 (valA 2 a).n) c1 (valA 2 a).e _ V1.out.rd
    rw [show topD (nd 64 (valA 2 a).n) ⟨(valA 2 a).s, (valA 2 a).n, (valA 2 a).e⟩ = (t, 0) from ET.out] at hX
    have HX := Lib.hid hX
    clear hX
    go_wp2_with fail
    refine HX.out.mono ?_
    rintro _ w4 ⟨rfl, hb⟩
    replace HB := Lib.hid (HB.out.trans (hb.mono HB.out.size))
    clear hb HX x0 x1 x2
    go_wp2_with fail
    go_ret
    exact ⟨rfl, HB.out⟩
  · skip
    rw [fa] at hV
    rw [es] at hS
    rw [show tupE (h, l, 0) = .tuple #[.int .u64 (h : Int), .int .u64 (l : Int), .int .i64 0] from rfl] at hS
    have hVh := fun wx h1 h2 => value18 2 h wx (by decide) lh h1 h2
    have hVl := fun wx h1 h2 => value18 2 l wx (by decide) ll h1 h2
    rw [fh] at hVh
    rw [fl] at hVl
    have htog := fun A c wx h1 h2 h3 => together18 2 h l (valA 2 a) A c wx (by decide) lh ll fh fl ea ec h1 h2 h3
    have HTG := Lib.hid htog
    have HVh := Lib.hid hVh
    have HVl := Lib.hid hVl
    generalize valA 2 a = x at *
    generalize valA 2 h = u at *
    generalize valA 2 l = v at *
    have MH := Lib.hid mh
    have ML := Lib.hid ml
    have HS := Lib.hid hS
    have HV := Lib.hid hV
    clear hS hV fa es la hVh hVl htog mh ml ea ec fh fl lh ll
    go_enter Tryd.func4, Tryd.ntmps4
    go_wp2_with fail
    refine HA.out.mono ?_
    rintro _ w1 ⟨rfl, hb⟩
    have HB := Lib.hid hb
    clear hb HA
    go_wp2_with fail
    refine (HT.out _).mono ?_
    rintro _ _ ⟨rfl, rfl⟩
    clear HT
    go_wp2_with fail
    refine (HRa.out _).mono ?_
    rintro _ _ ⟨rfl, rfl⟩
    clear HRa
    go_wp2_with fail
    refine (HV.out _ (HG.out.below HB.out) (HR.out.below HB.out)).mono ?_
    rintro _ w2 ⟨A1, c1, rfl, hrd, hb1⟩
    have hb2 := below1 w2 (.cells #[.bool x.s, .slice A1 (nd 64 x.n) c1, .int .i64 x.e] 34)
    have hb := hb1.trans (hb2.mono hb1.size)
    have V1 := Lib.hid (VB.new hrd 34)
    replace HB := Lib.hid (HB.out.trans (hb.mono HB.out.size))
    clear hb1 hb2 hb HV hrd
    go_wp2_with fail
    refine (HS.out _).mono ?_
    rintro _ w3 ⟨rfl, hb⟩
    replace HB := Lib.hid (HB.out.trans (hb.mono HB.out.size))
    replace V1 := Lib.hid (V1.out.below hb)
    clear hb HS
    go_wp2_with fail
    refine (HVh.out _ (HG.out.below HB.out) (HR.out.below HB.out)).mono ?_
    rintro _ w4 ⟨A2, c2, rfl, hrd, hb1⟩
    have hb2 := below1 w4 (.cells #[.bool u.s, .slice A2 (nd 64 u.n) c2, .int .i64 u.e] 34)
    have hb := hb1.trans (hb2.mono hb1.size)
    have V2 := Lib.hid (VB.new hrd 34)
    replace V1 := Lib.hid (V1.out.below hb)
    replace HB := Lib.hid (HB.out.trans (hb.mono HB.out.size))
    clear hb1 hb2 hb HVh hrd
    go_wp2_with fail
    refine (HVl.out _ (HG.out.below HB.out) (HR.out.below HB.out)).mono ?_
    rintro _ w5 ⟨A3, c3, rfl, hrd, hb1⟩
    have hb2 := below1 w5 (.cells #[.bool v.s, .slice A3 (nd 64 v.n) c3, .int .i64 v.e] 34)
    have hb := hb1.trans (hb2.mono hb1.size)
    have V3 := Lib.hid (VB.new hrd 34)
    replace V1 := Lib.hid (V1.out.below hb)
    replace V2 := Lib.hid (V2.out.below hb)
    replace HB := Lib.hid (HB.out.trans (hb.mono HB.out.size))
    clear hb1 hb2 hb HVl hrd
    obtain ⟨x0, x1, x2, -, -⟩ := V1.out.bx.cells
    have HX := Lib.hid (HTG.out A1 c1 _ V1.out.rd (HG.out.below HB.out) (HR.out.below HB.out))
    clear HTG
    go_wp2_with fail
    refine HX.out.mono ?_
    rintro _ w6 ⟨rfl, hb⟩
    replace HB := Lib.hid (HB.out.trans (hb.mono HB.out.size))
    replace V2 := Lib.hid (V2.out.below hb)
    replace V3 := Lib.hid (V3.out.below hb)
    clear hb HX x0 x1 x2 V1
    obtain ⟨y0, y1, y2, -, -⟩ := V2.out.bx.cells
    obtain ⟨z0, z1, z2, -, -⟩ := V3.out.bx.cells
    have du : decide ((u.n : Int) < 4096) = true := decide_eq_true (by have : u.n < 4096 := MH.out; omega)
    have dv : decide ((v.n : Int) < 4096) = true := decide_eq_true (by have : v.n < 4096 := ML.out; omega)
    have cu := word_case V2.out.rd (Nat.lt_trans MH.out (by decide))
    have cv := word_case V3.out.rd (Nat.lt_trans ML.out (by decide))
    generalize nd 64 u.n = ku at *
    generalize nd 64 v.n = kv at *
    clear V2 V3 MH ML
    rcases cu with rfl | ⟨rfl, bu, ou, rfl, ku0⟩ <;> rcases cv with rfl | ⟨rfl, bv, ov, rfl, kv0⟩
    all_goals
      go_wp2_with fail
      go_ret
      exact ⟨rfl, HB.out⟩

set_option maxRecDepth 100000 in
set_option maxHeartbeats 8000000 in
theorem splits_3 (f : Int) (a0 : Nat) (w : World) (hf : twoF f = 3) (ha0 : a0 < 18446744073709551616) (hG : Gl w) (hR : GlR w) :
    Calls Tryd.prog 4 #[.int .i64 f, .int .u64 a0] w fun e w' => e = .returned (.bool true) ∧ Below w.heap.size w w' := by
  have HA := Lib.hid (awakeE_any w)
  have hT := fun wx => two18_any f wx
  rw [hf] at hT
  have HT := Lib.hid hT
  have hn : 3 = 2 ∨ 3 = 3 := by decide
  have la := rightF_lt hn ha0
  have HRa := Lib.hid (fun wx => right18_any 3 a0 wx hn ha0)
  generalize rightF 3 a0 = a at *
  have hS := fun wx => Split_n 3 a wx hn (lt_64 la)
  have hV := fun wx h1 h2 => value18 3 a wx (by decide) la h1 h2
  have hlaw := split_law hn la
  have HG := Lib.hid hG
  have HR := Lib.hid hR
  clear hG hR hT ha0 hf hn
  rcases hlaw with ⟨fa, es⟩ | ⟨fa, es, t, et, ht⟩ | ⟨fa, h, l, lh, ll, es, fh, fl, mh, ml, ea, ec⟩
  · skip
    rw [fa] at hV
    rw [es] at hS
    rw [show tupE (0, 0, 40) = .tuple #[.int .u64 0, .int .u64 0, .int .i64 40] from rfl] at hS
    have HS := Lib.hid hS
    have HV := Lib.hid hV
    clear hS hV fa es la
    go_enter Tryd.func4, Tryd.ntmps4
    go_wp2_with fail
    refine HA.out.mono ?_
    rintro _ w1 ⟨rfl, hb⟩
    have HB := Lib.hid hb
    clear hb HA
    go_wp2_with fail
    refine (HT.out _).mono ?_
    rintro _ _ ⟨rfl, rfl⟩
    clear HT
    go_wp2_with fail
    refine (HRa.out _).mono ?_
    rintro _ _ ⟨rfl, rfl⟩
    clear HRa
    go_wp2_with fail
    refine (HV.out _ (HG.out.below HB.out) (HR.out.below HB.out)).mono ?_
    rintro _ w2 ⟨A1, c1, rfl, hrd, hb1⟩
    have hb2 := below1 w2 (.cells #[.bool (valA 3 a).s, .slice A1 (nd 64 (valA 3 a).n) c1, .int .i64 (valA 3 a).e] 34)
    have hb := hb1.trans (hb2.mono hb1.size)
    have V1 := Lib.hid (VB.new hrd 34)
    replace HB := Lib.hid (HB.out.trans (hb.mono HB.out.size))
    clear hb1 hb2 hb HV hrd
    go_wp2_with fail
    refine (HS.out _).mono ?_
    rintro _ w3 ⟨rfl, hb⟩
    replace HB := Lib.hid (HB.out.trans (hb.mono HB.out.size))
    replace V1 := Lib.hid (V1.out.below hb)
    clear hb HS
    go_wp2_with fail
    go_ret
    exact ⟨rfl, HB.out⟩
  · skip
    rw [fa] at hV
    rw [es] at hS
    rw [show tupE (0, 0, 7) = .tuple #[.int .u64 0, .int .u64 0, .int .i64 7] from rfl] at hS
    have hd : decide (99 ≤ t) = true := decide_eq_true ht
    have ET := Lib.hid et
    have HS := Lib.hid hS
    have HV := Lib.hid hV
    clear hS hV fa es la et ht
    go_enter Tryd.func4, Tryd.ntmps4
    go_wp2_with fail
    refine HA.out.mono ?_
    rintro _ w1 ⟨rfl, hb⟩
    have HB := Lib.hid hb
    clear hb HA
    go_wp2_with fail
    refine (HT.out _).mono ?_
    rintro _ _ ⟨rfl, rfl⟩
    clear HT
    go_wp2_with fail
    refine (HRa.out _).mono ?_
    rintro _ _ ⟨rfl, rfl⟩
    clear HRa
    go_wp2_with fail
    refine (HV.out _ (HG.out.below HB.out) (HR.out.below HB.out)).mono ?_
    rintro _ w2 ⟨A1, c1, rfl, hrd, hb1⟩
    have hb2 := below1 w2 (.cells #[.bool (valA 3 a).s, .slice A1 (nd 64 (valA 3 a).n) c1, .int .i64 (valA 3 a).e] 34)
    have hb := hb1.trans (hb2.mono hb1.size)
    have V1 := Lib.hid (VB.new hrd 34)
    replace HB := Lib.hid (HB.out.trans (hb.mono HB.out.size))
    clear hb1 hb2 hb HV hrd
    go_wp2_with fail
    refine (HS.out _).mono ?_
    rintro _ w3 ⟨rfl, hb⟩
    replace HB := Lib.hid (HB.out.trans (hb.mono HB.out.size))
    replace V1 := Lib.hid (V1.out.below hb)
    clear hb HS
    obtain ⟨x0, x1, x2, -, -⟩ := V1.out.bx.cells
    have hX := Top_any (valA 3 a).s A1 (valA 3 a).n (nd 64 (valA 3 a).n) c1 (valA 3 a).e _ V1.out.rd
    rw [show topD (nd 64 (valA 3 a).n) ⟨(valA 3 a).s, (valA 3 a).n, (valA 3 a).e⟩ = (t, 0) from ET.out] at hX
    have HX := Lib.hid hX
    clear hX
    go_wp2_with fail
    refine HX.out.mono ?_
    rintro _ w4 ⟨rfl, hb⟩
    replace HB := Lib.hid (HB.out.trans (hb.mono HB.out.size))
    clear hb HX x0 x1 x2
    go_wp2_with fail
    go_ret
    exact ⟨rfl, HB.out⟩
  · skip
    rw [fa] at hV
    rw [es] at hS
    rw [show tupE (h, l, 0) = .tuple #[.int .u64 (h : Int), .int .u64 (l : Int), .int .i64 0] from rfl] at hS
    have hVh := fun wx h1 h2 => value18 3 h wx (by decide) lh h1 h2
    have hVl := fun wx h1 h2 => value18 3 l wx (by decide) ll h1 h2
    rw [fh] at hVh
    rw [fl] at hVl
    have htog := fun A c wx h1 h2 h3 => together18 3 h l (valA 3 a) A c wx (by decide) lh ll fh fl ea ec h1 h2 h3
    have HTG := Lib.hid htog
    have HVh := Lib.hid hVh
    have HVl := Lib.hid hVl
    generalize valA 3 a = x at *
    generalize valA 3 h = u at *
    generalize valA 3 l = v at *
    have MH := Lib.hid mh
    have ML := Lib.hid ml
    have HS := Lib.hid hS
    have HV := Lib.hid hV
    clear hS hV fa es la hVh hVl htog mh ml ea ec fh fl lh ll
    go_enter Tryd.func4, Tryd.ntmps4
    go_wp2_with fail
    refine HA.out.mono ?_
    rintro _ w1 ⟨rfl, hb⟩
    have HB := Lib.hid hb
    clear hb HA
    go_wp2_with fail
    refine (HT.out _).mono ?_
    rintro _ _ ⟨rfl, rfl⟩
    clear HT
    go_wp2_with fail
    refine (HRa.out _).mono ?_
    rintro _ _ ⟨rfl, rfl⟩
    clear HRa
    go_wp2_with fail
    refine (HV.out _ (HG.out.below HB.out) (HR.out.below HB.out)).mono ?_
    rintro _ w2 ⟨A1, c1, rfl, hrd, hb1⟩
    have hb2 := below1 w2 (.cells #[.bool x.s, .slice A1 (nd 64 x.n) c1, .int .i64 x.e] 34)
    have hb := hb1.trans (hb2.mono hb1.size)
    have V1 := Lib.hid (VB.new hrd 34)
    replace HB := Lib.hid (HB.out.trans (hb.mono HB.out.size))
    clear hb1 hb2 hb HV hrd
    go_wp2_with fail
    refine (HS.out _).mono ?_
    rintro _ w3 ⟨rfl, hb⟩
    replace HB := Lib.hid (HB.out.trans (hb.mono HB.out.size))
    replace V1 := Lib.hid (V1.out.below hb)
    clear hb HS
    go_wp2_with fail
    refine (HVh.out _ (HG.out.below HB.out) (HR.out.below HB.out)).mono ?_
    rintro _ w4 ⟨A2, c2, rfl, hrd, hb1⟩
    have hb2 := below1 w4 (.cells #[.bool u.s, .slice A2 (nd 64 u.n) c2, .int .i64 u.e] 34)
    have hb := hb1.trans (hb2.mono hb1.size)
    have V2 := Lib.hid (VB.new hrd 34)
    replace V1 := Lib.hid (V1.out.below hb)
    replace HB := Lib.hid (HB.out.trans (hb.mono HB.out.size))
    clear hb1 hb2 hb HVh hrd
    go_wp2_with fail
    refine (HVl.out _ (HG.out.below HB.out) (HR.out.below HB.out)).mono ?_
    rintro _ w5 ⟨A3, c3, rfl, hrd, hb1⟩
    have hb2 := below1 w5 (.cells #[.bool v.s, .slice A3 (nd 64 v.n) c3, .int .i64 v.e] 34)
    have hb := hb1.trans (hb2.mono hb1.size)
    have V3 := Lib.hid (VB.new hrd 34)
    replace V1 := Lib.hid (V1.out.below hb)
    replace V2 := Lib.hid (V2.out.below hb)
    replace HB := Lib.hid (HB.out.trans (hb.mono HB.out.size))
    clear hb1 hb2 hb HVl hrd
    obtain ⟨x0, x1, x2, -, -⟩ := V1.out.bx.cells
    have HX := Lib.hid (HTG.out A1 c1 _ V1.out.rd (HG.out.below HB.out) (HR.out.below HB.out))
    clear HTG
    go_wp2_with fail
    refine HX.out.mono ?_
    rintro _ w6 ⟨rfl, hb⟩
    replace HB := Lib.hid (HB.out.trans (hb.mono HB.out.size))
    replace V2 := Lib.hid (V2.out.below hb)
    replace V3 := Lib.hid (V3.out.below hb)
    clear hb HX x0 x1 x2 V1
    obtain ⟨y0, y1, y2, -, -⟩ := V2.out.bx.cells
    obtain ⟨z0, z1, z2, -, -⟩ := V3.out.bx.cells
    have du : decide ((u.n : Int) < 67108864) = true := decide_eq_true (by have : u.n < 67108864 := MH.out; omega)
    have dv : decide ((v.n : Int) < 67108864) = true := decide_eq_true (by have : v.n < 67108864 := ML.out; omega)
    have cu := word_case V2.out.rd (Nat.lt_trans MH.out (by decide))
    have cv := word_case V3.out.rd (Nat.lt_trans ML.out (by decide))
    generalize nd 64 u.n = ku at *
    generalize nd 64 v.n = kv at *
    clear V2 V3 MH ML
    rcases cu with rfl | ⟨rfl, bu, ou, rfl, ku0⟩ <;> rcases cv with rfl | ⟨rfl, bv, ov, rfl, kv0⟩
    all_goals
      go_wp2_with fail
      go_ret
      exact ⟨rfl, HB.out⟩

theorem splits_any (f : Int) (a0 : Nat) (w : World) (ha0 : a0 < 18446744073709551616) (hG : Gl w) (hR : GlR w) :
    Calls Tryd.prog 4 #[.int .i64 f, .int .u64 a0] w fun e w' => e = .returned (.bool true) ∧ Below w.heap.size w w' := by
  rcases twoF_ok f with h | h
  · exact splits_2 f a0 w h ha0 hG hR
  · exact splits_3 f a0 w h ha0 hG hR

end Go.Proofs.YtlfailbibcpahaaDoor
