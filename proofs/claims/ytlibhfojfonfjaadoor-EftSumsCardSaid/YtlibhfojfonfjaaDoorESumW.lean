/- The walks of light and EftSums. Printed by gen/eftsum.py. -/
import Derived.Test.YtlibhfojfonfjaaDoorESum
import Derived.Test.YtlibhfojfonfjaaDoorETog
import Derived.Test.YtlibhfojfonfjaaDoorAddC
namespace Go.Proofs.YtlibhfojfonfjaaDoor
set_option linter.unusedVariables false
set_option linter.unusedSimpArgs false
open Go.RowKit

theorem lt_64' {n x : Nat} (h : x < 2 ^ (fm n).w) : x < 18446744073709551616 := Nat.lt_of_lt_of_le h (Nat.pow_le_pow_right (show 0 < 2 by decide) (fm_ok n).w64)

theorem TwoSum_m (n a b : Nat) (w : World) (hn : n = 2 ∨ n = 3) (ha : a < 18446744073709551616) (hb : b < 18446744073709551616) :
    Calls Tryd.prog 8 #[.int .i64 n, .int .u64 a, .int .u64 b] w fun e w' => e = .returned (tupE (sumE n a b)) ∧ Below w.heap.size w w' := by
  rcases hn with rfl | rfl
  · exact TwoSum_c2 a b w
  · exact TwoSum_c3 a b w ha hb

theorem FastTwoSum_m (n a b : Nat) (w : World) (hn : n = 2 ∨ n = 3) (ha : a < 18446744073709551616) (hb : b < 18446744073709551616) :
    Calls Tryd.prog 9 #[.int .i64 n, .int .u64 a, .int .u64 b] w fun e w' => e = .returned (tupE (fastE n a b)) ∧ Below w.heap.size w w' := by
  rcases hn with rfl | rfl
  · exact FastTwoSum_c2 a b w
  · exact FastTwoSum_c3 a b w ha hb


theorem sz_2 (a : Nat) (w : World) (ha : a < 18446744073709551616) : Calls Tryd.prog 35 #[.int .i64 2, .int .u64 a] w fun e w' => e = .returned (.int .u64 ((fm 2).abs a : Nat)) ∧ w = w' := by
  have hP : Calls Tryd.prog 70 #[.int .i64 2] w fun e w' => e = .returned (.tuple #[.int .i64 32, .int .i64 24, .int .i64 (-126)]) ∧ w = w' := rparams18 2 w (by decide)
  have e1 : ((fm 2).abs a : Int) = (a : Int).tmod 2147483648 := by
    rw [Int.tmod_eq_emod_of_nonneg (by omega)]
    show ((a % 2 ^ (32 - 1) : Nat) : Int) = _
    omega
  have e2 : (a : Int).tmod 2147483648 = ((a % 2147483648 : Nat) : Int) := by rw [Int.tmod_eq_emod_of_nonneg (by omega)]; omega
  rw [e1, e2]
  have hm : a % 2147483648 < 18446744073709551616 := by omega
  clear e1
  go_enter Tryd.func35, Tryd.ntmps35
  go_wp2_with fail
  refine hP.mono ?_
  rintro _ _ ⟨rfl, rfl⟩
  go_wp2_with fail
  go_ret
  exact ⟨by go_num, rfl⟩


theorem sz_3 (a : Nat) (w : World) (ha : a < 18446744073709551616) : Calls Tryd.prog 35 #[.int .i64 3, .int .u64 a] w fun e w' => e = .returned (.int .u64 ((fm 3).abs a : Nat)) ∧ w = w' := by
  have hP : Calls Tryd.prog 70 #[.int .i64 3] w fun e w' => e = .returned (.tuple #[.int .i64 64, .int .i64 53, .int .i64 (-1022)]) ∧ w = w' := rparams18 3 w (by decide)
  have e1 : ((fm 3).abs a : Int) = (a : Int).tmod 9223372036854775808 := by
    rw [Int.tmod_eq_emod_of_nonneg (by omega)]
    show ((a % 2 ^ (64 - 1) : Nat) : Int) = _
    omega
  have e2 : (a : Int).tmod 9223372036854775808 = ((a % 9223372036854775808 : Nat) : Int) := by rw [Int.tmod_eq_emod_of_nonneg (by omega)]; omega
  rw [e1, e2]
  have hm : a % 9223372036854775808 < 18446744073709551616 := by omega
  clear e1
  go_enter Tryd.func35, Tryd.ntmps35
  go_wp2_with fail
  refine hP.mono ?_
  rintro _ _ ⟨rfl, rfl⟩
  go_wp2_with fail
  go_ret
  exact ⟨by go_num, rfl⟩


theorem sz_n (n a : Nat) (w : World) (hn : n = 2 ∨ n = 3) (ha : a < 18446744073709551616) : Calls Tryd.prog 35 #[.int .i64 n, .int .u64 a] w fun e w' => e = .returned (.int .u64 ((fm n).abs a : Nat)) ∧ w = w' := by
  rcases hn with rfl | rfl
  · exact sz_2 a w ha
  · exact sz_3 a w ha

set_option maxRecDepth 100000 in
theorem light18 (n s r : Nat) (w : World) (hn : n = 2 ∨ n = 3) (ls : s < 2 ^ (fm n).w) (lr : r < 2 ^ (fm n).w) (h : addR (fm n) s r = s ∨ ((fm n).abs s = 0 ∧ (fm n).abs (addR (fm n) s r) = 0)) (hG : Gl w) (hR : GlR w) :
    Calls Tryd.prog 13 #[.int .i64 n, .int .u64 s, .int .u64 r] w fun e w' => e = .returned (.bool true) ∧ Below w.heap.size w w' := by
  have lx := addR_lt (fm_ok n) ls lr
  have hA := Add_ok n 0 s r w (by omega) (by decide) ls lr hG hR
  have hz1 := fun wx => sz_n n s wx hn (lt_64' ls)
  have hz2 := fun wx => sz_n n (addR (fm n) s r) wx hn (lt_64' lx)
  rw [show (addS (fm n) 0 s r).1 = addR (fm n) s r from rfl] at hA
  generalize addR (fm n) s r = x at *
  generalize (addS (fm n) 0 s r).2 = fl at *
  clear hG hR hn ls lr lx
  by_cases hx : x = s
  · have HA := Lib.hid hA
    subst hx
    clear hA hz1 hz2 h
    go_enter Tryd.func13, Tryd.ntmps13
    go_wp2_with fail
    refine HA.out.mono ?_
    rintro _ w1 ⟨rfl, hb⟩
    have HB := Lib.hid hb
    clear hb HA
    go_wp2_with fail
    go_ret
    exact ⟨rfl, HB.out⟩
  · obtain ⟨h1, h2⟩ := h.resolve_left hx
    rw [h1] at hz1
    rw [h2] at hz2
    have hne : ((x : Int) == s) = false := by
      simp only [beq_eq_false_iff_ne]
      omega
    have HA := Lib.hid hA
    have HZ1 := Lib.hid hz1
    have HZ2 := Lib.hid hz2
    clear hA hz1 hz2 h hx h1 h2
    go_enter Tryd.func13, Tryd.ntmps13
    go_wp2_with fail
    refine HA.out.mono ?_
    rintro _ w1 ⟨rfl, hb⟩
    have HB := Lib.hid hb
    clear hb HA
    go_wp2_with fail
    refine (HZ1.out _).mono ?_
    rintro _ _ ⟨rfl, rfl⟩
    go_wp2_with fail
    refine (HZ2.out _).mono ?_
    rintro _ _ ⟨rfl, rfl⟩
    clear HZ1 HZ2
    go_wp2_with fail
    go_ret
    exact ⟨rfl, HB.out⟩

/-- what the walk needs of an answer that is right -/
theorem good_walk {n a b s r : Nat} {d : D} (hn : n = 2 ∨ n = 3) (h : Good n a b d s r) (hc : cmpD (nd 64 d.n) d (nd 64 d.n) d = (0, 0)) :
    s = addR (fm n) a b ∧ (∀ A c w, Rd 64 w (.slice A (nd 64 d.n) c) d.n (nd 64 d.n) → Gl w → GlR w → Calls Tryd.prog 12 #[.int .i64 n, .int .u64 s, .int .u64 r, .agg #[.bool d.s, .slice A (nd 64 d.n) c, .int .i64 d.e]] w fun e w' => e = .returned (.bool true) ∧ Below w.heap.size w w') ∧
    (∀ w, Gl w → GlR w → Calls Tryd.prog 13 #[.int .i64 n, .int .u64 s, .int .u64 r] w fun e w' => e = .returned (.bool true) ∧ Below w.heap.size w w') := by
  obtain ⟨h1, h2, h3, h4, h5, h6, h7⟩ := h
  exact ⟨h1, fun A c w hr hG hR => together18 n s r d A c w (by omega) h2 h3 h4 h5 h6 hc hr hG hR, fun w hG hR => light18 n s r w hn h2 h3 h7 hG hR⟩

set_option maxRecDepth 100000 in
set_option maxHeartbeats 16000000 in
theorem sums_any (f : Int) (a0 b0 : Nat) (w : World) (ha0 : a0 < 18446744073709551616) (hb0 : b0 < 18446744073709551616) (hG : Gl w) (hR : GlR w) :
    Calls Tryd.prog 3 #[.int .i64 f, .int .u64 a0, .int .u64 b0] w fun e w' => e = .returned (.bool true) ∧ Below w.heap.size w w' := by
  have HA := Lib.hid (awakeE_any w)
  have HT := Lib.hid (fun wx => two18_any f wx)
  have hn := twoF_ok f
  generalize twoF f = n at *
  have hn4 : n < 4 := by omega
  have la := rightF_lt hn ha0
  have lb := rightF_lt hn hb0
  have HRa := Lib.hid (fun wx => right18_any n a0 wx hn ha0)
  have HRb := Lib.hid (fun wx => right18_any n b0 wx hn hb0)
  generalize rightF n a0 = a at *
  generalize rightF n b0 = b at *
  have hS := fun wx => TwoSum_m n a b wx hn (lt_64' la) (lt_64' lb)
  have hT := fun wx => TwoSum_m n b a wx hn (lt_64' lb) (lt_64' la)
  have hF := fun wx => FastTwoSum_m n a b wx hn (lt_64' la) (lt_64' lb)
  have hV := fun wx h1 h2 => value18 n a wx hn4 la h1 h2
  have hU := fun wx h1 h2 => value18 n b wx hn4 lb h1 h2
  have hZ := fun wx h1 h2 => Add_ok n 0 a b wx hn4 (by decide) la lb h1 h2
  have hlaw := sums_law hn4 la lb
  have HG := Lib.hid hG
  have HR := Lib.hid hR
  clear hG hR ha0 hb0 la lb
  have hfalse : ∀ s r : Nat, ∀ e : Int, tupE (s, r, e) = .tuple #[.int .u64 (s : Int), .int .u64 (r : Int), .int .i64 e] := fun _ _ _ => rfl
  rcases hlaw with ⟨hf, es, eg⟩ | ⟨fa, fb, d, hd, hc, hsum, hmus, hfast⟩
  · rw [es, hfalse] at hS
    rw [eg, hfalse] at hF
    have HS := Lib.hid hS
    have HF := Lib.hid hF
    have HV := Lib.hid hV
    have HU := Lib.hid hU
    generalize valA n a = x at *
    generalize valA n b = y at *
    clear hS hF hV hU
    clear hT hZ es eg hfalse hn hn4
    generalize finP (fm n) a = pa at *
    generalize finP (fm n) b = pb at *
    cases pa
    · clear hf
      go_enter Tryd.func3, Tryd.ntmps3
      go_wp2_with fail
      refine HA.out.mono ?_
      rintro _ w1 ⟨rfl, hb⟩
      have HB := Lib.hid hb
      clear hb HA
      go_wp2_with fail
      refine (HT.out _).mono ?_
      rintro _ _ ⟨rfl, rfl⟩
      clear HT
      go_wp2_with fail
      refine (HRa.out _).mono ?_
      rintro _ _ ⟨rfl, rfl⟩
      clear HRa
      go_wp2_with fail
      refine (HRb.out _).mono ?_
      rintro _ _ ⟨rfl, rfl⟩
      clear HRb
      go_wp2_with fail
      refine (HV.out _ (HG.out.below HB.out) (HR.out.below HB.out)).mono ?_
      rintro _ w2 ⟨A1, c1, rfl, hrd, hb1⟩
      have hb2 := below1 w2 (.cells #[.bool x.s, .slice A1 (nd 64 x.n) c1, .int .i64 x.e] 28)
      have hb := hb1.trans (hb2.mono hb1.size)
      have V1 := Lib.hid (VB.new hrd 28)
      replace HB := Lib.hid (HB.out.trans (hb.mono HB.out.size))
      clear hb1 hb2 hb HV hrd
      go_wp2_with fail
      refine (HU.out _ (HG.out.below HB.out) (HR.out.below HB.out)).mono ?_
      rintro _ w3 ⟨A2, c2, rfl, hrd, hb1⟩
      have hb2 := below1 w3 (.cells #[.bool y.s, .slice A2 (nd 64 y.n) c2, .int .i64 y.e] 28)
      have hb := hb1.trans (hb2.mono hb1.size)
      have V2 := Lib.hid (VB.new hrd 28)
      replace V1 := Lib.hid (V1.out.below hb)
      replace HB := Lib.hid (HB.out.trans (hb.mono HB.out.size))
      clear hb1 hb2 hb HU hrd
      go_wp2_with fail
      refine (HS.out _).mono ?_
      rintro _ w4 ⟨rfl, hb⟩
      replace HB := Lib.hid (HB.out.trans (hb.mono HB.out.size))
      replace V1 := Lib.hid (V1.out.below hb)
      replace V2 := Lib.hid (V2.out.below hb)
      clear hb HS
      go_wp2_with fail
      refine (HF.out _).mono ?_
      rintro _ w5 ⟨rfl, hb⟩
      replace HB := Lib.hid (HB.out.trans (hb.mono HB.out.size))
      replace V1 := Lib.hid (V1.out.below hb)
      replace V2 := Lib.hid (V2.out.below hb)
      clear hb HF
      go_wp2_with fail
      go_ret
      exact ⟨rfl, HB.out⟩
    · cases pb
      rotate_left
      · simp at hf
      clear hf
      go_enter Tryd.func3, Tryd.ntmps3
      go_wp2_with fail
      refine HA.out.mono ?_
      rintro _ w1 ⟨rfl, hb⟩
      have HB := Lib.hid hb
      clear hb HA
      go_wp2_with fail
      refine (HT.out _).mono ?_
      rintro _ _ ⟨rfl, rfl⟩
      clear HT
      go_wp2_with fail
      refine (HRa.out _).mono ?_
      rintro _ _ ⟨rfl, rfl⟩
      clear HRa
      go_wp2_with fail
      refine (HRb.out _).mono ?_
      rintro _ _ ⟨rfl, rfl⟩
      clear HRb
      go_wp2_with fail
      refine (HV.out _ (HG.out.below HB.out) (HR.out.below HB.out)).mono ?_
      rintro _ w2 ⟨A1, c1, rfl, hrd, hb1⟩
      have hb2 := below1 w2 (.cells #[.bool x.s, .slice A1 (nd 64 x.n) c1, .int .i64 x.e] 28)
      have hb := hb1.trans (hb2.mono hb1.size)
      have V1 := Lib.hid (VB.new hrd 28)
      replace HB := Lib.hid (HB.out.trans (hb.mono HB.out.size))
      clear hb1 hb2 hb HV hrd
      go_wp2_with fail
      refine (HU.out _ (HG.out.below HB.out) (HR.out.below HB.out)).mono ?_
      rintro _ w3 ⟨A2, c2, rfl, hrd, hb1⟩
      have hb2 := below1 w3 (.cells #[.bool y.s, .slice A2 (nd 64 y.n) c2, .int .i64 y.e] 28)
      have hb := hb1.trans (hb2.mono hb1.size)
      have V2 := Lib.hid (VB.new hrd 28)
      replace V1 := Lib.hid (V1.out.below hb)
      replace HB := Lib.hid (HB.out.trans (hb.mono HB.out.size))
      clear hb1 hb2 hb HU hrd
      go_wp2_with fail
      refine (HS.out _).mono ?_
      rintro _ w4 ⟨rfl, hb⟩
      replace HB := Lib.hid (HB.out.trans (hb.mono HB.out.size))
      replace V1 := Lib.hid (V1.out.below hb)
      replace V2 := Lib.hid (V2.out.below hb)
      clear hb HS
      go_wp2_with fail
      refine (HF.out _).mono ?_
      rintro _ w5 ⟨rfl, hb⟩
      replace HB := Lib.hid (HB.out.trans (hb.mono HB.out.size))
      replace V1 := Lib.hid (V1.out.below hb)
      replace V2 := Lib.hid (V2.out.below hb)
      clear hb HF
      go_wp2_with fail
      go_ret
      exact ⟨rfl, HB.out⟩
  rw [fa] at hV
  rw [fb] at hU
  have HD := Lib.hid hd
  rw [show (addS (fm n) 0 a b).1 = addR (fm n) a b from rfl] at hZ
  generalize hzz : addR (fm n) a b = z at *
  generalize (addS (fm n) 0 a b).2 = fl at *
  have HZ := Lib.hid hZ
  have pre : ∀ {q : Nat × Nat × Int}, (q = (0, 0, 7) ∨ ∃ s r, q = (s, r, 0) ∧ Good n a b d s r) → tupE q = .tuple #[.int .u64 0, .int .u64 0, .int .i64 7] ∨ ∃ r : Nat, tupE q = .tuple #[.int .u64 (z : Int), .int .u64 (r : Int), .int .i64 0] ∧
      (∀ A c w, Rd 64 w (.slice A (nd 64 d.n) c) d.n (nd 64 d.n) → Gl w → GlR w → Calls Tryd.prog 12 #[.int .i64 n, .int .u64 z, .int .u64 r, .agg #[.bool d.s, .slice A (nd 64 d.n) c, .int .i64 d.e]] w fun e w' => e = .returned (.bool true) ∧ Below w.heap.size w w') ∧
      (∀ w, Gl w → GlR w → Calls Tryd.prog 13 #[.int .i64 n, .int .u64 z, .int .u64 r] w fun e w' => e = .returned (.bool true) ∧ Below w.heap.size w w') := by
    intro q hq
    rcases hq with rfl | ⟨s, r, rfl, hg⟩
    · left; rfl
    · right
      obtain ⟨g1, g2, g3⟩ := good_walk hn hg hc
      rw [hzz] at g1
      subst g1
      exact ⟨r, rfl, g2, g3⟩
  replace hsum := pre hsum
  replace hmus := pre hmus
  replace hfast := pre hfast
  generalize tupE (sumE n a b) = ts at *
  generalize tupE (sumE n b a) = tm at *
  generalize tupE (fastE n a b) = tf at *
  have HTT := Lib.hid hT
  have HS := Lib.hid hS
  have HF := Lib.hid hF
  have HV := Lib.hid hV
  have HU := Lib.hid hU
  generalize valA n a = x at *
  generalize valA n b = y at *
  clear hS hF hV hU
  clear hT hZ pre hfalse hn hn4 hd hc fa fb hzz
  have HSum := Lib.hid hsum
  have HMus := Lib.hid hmus
  have HFast := Lib.hid hfast
  clear hsum hmus hfast
  rcases HFast.out with rfl | ⟨rf, rfl, tf', lf'⟩
  · clear HFast
    rcases HSum.out with rfl | ⟨rs, rfl, ts', ls'⟩
    · clear HSum HMus HTT
      go_enter Tryd.func3, Tryd.ntmps3
      go_wp2_with fail
      refine HA.out.mono ?_
      rintro _ w1 ⟨rfl, hb⟩
      have HB := Lib.hid hb
      clear hb HA
      go_wp2_with fail
      refine (HT.out _).mono ?_
      rintro _ _ ⟨rfl, rfl⟩
      clear HT
      go_wp2_with fail
      refine (HRa.out _).mono ?_
      rintro _ _ ⟨rfl, rfl⟩
      clear HRa
      go_wp2_with fail
      refine (HRb.out _).mono ?_
      rintro _ _ ⟨rfl, rfl⟩
      clear HRb
      go_wp2_with fail
      refine (HV.out _ (HG.out.below HB.out) (HR.out.below HB.out)).mono ?_
      rintro _ w2 ⟨A1, c1, rfl, hrd, hb1⟩
      have hb2 := below1 w2 (.cells #[.bool x.s, .slice A1 (nd 64 x.n) c1, .int .i64 x.e] 28)
      have hb := hb1.trans (hb2.mono hb1.size)
      have V1 := Lib.hid (VB.new hrd 28)
      replace HB := Lib.hid (HB.out.trans (hb.mono HB.out.size))
      clear hb1 hb2 hb HV hrd
      go_wp2_with fail
      refine (HU.out _ (HG.out.below HB.out) (HR.out.below HB.out)).mono ?_
      rintro _ w3 ⟨A2, c2, rfl, hrd, hb1⟩
      have hb2 := below1 w3 (.cells #[.bool y.s, .slice A2 (nd 64 y.n) c2, .int .i64 y.e] 28)
      have hb := hb1.trans (hb2.mono hb1.size)
      have V2 := Lib.hid (VB.new hrd 28)
      replace V1 := Lib.hid (V1.out.below hb)
      replace HB := Lib.hid (HB.out.trans (hb.mono HB.out.size))
      clear hb1 hb2 hb HU hrd
      go_wp2_with fail
      refine (HS.out _).mono ?_
      rintro _ w4 ⟨rfl, hb⟩
      replace HB := Lib.hid (HB.out.trans (hb.mono HB.out.size))
      replace V1 := Lib.hid (V1.out.below hb)
      replace V2 := Lib.hid (V2.out.below hb)
      clear hb HS
      go_wp2_with fail
      refine (HF.out _).mono ?_
      rintro _ w5 ⟨rfl, hb⟩
      replace HB := Lib.hid (HB.out.trans (hb.mono HB.out.size))
      replace V1 := Lib.hid (V1.out.below hb)
      replace V2 := Lib.hid (V2.out.below hb)
      clear hb HF
      obtain ⟨x0, x1, x2, -, -⟩ := V1.out.bx.cells
      obtain ⟨y0, y1, y2, -, -⟩ := V2.out.bx.cells
      have hA := DAdd_any x.s y.s A1 A2 x.n (nd 64 x.n) c1 y.n (nd 64 y.n) c2 x.e y.e _ V1.out.rd V2.out.rd (HG.out.below HB.out)
      rw [show addD (nd 64 x.n) ⟨x.s, x.n, x.e⟩ (nd 64 y.n) ⟨y.s, y.n, y.e⟩ = (d, 0) from HD.out] at hA
      have HAd := Lib.hid hA
      clear hA
      go_wp2_with fail
      refine HAd.out.mono ?_
      rintro _ w6 ⟨_, rfl, ⟨A3, c3, rfl, -, -, hrd, -⟩, hb1⟩
      have hb2 := below1 w6 (.cells #[.bool d.s, .slice A3 (nd 64 d.n) c3, .int .i64 d.e] 28)
      have V3 := Lib.hid (VB.new hrd 28)
      have hb := hb1.trans (hb2.mono hb1.size)
      replace HB := Lib.hid (HB.out.trans (hb.mono HB.out.size))
      clear hb1 hb2 hb HAd hrd x0 x1 x2 y0 y1 y2 V1 V2 HD
      go_wp2_with fail
      refine (HZ.out _ (HG.out.below HB.out) (HR.out.below HB.out)).mono ?_
      rintro _ w7 ⟨rfl, hb⟩
      replace HB := Lib.hid (HB.out.trans (hb.mono HB.out.size))
      replace V3 := Lib.hid (V3.out.below hb)
      clear hb HZ
      go_wp2_with fail
      go_ret
      exact ⟨rfl, HB.out⟩
    · have TS := Lib.hid ts'
      have LS := Lib.hid ls'
      clear HSum ts' ls'
      rcases HMus.out with rfl | ⟨rm, rfl, tm', lm'⟩
      · clear HMus
        go_enter Tryd.func3, Tryd.ntmps3
        go_wp2_with fail
        refine HA.out.mono ?_
        rintro _ w1 ⟨rfl, hb⟩
        have HB := Lib.hid hb
        clear hb HA
        go_wp2_with fail
        refine (HT.out _).mono ?_
        rintro _ _ ⟨rfl, rfl⟩
        clear HT
        go_wp2_with fail
        refine (HRa.out _).mono ?_
        rintro _ _ ⟨rfl, rfl⟩
        clear HRa
        go_wp2_with fail
        refine (HRb.out _).mono ?_
        rintro _ _ ⟨rfl, rfl⟩
        clear HRb
        go_wp2_with fail
        refine (HV.out _ (HG.out.below HB.out) (HR.out.below HB.out)).mono ?_
        rintro _ w2 ⟨A1, c1, rfl, hrd, hb1⟩
        have hb2 := below1 w2 (.cells #[.bool x.s, .slice A1 (nd 64 x.n) c1, .int .i64 x.e] 28)
        have hb := hb1.trans (hb2.mono hb1.size)
        have V1 := Lib.hid (VB.new hrd 28)
        replace HB := Lib.hid (HB.out.trans (hb.mono HB.out.size))
        clear hb1 hb2 hb HV hrd
        go_wp2_with fail
        refine (HU.out _ (HG.out.below HB.out) (HR.out.below HB.out)).mono ?_
        rintro _ w3 ⟨A2, c2, rfl, hrd, hb1⟩
        have hb2 := below1 w3 (.cells #[.bool y.s, .slice A2 (nd 64 y.n) c2, .int .i64 y.e] 28)
        have hb := hb1.trans (hb2.mono hb1.size)
        have V2 := Lib.hid (VB.new hrd 28)
        replace V1 := Lib.hid (V1.out.below hb)
        replace HB := Lib.hid (HB.out.trans (hb.mono HB.out.size))
        clear hb1 hb2 hb HU hrd
        go_wp2_with fail
        refine (HS.out _).mono ?_
        rintro _ w4 ⟨rfl, hb⟩
        replace HB := Lib.hid (HB.out.trans (hb.mono HB.out.size))
        replace V1 := Lib.hid (V1.out.below hb)
        replace V2 := Lib.hid (V2.out.below hb)
        clear hb HS
        go_wp2_with fail
        refine (HF.out _).mono ?_
        rintro _ w5 ⟨rfl, hb⟩
        replace HB := Lib.hid (HB.out.trans (hb.mono HB.out.size))
        replace V1 := Lib.hid (V1.out.below hb)
        replace V2 := Lib.hid (V2.out.below hb)
        clear hb HF
        obtain ⟨x0, x1, x2, -, -⟩ := V1.out.bx.cells
        obtain ⟨y0, y1, y2, -, -⟩ := V2.out.bx.cells
        have hA := DAdd_any x.s y.s A1 A2 x.n (nd 64 x.n) c1 y.n (nd 64 y.n) c2 x.e y.e _ V1.out.rd V2.out.rd (HG.out.below HB.out)
        rw [show addD (nd 64 x.n) ⟨x.s, x.n, x.e⟩ (nd 64 y.n) ⟨y.s, y.n, y.e⟩ = (d, 0) from HD.out] at hA
        have HAd := Lib.hid hA
        clear hA
        go_wp2_with fail
        refine HAd.out.mono ?_
        rintro _ w6 ⟨_, rfl, ⟨A3, c3, rfl, -, -, hrd, -⟩, hb1⟩
        have hb2 := below1 w6 (.cells #[.bool d.s, .slice A3 (nd 64 d.n) c3, .int .i64 d.e] 28)
        have V3 := Lib.hid (VB.new hrd 28)
        have hb := hb1.trans (hb2.mono hb1.size)
        replace HB := Lib.hid (HB.out.trans (hb.mono HB.out.size))
        clear hb1 hb2 hb HAd hrd x0 x1 x2 y0 y1 y2 V1 V2 HD
        go_wp2_with fail
        refine (HZ.out _ (HG.out.below HB.out) (HR.out.below HB.out)).mono ?_
        rintro _ w7 ⟨rfl, hb⟩
        replace HB := Lib.hid (HB.out.trans (hb.mono HB.out.size))
        replace V3 := Lib.hid (V3.out.below hb)
        clear hb HZ
        go_wp2_with fail
        refine (HTT.out _).mono ?_
        rintro _ w8 ⟨rfl, hb⟩
        replace HB := Lib.hid (HB.out.trans (hb.mono HB.out.size))
        replace V3 := Lib.hid (V3.out.below hb)
        clear hb HTT
        obtain ⟨z0, z1, z2, -, -⟩ := V3.out.bx.cells
        go_wp2_with fail
        refine (TS.out A3 c3 _ V3.out.rd (HG.out.below HB.out) (HR.out.below HB.out)).mono ?_
        rintro _ w8 ⟨rfl, hb⟩
        replace HB := Lib.hid (HB.out.trans (hb.mono HB.out.size))
        replace V3 := Lib.hid (V3.out.below hb)
        clear hb TS z0 z1 z2
        go_wp2_with fail
        refine (LS.out _ (HG.out.below HB.out) (HR.out.below HB.out)).mono ?_
        rintro _ w8 ⟨rfl, hb⟩
        replace HB := Lib.hid (HB.out.trans (hb.mono HB.out.size))
        replace V3 := Lib.hid (V3.out.below hb)
        clear hb LS
        go_wp2_with fail
        go_ret
        exact ⟨rfl, HB.out⟩
      · have TM := Lib.hid tm'
        clear HMus tm' lm'
        go_enter Tryd.func3, Tryd.ntmps3
        go_wp2_with fail
        refine HA.out.mono ?_
        rintro _ w1 ⟨rfl, hb⟩
        have HB := Lib.hid hb
        clear hb HA
        go_wp2_with fail
        refine (HT.out _).mono ?_
        rintro _ _ ⟨rfl, rfl⟩
        clear HT
        go_wp2_with fail
        refine (HRa.out _).mono ?_
        rintro _ _ ⟨rfl, rfl⟩
        clear HRa
        go_wp2_with fail
        refine (HRb.out _).mono ?_
        rintro _ _ ⟨rfl, rfl⟩
        clear HRb
        go_wp2_with fail
        refine (HV.out _ (HG.out.below HB.out) (HR.out.below HB.out)).mono ?_
        rintro _ w2 ⟨A1, c1, rfl, hrd, hb1⟩
        have hb2 := below1 w2 (.cells #[.bool x.s, .slice A1 (nd 64 x.n) c1, .int .i64 x.e] 28)
        have hb := hb1.trans (hb2.mono hb1.size)
        have V1 := Lib.hid (VB.new hrd 28)
        replace HB := Lib.hid (HB.out.trans (hb.mono HB.out.size))
        clear hb1 hb2 hb HV hrd
        go_wp2_with fail
        refine (HU.out _ (HG.out.below HB.out) (HR.out.below HB.out)).mono ?_
        rintro _ w3 ⟨A2, c2, rfl, hrd, hb1⟩
        have hb2 := below1 w3 (.cells #[.bool y.s, .slice A2 (nd 64 y.n) c2, .int .i64 y.e] 28)
        have hb := hb1.trans (hb2.mono hb1.size)
        have V2 := Lib.hid (VB.new hrd 28)
        replace V1 := Lib.hid (V1.out.below hb)
        replace HB := Lib.hid (HB.out.trans (hb.mono HB.out.size))
        clear hb1 hb2 hb HU hrd
        go_wp2_with fail
        refine (HS.out _).mono ?_
        rintro _ w4 ⟨rfl, hb⟩
        replace HB := Lib.hid (HB.out.trans (hb.mono HB.out.size))
        replace V1 := Lib.hid (V1.out.below hb)
        replace V2 := Lib.hid (V2.out.below hb)
        clear hb HS
        go_wp2_with fail
        refine (HF.out _).mono ?_
        rintro _ w5 ⟨rfl, hb⟩
        replace HB := Lib.hid (HB.out.trans (hb.mono HB.out.size))
        replace V1 := Lib.hid (V1.out.below hb)
        replace V2 := Lib.hid (V2.out.below hb)
        clear hb HF
        obtain ⟨x0, x1, x2, -, -⟩ := V1.out.bx.cells
        obtain ⟨y0, y1, y2, -, -⟩ := V2.out.bx.cells
        have hA := DAdd_any x.s y.s A1 A2 x.n (nd 64 x.n) c1 y.n (nd 64 y.n) c2 x.e y.e _ V1.out.rd V2.out.rd (HG.out.below HB.out)
        rw [show addD (nd 64 x.n) ⟨x.s, x.n, x.e⟩ (nd 64 y.n) ⟨y.s, y.n, y.e⟩ = (d, 0) from HD.out] at hA
        have HAd := Lib.hid hA
        clear hA
        go_wp2_with fail
        refine HAd.out.mono ?_
        rintro _ w6 ⟨_, rfl, ⟨A3, c3, rfl, -, -, hrd, -⟩, hb1⟩
        have hb2 := below1 w6 (.cells #[.bool d.s, .slice A3 (nd 64 d.n) c3, .int .i64 d.e] 28)
        have V3 := Lib.hid (VB.new hrd 28)
        have hb := hb1.trans (hb2.mono hb1.size)
        replace HB := Lib.hid (HB.out.trans (hb.mono HB.out.size))
        clear hb1 hb2 hb HAd hrd x0 x1 x2 y0 y1 y2 V1 V2 HD
        go_wp2_with fail
        refine (HZ.out _ (HG.out.below HB.out) (HR.out.below HB.out)).mono ?_
        rintro _ w7 ⟨rfl, hb⟩
        replace HB := Lib.hid (HB.out.trans (hb.mono HB.out.size))
        replace V3 := Lib.hid (V3.out.below hb)
        clear hb HZ
        go_wp2_with fail
        refine (HTT.out _).mono ?_
        rintro _ w8 ⟨rfl, hb⟩
        replace HB := Lib.hid (HB.out.trans (hb.mono HB.out.size))
        replace V3 := Lib.hid (V3.out.below hb)
        clear hb HTT
        obtain ⟨z0, z1, z2, -, -⟩ := V3.out.bx.cells
        go_wp2_with fail
        refine (TS.out A3 c3 _ V3.out.rd (HG.out.below HB.out) (HR.out.below HB.out)).mono ?_
        rintro _ w8 ⟨rfl, hb⟩
        replace HB := Lib.hid (HB.out.trans (hb.mono HB.out.size))
        replace V3 := Lib.hid (V3.out.below hb)
        clear hb TS z0 z1 z2
        obtain ⟨z0, z1, z2, -, -⟩ := V3.out.bx.cells
        go_wp2_with fail
        refine (TM.out A3 c3 _ V3.out.rd (HG.out.below HB.out) (HR.out.below HB.out)).mono ?_
        rintro _ w8 ⟨rfl, hb⟩
        replace HB := Lib.hid (HB.out.trans (hb.mono HB.out.size))
        replace V3 := Lib.hid (V3.out.below hb)
        clear hb TM z0 z1 z2
        go_wp2_with fail
        refine (LS.out _ (HG.out.below HB.out) (HR.out.below HB.out)).mono ?_
        rintro _ w8 ⟨rfl, hb⟩
        replace HB := Lib.hid (HB.out.trans (hb.mono HB.out.size))
        replace V3 := Lib.hid (V3.out.below hb)
        clear hb LS
        go_wp2_with fail
        go_ret
        exact ⟨rfl, HB.out⟩
  · have TF := Lib.hid tf'
    have LF := Lib.hid lf'
    clear HFast tf' lf'
    rcases HSum.out with rfl | ⟨rs, rfl, ts', ls'⟩
    · clear HSum HMus HTT
      go_enter Tryd.func3, Tryd.ntmps3
      go_wp2_with fail
      refine HA.out.mono ?_
      rintro _ w1 ⟨rfl, hb⟩
      have HB := Lib.hid hb
      clear hb HA
      go_wp2_with fail
      refine (HT.out _).mono ?_
      rintro _ _ ⟨rfl, rfl⟩
      clear HT
      go_wp2_with fail
      refine (HRa.out _).mono ?_
      rintro _ _ ⟨rfl, rfl⟩
      clear HRa
      go_wp2_with fail
      refine (HRb.out _).mono ?_
      rintro _ _ ⟨rfl, rfl⟩
      clear HRb
      go_wp2_with fail
      refine (HV.out _ (HG.out.below HB.out) (HR.out.below HB.out)).mono ?_
      rintro _ w2 ⟨A1, c1, rfl, hrd, hb1⟩
      have hb2 := below1 w2 (.cells #[.bool x.s, .slice A1 (nd 64 x.n) c1, .int .i64 x.e] 28)
      have hb := hb1.trans (hb2.mono hb1.size)
      have V1 := Lib.hid (VB.new hrd 28)
      replace HB := Lib.hid (HB.out.trans (hb.mono HB.out.size))
      clear hb1 hb2 hb HV hrd
      go_wp2_with fail
      refine (HU.out _ (HG.out.below HB.out) (HR.out.below HB.out)).mono ?_
      rintro _ w3 ⟨A2, c2, rfl, hrd, hb1⟩
      have hb2 := below1 w3 (.cells #[.bool y.s, .slice A2 (nd 64 y.n) c2, .int .i64 y.e] 28)
      have hb := hb1.trans (hb2.mono hb1.size)
      have V2 := Lib.hid (VB.new hrd 28)
      replace V1 := Lib.hid (V1.out.below hb)
      replace HB := Lib.hid (HB.out.trans (hb.mono HB.out.size))
      clear hb1 hb2 hb HU hrd
      go_wp2_with fail
      refine (HS.out _).mono ?_
      rintro _ w4 ⟨rfl, hb⟩
      replace HB := Lib.hid (HB.out.trans (hb.mono HB.out.size))
      replace V1 := Lib.hid (V1.out.below hb)
      replace V2 := Lib.hid (V2.out.below hb)
      clear hb HS
      go_wp2_with fail
      refine (HF.out _).mono ?_
      rintro _ w5 ⟨rfl, hb⟩
      replace HB := Lib.hid (HB.out.trans (hb.mono HB.out.size))
      replace V1 := Lib.hid (V1.out.below hb)
      replace V2 := Lib.hid (V2.out.below hb)
      clear hb HF
      obtain ⟨x0, x1, x2, -, -⟩ := V1.out.bx.cells
      obtain ⟨y0, y1, y2, -, -⟩ := V2.out.bx.cells
      have hA := DAdd_any x.s y.s A1 A2 x.n (nd 64 x.n) c1 y.n (nd 64 y.n) c2 x.e y.e _ V1.out.rd V2.out.rd (HG.out.below HB.out)
      rw [show addD (nd 64 x.n) ⟨x.s, x.n, x.e⟩ (nd 64 y.n) ⟨y.s, y.n, y.e⟩ = (d, 0) from HD.out] at hA
      have HAd := Lib.hid hA
      clear hA
      go_wp2_with fail
      refine HAd.out.mono ?_
      rintro _ w6 ⟨_, rfl, ⟨A3, c3, rfl, -, -, hrd, -⟩, hb1⟩
      have hb2 := below1 w6 (.cells #[.bool d.s, .slice A3 (nd 64 d.n) c3, .int .i64 d.e] 28)
      have V3 := Lib.hid (VB.new hrd 28)
      have hb := hb1.trans (hb2.mono hb1.size)
      replace HB := Lib.hid (HB.out.trans (hb.mono HB.out.size))
      clear hb1 hb2 hb HAd hrd x0 x1 x2 y0 y1 y2 V1 V2 HD
      go_wp2_with fail
      refine (HZ.out _ (HG.out.below HB.out) (HR.out.below HB.out)).mono ?_
      rintro _ w7 ⟨rfl, hb⟩
      replace HB := Lib.hid (HB.out.trans (hb.mono HB.out.size))
      replace V3 := Lib.hid (V3.out.below hb)
      clear hb HZ
      obtain ⟨z0, z1, z2, -, -⟩ := V3.out.bx.cells
      go_wp2_with fail
      refine (TF.out A3 c3 _ V3.out.rd (HG.out.below HB.out) (HR.out.below HB.out)).mono ?_
      rintro _ w8 ⟨rfl, hb⟩
      replace HB := Lib.hid (HB.out.trans (hb.mono HB.out.size))
      replace V3 := Lib.hid (V3.out.below hb)
      clear hb TF z0 z1 z2
      go_wp2_with fail
      refine (LF.out _ (HG.out.below HB.out) (HR.out.below HB.out)).mono ?_
      rintro _ w8 ⟨rfl, hb⟩
      replace HB := Lib.hid (HB.out.trans (hb.mono HB.out.size))
      replace V3 := Lib.hid (V3.out.below hb)
      clear hb LF
      go_wp2_with fail
      go_ret
      exact ⟨rfl, HB.out⟩
    · have TS := Lib.hid ts'
      have LS := Lib.hid ls'
      clear HSum ts' ls'
      rcases HMus.out with rfl | ⟨rm, rfl, tm', lm'⟩
      · clear HMus
        go_enter Tryd.func3, Tryd.ntmps3
        go_wp2_with fail
        refine HA.out.mono ?_
        rintro _ w1 ⟨rfl, hb⟩
        have HB := Lib.hid hb
        clear hb HA
        go_wp2_with fail
        refine (HT.out _).mono ?_
        rintro _ _ ⟨rfl, rfl⟩
        clear HT
        go_wp2_with fail
        refine (HRa.out _).mono ?_
        rintro _ _ ⟨rfl, rfl⟩
        clear HRa
        go_wp2_with fail
        refine (HRb.out _).mono ?_
        rintro _ _ ⟨rfl, rfl⟩
        clear HRb
        go_wp2_with fail
        refine (HV.out _ (HG.out.below HB.out) (HR.out.below HB.out)).mono ?_
        rintro _ w2 ⟨A1, c1, rfl, hrd, hb1⟩
        have hb2 := below1 w2 (.cells #[.bool x.s, .slice A1 (nd 64 x.n) c1, .int .i64 x.e] 28)
        have hb := hb1.trans (hb2.mono hb1.size)
        have V1 := Lib.hid (VB.new hrd 28)
        replace HB := Lib.hid (HB.out.trans (hb.mono HB.out.size))
        clear hb1 hb2 hb HV hrd
        go_wp2_with fail
        refine (HU.out _ (HG.out.below HB.out) (HR.out.below HB.out)).mono ?_
        rintro _ w3 ⟨A2, c2, rfl, hrd, hb1⟩
        have hb2 := below1 w3 (.cells #[.bool y.s, .slice A2 (nd 64 y.n) c2, .int .i64 y.e] 28)
        have hb := hb1.trans (hb2.mono hb1.size)
        have V2 := Lib.hid (VB.new hrd 28)
        replace V1 := Lib.hid (V1.out.below hb)
        replace HB := Lib.hid (HB.out.trans (hb.mono HB.out.size))
        clear hb1 hb2 hb HU hrd
        go_wp2_with fail
        refine (HS.out _).mono ?_
        rintro _ w4 ⟨rfl, hb⟩
        replace HB := Lib.hid (HB.out.trans (hb.mono HB.out.size))
        replace V1 := Lib.hid (V1.out.below hb)
        replace V2 := Lib.hid (V2.out.below hb)
        clear hb HS
        go_wp2_with fail
        refine (HF.out _).mono ?_
        rintro _ w5 ⟨rfl, hb⟩
        replace HB := Lib.hid (HB.out.trans (hb.mono HB.out.size))
        replace V1 := Lib.hid (V1.out.below hb)
        replace V2 := Lib.hid (V2.out.below hb)
        clear hb HF
        obtain ⟨x0, x1, x2, -, -⟩ := V1.out.bx.cells
        obtain ⟨y0, y1, y2, -, -⟩ := V2.out.bx.cells
        have hA := DAdd_any x.s y.s A1 A2 x.n (nd 64 x.n) c1 y.n (nd 64 y.n) c2 x.e y.e _ V1.out.rd V2.out.rd (HG.out.below HB.out)
        rw [show addD (nd 64 x.n) ⟨x.s, x.n, x.e⟩ (nd 64 y.n) ⟨y.s, y.n, y.e⟩ = (d, 0) from HD.out] at hA
        have HAd := Lib.hid hA
        clear hA
        go_wp2_with fail
        refine HAd.out.mono ?_
        rintro _ w6 ⟨_, rfl, ⟨A3, c3, rfl, -, -, hrd, -⟩, hb1⟩
        have hb2 := below1 w6 (.cells #[.bool d.s, .slice A3 (nd 64 d.n) c3, .int .i64 d.e] 28)
        have V3 := Lib.hid (VB.new hrd 28)
        have hb := hb1.trans (hb2.mono hb1.size)
        replace HB := Lib.hid (HB.out.trans (hb.mono HB.out.size))
        clear hb1 hb2 hb HAd hrd x0 x1 x2 y0 y1 y2 V1 V2 HD
        go_wp2_with fail
        refine (HZ.out _ (HG.out.below HB.out) (HR.out.below HB.out)).mono ?_
        rintro _ w7 ⟨rfl, hb⟩
        replace HB := Lib.hid (HB.out.trans (hb.mono HB.out.size))
        replace V3 := Lib.hid (V3.out.below hb)
        clear hb HZ
        go_wp2_with fail
        refine (HTT.out _).mono ?_
        rintro _ w8 ⟨rfl, hb⟩
        replace HB := Lib.hid (HB.out.trans (hb.mono HB.out.size))
        replace V3 := Lib.hid (V3.out.below hb)
        clear hb HTT
        obtain ⟨z0, z1, z2, -, -⟩ := V3.out.bx.cells
        go_wp2_with fail
        refine (TS.out A3 c3 _ V3.out.rd (HG.out.below HB.out) (HR.out.below HB.out)).mono ?_
        rintro _ w8 ⟨rfl, hb⟩
        replace HB := Lib.hid (HB.out.trans (hb.mono HB.out.size))
        replace V3 := Lib.hid (V3.out.below hb)
        clear hb TS z0 z1 z2
        go_wp2_with fail
        refine (LS.out _ (HG.out.below HB.out) (HR.out.below HB.out)).mono ?_
        rintro _ w8 ⟨rfl, hb⟩
        replace HB := Lib.hid (HB.out.trans (hb.mono HB.out.size))
        replace V3 := Lib.hid (V3.out.below hb)
        clear hb LS
        obtain ⟨z0, z1, z2, -, -⟩ := V3.out.bx.cells
        go_wp2_with fail
        refine (TF.out A3 c3 _ V3.out.rd (HG.out.below HB.out) (HR.out.below HB.out)).mono ?_
        rintro _ w8 ⟨rfl, hb⟩
        replace HB := Lib.hid (HB.out.trans (hb.mono HB.out.size))
        replace V3 := Lib.hid (V3.out.below hb)
        clear hb TF z0 z1 z2
        go_wp2_with fail
        refine (LF.out _ (HG.out.below HB.out) (HR.out.below HB.out)).mono ?_
        rintro _ w8 ⟨rfl, hb⟩
        replace HB := Lib.hid (HB.out.trans (hb.mono HB.out.size))
        replace V3 := Lib.hid (V3.out.below hb)
        clear hb LF
        go_wp2_with fail
        go_ret
        exact ⟨rfl, HB.out⟩
      · have TM := Lib.hid tm'
        clear HMus tm' lm'
        go_enter Tryd.func3, Tryd.ntmps3
        go_wp2_with fail
        refine HA.out.mono ?_
        rintro _ w1 ⟨rfl, hb⟩
        have HB := Lib.hid hb
        clear hb HA
        go_wp2_with fail
        refine (HT.out _).mono ?_
        rintro _ _ ⟨rfl, rfl⟩
        clear HT
        go_wp2_with fail
        refine (HRa.out _).mono ?_
        rintro _ _ ⟨rfl, rfl⟩
        clear HRa
        go_wp2_with fail
        refine (HRb.out _).mono ?_
        rintro _ _ ⟨rfl, rfl⟩
        clear HRb
        go_wp2_with fail
        refine (HV.out _ (HG.out.below HB.out) (HR.out.below HB.out)).mono ?_
        rintro _ w2 ⟨A1, c1, rfl, hrd, hb1⟩
        have hb2 := below1 w2 (.cells #[.bool x.s, .slice A1 (nd 64 x.n) c1, .int .i64 x.e] 28)
        have hb := hb1.trans (hb2.mono hb1.size)
        have V1 := Lib.hid (VB.new hrd 28)
        replace HB := Lib.hid (HB.out.trans (hb.mono HB.out.size))
        clear hb1 hb2 hb HV hrd
        go_wp2_with fail
        refine (HU.out _ (HG.out.below HB.out) (HR.out.below HB.out)).mono ?_
        rintro _ w3 ⟨A2, c2, rfl, hrd, hb1⟩
        have hb2 := below1 w3 (.cells #[.bool y.s, .slice A2 (nd 64 y.n) c2, .int .i64 y.e] 28)
        have hb := hb1.trans (hb2.mono hb1.size)
        have V2 := Lib.hid (VB.new hrd 28)
        replace V1 := Lib.hid (V1.out.below hb)
        replace HB := Lib.hid (HB.out.trans (hb.mono HB.out.size))
        clear hb1 hb2 hb HU hrd
        go_wp2_with fail
        refine (HS.out _).mono ?_
        rintro _ w4 ⟨rfl, hb⟩
        replace HB := Lib.hid (HB.out.trans (hb.mono HB.out.size))
        replace V1 := Lib.hid (V1.out.below hb)
        replace V2 := Lib.hid (V2.out.below hb)
        clear hb HS
        go_wp2_with fail
        refine (HF.out _).mono ?_
        rintro _ w5 ⟨rfl, hb⟩
        replace HB := Lib.hid (HB.out.trans (hb.mono HB.out.size))
        replace V1 := Lib.hid (V1.out.below hb)
        replace V2 := Lib.hid (V2.out.below hb)
        clear hb HF
        obtain ⟨x0, x1, x2, -, -⟩ := V1.out.bx.cells
        obtain ⟨y0, y1, y2, -, -⟩ := V2.out.bx.cells
        have hA := DAdd_any x.s y.s A1 A2 x.n (nd 64 x.n) c1 y.n (nd 64 y.n) c2 x.e y.e _ V1.out.rd V2.out.rd (HG.out.below HB.out)
        rw [show addD (nd 64 x.n) ⟨x.s, x.n, x.e⟩ (nd 64 y.n) ⟨y.s, y.n, y.e⟩ = (d, 0) from HD.out] at hA
        have HAd := Lib.hid hA
        clear hA
        go_wp2_with fail
        refine HAd.out.mono ?_
        rintro _ w6 ⟨_, rfl, ⟨A3, c3, rfl, -, -, hrd, -⟩, hb1⟩
        have hb2 := below1 w6 (.cells #[.bool d.s, .slice A3 (nd 64 d.n) c3, .int .i64 d.e] 28)
        have V3 := Lib.hid (VB.new hrd 28)
        have hb := hb1.trans (hb2.mono hb1.size)
        replace HB := Lib.hid (HB.out.trans (hb.mono HB.out.size))
        clear hb1 hb2 hb HAd hrd x0 x1 x2 y0 y1 y2 V1 V2 HD
        go_wp2_with fail
        refine (HZ.out _ (HG.out.below HB.out) (HR.out.below HB.out)).mono ?_
        rintro _ w7 ⟨rfl, hb⟩
        replace HB := Lib.hid (HB.out.trans (hb.mono HB.out.size))
        replace V3 := Lib.hid (V3.out.below hb)
        clear hb HZ
        go_wp2_with fail
        refine (HTT.out _).mono ?_
        rintro _ w8 ⟨rfl, hb⟩
        replace HB := Lib.hid (HB.out.trans (hb.mono HB.out.size))
        replace V3 := Lib.hid (V3.out.below hb)
        clear hb HTT
        obtain ⟨z0, z1, z2, -, -⟩ := V3.out.bx.cells
        go_wp2_with fail
        refine (TS.out A3 c3 _ V3.out.rd (HG.out.below HB.out) (HR.out.below HB.out)).mono ?_
        rintro _ w8 ⟨rfl, hb⟩
        replace HB := Lib.hid (HB.out.trans (hb.mono HB.out.size))
        replace V3 := Lib.hid (V3.out.below hb)
        clear hb TS z0 z1 z2
        obtain ⟨z0, z1, z2, -, -⟩ := V3.out.bx.cells
        go_wp2_with fail
        refine (TM.out A3 c3 _ V3.out.rd (HG.out.below HB.out) (HR.out.below HB.out)).mono ?_
        rintro _ w8 ⟨rfl, hb⟩
        replace HB := Lib.hid (HB.out.trans (hb.mono HB.out.size))
        replace V3 := Lib.hid (V3.out.below hb)
        clear hb TM z0 z1 z2
        go_wp2_with fail
        refine (LS.out _ (HG.out.below HB.out) (HR.out.below HB.out)).mono ?_
        rintro _ w8 ⟨rfl, hb⟩
        replace HB := Lib.hid (HB.out.trans (hb.mono HB.out.size))
        replace V3 := Lib.hid (V3.out.below hb)
        clear hb LS
        obtain ⟨z0, z1, z2, -, -⟩ := V3.out.bx.cells
        go_wp2_with fail
        refine (TF.out A3 c3 _ V3.out.rd (HG.out.below HB.out) (HR.out.below HB.out)).mono ?_
        rintro _ w8 ⟨rfl, hb⟩
        replace HB := Lib.hid (HB.out.trans (hb.mono HB.out.size))
        replace V3 := Lib.hid (V3.out.below hb)
        clear hb TF z0 z1 z2
        go_wp2_with fail
        refine (LF.out _ (HG.out.below HB.out) (HR.out.below HB.out)).mono ?_
        rintro _ w8 ⟨rfl, hb⟩
        replace HB := Lib.hid (HB.out.trans (hb.mono HB.out.size))
        replace V3 := Lib.hid (V3.out.below hb)
        clear hb LF
        go_wp2_with fail
        go_ret
        exact ⟨rfl, HB.out⟩

end Go.Proofs.YtlibhfojfonfjaaDoor
