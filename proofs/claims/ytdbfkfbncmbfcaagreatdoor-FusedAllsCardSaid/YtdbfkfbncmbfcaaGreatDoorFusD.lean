/- The walk of fused.fuse. Printed by gen/fusd.py. -/
import Derived.Test.YtdbfkfbncmbfcaaGreatDoorFusC
namespace Go.Proofs.YtdbfkfbncmbfcaaGreatDoor
set_option linter.unusedVariables false
open Go.RowKit

set_option maxRecDepth 100000 in
set_option maxHeartbeats 32000000 in
theorem fuse_pt (f m : Nat) (x y : Pt) (A1 A2 : Option Addr) (c1 c2 : Nat) (w : World) (hf : f < 4) (hm : m ≤ 5) (hpx : Sm x.d) (hpy : Sm y.d)
    (hrx : Rd 64 w (.slice A1 (nd 64 x.d.n) c1) x.d.n (nd 64 x.d.n)) (hry : Rd 64 w (.slice A2 (nd 64 y.d.n) c2) y.d.n (nd 64 y.d.n)) (hG : Gl w) (hR : GlR w) :
    Calls Tryz.prog 30 #[.int .i64 f, .int .i64 m, .agg (pv x A1 c1), .agg (pv y A2 c2)] w fun e w' =>
      e = .returned (.tuple #[.int .u64 ((fuseS (fm f) m x y).1 : Int), .int .i64 ((fuseS (fm f) m x y).2 : Int), .int .i64 0]) ∧ Below w.heap.size w w' := by
  obtain ⟨s, hs, hcs, -, -⟩ := addD_sm hpx hpy
  have hsum : sumP x y = s := by unfold sumP; rw [hs]
  obtain ⟨r1, hr1⟩ : ∃ r, r = (fuseS (fm f) m x y).1 := ⟨_, rfl⟩
  obtain ⟨r2, hr2⟩ : ∃ r, r = (fuseS (fm f) m x y).2 := ⟨_, rfl⟩
  rw [← hr1, ← hr2]
  unfold fuseS at hr1 hr2
  rw [hsum] at hr1 hr2
  have hadd := fun wx h1 h2 h3 => DAdd_any x.d.s y.d.s A1 A2 x.d.n (nd 64 x.d.n) c1 y.d.n (nd 64 y.d.n) c2 x.d.e y.d.e wx h1 h2 h3
  rw [show addD (nd 64 x.d.n) ⟨x.d.s, x.d.n, x.d.e⟩ (nd 64 y.d.n) ⟨y.d.s, y.d.n, y.d.e⟩ = (s, 0) from hs] at hadd
  have hex := fun h0 A c wx h1 h2 h3 => Exact_ok f m s A c wx hf hm hcs.own ⟨hcs.sz, hcs.lo, hcs.hi⟩ h0 h1 h2 h3
  have hnan := fun wx h => NaN_ok f wx hf h
  have hinf := fun s wx h => Inf_ok f s wx hf h
  have hzer := fun s wx h => Zero_ok f s wx hf h
  have m4 : ((m : Int) == 4) = (m == 4) := by
    cases h : (m == 4)
    · simp at h ⊢; omega
    · simp at h ⊢; omega
  obtain ⟨F, hF⟩ : ∃ F, F = fm f := ⟨_, rfl⟩
  rw [← hF] at hr1 hr2 hex hnan hinf hzer
  obtain ⟨b4, hb4'⟩ : ∃ b, b = (m == 4) := ⟨_, rfl⟩
  rw [← hb4'] at m4 hr1 hr2
  obtain ⟨xn, xs, xi, xf, xg, xd⟩ := x
  obtain ⟨yn, ys, yi, yf, yg, yd⟩ := y
  unfold pv
  simp only at *
  have H1 := Lib.hid hr1
  have H2 := Lib.hid hr2
  have Hadd := Lib.hid hadd
  have Hex := Lib.hid hex
  have Hnan := Lib.hid hnan
  have Hinf := Lib.hid hinf
  have Hzer := Lib.hid hzer
  have hb1 := below1 w (.cells #[.bool xn, .bool xs, .bool xi, .bool xf, .bool xg, .bool xd.s, .slice A1 (nd 64 xd.n) c1, .int .i64 xd.e] 65)
  have bx := Bx.new w #[.bool xn, .bool xs, .bool xi, .bool xf, .bool xg, .bool xd.s, .slice A1 (nd 64 xd.n) c1, .int .i64 xd.e] 65
  obtain ⟨W1, hW1⟩ : ∃ W1, W1 = w.alloc (.cells #[.bool xn, .bool xs, .bool xi, .bool xf, .bool xg, .bool xd.s, .slice A1 (nd 64 xd.n) c1, .int .i64 xd.e] 65) := ⟨_, rfl⟩
  rw [← hW1] at hb1 bx
  have hsz : W1.heap.size = w.heap.size + 1 := by rw [hW1]; simp
  have hb2 := below1 W1 (.cells #[.bool yn, .bool ys, .bool yi, .bool yf, .bool yg, .bool yd.s, .slice A2 (nd 64 yd.n) c2, .int .i64 yd.e] 65)
  have by_ := Bx.new W1 #[.bool yn, .bool ys, .bool yi, .bool yf, .bool yg, .bool yd.s, .slice A2 (nd 64 yd.n) c2, .int .i64 yd.e] 65
  obtain ⟨W2, hW2⟩ : ∃ W2, W2 = W1.alloc (.cells #[.bool yn, .bool ys, .bool yi, .bool yf, .bool yg, .bool yd.s, .slice A2 (nd 64 yd.n) c2, .int .i64 yd.e] 65) := ⟨_, rfl⟩
  rw [← hW2] at hb2 by_
  rw [hsz] at by_
  have HB := Lib.hid (keep_belowB hb1 hb2 (Nat.le_refl _))
  have BX := Lib.hid (bx.below hb2)
  have BY := Lib.hid by_
  have HX := Lib.hid ((hrx.below hb1).below hb2)
  have HY := Lib.hid ((hry.below hb1).below hb2)
  have HG := Lib.hid ((hG.below hb1).below hb2)
  have HR := Lib.hid ((hR.below hb1).below hb2)
  have HW := Lib.hid (And.intro hW1 hW2)
  clear hs hcs hsum hr1 hr2 hadd hex hnan hinf hzer hF hb4' hb1 hb2 bx by_ hsz hrx hry hG hR hpx hpy hf hm hW1 hW2
  go_enter Tryz.func30, Tryz.ntmps30
  go_wp2_with fail
  rw [← HW.out.1, ← HW.out.2]
  clear HW
  refine (Hnan.out _ HR.out).mono ?_
  rintro _ w1 ⟨rfl, hb3⟩
  replace HB := Lib.hid (keep_belowB HB.out hb3 (Nat.le_refl _))
  replace BX := Lib.hid (BX.out.below hb3)
  replace BY := Lib.hid (BY.out.below hb3)
  replace HX := Lib.hid (HX.out.below hb3)
  replace HY := Lib.hid (HY.out.below hb3)
  replace HG := Lib.hid (HG.out.below hb3)
  replace HR := Lib.hid (HR.out.below hb3)
  clear hb3 Hnan
  obtain ⟨x0, x1, x2, x3, x4, x5, x6, x7⟩ := BX.out.eight
  obtain ⟨y0, y1, y2, y3, y4, y5, y6, y7⟩ := BY.out.eight
  go_upto_region 2 with (fail)
  cases xs
  rotate_left
  · skip
    have e1 : r1 = F.nan := by rw [H1.out]; simp
    have e2 : r2 = 1 := by rw [H2.out]; simp
    clear H1 H2 Hadd Hex Hinf Hzer
    go_wp2_with fail
    refine bodyPost_ret (v := .tuple #[.int .u64 (F.nan : Nat), .int .i64 1, .int .i64 0]) (by simp [results, Tryz.results30, go_sem]) rfl ?_
    exact ⟨by rw [e1, e2]; rfl, HB.out⟩
  cases ys
  rotate_left
  · skip
    have e1 : r1 = F.nan := by rw [H1.out]; simp
    have e2 : r2 = 1 := by rw [H2.out]; simp
    clear H1 H2 Hadd Hex Hinf Hzer
    go_wp2_with fail
    refine bodyPost_ret (v := .tuple #[.int .u64 (F.nan : Nat), .int .i64 1, .int .i64 0]) (by simp [results, Tryz.results30, go_sem]) rfl ?_
    exact ⟨by rw [e1, e2]; rfl, HB.out⟩
  cases xi
  rotate_left
  · skip
    have e1 : r1 = F.nan := by rw [H1.out]; simp
    have e2 : r2 = 1 := by rw [H2.out]; simp
    clear H1 H2 Hadd Hex Hinf Hzer
    go_wp2_with fail
    refine bodyPost_ret (v := .tuple #[.int .u64 (F.nan : Nat), .int .i64 1, .int .i64 0]) (by simp [results, Tryz.results30, go_sem]) rfl ?_
    exact ⟨by rw [e1, e2]; rfl, HB.out⟩
  cases yi
  rotate_left
  · skip
    have e1 : r1 = F.nan := by rw [H1.out]; simp
    have e2 : r2 = 1 := by rw [H2.out]; simp
    clear H1 H2 Hadd Hex Hinf Hzer
    go_wp2_with fail
    refine bodyPost_ret (v := .tuple #[.int .u64 (F.nan : Nat), .int .i64 1, .int .i64 0]) (by simp [results, Tryz.results30, go_sem]) rfl ?_
    exact ⟨by rw [e1, e2]; rfl, HB.out⟩
  cases xn
  rotate_left
  · skip
    have e1 : r1 = F.nan := by rw [H1.out]; simp
    have e2 : r2 = 0 := by rw [H2.out]; simp
    clear H1 H2 Hadd Hex Hinf Hzer
    go_wp2_with fail
    refine bodyPost_ret (v := .tuple #[.int .u64 (F.nan : Nat), .int .i64 0, .int .i64 0]) (by simp [results, Tryz.results30, go_sem]) rfl ?_
    exact ⟨by rw [e1, e2]; rfl, HB.out⟩
  cases yn
  rotate_left
  · skip
    have e1 : r1 = F.nan := by rw [H1.out]; simp
    have e2 : r2 = 0 := by rw [H2.out]; simp
    clear H1 H2 Hadd Hex Hinf Hzer
    go_wp2_with fail
    refine bodyPost_ret (v := .tuple #[.int .u64 (F.nan : Nat), .int .i64 0, .int .i64 0]) (by simp [results, Tryz.results30, go_sem]) rfl ?_
    exact ⟨by rw [e1, e2]; rfl, HB.out⟩
  cases xf
  rotate_left
  · skip
    cases yf
    · skip
      have e1 : r1 = F.inf + F.sg xg := by rw [H1.out]; simp
      have e2 : r2 = 0 := by rw [H2.out]; simp
      clear H1 H2 Hadd Hex Hzer
      go_wp2_with fail
      refine (Hinf.out xg _ HR.out).mono ?_
      rintro _ w2 ⟨rfl, hb4⟩
      replace HB := Lib.hid (keep_belowB HB.out hb4 (Nat.le_refl _))
      clear hb4 Hinf
      go_wp2_with fail
      refine bodyPost_ret (v := .tuple #[.int .u64 (F.inf + F.sg xg : Nat), .int .i64 0, .int .i64 0]) (by simp [results, Tryz.results30, go_sem]) rfl ?_
      exact ⟨by rw [e1, e2]; rfl, HB.out⟩
    · cases xg <;> cases yg
      · skip
        have e1 : r1 = F.inf + F.sg false := by rw [H1.out]; simp
        have e2 : r2 = 0 := by rw [H2.out]; simp
        clear H1 H2 Hadd Hex Hzer
        go_wp2_with fail
        refine (Hinf.out false _ HR.out).mono ?_
        rintro _ w2 ⟨rfl, hb4⟩
        replace HB := Lib.hid (keep_belowB HB.out hb4 (Nat.le_refl _))
        clear hb4 Hinf
        go_wp2_with fail
        refine bodyPost_ret (v := .tuple #[.int .u64 (F.inf + F.sg false : Nat), .int .i64 0, .int .i64 0]) (by simp [results, Tryz.results30, go_sem]) rfl ?_
        exact ⟨by rw [e1, e2]; rfl, HB.out⟩
      · skip
        have e1 : r1 = F.nan := by rw [H1.out]; simp
        have e2 : r2 = 1 := by rw [H2.out]; simp
        clear H1 H2 Hadd Hex Hinf Hzer
        go_wp2_with fail
        refine bodyPost_ret (v := .tuple #[.int .u64 (F.nan : Nat), .int .i64 1, .int .i64 0]) (by simp [results, Tryz.results30, go_sem]) rfl ?_
        exact ⟨by rw [e1, e2]; rfl, HB.out⟩
      · skip
        have e1 : r1 = F.nan := by rw [H1.out]; simp
        have e2 : r2 = 1 := by rw [H2.out]; simp
        clear H1 H2 Hadd Hex Hinf Hzer
        go_wp2_with fail
        refine bodyPost_ret (v := .tuple #[.int .u64 (F.nan : Nat), .int .i64 1, .int .i64 0]) (by simp [results, Tryz.results30, go_sem]) rfl ?_
        exact ⟨by rw [e1, e2]; rfl, HB.out⟩
      · skip
        have e1 : r1 = F.inf + F.sg true := by rw [H1.out]; simp
        have e2 : r2 = 0 := by rw [H2.out]; simp
        clear H1 H2 Hadd Hex Hzer
        go_wp2_with fail
        refine (Hinf.out true _ HR.out).mono ?_
        rintro _ w2 ⟨rfl, hb4⟩
        replace HB := Lib.hid (keep_belowB HB.out hb4 (Nat.le_refl _))
        clear hb4 Hinf
        go_wp2_with fail
        refine bodyPost_ret (v := .tuple #[.int .u64 (F.inf + F.sg true : Nat), .int .i64 0, .int .i64 0]) (by simp [results, Tryz.results30, go_sem]) rfl ?_
        exact ⟨by rw [e1, e2]; rfl, HB.out⟩
  cases yf
  rotate_left
  · skip
    have e1 : r1 = F.inf + F.sg yg := by rw [H1.out]; simp
    have e2 : r2 = 0 := by rw [H2.out]; simp
    clear H1 H2 Hadd Hex Hzer
    go_wp2_with fail
    refine (Hinf.out yg _ HR.out).mono ?_
    rintro _ w2 ⟨rfl, hb4⟩
    replace HB := Lib.hid (keep_belowB HB.out hb4 (Nat.le_refl _))
    clear hb4 Hinf
    go_wp2_with fail
    refine bodyPost_ret (v := .tuple #[.int .u64 (F.inf + F.sg yg : Nat), .int .i64 0, .int .i64 0]) (by simp [results, Tryz.results30, go_sem]) rfl ?_
    exact ⟨by rw [e1, e2]; rfl, HB.out⟩
  have hadd := Hadd.out _ HX.out HY.out HG.out
  have Hadd1 := Lib.hid hadd
  clear hadd Hadd Hinf
  go_wp2_with fail
  refine Hadd1.out.mono ?_
  rintro _ w2 ⟨v, rfl, ⟨A, c, rfl, -, -, hrd, -⟩, hb4⟩
  replace HB := Lib.hid (keep_belowB HB.out hb4 (Nat.le_refl _))
  replace BX := Lib.hid (BX.out.below hb4)
  replace BY := Lib.hid (BY.out.below hb4)
  replace HX := Lib.hid (HX.out.below hb4)
  replace HY := Lib.hid (HY.out.below hb4)
  replace HG := Lib.hid (HG.out.below hb4)
  replace HR := Lib.hid (HR.out.below hb4)
  have hb5 := below1 w2 (.cells #[.bool s.s, .slice A (nd 64 s.n) c, .int .i64 s.e] 63)
  have VS := Lib.hid (VB.new hrd 63)
  replace HB := Lib.hid (keep_belowB HB.out hb5 (Nat.le_refl _))
  replace BX := Lib.hid (BX.out.below hb5)
  replace BY := Lib.hid (BY.out.below hb5)
  replace HX := Lib.hid (HX.out.below hb5)
  replace HY := Lib.hid (HY.out.below hb5)
  replace HG := Lib.hid (HG.out.below hb5)
  replace HR := Lib.hid (HR.out.below hb5)
  obtain ⟨W3, hW3⟩ : ∃ W3, W3 = w2.alloc (.cells #[.bool s.s, .slice A (nd 64 s.n) c, .int .i64 s.e] 63) := ⟨_, rfl⟩
  rw [← hW3] at VS HB BX BY HX HY HG HR
  clear hb4 hb5 hrd Hadd1 x0 x1 x2 x3 x4 x5 x6 x7 y0 y1 y2 y3 y4 y5 y6 y7
  go_upto_region 17 with (fail)
  rw [← hW3]
  clear hW3
  generalize w2.heap.size = g17 at *
  obtain ⟨q0, q1, q2, -, -⟩ := VS.out.bx.cells
  obtain ⟨sg, hsg⟩ : ∃ z, z = sgD s.s s.n := ⟨_, rfl⟩
  have hsn := Sign_any s.s A s.n (nd 64 s.n) c s.e W3 VS.out.rd
  rw [← hsg] at hsn
  have Hsn := Lib.hid hsn
  clear hsn
  have Hsg := Lib.hid hsg
  clear hsg
  go_wp2_with fail
  refine Hsn.out.mono ?_
  rintro _ w4 ⟨rfl, hb6⟩
  replace VS := Lib.hid (VS.out.below hb6)
  replace HB := Lib.hid (keep_belowB HB.out hb6 (Nat.le_refl _))
  replace BX := Lib.hid (BX.out.below hb6)
  replace BY := Lib.hid (BY.out.below hb6)
  replace HX := Lib.hid (HX.out.below hb6)
  replace HY := Lib.hid (HY.out.below hb6)
  replace HG := Lib.hid (HG.out.below hb6)
  replace HR := Lib.hid (HR.out.below hb6)
  clear hb6 Hsn q0 q1 q2
  by_cases h0 : s.n = 0
  rotate_left
  · have t1 : (sg == 0) = false := by
      rw [Hsg.out]; unfold sgD; rw [if_neg h0]; cases s.s <;> rfl
    have e1 : r1 = (intoS F m s.s s.n s.e false).1 := by rw [H1.out]; simp [h0]
    have e2 : r2 = (intoS F m s.s s.n s.e false).2 := by rw [H2.out]; simp [h0]
    have hx := Hex.out h0 A c w4 VS.out.rd HG.out HR.out
    rw [← e1, ← e2] at hx
    have Hx := Lib.hid hx
    clear H1 H2 Hsg Hzer Hex hx e1 e2 h0
    obtain ⟨q0, q1, q2, -, -⟩ := VS.out.bx.cells
    go_wp2_with fail
    refine Hx.out.mono ?_
    rintro _ w5 ⟨rfl, hb7⟩
    replace HB := Lib.hid (keep_belowB HB.out hb7 (Nat.le_refl _))
    clear hb7 Hx q0 q1 q2
    go_wp2_with fail
    refine bodyPost_ret (v := .tuple #[.int .u64 r1, .int .i64 r2, .int .i64 0]) (by simp [results, Tryz.results30, go_sem]) rfl ⟨rfl, HB.out⟩
  have e0 : sg = 0 := by rw [Hsg.out]; unfold sgD; rw [if_pos h0]
  subst e0
  clear Hsg Hex
  have e2 : r2 = 0 := by rw [H2.out]; simp [h0]
  have hr1 := H1.out
  clear H1 H2
  simp only [h0, if_true, Bool.false_eq_true, if_false, Bool.or_self, Bool.false_and, Bool.and_self] at hr1
  have H1 := Lib.hid hr1
  clear hr1 h0
  obtain ⟨x0, x1, x2, x3, x4, x5, x6, x7⟩ := BX.out.eight
  obtain ⟨sx, hsx⟩ : ∃ z, z = sgD xd.s xd.n := ⟨_, rfl⟩
  have hsn := Sign_any xd.s A1 xd.n (nd 64 xd.n) c1 xd.e w4 HX.out
  rw [← hsx] at hsn
  have Hsn := Lib.hid hsn
  have Hsx := Lib.hid hsx
  clear hsn hsx
  go_wp2_with fail
  refine Hsn.out.mono ?_
  rintro _ w5 ⟨rfl, hb7⟩
  replace HB := Lib.hid (keep_belowB HB.out hb7 (Nat.le_refl _))
  replace BX := Lib.hid (BX.out.below hb7)
  replace BY := Lib.hid (BY.out.below hb7)
  replace HY := Lib.hid (HY.out.below hb7)
  replace HR := Lib.hid (HR.out.below hb7)
  clear hb7 Hsn x0 x1 x2 x3 x4 x5 x6 x7 HX HG VS
  by_cases hx0 : xd.n = 0
  rotate_left
  · have t1 : (sx == 0) = false := by
      rw [Hsx.out]; unfold sgD; rw [if_neg hx0]; cases xd.s <;> rfl
    clear Hsx
    have e1 : r1 = F.sg b4 := by rw [H1.out]; simp [hx0]
    clear H1
    go_wp2_with fail
    refine (Hzer.out b4 _ HR.out).mono ?_
    rintro _ w7 ⟨rfl, hb9⟩
    replace HB := Lib.hid (keep_belowB HB.out hb9 (Nat.le_refl _))
    clear hb9 Hzer
    go_wp2_with fail
    refine bodyPost_ret (v := .tuple #[.int .u64 (F.sg b4 : Nat), .int .i64 0, .int .i64 0]) (by simp [results, Tryz.results30, go_sem]) rfl ?_
    exact ⟨by rw [e1, e2]; rfl, HB.out⟩
  have ex : sx = 0 := by rw [Hsx.out]; unfold sgD; rw [if_pos hx0]
  subst ex
  clear Hsx
  obtain ⟨y0, y1, y2, y3, y4, y5, y6, y7⟩ := BY.out.eight
  obtain ⟨sy, hsy⟩ : ∃ z, z = sgD yd.s yd.n := ⟨_, rfl⟩
  have hsn := Sign_any yd.s A2 yd.n (nd 64 yd.n) c2 yd.e w5 HY.out
  rw [← hsy] at hsn
  have Hsn := Lib.hid hsn
  have Hsy := Lib.hid hsy
  clear hsn hsy
  go_wp2_with fail
  refine Hsn.out.mono ?_
  rintro _ w6 ⟨rfl, hb8⟩
  replace HB := Lib.hid (keep_belowB HB.out hb8 (Nat.le_refl _))
  replace BX := Lib.hid (BX.out.below hb8)
  replace BY := Lib.hid (BY.out.below hb8)
  replace HR := Lib.hid (HR.out.below hb8)
  clear hb8 Hsn y0 y1 y2 y3 y4 y5 y6 y7 HY
  by_cases hy0 : yd.n = 0
  rotate_left
  · have t1 : (sy == 0) = false := by
      rw [Hsy.out]; unfold sgD; rw [if_neg hy0]; cases yd.s <;> rfl
    clear Hsy
    have e1 : r1 = F.sg b4 := by rw [H1.out]; simp [hx0, hy0]
    clear H1
    go_wp2_with fail
    refine (Hzer.out b4 _ HR.out).mono ?_
    rintro _ w7 ⟨rfl, hb9⟩
    replace HB := Lib.hid (keep_belowB HB.out hb9 (Nat.le_refl _))
    clear hb9 Hzer
    go_wp2_with fail
    refine bodyPost_ret (v := .tuple #[.int .u64 (F.sg b4 : Nat), .int .i64 0, .int .i64 0]) (by simp [results, Tryz.results30, go_sem]) rfl ?_
    exact ⟨by rw [e1, e2]; rfl, HB.out⟩
  have ey : sy = 0 := by rw [Hsy.out]; unfold sgD; rw [if_pos hy0]
  subst ey
  clear Hsy
  obtain ⟨x0, x1, x2, x3, x4, x5, x6, x7⟩ := BX.out.eight
  obtain ⟨y0, y1, y2, y3, y4, y5, y6, y7⟩ := BY.out.eight
  cases xg <;> cases yg
  · skip
    have e1 : r1 = F.sg false := by rw [H1.out]; simp [hx0, hy0]
    clear H1
    go_wp2_with fail
    refine (Hzer.out false _ HR.out).mono ?_
    rintro _ w7 ⟨rfl, hb9⟩
    replace HB := Lib.hid (keep_belowB HB.out hb9 (Nat.le_refl _))
    clear hb9 Hzer
    go_wp2_with fail
    refine bodyPost_ret (v := .tuple #[.int .u64 (F.sg false : Nat), .int .i64 0, .int .i64 0]) (by simp [results, Tryz.results30, go_sem]) rfl ?_
    exact ⟨by rw [e1, e2]; rfl, HB.out⟩
  · skip
    have e1 : r1 = F.sg b4 := by rw [H1.out]; simp [hx0, hy0]
    clear H1
    go_wp2_with fail
    refine (Hzer.out b4 _ HR.out).mono ?_
    rintro _ w7 ⟨rfl, hb9⟩
    replace HB := Lib.hid (keep_belowB HB.out hb9 (Nat.le_refl _))
    clear hb9 Hzer
    go_wp2_with fail
    refine bodyPost_ret (v := .tuple #[.int .u64 (F.sg b4 : Nat), .int .i64 0, .int .i64 0]) (by simp [results, Tryz.results30, go_sem]) rfl ?_
    exact ⟨by rw [e1, e2]; rfl, HB.out⟩
  · skip
    have e1 : r1 = F.sg b4 := by rw [H1.out]; simp [hx0, hy0]
    clear H1
    go_wp2_with fail
    refine (Hzer.out b4 _ HR.out).mono ?_
    rintro _ w7 ⟨rfl, hb9⟩
    replace HB := Lib.hid (keep_belowB HB.out hb9 (Nat.le_refl _))
    clear hb9 Hzer
    go_wp2_with fail
    refine bodyPost_ret (v := .tuple #[.int .u64 (F.sg b4 : Nat), .int .i64 0, .int .i64 0]) (by simp [results, Tryz.results30, go_sem]) rfl ?_
    exact ⟨by rw [e1, e2]; rfl, HB.out⟩
  · skip
    have e1 : r1 = F.sg true := by rw [H1.out]; simp [hx0, hy0]
    clear H1
    go_wp2_with fail
    refine (Hzer.out true _ HR.out).mono ?_
    rintro _ w7 ⟨rfl, hb9⟩
    replace HB := Lib.hid (keep_belowB HB.out hb9 (Nat.le_refl _))
    clear hb9 Hzer
    go_wp2_with fail
    refine bodyPost_ret (v := .tuple #[.int .u64 (F.sg true : Nat), .int .i64 0, .int .i64 0]) (by simp [results, Tryz.results30, go_sem]) rfl ?_
    exact ⟨by rw [e1, e2]; rfl, HB.out⟩

end Go.Proofs.YtdbfkfbncmbfcaaGreatDoor
