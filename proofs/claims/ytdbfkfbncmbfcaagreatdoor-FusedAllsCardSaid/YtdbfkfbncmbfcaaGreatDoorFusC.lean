/- The walk of fused.product. -/
import Derived.Test.YtdbfkfbncmbfcaaGreatDoorFusB
namespace Go.Proofs.YtdbfkfbncmbfcaaGreatDoor
set_option linter.unusedVariables false
open Go.RowKit

set_option maxRecDepth 100000 in
set_option maxHeartbeats 16000000 in
theorem product_pt (f a b : Nat) (w : World) (hf : f < 4) (ha : a < 2 ^ (fm f).w) (hb : b < 2 ^ (fm f).w) (hG : Gl w) (hR : GlR w) :
    Calls Tryz.prog 31 #[.int .i64 f, .int .u64 a, .int .u64 b] w fun e w' => ∃ A c, e = .returned (.agg (pv (timesP (singleP (fm f) a) (singleP (fm f) b)) A c)) ∧
      Rd 64 w' (.slice A (nd 64 (timesP (singleP (fm f) a) (singleP (fm f) b)).d.n) c) (timesP (singleP (fm f) a) (singleP (fm f) b)).d.n (nd 64 (timesP (singleP (fm f) a) (singleP (fm f) b)).d.n) ∧ Below w.heap.size w w' := by
  have ok := fm_ok f
  have hsa := fun wx h1 h2 => single_any f a wx hf ha h1 h2
  have hsb := fun wx h1 h2 => single_any f b wx hf hb h1 h2
  have hpa := single_ps ok a
  have hpb := single_ps ok b
  obtain ⟨x, hx⟩ : ∃ x, x = singleP (fm f) a := ⟨_, rfl⟩
  obtain ⟨y, hy⟩ : ∃ x, x = singleP (fm f) b := ⟨_, rfl⟩
  rw [← hx] at hsa hpa ⊢
  rw [← hy] at hsb hpb ⊢
  clear hx hy
  obtain ⟨z, hz⟩ : ∃ z, z = timesP x y := ⟨_, rfl⟩
  rw [← hz]
  unfold timesP at hz
  obtain ⟨xn, xs, xi, xf, xg, xd⟩ := x
  obtain ⟨yn, ys, yi, yf, yg, yd⟩ := y
  unfold pv at hsa hsb
  simp only at hsa hsb hz
  have Hsa := Lib.hid hsa
  have Hsb := Lib.hid hsb
  have Hz := Lib.hid hz
  have hxs := hpa.sig
  have hys := hpb.sig
  simp only at hxs hys
  have Hs := Lib.hid (And.intro hxs hys)
  have hb0 := below1 w (.cells pv0 65)
  have b0 := Bx.new w pv0 65
  have HB := Lib.hid hb0
  have B6 := Lib.hid b0
  have HG := Lib.hid (hG.below hb0)
  have HR := Lib.hid (hR.below hb0)
  clear hsa hsb hpa hpb hz hxs hys hb0 b0 hG hR ok hf ha hb
  unfold pv0 at B6
  go_enter Tryz.func31, Tryz.ntmps31
  go_wp2_with fail
  refine (Hsa.out _ HG.out HR.out).mono ?_
  rintro _ w1 ⟨A1, c1, rfl, hrx, hb1⟩
  have HX := Lib.hid hrx
  replace HB := Lib.hid (keep_belowB HB.out hb1 (Nat.le_refl _))
  replace B6 := Lib.hid (B6.out.below hb1)
  replace HG := Lib.hid (HG.out.below hb1)
  replace HR := Lib.hid (HR.out.below hb1)
  clear hb1 Hsa hrx
  go_wp2_with fail
  refine (Hsb.out _ HG.out HR.out).mono ?_
  rintro _ w2 ⟨A2, c2, rfl, hry, hb2⟩
  replace HX := Lib.hid (HX.out.below hb2)
  have HY := Lib.hid hry
  replace HB := Lib.hid (keep_belowB HB.out hb2 (Nat.le_refl _))
  replace B6 := Lib.hid (B6.out.below hb2)
  replace HG := Lib.hid (HG.out.below hb2)
  replace HR := Lib.hid (HR.out.below hb2)
  clear hb2 Hsb hry
  have hlt0 : w.heap.size < w2.heap.size := by obtain ⟨t, h⟩ := B6.out; exact lt_size_of_some h
  have Hlt := Lib.hid hlt0
  clear hlt0
  have hb3 := below1 w2 (.cells #[.bool xn, .bool xs, .bool xi, .bool xf, .bool xg, .bool xd.s, .slice A1 (nd 64 xd.n) c1, .int .i64 xd.e] 65)
  have bx := Bx.new w2 #[.bool xn, .bool xs, .bool xi, .bool xf, .bool xg, .bool xd.s, .slice A1 (nd 64 xd.n) c1, .int .i64 xd.e] 65
  generalize hW1 : w2.alloc (.cells #[.bool xn, .bool xs, .bool xi, .bool xf, .bool xg, .bool xd.s, .slice A1 (nd 64 xd.n) c1, .int .i64 xd.e] 65) = W1 at *
  have hb4 := below1 W1 (.cells #[.bool yn, .bool ys, .bool yi, .bool yf, .bool yg, .bool yd.s, .slice A2 (nd 64 yd.n) c2, .int .i64 yd.e] 65)
  have by_ := Bx.new W1 #[.bool yn, .bool ys, .bool yi, .bool yf, .bool yg, .bool yd.s, .slice A2 (nd 64 yd.n) c2, .int .i64 yd.e] 65
  obtain ⟨W2, hW2⟩ : ∃ W2, W2 = W1.alloc (.cells #[.bool yn, .bool ys, .bool yi, .bool yf, .bool yg, .bool yd.s, .slice A2 (nd 64 yd.n) c2, .int .i64 yd.e] 65) := ⟨_, rfl⟩
  rw [← hW2] at hb4 by_
  have hsz : W1.heap.size = w2.heap.size + 1 := by rw [← hW1]; simp
  replace HX := Lib.hid ((HX.out.below hb3).below hb4)
  replace HY := Lib.hid ((HY.out.below hb3).below hb4)
  replace HB := Lib.hid (keep_belowB (keep_belowB HB.out hb3 (Nat.le_refl _)) hb4 (Nat.le_refl _))
  replace B6 := Lib.hid ((B6.out.below hb3).below hb4)
  replace HG := Lib.hid ((HG.out.below hb3).below hb4)
  replace HR := Lib.hid ((HR.out.below hb3).below hb4)
  have BX := Lib.hid (bx.below hb4)
  have BY := Lib.hid by_
  rw [hsz] at BY
  have HW1 := Lib.hid hW1
  clear hb3 hb4 bx by_ hsz hW1
  go_upto_region 2 with (fail)
  rw [HW1.out, ← hW2]
  clear HW1 hW2
  have Hle := Lib.hid (show w.heap.size ≤ W2.heap.size by obtain ⟨t, h⟩ := B6.out; have := lt_size_of_some h; omega)
  have Hg2 := Lib.hid (show w.heap.size ≠ w2.heap.size ∧ w.heap.size ≠ w2.heap.size + 1 by have := Hlt.out; omega)
  have Hg3 := Lib.hid (show w2.heap.size < W2.heap.size ∧ w2.heap.size + 1 < W2.heap.size by obtain ⟨t, h⟩ := BY.out; have := lt_size_of_some h; omega)
  generalize w2.heap.size = g7 at *
  obtain ⟨x0, x1, x2, x3, x4, x5, x6, x7⟩ := BX.out.eight
  obtain ⟨y0, y1, y2, y3, y4, y5, y6, y7⟩ := BY.out.eight
  have hs := Hs.out
  cases xn
  rotate_left
  · cases xs
    rotate_left
    · skip
      have hz' : z = ⟨true, true, false, false, xg != yg, D.zero⟩ := by rw [Hz.out]; rfl
      have bn := Bx.new W2 #[.bool true, .bool true, .bool false, .bool false, .bool (!(xg == yg)), .bool false, .slice none 0 0, .int .i64 0] 65
      have hbn := below1 W2 (.cells #[.bool true, .bool true, .bool false, .bool false, .bool (!(xg == yg)), .bool false, .slice none 0 0, .int .i64 0] 65)
      obtain ⟨k0, k1, k2, k3, k4, k5, k6, k7⟩ := bn.eight
      replace B6 := Lib.hid (B6.out.below hbn)
      replace HB := Lib.hid (keep_belowB HB.out hbn (Nat.le_refl _))
      clear bn hbn Hz
      obtain ⟨c0, c1', c2', c3, c4, c5, c6, c7⟩ := B6.out.eight
      have rf : ∀ j, (W2.alloc (.cells #[.bool true, .bool true, .bool false, .bool false, .bool (!(xg == yg)), .bool false, .slice none 0 0, .int .i64 0] 65)).frozen? ⟨w.heap.size, j, none⟩ = false := fun j => B6.out.free j
      go_wp2_with fail
      obtain ⟨r0, r1, r2, r3, r4, r5, r6, r7⟩ := (B6.out.set8 (.bool true) (.bool true) (.bool false) (.bool false) (.bool (!(xg == yg))) (.bool false) (.slice none 0 0) (.int .i64 0)).eight
      refine bodyPost_ret (v := .agg #[.bool true, .bool true, .bool false, .bool false, .bool (!(xg == yg)), .bool false, .slice none 0 0, .int .i64 0]) (by simp [results, Tryz.results31, go_sem, r0, r1, r2, r3, r4, r5, r6, r7]) rfl ?_
      subst hz'
      exact ⟨none, 0, rfl, Rd.none_, below_set8 HB.out (Nat.le_refl _) _ _ _ _ _ _ _ _⟩
    · cases ys
      rotate_left
      · have hyn : yn = true := hs.2 rfl
        subst hyn
        have hz' : z = ⟨true, true, false, false, xg != yg, D.zero⟩ := by rw [Hz.out]; rfl
        have bn := Bx.new W2 #[.bool true, .bool true, .bool false, .bool false, .bool (!(xg == yg)), .bool false, .slice none 0 0, .int .i64 0] 65
        have hbn := below1 W2 (.cells #[.bool true, .bool true, .bool false, .bool false, .bool (!(xg == yg)), .bool false, .slice none 0 0, .int .i64 0] 65)
        obtain ⟨k0, k1, k2, k3, k4, k5, k6, k7⟩ := bn.eight
        replace B6 := Lib.hid (B6.out.below hbn)
        replace HB := Lib.hid (keep_belowB HB.out hbn (Nat.le_refl _))
        clear bn hbn Hz
        obtain ⟨c0, c1', c2', c3, c4, c5, c6, c7⟩ := B6.out.eight
        have rf : ∀ j, (W2.alloc (.cells #[.bool true, .bool true, .bool false, .bool false, .bool (!(xg == yg)), .bool false, .slice none 0 0, .int .i64 0] 65)).frozen? ⟨w.heap.size, j, none⟩ = false := fun j => B6.out.free j
        go_wp2_with fail
        obtain ⟨r0, r1, r2, r3, r4, r5, r6, r7⟩ := (B6.out.set8 (.bool true) (.bool true) (.bool false) (.bool false) (.bool (!(xg == yg))) (.bool false) (.slice none 0 0) (.int .i64 0)).eight
        refine bodyPost_ret (v := .agg #[.bool true, .bool true, .bool false, .bool false, .bool (!(xg == yg)), .bool false, .slice none 0 0, .int .i64 0]) (by simp [results, Tryz.results31, go_sem, r0, r1, r2, r3, r4, r5, r6, r7]) rfl ?_
        subst hz'
        exact ⟨none, 0, rfl, Rd.none_, below_set8 HB.out (Nat.le_refl _) _ _ _ _ _ _ _ _⟩
      · skip
        have hz' : z = ⟨true, false, false, false, xg != yg, D.zero⟩ := by rw [Hz.out]; rfl
        have bn := Bx.new W2 #[.bool true, .bool false, .bool false, .bool false, .bool (!(xg == yg)), .bool false, .slice none 0 0, .int .i64 0] 65
        have hbn := below1 W2 (.cells #[.bool true, .bool false, .bool false, .bool false, .bool (!(xg == yg)), .bool false, .slice none 0 0, .int .i64 0] 65)
        obtain ⟨k0, k1, k2, k3, k4, k5, k6, k7⟩ := bn.eight
        replace B6 := Lib.hid (B6.out.below hbn)
        replace HB := Lib.hid (keep_belowB HB.out hbn (Nat.le_refl _))
        clear bn hbn Hz
        obtain ⟨c0, c1', c2', c3, c4, c5, c6, c7⟩ := B6.out.eight
        have rf : ∀ j, (W2.alloc (.cells #[.bool true, .bool false, .bool false, .bool false, .bool (!(xg == yg)), .bool false, .slice none 0 0, .int .i64 0] 65)).frozen? ⟨w.heap.size, j, none⟩ = false := fun j => B6.out.free j
        go_wp2_with fail
        obtain ⟨r0, r1, r2, r3, r4, r5, r6, r7⟩ := (B6.out.set8 (.bool true) (.bool false) (.bool false) (.bool false) (.bool (!(xg == yg))) (.bool false) (.slice none 0 0) (.int .i64 0)).eight
        refine bodyPost_ret (v := .agg #[.bool true, .bool false, .bool false, .bool false, .bool (!(xg == yg)), .bool false, .slice none 0 0, .int .i64 0]) (by simp [results, Tryz.results31, go_sem, r0, r1, r2, r3, r4, r5, r6, r7]) rfl ?_
        subst hz'
        exact ⟨none, 0, rfl, Rd.none_, below_set8 HB.out (Nat.le_refl _) _ _ _ _ _ _ _ _⟩
  have hxs : xs = false := by cases xs; rfl; exact absurd (hs.1 rfl) (by decide)
  subst hxs
  cases yn
  rotate_left
  · cases ys
    rotate_left
    · skip
      have hz' : z = ⟨true, true, false, false, xg != yg, D.zero⟩ := by rw [Hz.out]; rfl
      have bn := Bx.new W2 #[.bool true, .bool true, .bool false, .bool false, .bool (!(xg == yg)), .bool false, .slice none 0 0, .int .i64 0] 65
      have hbn := below1 W2 (.cells #[.bool true, .bool true, .bool false, .bool false, .bool (!(xg == yg)), .bool false, .slice none 0 0, .int .i64 0] 65)
      obtain ⟨k0, k1, k2, k3, k4, k5, k6, k7⟩ := bn.eight
      replace B6 := Lib.hid (B6.out.below hbn)
      replace HB := Lib.hid (keep_belowB HB.out hbn (Nat.le_refl _))
      clear bn hbn Hz
      obtain ⟨c0, c1', c2', c3, c4, c5, c6, c7⟩ := B6.out.eight
      have rf : ∀ j, (W2.alloc (.cells #[.bool true, .bool true, .bool false, .bool false, .bool (!(xg == yg)), .bool false, .slice none 0 0, .int .i64 0] 65)).frozen? ⟨w.heap.size, j, none⟩ = false := fun j => B6.out.free j
      go_wp2_with fail
      obtain ⟨r0, r1, r2, r3, r4, r5, r6, r7⟩ := (B6.out.set8 (.bool true) (.bool true) (.bool false) (.bool false) (.bool (!(xg == yg))) (.bool false) (.slice none 0 0) (.int .i64 0)).eight
      refine bodyPost_ret (v := .agg #[.bool true, .bool true, .bool false, .bool false, .bool (!(xg == yg)), .bool false, .slice none 0 0, .int .i64 0]) (by simp [results, Tryz.results31, go_sem, r0, r1, r2, r3, r4, r5, r6, r7]) rfl ?_
      subst hz'
      exact ⟨none, 0, rfl, Rd.none_, below_set8 HB.out (Nat.le_refl _) _ _ _ _ _ _ _ _⟩
    · skip
      have hz' : z = ⟨true, false, false, false, xg != yg, D.zero⟩ := by rw [Hz.out]; rfl
      have bn := Bx.new W2 #[.bool true, .bool false, .bool false, .bool false, .bool (!(xg == yg)), .bool false, .slice none 0 0, .int .i64 0] 65
      have hbn := below1 W2 (.cells #[.bool true, .bool false, .bool false, .bool false, .bool (!(xg == yg)), .bool false, .slice none 0 0, .int .i64 0] 65)
      obtain ⟨k0, k1, k2, k3, k4, k5, k6, k7⟩ := bn.eight
      replace B6 := Lib.hid (B6.out.below hbn)
      replace HB := Lib.hid (keep_belowB HB.out hbn (Nat.le_refl _))
      clear bn hbn Hz
      obtain ⟨c0, c1', c2', c3, c4, c5, c6, c7⟩ := B6.out.eight
      have rf : ∀ j, (W2.alloc (.cells #[.bool true, .bool false, .bool false, .bool false, .bool (!(xg == yg)), .bool false, .slice none 0 0, .int .i64 0] 65)).frozen? ⟨w.heap.size, j, none⟩ = false := fun j => B6.out.free j
      go_wp2_with fail
      obtain ⟨r0, r1, r2, r3, r4, r5, r6, r7⟩ := (B6.out.set8 (.bool true) (.bool false) (.bool false) (.bool false) (.bool (!(xg == yg))) (.bool false) (.slice none 0 0) (.int .i64 0)).eight
      refine bodyPost_ret (v := .agg #[.bool true, .bool false, .bool false, .bool false, .bool (!(xg == yg)), .bool false, .slice none 0 0, .int .i64 0]) (by simp [results, Tryz.results31, go_sem, r0, r1, r2, r3, r4, r5, r6, r7]) rfl ?_
      subst hz'
      exact ⟨none, 0, rfl, Rd.none_, below_set8 HB.out (Nat.le_refl _) _ _ _ _ _ _ _ _⟩
  have hys : ys = false := by cases ys; rfl; exact absurd (hs.2 rfl) (by decide)
  subst hys
  have bn := Bx.new W2 #[.bool false, .bool false, .bool false, .bool false, .bool (!(xg == yg)), .bool false, .slice none 0 0, .int .i64 0] 65
  have hbn := below1 W2 (.cells #[.bool false, .bool false, .bool false, .bool false, .bool (!(xg == yg)), .bool false, .slice none 0 0, .int .i64 0] 65)
  obtain ⟨W3, hW3⟩ : ∃ W3, W3 = W2.alloc (.cells #[.bool false, .bool false, .bool false, .bool false, .bool (!(xg == yg)), .bool false, .slice none 0 0, .int .i64 0] 65) := ⟨_, rfl⟩
  rw [← hW3] at bn hbn
  go_upto_region 5 with (fail)
  rw [← hW3]
  clear hW3 x0 x1 x2 x3 x4 x5 x6 x7 y0 y1 y2 y3 y4 y5 y6 y7 hs Hs
  have BZ := Lib.hid bn
  have Hbw := Lib.hid hbn
  clear bn hbn
  have hz := Hz.out
  clear Hz
  simp only [Bool.or_self, Bool.false_eq_true, if_false] at hz
  have Hz := Lib.hid hz
  clear hz
  cases xf <;> cases yf
  · skip
    obtain ⟨x3, y3, zf⟩ : W3.cell? ⟨g7, 3, none⟩ = some (.bool false) ∧ W3.cell? ⟨g7 + 1, 3, none⟩ = some (.bool false) ∧ (∀ j, W3.frozen? ⟨W2.heap.size, j, none⟩ = false) := ⟨(BX.out.below Hbw.out).cell 3 rfl, (BY.out.below Hbw.out).cell 3 rfl, fun j => BZ.out.free j⟩
    obtain ⟨z0, z1, z2, z3, z4, z5, z6, z7⟩ := BZ.out.eight
    go_upto_region 6 with (fail)
    clear x3 y3 zf z0 z1 z2 z3 z4 z5 z6 z7
    replace BZ := Lib.hid (BZ.out.put3 (.bool false))
    replace Hbw := Lib.hid (Hbw.out.setCell (p := ⟨W2.heap.size, 3, none⟩) (Nat.le_refl _) (.bool false))
    generalize W3.setCell ⟨W2.heap.size, 3, none⟩ (.bool false) = X1 at *
    obtain ⟨x3, y3, zf⟩ : X1.cell? ⟨g7, 3, none⟩ = some (.bool false) ∧ X1.cell? ⟨g7 + 1, 3, none⟩ = some (.bool false) ∧ (∀ j, X1.frozen? ⟨W2.heap.size, j, none⟩ = false) := ⟨(BX.out.below Hbw.out).cell 3 rfl, (BY.out.below Hbw.out).cell 3 rfl, fun j => BZ.out.free j⟩
    obtain ⟨z0, z1, z2, z3, z4, z5, z6, z7⟩ := BZ.out.eight
    go_upto_region 7 with (fail)
    clear x3 y3 zf z0 z1 z2 z3 z4 z5 z6 z7
    replace BZ := Lib.hid (BZ.out.put2 (.bool false))
    replace Hbw := Lib.hid (Hbw.out.setCell (p := ⟨W2.heap.size, 2, none⟩) (Nat.le_refl _) (.bool false))
    generalize X1.setCell ⟨W2.heap.size, 2, none⟩ (.bool false) = X2 at *
    have hz' : z = ⟨false, false, false, false, xg != yg, (mulD (nd 64 xd.n) xd (nd 64 yd.n) yd).1⟩ := by rw [Hz.out]; rfl
    obtain ⟨z0, z1, z2, z3, z4, z5, z6, z7⟩ := BZ.out.eight
    obtain ⟨x0, x1, x2, x3, x4, x5, x6, x7⟩ := (BX.out.below Hbw.out).eight
    obtain ⟨y0, y1, y2, y3, y4, y5, y6, y7⟩ := (BY.out.below Hbw.out).eight
    have hm := DMul_any xd.s yd.s A1 A2 xd.n (nd 64 xd.n) c1 yd.n (nd 64 yd.n) c2 xd.e yd.e X2 (HX.out.below Hbw.out) (HY.out.below Hbw.out) (HG.out.below Hbw.out)
    rw [show mulD (nd 64 xd.n) ⟨xd.s, xd.n, xd.e⟩ (nd 64 yd.n) ⟨yd.s, yd.n, yd.e⟩ = mulD (nd 64 xd.n) xd (nd 64 yd.n) yd from rfl] at hm
    obtain ⟨⟨d, ee⟩, hd⟩ : ∃ r, r = mulD (nd 64 xd.n) xd (nd 64 yd.n) yd := ⟨_, rfl⟩
    rw [← hd] at hm hz'
    simp only at hm hz'
    have Hm := Lib.hid hm
    have hX2 : W2.heap.size < X2.heap.size := by obtain ⟨t, h⟩ := BZ.out; exact lt_size_of_some h
    have HX2 := Lib.hid hX2
    clear Hz hm hd hX2
    go_wp2_with fail
    refine Hm.out.mono ?_
    rintro _ w4 ⟨v, rfl, ⟨A, c, rfl, -, -, hrd, hfr⟩, hb4⟩
    replace BZ := Lib.hid (BZ.out.below hb4)
    replace Hbw := Lib.hid (Hbw.out.trans (hb4.mono Hbw.out.size))
    have HRD := Lib.hid (And.intro hrd hfr)
    clear hb4 hrd hfr Hm x0 x1 x2 x3 x4 x5 x6 x7 y0 y1 y2 y3 y4 y5 y6 y7 z0 z1 z2 z3 z4 z5 z6 z7
    obtain ⟨l0, l1, l2, l3, l4, l5, l6, l7⟩ := BZ.out.eight
    have lf : ∀ j, w4.frozen? ⟨W2.heap.size, j, none⟩ = false := fun j => BZ.out.free j
    have BZ2 := Lib.hid (BZ.out.set3 (.bool d.s) (.slice A (nd 64 d.n) c) (.int .i64 d.e))
    obtain ⟨k0, k1, k2, k3, k4, k5, k6, k7⟩ := BZ2.out.eight
    have hbw2 := (((Hbw.out.setCell (p := ⟨W2.heap.size, 5, none⟩) (Nat.le_refl _) (.bool d.s)).setCell (p := ⟨W2.heap.size, 6, none⟩) (Nat.le_refl _) (.slice A (nd 64 d.n) c)).setCell (p := ⟨W2.heap.size, 7, none⟩) (Nat.le_refl _) (.int .i64 d.e))
    have b6 := B6.out.below hbw2
    have rf := fun j => b6.free j
    obtain ⟨d0, d1, d2, d3, d4, d5, d6, d7⟩ := b6.eight
    have B6' := Lib.hid b6
    have HBX := Lib.hid (HB.out.trans (hbw2.mono HB.out.size))
    clear b6 hbw2
    go_wp2_with fail
    obtain ⟨r0, r1, r2, r3, r4, r5, r6, r7⟩ := (B6'.out.set8 (.bool false) (.bool false) (.bool false) (.bool false) (.bool (!(xg == yg))) (.bool d.s) (.slice A (nd 64 d.n) c) (.int .i64 d.e)).eight
    refine bodyPost_ret (v := .agg #[.bool false, .bool false, .bool false, .bool false, .bool (!(xg == yg)), .bool d.s, .slice A (nd 64 d.n) c, .int .i64 d.e]) (by simp [results, Tryz.results31, go_sem, r0, r1, r2, r3, r4, r5, r6, r7]) rfl ?_
    subst hz'
    refine ⟨A, c, rfl, ?_, below_set8 HBX.out (Nat.le_refl _) _ _ _ _ _ _ _ _⟩
    have hB1 := HX2.out
    have hB2 : w.heap.size < X2.heap.size := by have := HB.out.size; omega
    exact (rf_set (rf_set (rf_set (rf_set (rf_set (rf_set (rf_set (rf_set (rf_set (rf_set (rf_set HRD.out (p := ⟨W2.heap.size, 5, none⟩) hB1 _) (p := ⟨W2.heap.size, 6, none⟩) hB1 _) (p := ⟨W2.heap.size, 7, none⟩) hB1 _) (p := ⟨w.heap.size, 0, none⟩) hB2 _) (p := ⟨w.heap.size, 1, none⟩) hB2 _) (p := ⟨w.heap.size, 2, none⟩) hB2 _) (p := ⟨w.heap.size, 3, none⟩) hB2 _) (p := ⟨w.heap.size, 4, none⟩) hB2 _) (p := ⟨w.heap.size, 5, none⟩) hB2 _) (p := ⟨w.heap.size, 6, none⟩) hB2 _) (p := ⟨w.heap.size, 7, none⟩) hB2 _).1
  · skip
    obtain ⟨x3, y3, zf⟩ : W3.cell? ⟨g7, 3, none⟩ = some (.bool false) ∧ W3.cell? ⟨g7 + 1, 3, none⟩ = some (.bool true) ∧ (∀ j, W3.frozen? ⟨W2.heap.size, j, none⟩ = false) := ⟨(BX.out.below Hbw.out).cell 3 rfl, (BY.out.below Hbw.out).cell 3 rfl, fun j => BZ.out.free j⟩
    obtain ⟨z0, z1, z2, z3, z4, z5, z6, z7⟩ := BZ.out.eight
    go_upto_region 6 with (fail)
    clear x3 y3 zf z0 z1 z2 z3 z4 z5 z6 z7
    replace BZ := Lib.hid (BZ.out.put3 (.bool true))
    replace Hbw := Lib.hid (Hbw.out.setCell (p := ⟨W2.heap.size, 3, none⟩) (Nat.le_refl _) (.bool true))
    generalize W3.setCell ⟨W2.heap.size, 3, none⟩ (.bool true) = X1 at *
    obtain ⟨x3, y3, zf⟩ : X1.cell? ⟨g7, 3, none⟩ = some (.bool false) ∧ X1.cell? ⟨g7 + 1, 3, none⟩ = some (.bool true) ∧ (∀ j, X1.frozen? ⟨W2.heap.size, j, none⟩ = false) := ⟨(BX.out.below Hbw.out).cell 3 rfl, (BY.out.below Hbw.out).cell 3 rfl, fun j => BZ.out.free j⟩
    obtain ⟨z0, z1, z2, z3, z4, z5, z6, z7⟩ := BZ.out.eight
    obtain ⟨-, -, -, -, -, q5, q6, q7⟩ := (BX.out.below Hbw.out).eight
    have hsg := Sign_any xd.s A1 xd.n (nd 64 xd.n) c1 xd.e X1 (HX.out.below Hbw.out)
    obtain ⟨sg, hsg'⟩ : ∃ x, x = sgD xd.s xd.n := ⟨_, rfl⟩
    rw [← hsg'] at hsg
    have Hsg := Lib.hid hsg
    clear hsg
    go_wp2_with fail
    refine Hsg.out.mono ?_
    rintro _ w4 ⟨rfl, hb4⟩
    replace BZ := Lib.hid (BZ.out.below hb4)
    replace Hbw := Lib.hid (Hbw.out.trans (hb4.mono Hbw.out.size))
    clear hb4 Hsg q5 q6 q7
    clear x3 y3 zf z0 z1 z2 z3 z4 z5 z6 z7
    obtain ⟨x3, y3, zf⟩ : w4.cell? ⟨g7, 3, none⟩ = some (.bool false) ∧ w4.cell? ⟨g7 + 1, 3, none⟩ = some (.bool true) ∧ (∀ j, w4.frozen? ⟨W2.heap.size, j, none⟩ = false) := ⟨(BX.out.below Hbw.out).cell 3 rfl, (BY.out.below Hbw.out).cell 3 rfl, fun j => BZ.out.free j⟩
    obtain ⟨z0, z1, z2, z3, z4, z5, z6, z7⟩ := BZ.out.eight
    by_cases h0 : xd.n = 0
    · have e0 : sg = 0 := by rw [hsg']; unfold sgD; rw [if_pos h0]
      subst e0
      clear hsg'
      go_upto_region 7 with (fail)
      clear x3 y3 zf z0 z1 z2 z3 z4 z5 z6 z7
      replace BZ := Lib.hid (BZ.out.put2 (.bool true))
      replace Hbw := Lib.hid (Hbw.out.setCell (p := ⟨W2.heap.size, 2, none⟩) (Nat.le_refl _) (.bool true))
      generalize w4.setCell ⟨W2.heap.size, 2, none⟩ (.bool true) = X2 at *
      have hz' : z = ⟨false, false, true, true, xg != yg, D.zero⟩ := by rw [Hz.out]; simp [h0]
      obtain ⟨z0, z1, z2, z3, z4, z5, z6, z7⟩ := BZ.out.eight
      have b6 := B6.out.below Hbw.out
      have rf : ∀ j, X2.frozen? ⟨w.heap.size, j, none⟩ = false := fun j => b6.free j
      obtain ⟨d0, d1, d2, d3, d4, d5, d6, d7⟩ := b6.eight
      have B6' := Lib.hid b6
      have HBX := Lib.hid (HB.out.trans (Hbw.out.mono HB.out.size))
      clear b6 Hz
      go_wp2_with fail
      obtain ⟨r0, r1, r2, r3, r4, r5, r6, r7⟩ := (B6'.out.set8 (.bool false) (.bool false) (.bool true) (.bool true) (.bool (!(xg == yg))) (.bool false) (.slice none 0 0) (.int .i64 0)).eight
      refine bodyPost_ret (v := .agg #[.bool false, .bool false, .bool true, .bool true, .bool (!(xg == yg)), .bool false, .slice none 0 0, .int .i64 0]) (by simp [results, Tryz.results31, go_sem, r0, r1, r2, r3, r4, r5, r6, r7]) rfl ?_
      subst hz'
      exact ⟨none, 0, rfl, Rd.none_, below_set8 HBX.out (Nat.le_refl _) _ _ _ _ _ _ _ _⟩
    · have t1 : (sg == 0) = false := by
        rw [hsg']; unfold sgD; rw [if_neg h0]; cases xd.s <;> rfl
      clear hsg'
      go_upto_region 7 with (fail)
      clear x3 y3 zf z0 z1 z2 z3 z4 z5 z6 z7
      replace BZ := Lib.hid (BZ.out.put2 (.bool false))
      replace Hbw := Lib.hid (Hbw.out.setCell (p := ⟨W2.heap.size, 2, none⟩) (Nat.le_refl _) (.bool false))
      generalize w4.setCell ⟨W2.heap.size, 2, none⟩ (.bool false) = X2 at *
      have hz' : z = ⟨false, false, false, true, xg != yg, D.zero⟩ := by rw [Hz.out]; simp [h0]
      obtain ⟨z0, z1, z2, z3, z4, z5, z6, z7⟩ := BZ.out.eight
      have b6 := B6.out.below Hbw.out
      have rf : ∀ j, X2.frozen? ⟨w.heap.size, j, none⟩ = false := fun j => b6.free j
      obtain ⟨d0, d1, d2, d3, d4, d5, d6, d7⟩ := b6.eight
      have B6' := Lib.hid b6
      have HBX := Lib.hid (HB.out.trans (Hbw.out.mono HB.out.size))
      clear b6 Hz
      go_wp2_with fail
      obtain ⟨r0, r1, r2, r3, r4, r5, r6, r7⟩ := (B6'.out.set8 (.bool false) (.bool false) (.bool false) (.bool true) (.bool (!(xg == yg))) (.bool false) (.slice none 0 0) (.int .i64 0)).eight
      refine bodyPost_ret (v := .agg #[.bool false, .bool false, .bool false, .bool true, .bool (!(xg == yg)), .bool false, .slice none 0 0, .int .i64 0]) (by simp [results, Tryz.results31, go_sem, r0, r1, r2, r3, r4, r5, r6, r7]) rfl ?_
      subst hz'
      exact ⟨none, 0, rfl, Rd.none_, below_set8 HBX.out (Nat.le_refl _) _ _ _ _ _ _ _ _⟩
  · skip
    obtain ⟨x3, y3, zf⟩ : W3.cell? ⟨g7, 3, none⟩ = some (.bool true) ∧ W3.cell? ⟨g7 + 1, 3, none⟩ = some (.bool false) ∧ (∀ j, W3.frozen? ⟨W2.heap.size, j, none⟩ = false) := ⟨(BX.out.below Hbw.out).cell 3 rfl, (BY.out.below Hbw.out).cell 3 rfl, fun j => BZ.out.free j⟩
    obtain ⟨z0, z1, z2, z3, z4, z5, z6, z7⟩ := BZ.out.eight
    go_upto_region 6 with (fail)
    clear x3 y3 zf z0 z1 z2 z3 z4 z5 z6 z7
    replace BZ := Lib.hid (BZ.out.put3 (.bool true))
    replace Hbw := Lib.hid (Hbw.out.setCell (p := ⟨W2.heap.size, 3, none⟩) (Nat.le_refl _) (.bool true))
    generalize W3.setCell ⟨W2.heap.size, 3, none⟩ (.bool true) = X1 at *
    obtain ⟨x3, y3, zf⟩ : X1.cell? ⟨g7, 3, none⟩ = some (.bool true) ∧ X1.cell? ⟨g7 + 1, 3, none⟩ = some (.bool false) ∧ (∀ j, X1.frozen? ⟨W2.heap.size, j, none⟩ = false) := ⟨(BX.out.below Hbw.out).cell 3 rfl, (BY.out.below Hbw.out).cell 3 rfl, fun j => BZ.out.free j⟩
    obtain ⟨z0, z1, z2, z3, z4, z5, z6, z7⟩ := BZ.out.eight
    obtain ⟨-, -, -, -, -, q5, q6, q7⟩ := (BY.out.below Hbw.out).eight
    have hsg := Sign_any yd.s A2 yd.n (nd 64 yd.n) c2 yd.e X1 (HY.out.below Hbw.out)
    obtain ⟨sg, hsg'⟩ : ∃ x, x = sgD yd.s yd.n := ⟨_, rfl⟩
    rw [← hsg'] at hsg
    have Hsg := Lib.hid hsg
    clear hsg
    go_wp2_with fail
    refine Hsg.out.mono ?_
    rintro _ w4 ⟨rfl, hb4⟩
    replace BZ := Lib.hid (BZ.out.below hb4)
    replace Hbw := Lib.hid (Hbw.out.trans (hb4.mono Hbw.out.size))
    clear hb4 Hsg q5 q6 q7
    clear x3 y3 zf z0 z1 z2 z3 z4 z5 z6 z7
    obtain ⟨x3, y3, zf⟩ : w4.cell? ⟨g7, 3, none⟩ = some (.bool true) ∧ w4.cell? ⟨g7 + 1, 3, none⟩ = some (.bool false) ∧ (∀ j, w4.frozen? ⟨W2.heap.size, j, none⟩ = false) := ⟨(BX.out.below Hbw.out).cell 3 rfl, (BY.out.below Hbw.out).cell 3 rfl, fun j => BZ.out.free j⟩
    obtain ⟨z0, z1, z2, z3, z4, z5, z6, z7⟩ := BZ.out.eight
    by_cases h0 : yd.n = 0
    · have e0 : sg = 0 := by rw [hsg']; unfold sgD; rw [if_pos h0]
      subst e0
      clear hsg'
      go_upto_region 7 with (fail)
      clear x3 y3 zf z0 z1 z2 z3 z4 z5 z6 z7
      replace BZ := Lib.hid (BZ.out.put2 (.bool true))
      replace Hbw := Lib.hid (Hbw.out.setCell (p := ⟨W2.heap.size, 2, none⟩) (Nat.le_refl _) (.bool true))
      generalize w4.setCell ⟨W2.heap.size, 2, none⟩ (.bool true) = X2 at *
      have hz' : z = ⟨false, false, true, true, xg != yg, D.zero⟩ := by rw [Hz.out]; simp [h0]
      obtain ⟨z0, z1, z2, z3, z4, z5, z6, z7⟩ := BZ.out.eight
      have b6 := B6.out.below Hbw.out
      have rf : ∀ j, X2.frozen? ⟨w.heap.size, j, none⟩ = false := fun j => b6.free j
      obtain ⟨d0, d1, d2, d3, d4, d5, d6, d7⟩ := b6.eight
      have B6' := Lib.hid b6
      have HBX := Lib.hid (HB.out.trans (Hbw.out.mono HB.out.size))
      clear b6 Hz
      go_wp2_with fail
      obtain ⟨r0, r1, r2, r3, r4, r5, r6, r7⟩ := (B6'.out.set8 (.bool false) (.bool false) (.bool true) (.bool true) (.bool (!(xg == yg))) (.bool false) (.slice none 0 0) (.int .i64 0)).eight
      refine bodyPost_ret (v := .agg #[.bool false, .bool false, .bool true, .bool true, .bool (!(xg == yg)), .bool false, .slice none 0 0, .int .i64 0]) (by simp [results, Tryz.results31, go_sem, r0, r1, r2, r3, r4, r5, r6, r7]) rfl ?_
      subst hz'
      exact ⟨none, 0, rfl, Rd.none_, below_set8 HBX.out (Nat.le_refl _) _ _ _ _ _ _ _ _⟩
    · have t1 : (sg == 0) = false := by
        rw [hsg']; unfold sgD; rw [if_neg h0]; cases yd.s <;> rfl
      clear hsg'
      go_upto_region 7 with (fail)
      clear x3 y3 zf z0 z1 z2 z3 z4 z5 z6 z7
      replace BZ := Lib.hid (BZ.out.put2 (.bool false))
      replace Hbw := Lib.hid (Hbw.out.setCell (p := ⟨W2.heap.size, 2, none⟩) (Nat.le_refl _) (.bool false))
      generalize w4.setCell ⟨W2.heap.size, 2, none⟩ (.bool false) = X2 at *
      have hz' : z = ⟨false, false, false, true, xg != yg, D.zero⟩ := by rw [Hz.out]; simp [h0]
      obtain ⟨z0, z1, z2, z3, z4, z5, z6, z7⟩ := BZ.out.eight
      have b6 := B6.out.below Hbw.out
      have rf : ∀ j, X2.frozen? ⟨w.heap.size, j, none⟩ = false := fun j => b6.free j
      obtain ⟨d0, d1, d2, d3, d4, d5, d6, d7⟩ := b6.eight
      have B6' := Lib.hid b6
      have HBX := Lib.hid (HB.out.trans (Hbw.out.mono HB.out.size))
      clear b6 Hz
      go_wp2_with fail
      obtain ⟨r0, r1, r2, r3, r4, r5, r6, r7⟩ := (B6'.out.set8 (.bool false) (.bool false) (.bool false) (.bool true) (.bool (!(xg == yg))) (.bool false) (.slice none 0 0) (.int .i64 0)).eight
      refine bodyPost_ret (v := .agg #[.bool false, .bool false, .bool false, .bool true, .bool (!(xg == yg)), .bool false, .slice none 0 0, .int .i64 0]) (by simp [results, Tryz.results31, go_sem, r0, r1, r2, r3, r4, r5, r6, r7]) rfl ?_
      subst hz'
      exact ⟨none, 0, rfl, Rd.none_, below_set8 HBX.out (Nat.le_refl _) _ _ _ _ _ _ _ _⟩
  · skip
    obtain ⟨x3, y3, zf⟩ : W3.cell? ⟨g7, 3, none⟩ = some (.bool true) ∧ W3.cell? ⟨g7 + 1, 3, none⟩ = some (.bool true) ∧ (∀ j, W3.frozen? ⟨W2.heap.size, j, none⟩ = false) := ⟨(BX.out.below Hbw.out).cell 3 rfl, (BY.out.below Hbw.out).cell 3 rfl, fun j => BZ.out.free j⟩
    obtain ⟨z0, z1, z2, z3, z4, z5, z6, z7⟩ := BZ.out.eight
    go_upto_region 6 with (fail)
    clear x3 y3 zf z0 z1 z2 z3 z4 z5 z6 z7
    replace BZ := Lib.hid (BZ.out.put3 (.bool true))
    replace Hbw := Lib.hid (Hbw.out.setCell (p := ⟨W2.heap.size, 3, none⟩) (Nat.le_refl _) (.bool true))
    generalize W3.setCell ⟨W2.heap.size, 3, none⟩ (.bool true) = X1 at *
    obtain ⟨x3, y3, zf⟩ : X1.cell? ⟨g7, 3, none⟩ = some (.bool true) ∧ X1.cell? ⟨g7 + 1, 3, none⟩ = some (.bool true) ∧ (∀ j, X1.frozen? ⟨W2.heap.size, j, none⟩ = false) := ⟨(BX.out.below Hbw.out).cell 3 rfl, (BY.out.below Hbw.out).cell 3 rfl, fun j => BZ.out.free j⟩
    obtain ⟨z0, z1, z2, z3, z4, z5, z6, z7⟩ := BZ.out.eight
    go_upto_region 7 with (fail)
    clear x3 y3 zf z0 z1 z2 z3 z4 z5 z6 z7
    replace BZ := Lib.hid (BZ.out.put2 (.bool false))
    replace Hbw := Lib.hid (Hbw.out.setCell (p := ⟨W2.heap.size, 2, none⟩) (Nat.le_refl _) (.bool false))
    generalize X1.setCell ⟨W2.heap.size, 2, none⟩ (.bool false) = X2 at *
    have hz' : z = ⟨false, false, false, true, xg != yg, D.zero⟩ := by rw [Hz.out]; rfl
    obtain ⟨z0, z1, z2, z3, z4, z5, z6, z7⟩ := BZ.out.eight
    have b6 := B6.out.below Hbw.out
    have rf : ∀ j, X2.frozen? ⟨w.heap.size, j, none⟩ = false := fun j => b6.free j
    obtain ⟨d0, d1, d2, d3, d4, d5, d6, d7⟩ := b6.eight
    have B6' := Lib.hid b6
    have HBX := Lib.hid (HB.out.trans (Hbw.out.mono HB.out.size))
    clear b6 Hz
    go_wp2_with fail
    obtain ⟨r0, r1, r2, r3, r4, r5, r6, r7⟩ := (B6'.out.set8 (.bool false) (.bool false) (.bool false) (.bool true) (.bool (!(xg == yg))) (.bool false) (.slice none 0 0) (.int .i64 0)).eight
    refine bodyPost_ret (v := .agg #[.bool false, .bool false, .bool false, .bool true, .bool (!(xg == yg)), .bool false, .slice none 0 0, .int .i64 0]) (by simp [results, Tryz.results31, go_sem, r0, r1, r2, r3, r4, r5, r6, r7]) rfl ?_
    subst hz'
    exact ⟨none, 0, rfl, Rd.none_, below_set8 HBX.out (Nat.le_refl _) _ _ _ _ _ _ _ _⟩

end Go.Proofs.YtdbfkfbncmbfcaaGreatDoor
