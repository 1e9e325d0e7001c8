/- The walk of DyadRing. -/
import Derived.Outline
import Derived.Deep.CutBlock
import Derived.Test.YtomhmbnpkphcmaaDoorLawR
import Derived.Test.YtomhmbnpkphcmaaDoorLawC
import Derived.Test.YtomhmbnpkphcmaaDoorInv
namespace Go.Proofs.YtomhmbnpkphcmaaDoor
set_option linter.unusedVariables false
open Go.RowKit

theorem BoxD.new1 (w : World) (o : Obj) (a b c : Value) : BoxD ((w.alloc o).alloc (Obj.cells #[a, b, c] 26)) (w.heap.size + 1) a b c := by
  have := BoxD.new (w.alloc o) a b c
  simpa using this
theorem BoxD.new2 (w : World) (o o' : Obj) (a b c : Value) : BoxD (((w.alloc o).alloc o').alloc (Obj.cells #[a, b, c] 26)) (w.heap.size + 1 + 1) a b c := by
  have := BoxD.new ((w.alloc o).alloc o') a b c
  simpa using this

set_option maxRecDepth 100000 in
set_option maxHeartbeats 8000000 in
theorem ring_any (sa sb sc : Bool) (Pa Pb Pc : Option Addr) (Na na ca Nb nb cb Nc nc cc : Nat) (ea eb ec : Int) (w : World) (hva : Rd 64 w (.slice Pa na ca) Na na) (hvb : Rd 64 w (.slice Pb nb cb) Nb nb) (hvc : Rd 64 w (.slice Pc nc cc) Nc nc) (hG : Gl w) :
    Calls Tryd.prog 7 #[.agg #[.bool sa, .slice Pa na ca, .int .i64 ea], .agg #[.bool sb, .slice Pb nb cb, .int .i64 eb], .agg #[.bool sc, .slice Pc nc cc, .int .i64 ec]] w fun e' w' => e' = .returned (.bool true) ∧ Below w.heap.size w w' := by
  obtain ⟨W1, hW1⟩ : ∃ W1, W1 = (((w.alloc (Obj.cells #[Value.bool sa, Value.slice Pa na ca, Value.int IntKind.i64 ea] 26)).alloc (Obj.cells #[Value.bool sb, Value.slice Pb nb cb, Value.int IntKind.i64 eb] 26)).alloc (Obj.cells #[Value.bool sc, Value.slice Pc nc cc, Value.int IntKind.i64 ec] 26)) := ⟨_, rfl⟩
  have HB : Hid (Below w.heap.size w W1) := by show Below w.heap.size w W1; rw [hW1]; exact below3 ..
  have Ba : Hid (BoxD W1 w.heap.size (.bool sa) (.slice Pa na ca) (.int .i64 ea)) := by show BoxD W1 _ _ _ _; rw [hW1]; exact ((BoxD.new ..).below (below1 ..)).below (below1 ..)
  have Bb : Hid (BoxD W1 (w.heap.size + 1) (.bool sb) (.slice Pb nb cb) (.int .i64 eb)) := by show BoxD W1 _ _ _ _; rw [hW1]; exact (BoxD.new1 ..).below (below1 ..)
  have Bc : Hid (BoxD W1 (w.heap.size + 1 + 1) (.bool sc) (.slice Pc nc cc) (.int .i64 ec)) := by show BoxD W1 _ _ _ _; rw [hW1]; exact BoxD.new2 ..
  have H1 := Lib.hid hva
  have H2 := Lib.hid hvb
  have H3 := Lib.hid hvc
  have HG := Lib.hid hG
  clear hva hvb hvc hG
  go_enter Tryd.func7, Tryd.ntmps7
  go_wp2_with fail
  rw [← hW1]
  refine (awake_any W1 (HG.out.below HB.out)).mono ?_
  rintro _ x0 ⟨rfl, hb0⟩
  clear hW1
  replace HB := Lib.hid (keep_belowB HB.out hb0 (Nat.le_refl _))
  replace Ba := Lib.hid (Ba.out.below hb0)
  replace Bb := Lib.hid (Bb.out.below hb0)
  replace Bc := Lib.hid (Bc.out.below hb0)
  clear hb0
  obtain ⟨p0, p1, p2, p3, _⟩ := Ba.out.box3.cells
  go_wp2_with fail
  refine (Canon_any sa Pa Na na ca ea x0 (H1.out.below HB.out) (HG.out.below HB.out)).mono ?_
  rintro _ x1 ⟨y1, rfl, hV1, hb1⟩
  obtain ⟨kk, hkk⟩ : ∃ kk, kk = canonD na ⟨sa, Na, ea⟩ := ⟨_, rfl⟩
  rw [← hkk] at hV1 ⊢
  have Hkk := Lib.hid hkk
  clear hkk
  obtain ⟨A1, c1, rfl, -⟩ := id hV1
  obtain ⟨X1, hX1⟩ : ∃ X1, X1 = x1.alloc (Obj.cells #[Value.bool kk.1.s, Value.slice A1 (nd 64 kk.1.n) c1, Value.int IntKind.i64 kk.1.e] 26) := ⟨_, rfl⟩
  have ha1 : Below x1.heap.size x1 X1 := by rw [hX1]; exact below1 ..
  have Dk : Hid (DVB 0 x1.heap.size kk.1 X1) := by show DVB 0 x1.heap.size kk.1 X1; rw [hX1]; exact (DVB.new hV1).mono (Nat.zero_le _)
  replace HB := Lib.hid (keep_belowB HB.out hb1 (Nat.le_refl _))
  replace Ba := Lib.hid (Ba.out.below hb1)
  replace Bb := Lib.hid (Bb.out.below hb1)
  replace Bc := Lib.hid (Bc.out.below hb1)
  replace HB := Lib.hid (keep_belowB HB.out ha1 (Nat.le_refl _))
  replace Ba := Lib.hid (Ba.out.below ha1)
  replace Bb := Lib.hid (Bb.out.below ha1)
  replace Bc := Lib.hid (Bc.out.below ha1)
  clear hV1 hb1 ha1 p0 p1 p2 p3
  go_upto_region 4 with (fail)
  rw [← hX1]
  clear hX1
  by_cases hk0 : kk.2 ≠ 0
  · have t1 : (kk.2 != 0) = true := by simpa using hk0
    go_wp2_with fail
    go_ret
    exact ⟨rfl, HB.out⟩
  have hk0 : kk.2 = 0 := by omega
  have t1 : (kk.2 != 0) = false := by simpa using hk0
  obtain ⟨ra, l1, l2, hcan⟩ := ring1 (n := na) (a := ⟨sa, Na, ea⟩) H1.out.lt (by rw [← Hkk.out]; exact hk0)
  rw [← Hkk.out] at l2 hcan
  obtain ⟨zz, hzz⟩ : ∃ zz : D × Int, zz = (D.zero, 0) := ⟨_, rfl⟩
  rw [← hzz] at l1
  have L1 := Lib.hid l1
  have L2 := Lib.hid l2
  have Hcan := Lib.hid hcan
  have Hra := Lib.hid ra
  have Hzz := Lib.hid hzz
  have Hk0 := Lib.hid hk0
  clear l1 l2 hcan ra hzz hk0
  obtain ⟨p0, p1, p2, p3, _⟩ := Ba.out.box3.cells
  go_wp2_with fail
  refine (DSub_any sa sa Pa Pa Na na ca Na na ca ea ea X1 (H1.out.below HB.out) (H1.out.below HB.out) (HG.out.below HB.out)).mono ?_
  rintro _ x2 ⟨y2, rfl, hV2, hb2⟩
  rw [L1.out] at hV2 ⊢
  obtain ⟨A2, c2, rfl, -⟩ := id hV2
  obtain ⟨X2, hX2⟩ : ∃ X2, X2 = x2.alloc (Obj.cells #[Value.bool zz.1.s, Value.slice A2 (nd 64 zz.1.n) c2, Value.int IntKind.i64 zz.1.e] 26) := ⟨_, rfl⟩
  have ha2 : Below x2.heap.size x2 X2 := by rw [hX2]; exact below1 ..
  have Dz : Hid (DVB 0 x2.heap.size zz.1 X2) := by show DVB 0 x2.heap.size zz.1 X2; rw [hX2]; exact (DVB.new hV2).mono (Nat.zero_le _)
  replace HB := Lib.hid (keep_belowB HB.out hb2 (Nat.le_refl _))
  replace Ba := Lib.hid (Ba.out.below hb2)
  replace Bb := Lib.hid (Bb.out.below hb2)
  replace Bc := Lib.hid (Bc.out.below hb2)
  replace Dk := Lib.hid (Dk.out.below hb2)
  replace HB := Lib.hid (keep_belowB HB.out ha2 (Nat.le_refl _))
  replace Ba := Lib.hid (Ba.out.below ha2)
  replace Bb := Lib.hid (Bb.out.below ha2)
  replace Bc := Lib.hid (Bc.out.below ha2)
  replace Dk := Lib.hid (Dk.out.below ha2)
  clear hV2 hb2 ha2 p0 p1 p2 p3 t1
  go_upto_region 7 with (fail)
  rw [← hX2]
  clear hX2
  obtain ⟨p0, p1, p2, p3, _⟩ := Ba.out.box3.cells
  have hGX := (HG.out.below HB.out)
  have hRX := (H1.out.below HB.out)
  go_cut [10, 11] from 29 (fun p10 p11 wx => p11 = .int .i64 kk.2 ∧ (∃ g, p10 = .pointer (some ⟨g, 0, none⟩) ∧ X2.heap.size ≤ g ∧ DVB X2.heap.size g kk.1 wx) ∧ Below X2.heap.size X2 wx)
  case first =>
    refine wp_region_J [45, 46, 47, 44, 48, 49, 10, 11] (fun l vs wx => ∃ l0 l1 l2 l3 l4 l5 l6 l7 l8 v45 v46 v47 v44 v48 v49 v10 v11, l = [l0, l1, l2, l3, l4, l5, l6, l7, l8] ∧ vs = [v45, v46, v47, v44, v48, v49, v10, v11] ∧ Below X2.heap.size X2 wx ∧ (l0 = true → DV X2.heap.size wx v45 (fromIntD 1)) ∧ (l1 = true → v46 = Value.agg #[Value.bool sa, Value.slice Pa na ca, Value.int IntKind.i64 ea]) ∧ (l2 = true → TupD X2.heap.size kk v47 wx) ∧ (l3 = true → TupD X2.heap.size kk v44 wx) ∧ (l5 = true → v49 = Value.int IntKind.i64 kk.2) ∧ (l8 = true → v11 = Value.int IntKind.i64 kk.2) ∧ SideD X2.heap.size kk.1 l4 l6 l7 v48 v10 wx) (by kernel_rfl) ?_ ?_ ?_ ?_ ?_
    · intro vs hvs
      obtain ⟨y0, y1, y2, y3, y4, y5, y6, y7, rfl⟩ : ∃ y0 y1 y2 y3 y4 y5 y6 y7, vs = [y0, y1, y2, y3, y4, y5, y6, y7] := by
        match vs, hvs with
        | [y0, y1, y2, y3, y4, y5, y6, y7], _ => exact ⟨y0, y1, y2, y3, y4, y5, y6, y7, rfl⟩
      exact ⟨false, false, false, false, false, false, false, false, false, y0, y1, y2, y3, y4, y5, y6, y7, rfl, rfl, (Below.refl _ _).drew, nofun, nofun, nofun, nofun, nofun, nofun, SideD.start ..⟩
    · refine ⟨?_, ?_, ?_, ?_, ?_, ?_, ?_, ?_, ?_, trivial⟩
      · rintro _ _ wx ⟨l0, l1, l2, l3, l4, l5, l6, l7, l8, v45, v46, v47, v44, v48, v49, v10, v11, rfl, rfl, hB, h0, h1, h2, h3, h5, h8, hS10⟩ hl hall K' hK
        clear hall hl
        clear p0 p1 p2 p3
        simp only [putL, Act.put, List.setIfInBounds_toArray, List.set_cons_zero, List.set_cons_succ]
        go_simp
        refine (FromInt_any 1 wx (by decide) (hGX.below hB)).mono ?_
        rintro e w2 ⟨x2, rfl, hV2, hx1⟩
        go_simp
        have hh := hK.out [x2, v46, v47, v44, v48, v49, v10, v11] w2 ⟨true, l1, l2, l3, l4, l5, l6, l7, l8, x2, v46, v47, v44, v48, v49, v10, v11, rfl, rfl, keep_below hB hx1, fun _ => hV2.mono hB.size, h1, fun h => (h2 h).below hx1, fun h => (h3 h).below hx1, h5, h8, hS10.below hx1⟩
        simp only [putL, Act.put, List.setIfInBounds_toArray, List.set_cons_zero, List.set_cons_succ] at hh
        exact hh
      · rintro _ _ wx ⟨l0, l1, l2, l3, l4, l5, l6, l7, l8, v45, v46, v47, v44, v48, v49, v10, v11, rfl, rfl, hB, h0, h1, h2, h3, h5, h8, hS10⟩ hl hall K' hK
        clear hall hl
        have q0 := keep_cell hB p0
        have q1 := keep_cell hB p1
        have q2 := keep_cell hB p2
        clear p0 p1 p2 p3
        simp only [putL, Act.put, List.setIfInBounds_toArray, List.set_cons_zero, List.set_cons_succ]
        go_simp
        have hh := hK.out [v45, Value.agg #[Value.bool sa, Value.slice Pa na ca, Value.int IntKind.i64 ea], v47, v44, v48, v49, v10, v11] wx ⟨l0, true, l2, l3, l4, l5, l6, l7, l8, v45, Value.agg #[Value.bool sa, Value.slice Pa na ca, Value.int IntKind.i64 ea], v47, v44, v48, v49, v10, v11, rfl, rfl, hB, h0, fun _ => rfl, h2, h3, h5, h8, hS10⟩
        simp only [putL, Act.put, List.setIfInBounds_toArray, List.set_cons_zero, List.set_cons_succ] at hh
        exact hh
      · rintro _ _ wx ⟨l0, l1, l2, l3, l4, l5, l6, l7, l8, v45, v46, v47, v44, v48, v49, v10, v11, rfl, rfl, hB, h0, h1, h2, h3, h5, h8, hS10⟩ hl hall K' hK
        have e0l : l0 = true := hall ⟨0, .data⟩ (by simp) (by rfl)
        have e1l : l1 = true := hall ⟨1, .data⟩ (by simp) (by rfl)
        clear hall hl
        subst e0l e1l
        clear p0 p1 p2 p3
        simp only [putL, Act.put, List.setIfInBounds_toArray, List.set_cons_zero, List.set_cons_succ]
        obtain ⟨A0, c0, e0, -, -, hR0, hF0⟩ := h0 rfl
        have e1 := h1 rfl
        simp only [e0, e1]
        go_simp
        refine (DMul_any (fromIntD 1).s sa A0 Pa (fromIntD 1).n _ c0 Na na ca (fromIntD 1).e ea wx hR0 (hRX.below hB) (hGX.below hB)).mono ?_
        rintro e w2 ⟨x2, rfl, hV2, hx1⟩
        rw [L2.out] at hV2 ⊢
        go_simp
        have hh := hK.out [v45, v46, .tuple #[x2, .int .i64 kk.2], v44, v48, v49, v10, v11] w2 ⟨true, true, true, l3, l4, l5, l6, l7, l8, v45, v46, .tuple #[x2, .int .i64 kk.2], v44, v48, v49, v10, v11, rfl, rfl, keep_below hB hx1, fun h => (h0 h).below hx1, h1, fun _ => ⟨x2, rfl, hV2.mono hB.size⟩, fun h => (h3 h).below hx1, h5, h8, hS10.below hx1⟩
        simp only [putL, Act.put, List.setIfInBounds_toArray, List.set_cons_zero, List.set_cons_succ] at hh
        simp only [e0, e1] at hh
        exact hh
      · rintro _ _ wx ⟨l0, l1, l2, l3, l4, l5, l6, l7, l8, v45, v46, v47, v44, v48, v49, v10, v11, rfl, rfl, hB, h0, h1, h2, h3, h5, h8, hS10⟩ hl hall K' hK
        have e2l : l2 = true := hall ⟨2, .data⟩ (by simp) (by rfl)
        clear hall hl
        subst e2l
        clear p0 p1 p2 p3
        simp only [putL, Act.put, List.setIfInBounds_toArray, List.set_cons_zero, List.set_cons_succ]
        obtain ⟨x2, e2, hV2⟩ := h2 rfl
        simp only [e2]
        go_simp
        have hh := hK.out [v45, v46, v47, v47, v48, v49, v10, v11] wx ⟨l0, l1, true, true, l4, l5, l6, l7, l8, v45, v46, v47, v47, v48, v49, v10, v11, rfl, rfl, hB, h0, h1, h2, fun _ => h2 rfl, h5, h8, hS10⟩
        simp only [putL, Act.put, List.setIfInBounds_toArray, List.set_cons_zero, List.set_cons_succ] at hh
        simp only [e2] at hh
        exact hh
      · rintro _ _ wx ⟨l0, l1, l2, l3, l4, l5, l6, l7, l8, v45, v46, v47, v44, v48, v49, v10, v11, rfl, rfl, hB, h0, h1, h2, h3, h5, h8, hS10⟩ hl hall K' hK
        have e3l : l3 = true := hall ⟨3, .data⟩ (by simp) (by rfl)
        have e4l : l4 = false := by simpa using hl
        clear hall hl
        subst e3l e4l
        clear p0 p1 p2 p3
        simp only [putL, Act.put, List.setIfInBounds_toArray, List.set_cons_zero, List.set_cons_succ]
        obtain ⟨x3, e3, hV3⟩ := h3 rfl
        simp only [e3]
        go_simp
        have hh := hK.out [v45, v46, v47, v44, x3, v49, v10, v11] wx ⟨l0, l1, l2, true, true, l5, l6, l7, l8, v45, v46, v47, v44, x3, v49, v10, v11, rfl, rfl, hB, h0, h1, h2, h3, h5, h8, hS10.call (Below.refl _ _) hV3⟩
        simp only [putL, Act.put, List.setIfInBounds_toArray, List.set_cons_zero, List.set_cons_succ] at hh
        simp only [e3] at hh
        exact hh
      · rintro _ _ wx ⟨l0, l1, l2, l3, l4, l5, l6, l7, l8, v45, v46, v47, v44, v48, v49, v10, v11, rfl, rfl, hB, h0, h1, h2, h3, h5, h8, hS10⟩ hl hall K' hK
        have e3l : l3 = true := hall ⟨3, .data⟩ (by simp) (by rfl)
        clear hall hl
        subst e3l
        clear p0 p1 p2 p3
        simp only [putL, Act.put, List.setIfInBounds_toArray, List.set_cons_zero, List.set_cons_succ]
        obtain ⟨x3, e3, hV3⟩ := h3 rfl
        simp only [e3]
        go_simp
        have hh := hK.out [v45, v46, v47, v44, v48, .int .i64 kk.2, v10, v11] wx ⟨l0, l1, l2, true, l4, true, l6, l7, l8, v45, v46, v47, v44, v48, .int .i64 kk.2, v10, v11, rfl, rfl, hB, h0, h1, h2, h3, fun _ => rfl, h8, hS10⟩
        simp only [putL, Act.put, List.setIfInBounds_toArray, List.set_cons_zero, List.set_cons_succ] at hh
        simp only [e3] at hh
        exact hh
      · rintro _ _ wx ⟨l0, l1, l2, l3, l4, l5, l6, l7, l8, v45, v46, v47, v44, v48, v49, v10, v11, rfl, rfl, hB, h0, h1, h2, h3, h5, h8, hS10⟩ hl hall K' hK
        have e6l : l6 = false := by simpa using hl
        clear hall hl
        subst e6l
        clear p0 p1 p2 p3
        simp only [putL, Act.put, List.setIfInBounds_toArray, List.set_cons_zero, List.set_cons_succ]
        go_simp
        have hh := hK.out [v45, v46, v47, v44, v48, v49, .pointer (some ⟨wx.heap.size, 0, none⟩), v11] (wx.alloc (Obj.cells #[Value.bool false, Value.slice none 0 0, Value.int IntKind.i64 0] 26)) ⟨l0, l1, l2, l3, l4, l5, true, l7, l8, v45, v46, v47, v44, v48, v49, .pointer (some ⟨wx.heap.size, 0, none⟩), v11, rfl, rfl, below_alloc' hB _, fun h => (h0 h).below (below1 _ _), h1, fun h => (h2 h).below (below1 _ _), fun h => (h3 h).below (below1 _ _), h5, h8, hS10.make hB.size _ _ _⟩
        simp only [putL, Act.put, List.setIfInBounds_toArray, List.set_cons_zero, List.set_cons_succ] at hh
        exact hh
      · rintro _ _ wx ⟨l0, l1, l2, l3, l4, l5, l6, l7, l8, v45, v46, v47, v44, v48, v49, v10, v11, rfl, rfl, hB, h0, h1, h2, h3, h5, h8, hS10⟩ hl hall K' hK
        have e4l : l4 = true := hall ⟨4, .data⟩ (by simp) (by rfl)
        have e6l : l6 = true := hall ⟨6, .data⟩ (by simp) (by rfl)
        clear hall hl
        subst e4l e6l
        clear p0 p1 p2 p3
        simp only [putL, Act.put, List.setIfInBounds_toArray, List.set_cons_zero, List.set_cons_succ]
        obtain ⟨A4, c4, e4, -, -, hR4, hF4⟩ := hS10.1 rfl
        obtain ⟨g, a, b, c, eg, hg, hb⟩ := hS10.ptr
        obtain ⟨r0, r1, r2, r3, _⟩ := hb.box3.cells
        simp only [e4, eg]
        go_simp
        have hh := hK.out [v45, v46, v47, v44, v48, v49, v10, v11] (((wx.setCell ⟨g, 0, none⟩ (.bool kk.1.s)).setCell ⟨g, 1, none⟩ (.slice A4 (nd 64 kk.1.n) c4)).setCell ⟨g, 2, none⟩ (.int .i64 kk.1.e)) ⟨l0, l1, l2, l3, true, l5, true, true, l8, v45, v46, v47, v44, v48, v49, v10, v11, rfl, rfl, below_box hB hg _ _ _, fun h => (h0 h).wd hb.wd, h1, fun h => (h2 h).wd hb.wd, fun h => (h3 h).wd hb.wd, h5, h8, (by have h := hS10; rw [eg, e4] at h ⊢; exact h.store)⟩
        simp only [putL, Act.put, List.setIfInBounds_toArray, List.set_cons_zero, List.set_cons_succ] at hh
        simp only [e4, eg] at hh
        exact hh
      · rintro _ _ wx ⟨l0, l1, l2, l3, l4, l5, l6, l7, l8, v45, v46, v47, v44, v48, v49, v10, v11, rfl, rfl, hB, h0, h1, h2, h3, h5, h8, hS10⟩ hl hall K' hK
        have e5l : l5 = true := hall ⟨5, .data⟩ (by simp) (by rfl)
        clear hall hl
        subst e5l
        clear p0 p1 p2 p3
        simp only [putL, Act.put, List.setIfInBounds_toArray, List.set_cons_zero, List.set_cons_succ]
        have e5 := h5 rfl
        simp only [e5]
        go_simp
        have hh := hK.out [v45, v46, v47, v44, v48, v49, v10, v49] wx ⟨l0, l1, l2, l3, l4, true, l6, l7, true, v45, v46, v47, v44, v48, v49, v10, v49, rfl, rfl, hB, h0, h1, h2, h3, h5, fun _ => e5, hS10⟩
        simp only [putL, Act.put, List.setIfInBounds_toArray, List.set_cons_zero, List.set_cons_succ] at hh
        simp only [e5] at hh
        exact hh
    · rintro vs wx ⟨l0, l1, l2, l3, l4, l5, l6, l7, l8, v45, v46, v47, v44, v48, v49, v10, v11, hl, rfl, hB, h0, h1, h2, h3, h5, h8, hS10⟩
      obtain ⟨rfl, rfl, rfl, rfl, rfl, rfl, rfl, rfl, rfl⟩ : true = l0 ∧ true = l1 ∧ true = l2 ∧ true = l3 ∧ true = l4 ∧ true = l5 ∧ true = l6 ∧ true = l7 ∧ true = l8 := by simpa using hl
      simp only [putL, Act.put, List.setIfInBounds_toArray, List.set_cons_zero, List.set_cons_succ]
      go_wp2_with fail
      go_meet
      case rel => exact ⟨rfl, hS10.dvb, hB⟩
    · rintro _ vs wx ⟨l0, l1, l2, l3, l4, l5, l6, l7, l8, v45, v46, v47, v44, v48, v49, v10, v11, rfl, _⟩
      rfl
    · rintro _ vs wx ⟨l0, l1, l2, l3, l4, l5, l6, l7, l8, v45, v46, v47, v44, v48, v49, v10, v11, rfl, -⟩
      revert l0 l1 l2 l3 l4 l5 l6 l7 l8
      decide +kernel
  case rest =>
    obtain ⟨rfl, ⟨g10, rfl, hg10, hf10⟩, hbc⟩ := hcut
    clear hGX hRX p0 p1 p2 p3
    replace HB := Lib.hid (keep_belowB HB.out hbc (Nat.le_refl _))
    replace Ba := Lib.hid (Ba.out.below hbc)
    replace Bb := Lib.hid (Bb.out.below hbc)
    replace Bc := Lib.hid (Bc.out.below hbc)
    replace Dk := Lib.hid (Dk.out.below hbc)
    replace Dz := Lib.hid (Dz.out.below hbc)
    have Do : Hid (DVB 0 g10 kk.1 wc) := hf10.mono (Nat.zero_le _)
    clear hbc hf10
    have S1 : Hid (sameB zz.1.s (nd 64 zz.1.n) zz.1.n zz.1.e false 0 0 0 = true) := by show _ = _; rw [Hzz.out]; simp [sameB, sameW, D.zero, nd_zero]
    have S2 : Hid (sameB kk.1.s (nd 64 kk.1.n) kk.1.n kk.1.e kk.1.s (nd 64 kk.1.n) kk.1.n kk.1.e = true) := by show _ = _; simp [sameB, sameW]
    have t1 : (zz.2 != 0) = false := by rw [Hzz.out]; rfl
    have t2 : (kk.2 != 0) = false := by rw [Hk0.out]; rfl
    obtain ⟨Au, cu, ⟨u0, u1, u2, u3⟩, ru⟩ := Dz.out.open
    have Ru := Lib.hid ru
    clear ru
    go_wp2_with fail
    refine (same_any zz.1.s false Au none zz.1.n _ cu 0 0 0 zz.1.e 0 wc Ru.out Rd.nil_).mono ?_
    rintro _ x3 ⟨rfl, hb3⟩
    rw [S1.out]
    replace HB := Lib.hid (keep_belowB HB.out hb3 (Nat.le_refl _))
    replace Ba := Lib.hid (Ba.out.below hb3)
    replace Bb := Lib.hid (Bb.out.below hb3)
    replace Bc := Lib.hid (Bc.out.below hb3)
    replace Dk := Lib.hid (Dk.out.below hb3)
    replace Dz := Lib.hid (Dz.out.below hb3)
    replace Do := Lib.hid (Do.out.below hb3)
    clear hb3 u0 u1 u2 u3 Ru
    obtain ⟨Au, cu, ⟨u0, u1, u2, u3⟩, ru⟩ := Do.out.open
    have Ru := Lib.hid ru
    clear ru
    obtain ⟨Av, cv, ⟨v0, v1, v2, v3⟩, rv⟩ := Dk.out.open
    have Rv := Lib.hid rv
    clear rv
    go_wp2_with fail
    refine (same_any kk.1.s kk.1.s Au Av kk.1.n _ cu kk.1.n _ cv kk.1.e kk.1.e x3 Ru.out Rv.out).mono ?_
    rintro _ x4 ⟨rfl, hb4⟩
    rw [S2.out]
    replace HB := Lib.hid (keep_belowB HB.out hb4 (Nat.le_refl _))
    replace Ba := Lib.hid (Ba.out.below hb4)
    replace Bb := Lib.hid (Bb.out.below hb4)
    replace Bc := Lib.hid (Bc.out.below hb4)
    replace Dk := Lib.hid (Dk.out.below hb4)
    replace Dz := Lib.hid (Dz.out.below hb4)
    replace Do := Lib.hid (Do.out.below hb4)
    clear hb4 u0 u1 u2 u3 Ru v0 v1 v2 v3 Rv
    obtain ⟨Av, cv, ⟨v0, v1, v2, v3⟩, rv⟩ := Dk.out.open
    have Rv := Lib.hid rv
    clear rv
    go_wp2_with fail
    refine (oddL_any kk.1 Av cv x4 Hcan.out Rv.out).mono ?_
    rintro _ x5 ⟨rfl, hb5⟩
    replace HB := Lib.hid (keep_belowB HB.out hb5 (Nat.le_refl _))
    replace Ba := Lib.hid (Ba.out.below hb5)
    replace Bb := Lib.hid (Bb.out.below hb5)
    replace Bc := Lib.hid (Bc.out.below hb5)
    replace Dk := Lib.hid (Dk.out.below hb5)
    replace Dz := Lib.hid (Dz.out.below hb5)
    replace Do := Lib.hid (Do.out.below hb5)
    clear hb5 v0 v1 v2 v3 Rv
    clear Dk Dz Do S1 S2 t1 t2 Hcan Hzz L1 L2 Hk0
    have L3 := Lib.hid (ring2a (n1 := na) (n2 := nb) (a := ⟨sa, Na, ea⟩) (b := ⟨sb, Nb, eb⟩) Hra.out)
    have L4 := Lib.hid (ring2b (n1 := na) (n2 := nb) (a := ⟨sa, Na, ea⟩) (b := ⟨sb, Nb, eb⟩) H1.out.lt H2.out.lt Hra.out)
    obtain ⟨p0, p1, p2, p3, _⟩ := Ba.out.box3.cells
    obtain ⟨q0, q1, q2, q3, _⟩ := Bb.out.box3.cells
    go_wp2_with fail
    refine (DAdd_any sa sb Pa Pb Na na ca Nb nb cb ea eb x5 (H1.out.below HB.out) (H2.out.below HB.out) (HG.out.below HB.out)).mono ?_
    rintro _ x6 ⟨y6, rfl, hV6, hb6⟩
    obtain ⟨xx, hxx⟩ : ∃ xx, xx = addD na ⟨sa, Na, ea⟩ nb ⟨sb, Nb, eb⟩ := ⟨_, rfl⟩
    rw [← hxx] at hV6 ⊢
    have Hxx := Lib.hid hxx
    clear hxx
    obtain ⟨A6, c6, rfl, -⟩ := id hV6
    obtain ⟨X6, hX6⟩ : ∃ X6, X6 = x6.alloc (Obj.cells #[Value.bool xx.1.s, Value.slice A6 (nd 64 xx.1.n) c6, Value.int IntKind.i64 xx.1.e] 26) := ⟨_, rfl⟩
    have ha6 : Below x6.heap.size x6 X6 := by rw [hX6]; exact below1 ..
    have Dx : Hid (DVB 0 x6.heap.size xx.1 X6) := by show DVB 0 x6.heap.size xx.1 X6; rw [hX6]; exact (DVB.new hV6).mono (Nat.zero_le _)
    replace HB := Lib.hid (keep_belowB HB.out hb6 (Nat.le_refl _))
    replace Ba := Lib.hid (Ba.out.below hb6)
    replace Bb := Lib.hid (Bb.out.below hb6)
    replace Bc := Lib.hid (Bc.out.below hb6)
    replace HB := Lib.hid (keep_belowB HB.out ha6 (Nat.le_refl _))
    replace Ba := Lib.hid (Ba.out.below ha6)
    replace Bb := Lib.hid (Bb.out.below ha6)
    replace Bc := Lib.hid (Bc.out.below ha6)
    clear hV6 hb6 ha6 p0 p1 p2 p3 q0 q1 q2 q3
    go_upto_region 11 with (fail)
    rw [← hX6]
    clear hX6
    obtain ⟨p0, p1, p2, p3, _⟩ := Ba.out.box3.cells
    obtain ⟨q0, q1, q2, q3, _⟩ := Bb.out.box3.cells
    go_wp2_with fail
    refine (DAdd_any sb sa Pb Pa Nb nb cb Na na ca eb ea X6 (H2.out.below HB.out) (H1.out.below HB.out) (HG.out.below HB.out)).mono ?_
    rintro _ x7 ⟨y7, rfl, hV7, hb7⟩
    rw [L3.out, ← Hxx.out] at hV7 ⊢
    obtain ⟨A7, c7, rfl, -⟩ := id hV7
    obtain ⟨X7, hX7⟩ : ∃ X7, X7 = x7.alloc (Obj.cells #[Value.bool xx.1.s, Value.slice A7 (nd 64 xx.1.n) c7, Value.int IntKind.i64 xx.1.e] 26) := ⟨_, rfl⟩
    have ha7 : Below x7.heap.size x7 X7 := by rw [hX7]; exact below1 ..
    have Dy : Hid (DVB 0 x7.heap.size xx.1 X7) := by show DVB 0 x7.heap.size xx.1 X7; rw [hX7]; exact (DVB.new hV7).mono (Nat.zero_le _)
    replace HB := Lib.hid (keep_belowB HB.out hb7 (Nat.le_refl _))
    replace Ba := Lib.hid (Ba.out.below hb7)
    replace Bb := Lib.hid (Bb.out.below hb7)
    replace Bc := Lib.hid (Bc.out.below hb7)
    replace Dx := Lib.hid (Dx.out.below hb7)
    replace HB := Lib.hid (keep_belowB HB.out ha7 (Nat.le_refl _))
    replace Ba := Lib.hid (Ba.out.below ha7)
    replace Bb := Lib.hid (Bb.out.below ha7)
    replace Bc := Lib.hid (Bc.out.below ha7)
    replace Dx := Lib.hid (Dx.out.below ha7)
    clear hV7 hb7 ha7 p0 p1 p2 p3 q0 q1 q2 q3
    go_upto_region 12 with (fail)
    rw [← hX7]
    clear hX7
    have S1 : Hid (sameB xx.1.s (nd 64 xx.1.n) xx.1.n xx.1.e xx.1.s (nd 64 xx.1.n) xx.1.n xx.1.e = true) := by show _ = _; simp [sameB, sameW]
    obtain ⟨Au, cu, ⟨u0, u1, u2, u3⟩, ru⟩ := Dx.out.open
    have Ru := Lib.hid ru
    clear ru
    obtain ⟨Av, cv, ⟨v0, v1, v2, v3⟩, rv⟩ := Dy.out.open
    have Rv := Lib.hid rv
    clear rv
    go_wp2_with fail
    refine (same_any xx.1.s xx.1.s Au Av xx.1.n _ cu xx.1.n _ cv xx.1.e xx.1.e X7 Ru.out Rv.out).mono ?_
    rintro _ x8 ⟨rfl, hb8⟩
    rw [S1.out]
    replace HB := Lib.hid (keep_belowB HB.out hb8 (Nat.le_refl _))
    replace Ba := Lib.hid (Ba.out.below hb8)
    replace Bb := Lib.hid (Bb.out.below hb8)
    replace Bc := Lib.hid (Bc.out.below hb8)
    replace Dx := Lib.hid (Dx.out.below hb8)
    replace Dy := Lib.hid (Dy.out.below hb8)
    clear hb8 u0 u1 u2 u3 Ru v0 v1 v2 v3 Rv
    clear Dy S1 L3
    obtain ⟨p0, p1, p2, p3, _⟩ := Ba.out.box3.cells
    obtain ⟨q0, q1, q2, q3, _⟩ := Bb.out.box3.cells
    go_wp2_with fail
    refine (DMul_any sa sb Pa Pb Na na ca Nb nb cb ea eb x8 (H1.out.below HB.out) (H2.out.below HB.out) (HG.out.below HB.out)).mono ?_
    rintro _ x9 ⟨y9, rfl, hV9, hb9⟩
    obtain ⟨pp, hpp⟩ : ∃ pp, pp = mulD na ⟨sa, Na, ea⟩ nb ⟨sb, Nb, eb⟩ := ⟨_, rfl⟩
    rw [← hpp] at hV9 ⊢
    have Hpp := Lib.hid hpp
    clear hpp
    obtain ⟨A9, c9, rfl, -⟩ := id hV9
    obtain ⟨X9, hX9⟩ : ∃ X9, X9 = x9.alloc (Obj.cells #[Value.bool pp.1.s, Value.slice A9 (nd 64 pp.1.n) c9, Value.int IntKind.i64 pp.1.e] 26) := ⟨_, rfl⟩
    have ha9 : Below x9.heap.size x9 X9 := by rw [hX9]; exact below1 ..
    have Dp : Hid (DVB 0 x9.heap.size pp.1 X9) := by show DVB 0 x9.heap.size pp.1 X9; rw [hX9]; exact (DVB.new hV9).mono (Nat.zero_le _)
    replace HB := Lib.hid (keep_belowB HB.out hb9 (Nat.le_refl _))
    replace Ba := Lib.hid (Ba.out.below hb9)
    replace Bb := Lib.hid (Bb.out.below hb9)
    replace Bc := Lib.hid (Bc.out.below hb9)
    replace Dx := Lib.hid (Dx.out.below hb9)
    replace HB := Lib.hid (keep_belowB HB.out ha9 (Nat.le_refl _))
    replace Ba := Lib.hid (Ba.out.below ha9)
    replace Bb := Lib.hid (Bb.out.below ha9)
    replace Bc := Lib.hid (Bc.out.below ha9)
    replace Dx := Lib.hid (Dx.out.below ha9)
    clear hV9 hb9 ha9 p0 p1 p2 p3 q0 q1 q2 q3
    go_upto_region 15 with (fail)
    rw [← hX9]
    clear hX9
    obtain ⟨p0, p1, p2, p3, _⟩ := Ba.out.box3.cells
    obtain ⟨q0, q1, q2, q3, _⟩ := Bb.out.box3.cells
    go_wp2_with fail
    refine (DMul_any sb sa Pb Pa Nb nb cb Na na ca eb ea X9 (H2.out.below HB.out) (H1.out.below HB.out) (HG.out.below HB.out)).mono ?_
    rintro _ x10 ⟨y10, rfl, hV10, hb10⟩
    rw [L4.out, ← Hpp.out] at hV10 ⊢
    obtain ⟨A10, c10, rfl, -⟩ := id hV10
    obtain ⟨X10, hX10⟩ : ∃ X10, X10 = x10.alloc (Obj.cells #[Value.bool pp.1.s, Value.slice A10 (nd 64 pp.1.n) c10, Value.int IntKind.i64 pp.1.e] 26) := ⟨_, rfl⟩
    have ha10 : Below x10.heap.size x10 X10 := by rw [hX10]; exact below1 ..
    have Dq : Hid (DVB 0 x10.heap.size pp.1 X10) := by show DVB 0 x10.heap.size pp.1 X10; rw [hX10]; exact (DVB.new hV10).mono (Nat.zero_le _)
    replace HB := Lib.hid (keep_belowB HB.out hb10 (Nat.le_refl _))
    replace Ba := Lib.hid (Ba.out.below hb10)
    replace Bb := Lib.hid (Bb.out.below hb10)
    replace Bc := Lib.hid (Bc.out.below hb10)
    replace Dx := Lib.hid (Dx.out.below hb10)
    replace Dp := Lib.hid (Dp.out.below hb10)
    replace HB := Lib.hid (keep_belowB HB.out ha10 (Nat.le_refl _))
    replace Ba := Lib.hid (Ba.out.below ha10)
    replace Bb := Lib.hid (Bb.out.below ha10)
    replace Bc := Lib.hid (Bc.out.below ha10)
    replace Dx := Lib.hid (Dx.out.below ha10)
    replace Dp := Lib.hid (Dp.out.below ha10)
    clear hV10 hb10 ha10 p0 p1 p2 p3 q0 q1 q2 q3
    go_upto_region 16 with (fail)
    rw [← hX10]
    clear hX10
    have S1 : Hid (sameB pp.1.s (nd 64 pp.1.n) pp.1.n pp.1.e pp.1.s (nd 64 pp.1.n) pp.1.n pp.1.e = true) := by show _ = _; simp [sameB, sameW]
    obtain ⟨Au, cu, ⟨u0, u1, u2, u3⟩, ru⟩ := Dp.out.open
    have Ru := Lib.hid ru
    clear ru
    obtain ⟨Av, cv, ⟨v0, v1, v2, v3⟩, rv⟩ := Dq.out.open
    have Rv := Lib.hid rv
    clear rv
    go_wp2_with fail
    refine (same_any pp.1.s pp.1.s Au Av pp.1.n _ cu pp.1.n _ cv pp.1.e pp.1.e X10 Ru.out Rv.out).mono ?_
    rintro _ x11 ⟨rfl, hb11⟩
    rw [S1.out]
    replace HB := Lib.hid (keep_belowB HB.out hb11 (Nat.le_refl _))
    replace Ba := Lib.hid (Ba.out.below hb11)
    replace Bb := Lib.hid (Bb.out.below hb11)
    replace Bc := Lib.hid (Bc.out.below hb11)
    replace Dx := Lib.hid (Dx.out.below hb11)
    replace Dp := Lib.hid (Dp.out.below hb11)
    replace Dq := Lib.hid (Dq.out.below hb11)
    clear hb11 u0 u1 u2 u3 Ru v0 v1 v2 v3 Rv
    clear Dp Dq S1 L4
    by_cases hx0 : xx.2 ≠ 0
    · have t1 : (xx.2 != 0) = true := by simpa using hx0
      go_wp2_with fail
      go_ret
      exact ⟨rfl, HB.out⟩
    have hx0 : xx.2 = 0 := by omega
    have t1 : (xx.2 != 0) = false := by simpa using hx0
    by_cases hp0 : pp.2 ≠ 0
    · have t2 : (pp.2 != 0) = true := by simpa using hp0
      go_wp2_with fail
      go_ret
      exact ⟨rfl, HB.out⟩
    have hp0 : pp.2 = 0 := by omega
    have t2 : (pp.2 != 0) = false := by simpa using hp0
    have Hx0 := Lib.hid hx0
    clear hx0 hp0
    have E1 : Hid (addD na ⟨sa, Na, ea⟩ nb ⟨sb, Nb, eb⟩ = (xx.1, 0)) := by show _ = _; rw [← Hxx.out]; exact Prod.ext rfl Hx0.out
    obtain ⟨Au, cu, ⟨u0, u1, u2, u3⟩, ru⟩ := Dx.out.open
    have Ru := Lib.hid ru
    clear ru
    obtain ⟨q0, q1, q2, q3, _⟩ := Bc.out.box3.cells
    go_wp2_with fail
    refine (DAdd_any xx.1.s sc Au Pc xx.1.n _ cu Nc nc cc xx.1.e ec x11 Ru.out (H3.out.below HB.out) (HG.out.below HB.out)).mono ?_
    rintro _ x12 ⟨y12, rfl, hV12, hb12⟩
    obtain ⟨ll, hll⟩ : ∃ ll, ll = addD (nd 64 xx.1.n) xx.1 nc ⟨sc, Nc, ec⟩ := ⟨_, rfl⟩
    rw [← hll] at hV12 ⊢
    have Hll := Lib.hid hll
    clear hll
    obtain ⟨A12, c12, rfl, -⟩ := id hV12
    obtain ⟨X12, hX12⟩ : ∃ X12, X12 = x12.alloc (Obj.cells #[Value.bool ll.1.s, Value.slice A12 (nd 64 ll.1.n) c12, Value.int IntKind.i64 ll.1.e] 26) := ⟨_, rfl⟩
    have ha12 : Below x12.heap.size x12 X12 := by rw [hX12]; exact below1 ..
    have Dl : Hid (DVB 0 x12.heap.size ll.1 X12) := by show DVB 0 x12.heap.size ll.1 X12; rw [hX12]; exact (DVB.new hV12).mono (Nat.zero_le _)
    replace HB := Lib.hid (keep_belowB HB.out hb12 (Nat.le_refl _))
    replace Ba := Lib.hid (Ba.out.below hb12)
    replace Bb := Lib.hid (Bb.out.below hb12)
    replace Bc := Lib.hid (Bc.out.below hb12)
    replace Dx := Lib.hid (Dx.out.below hb12)
    replace HB := Lib.hid (keep_belowB HB.out ha12 (Nat.le_refl _))
    replace Ba := Lib.hid (Ba.out.below ha12)
    replace Bb := Lib.hid (Bb.out.below ha12)
    replace Bc := Lib.hid (Bc.out.below ha12)
    replace Dx := Lib.hid (Dx.out.below ha12)
    clear hV12 hb12 ha12 u0 u1 u2 u3 Ru q0 q1 q2 q3 t1 t2
    go_upto_region 21 with (fail)
    rw [← hX12]
    clear hX12
    obtain ⟨p0, p1, p2, p3, _⟩ := Bb.out.box3.cells
    obtain ⟨q0, q1, q2, q3, _⟩ := Bc.out.box3.cells
    go_wp2_with fail
    refine (DAdd_any sb sc Pb Pc Nb nb cb Nc nc cc eb ec X12 (H2.out.below HB.out) (H3.out.below HB.out) (HG.out.below HB.out)).mono ?_
    rintro _ x13 ⟨y13, rfl, hV13, hb13⟩
    obtain ⟨ss, hss⟩ : ∃ ss, ss = addD nb ⟨sb, Nb, eb⟩ nc ⟨sc, Nc, ec⟩ := ⟨_, rfl⟩
    rw [← hss] at hV13 ⊢
    have Hss := Lib.hid hss
    clear hss
    obtain ⟨A13, c13, rfl, -⟩ := id hV13
    obtain ⟨X13, hX13⟩ : ∃ X13, X13 = x13.alloc (Obj.cells #[Value.bool ss.1.s, Value.slice A13 (nd 64 ss.1.n) c13, Value.int IntKind.i64 ss.1.e] 26) := ⟨_, rfl⟩
    have ha13 : Below x13.heap.size x13 X13 := by rw [hX13]; exact below1 ..
    have Ds : Hid (DVB 0 x13.heap.size ss.1 X13) := by show DVB 0 x13.heap.size ss.1 X13; rw [hX13]; exact (DVB.new hV13).mono (Nat.zero_le _)
    replace HB := Lib.hid (keep_belowB HB.out hb13 (Nat.le_refl _))
    replace Ba := Lib.hid (Ba.out.below hb13)
    replace Bb := Lib.hid (Bb.out.below hb13)
    replace Bc := Lib.hid (Bc.out.below hb13)
    replace Dx := Lib.hid (Dx.out.below hb13)
    replace Dl := Lib.hid (Dl.out.below hb13)
    replace HB := Lib.hid (keep_belowB HB.out ha13 (Nat.le_refl _))
    replace Ba := Lib.hid (Ba.out.below ha13)
    replace Bb := Lib.hid (Bb.out.below ha13)
    replace Bc := Lib.hid (Bc.out.below ha13)
    replace Dx := Lib.hid (Dx.out.below ha13)
    replace Dl := Lib.hid (Dl.out.below ha13)
    clear hV13 hb13 ha13 p0 p1 p2 p3 q0 q1 q2 q3
    go_upto_region 22 with (fail)
    rw [← hX13]
    clear hX13
    go_cut [142] from 137 (fun v wx => v = .bool (decide (ss.2 = 0 ∧ ll.2 = 0)) ∧ wx = X13)
    case first =>
      by_cases hz : ss.2 = 0
      · have t1 : (ss.2 == 0) = true := by simpa using hz
        go_wp2_with fail
        go_meet
        case rel => exact ⟨by by_cases hy : ll.2 = 0 <;> simp [hz, hy], rfl⟩
      · have t1 : (ss.2 == 0) = false := by simpa using hz
        go_wp2_with fail
        go_meet
        case rel => exact ⟨by by_cases hy : ll.2 = 0 <;> simp [hz, hy], rfl⟩
    case rest =>
      obtain ⟨rfl, rfl⟩ := hcut
      go_upto_if 142 with (fail)
      go_cut [8, 11, 20, 21, 22, 23] from 29 (fun p8 p11 p20 p21 p22 p23 wx => (Below w.heap.size w wx ∧ BoxD wx w.heap.size (.bool sa) (.slice Pa na ca) (.int .i64 ea) ∧ BoxD wx (w.heap.size + 1) (.bool sb) (.slice Pb nb cb) (.int .i64 eb) ∧ BoxD wx (w.heap.size + 1 + 1) (.bool sc) (.slice Pc nc cc) (.int .i64 ec) ∧ DVB 0 x6.heap.size xx.1 wx))
      case first =>
        by_cases hz : ss.2 = 0 ∧ ll.2 = 0
        rotate_left
        · have t1 : decide (ss.2 = 0 ∧ ll.2 = 0) = false := by simpa using hz
          rw [t1]
          clear t1
          go_wp2_with fail
          go_meet
          case rel => exact ⟨HB.out, Ba.out, Bb.out, Bc.out, Dx.out⟩
        have t1 : decide (ss.2 = 0 ∧ ll.2 = 0) = true := by simpa using hz
        obtain ⟨hs0, hl0⟩ := hz
        rw [t1]
        clear t1
        obtain ⟨l5, l6⟩ := ring3 (m := 0) (k := 0) (q := 0) E1.out (show addD nb ⟨sb, Nb, eb⟩ nc ⟨sc, Nc, ec⟩ = (ss.1, 0) by rw [← Hss.out]; exact Prod.ext rfl hs0) (show addD (nd 64 xx.1.n) xx.1 nc ⟨sc, Nc, ec⟩ = (ll.1, 0) by rw [← Hll.out]; exact Prod.ext rfl hl0)
        obtain ⟨l', hl'⟩ : ∃ l' : D × Int, l' = (ll.1, 0) := ⟨_, rfl⟩
        obtain ⟨x', hx'⟩ : ∃ x' : D × Int, x' = (xx.1, 0) := ⟨_, rfl⟩
        rw [← hl'] at l5
        rw [← hx'] at l6
        have L5 := Lib.hid l5
        have L6 := Lib.hid l6
        have Hl' := Lib.hid hl'
        have Hx' := Lib.hid hx'
        clear l5 l6 hl' hx' hs0 hl0
        obtain ⟨p0, p1, p2, p3, _⟩ := Ba.out.box3.cells
        obtain ⟨Au, cu, ⟨u0, u1, u2, u3⟩, ru⟩ := Ds.out.open
        have Ru := Lib.hid ru
        clear ru
        go_wp2_with fail
        refine (DAdd_any sa ss.1.s Pa Au Na na ca ss.1.n _ cu ea ss.1.e wc (H1.out.below HB.out) Ru.out (HG.out.below HB.out)).mono ?_
        rintro _ x14 ⟨y14, rfl, hV14, hb14⟩
        rw [L5.out] at hV14 ⊢
        obtain ⟨A14, c14, rfl, -⟩ := id hV14
        obtain ⟨X14, hX14⟩ : ∃ X14, X14 = x14.alloc (Obj.cells #[Value.bool l'.1.s, Value.slice A14 (nd 64 l'.1.n) c14, Value.int IntKind.i64 l'.1.e] 26) := ⟨_, rfl⟩
        have ha14 : Below x14.heap.size x14 X14 := by rw [hX14]; exact below1 ..
        have Dr : Hid (DVB 0 x14.heap.size l'.1 X14) := by show DVB 0 x14.heap.size l'.1 X14; rw [hX14]; exact (DVB.new hV14).mono (Nat.zero_le _)
        replace HB := Lib.hid (keep_belowB HB.out hb14 (Nat.le_refl _))
        replace Ba := Lib.hid (Ba.out.below hb14)
        replace Bb := Lib.hid (Bb.out.below hb14)
        replace Bc := Lib.hid (Bc.out.below hb14)
        replace Dx := Lib.hid (Dx.out.below hb14)
        replace Dl := Lib.hid (Dl.out.below hb14)
        replace Ds := Lib.hid (Ds.out.below hb14)
        replace HB := Lib.hid (keep_belowB HB.out ha14 (Nat.le_refl _))
        replace Ba := Lib.hid (Ba.out.below ha14)
        replace Bb := Lib.hid (Bb.out.below ha14)
        replace Bc := Lib.hid (Bc.out.below ha14)
        replace Dx := Lib.hid (Dx.out.below ha14)
        replace Dl := Lib.hid (Dl.out.below ha14)
        replace Ds := Lib.hid (Ds.out.below ha14)
        clear hV14 hb14 ha14 p0 p1 p2 p3 u0 u1 u2 u3 Ru
        go_upto_region 24 with (fail)
        rw [← hX14]
        clear hX14
        obtain ⟨p0, p1, p2, p3, _⟩ := Bc.out.box3.cells
        obtain ⟨Au, cu, ⟨u0, u1, u2, u3⟩, ru⟩ := Dl.out.open
        have Ru := Lib.hid ru
        clear ru
        go_wp2_with fail
        refine (DSub_any ll.1.s sc Au Pc ll.1.n _ cu Nc nc cc ll.1.e ec X14 Ru.out (H3.out.below HB.out) (HG.out.below HB.out)).mono ?_
        rintro _ x15 ⟨y15, rfl, hV15, hb15⟩
        rw [L6.out] at hV15 ⊢
        obtain ⟨A15, c15, rfl, -⟩ := id hV15
        obtain ⟨X15, hX15⟩ : ∃ X15, X15 = x15.alloc (Obj.cells #[Value.bool x'.1.s, Value.slice A15 (nd 64 x'.1.n) c15, Value.int IntKind.i64 x'.1.e] 26) := ⟨_, rfl⟩
        have ha15 : Below x15.heap.size x15 X15 := by rw [hX15]; exact below1 ..
        have Dt : Hid (DVB 0 x15.heap.size x'.1 X15) := by show DVB 0 x15.heap.size x'.1 X15; rw [hX15]; exact (DVB.new hV15).mono (Nat.zero_le _)
        replace HB := Lib.hid (keep_belowB HB.out hb15 (Nat.le_refl _))
        replace Ba := Lib.hid (Ba.out.below hb15)
        replace Bb := Lib.hid (Bb.out.below hb15)
        replace Bc := Lib.hid (Bc.out.below hb15)
        replace Dx := Lib.hid (Dx.out.below hb15)
        replace Dl := Lib.hid (Dl.out.below hb15)
        replace Ds := Lib.hid (Ds.out.below hb15)
        replace Dr := Lib.hid (Dr.out.below hb15)
        replace HB := Lib.hid (keep_belowB HB.out ha15 (Nat.le_refl _))
        replace Ba := Lib.hid (Ba.out.below ha15)
        replace Bb := Lib.hid (Bb.out.below ha15)
        replace Bc := Lib.hid (Bc.out.below ha15)
        replace Dx := Lib.hid (Dx.out.below ha15)
        replace Dl := Lib.hid (Dl.out.below ha15)
        replace Ds := Lib.hid (Ds.out.below ha15)
        replace Dr := Lib.hid (Dr.out.below ha15)
        clear hV15 hb15 ha15 p0 p1 p2 p3 u0 u1 u2 u3 Ru
        go_upto_region 25 with (fail)
        rw [← hX15]
        clear hX15
        have t1 : (l'.2 != 0) = false := by rw [Hl'.out]; rfl
        have t2 : (x'.2 != 0) = false := by rw [Hx'.out]; rfl
        have S1 : Hid (sameB ll.1.s (nd 64 ll.1.n) ll.1.n ll.1.e l'.1.s (nd 64 l'.1.n) l'.1.n l'.1.e = true) := by show _ = _; rw [Hl'.out]; simp [sameB, sameW]
        have S2 : Hid (sameB x'.1.s (nd 64 x'.1.n) x'.1.n x'.1.e xx.1.s (nd 64 xx.1.n) xx.1.n xx.1.e = true) := by show _ = _; rw [Hx'.out]; simp [sameB, sameW]
        obtain ⟨Au, cu, ⟨u0, u1, u2, u3⟩, ru⟩ := Dl.out.open
        have Ru := Lib.hid ru
        clear ru
        obtain ⟨Av, cv, ⟨v0, v1, v2, v3⟩, rv⟩ := Dr.out.open
        have Rv := Lib.hid rv
        clear rv
        go_wp2_with fail
        refine (same_any ll.1.s l'.1.s Au Av ll.1.n _ cu l'.1.n _ cv ll.1.e l'.1.e X15 Ru.out Rv.out).mono ?_
        rintro _ x16 ⟨rfl, hb16⟩
        rw [S1.out]
        replace HB := Lib.hid (keep_belowB HB.out hb16 (Nat.le_refl _))
        replace Ba := Lib.hid (Ba.out.below hb16)
        replace Bb := Lib.hid (Bb.out.below hb16)
        replace Bc := Lib.hid (Bc.out.below hb16)
        replace Dx := Lib.hid (Dx.out.below hb16)
        replace Dl := Lib.hid (Dl.out.below hb16)
        replace Ds := Lib.hid (Ds.out.below hb16)
        replace Dr := Lib.hid (Dr.out.below hb16)
        replace Dt := Lib.hid (Dt.out.below hb16)
        clear hb16 u0 u1 u2 u3 Ru v0 v1 v2 v3 Rv
        obtain ⟨Au, cu, ⟨u0, u1, u2, u3⟩, ru⟩ := Dt.out.open
        have Ru := Lib.hid ru
        clear ru
        obtain ⟨Av, cv, ⟨v0, v1, v2, v3⟩, rv⟩ := Dx.out.open
        have Rv := Lib.hid rv
        clear rv
        go_wp2_with fail
        refine (same_any x'.1.s xx.1.s Au Av x'.1.n _ cu xx.1.n _ cv x'.1.e xx.1.e x16 Ru.out Rv.out).mono ?_
        rintro _ x17 ⟨rfl, hb17⟩
        rw [S2.out]
        replace HB := Lib.hid (keep_belowB HB.out hb17 (Nat.le_refl _))
        replace Ba := Lib.hid (Ba.out.below hb17)
        replace Bb := Lib.hid (Bb.out.below hb17)
        replace Bc := Lib.hid (Bc.out.below hb17)
        replace Dx := Lib.hid (Dx.out.below hb17)
        replace Dl := Lib.hid (Dl.out.below hb17)
        replace Ds := Lib.hid (Ds.out.below hb17)
        replace Dr := Lib.hid (Dr.out.below hb17)
        replace Dt := Lib.hid (Dt.out.below hb17)
        clear hb17 u0 u1 u2 u3 Ru v0 v1 v2 v3 Rv
        go_wp2_with fail
        go_meet
        case rel => exact ⟨HB.out, Ba.out, Bb.out, Bc.out, Dx.out⟩
      case rest =>
        clear HB Ba Bb Bc Dx Dl Ds Hll Hss
        obtain ⟨h1, h2, h3, h4, h5⟩ := hcut
        have HB := Lib.hid h1
        have Ba := Lib.hid h2
        have Bb := Lib.hid h3
        have Bc := Lib.hid h4
        have Dx := Lib.hid h5
        clear h1 h2 h3 h4 h5
        obtain ⟨Au, cu, ⟨u0, u1, u2, u3⟩, ru⟩ := Dx.out.open
        have Ru := Lib.hid ru
        clear ru
        obtain ⟨q0, q1, q2, q3, _⟩ := Bc.out.box3.cells
        go_wp2_with fail
        refine (DMul_any xx.1.s sc Au Pc xx.1.n _ cu Nc nc cc xx.1.e ec _ Ru.out (H3.out.below HB.out) (HG.out.below HB.out)).mono ?_
        rintro _ x18 ⟨y18, rfl, hV18, hb18⟩
        obtain ⟨uu, huu⟩ : ∃ uu, uu = mulD (nd 64 xx.1.n) xx.1 nc ⟨sc, Nc, ec⟩ := ⟨_, rfl⟩
        rw [← huu] at hV18 ⊢
        have Huu := Lib.hid huu
        clear huu
        obtain ⟨A18, c18, rfl, -⟩ := id hV18
        obtain ⟨X18, hX18⟩ : ∃ X18, X18 = x18.alloc (Obj.cells #[Value.bool uu.1.s, Value.slice A18 (nd 64 uu.1.n) c18, Value.int IntKind.i64 uu.1.e] 26) := ⟨_, rfl⟩
        have ha18 : Below x18.heap.size x18 X18 := by rw [hX18]; exact below1 ..
        have Du : Hid (DVB 0 x18.heap.size uu.1 X18) := by show DVB 0 x18.heap.size uu.1 X18; rw [hX18]; exact (DVB.new hV18).mono (Nat.zero_le _)
        replace HB := Lib.hid (keep_belowB HB.out hb18 (Nat.le_refl _))
        replace Ba := Lib.hid (Ba.out.below hb18)
        replace Bb := Lib.hid (Bb.out.below hb18)
        replace Bc := Lib.hid (Bc.out.below hb18)
        replace Dx := Lib.hid (Dx.out.below hb18)
        replace HB := Lib.hid (keep_belowB HB.out ha18 (Nat.le_refl _))
        replace Ba := Lib.hid (Ba.out.below ha18)
        replace Bb := Lib.hid (Bb.out.below ha18)
        replace Bc := Lib.hid (Bc.out.below ha18)
        replace Dx := Lib.hid (Dx.out.below ha18)
        clear hV18 hb18 ha18 u0 u1 u2 u3 Ru q0 q1 q2 q3
        go_upto_region 28 with (fail)
        rw [← hX18]
        clear hX18
        obtain ⟨p0, p1, p2, p3, _⟩ := Ba.out.box3.cells
        obtain ⟨q0, q1, q2, q3, _⟩ := Bc.out.box3.cells
        go_wp2_with fail
        refine (DMul_any sa sc Pa Pc Na na ca Nc nc cc ea ec X18 (H1.out.below HB.out) (H3.out.below HB.out) (HG.out.below HB.out)).mono ?_
        rintro _ x19 ⟨y19, rfl, hV19, hb19⟩
        obtain ⟨vv, hvv⟩ : ∃ vv, vv = mulD na ⟨sa, Na, ea⟩ nc ⟨sc, Nc, ec⟩ := ⟨_, rfl⟩
        rw [← hvv] at hV19 ⊢
        have Hvv := Lib.hid hvv
        clear hvv
        obtain ⟨A19, c19, rfl, -⟩ := id hV19
        obtain ⟨X19, hX19⟩ : ∃ X19, X19 = x19.alloc (Obj.cells #[Value.bool vv.1.s, Value.slice A19 (nd 64 vv.1.n) c19, Value.int IntKind.i64 vv.1.e] 26) := ⟨_, rfl⟩
        have ha19 : Below x19.heap.size x19 X19 := by rw [hX19]; exact below1 ..
        have Dv : Hid (DVB 0 x19.heap.size vv.1 X19) := by show DVB 0 x19.heap.size vv.1 X19; rw [hX19]; exact (DVB.new hV19).mono (Nat.zero_le _)
        replace HB := Lib.hid (keep_belowB HB.out hb19 (Nat.le_refl _))
        replace Ba := Lib.hid (Ba.out.below hb19)
        replace Bb := Lib.hid (Bb.out.below hb19)
        replace Bc := Lib.hid (Bc.out.below hb19)
        replace Dx := Lib.hid (Dx.out.below hb19)
        replace Du := Lib.hid (Du.out.below hb19)
        replace HB := Lib.hid (keep_belowB HB.out ha19 (Nat.le_refl _))
        replace Ba := Lib.hid (Ba.out.below ha19)
        replace Bb := Lib.hid (Bb.out.below ha19)
        replace Bc := Lib.hid (Bc.out.below ha19)
        replace Dx := Lib.hid (Dx.out.below ha19)
        replace Du := Lib.hid (Du.out.below ha19)
        clear hV19 hb19 ha19 p0 p1 p2 p3 q0 q1 q2 q3
        go_upto_region 29 with (fail)
        rw [← hX19]
        clear hX19
        obtain ⟨p0, p1, p2, p3, _⟩ := Bb.out.box3.cells
        obtain ⟨q0, q1, q2, q3, _⟩ := Bc.out.box3.cells
        go_wp2_with fail
        refine (DMul_any sb sc Pb Pc Nb nb cb Nc nc cc eb ec X19 (H2.out.below HB.out) (H3.out.below HB.out) (HG.out.below HB.out)).mono ?_
        rintro _ x20 ⟨y20, rfl, hV20, hb20⟩
        obtain ⟨ww, hww⟩ : ∃ ww, ww = mulD nb ⟨sb, Nb, eb⟩ nc ⟨sc, Nc, ec⟩ := ⟨_, rfl⟩
        rw [← hww] at hV20 ⊢
        have Hww := Lib.hid hww
        clear hww
        obtain ⟨A20, c20, rfl, -⟩ := id hV20
        obtain ⟨X20, hX20⟩ : ∃ X20, X20 = x20.alloc (Obj.cells #[Value.bool ww.1.s, Value.slice A20 (nd 64 ww.1.n) c20, Value.int IntKind.i64 ww.1.e] 26) := ⟨_, rfl⟩
        have ha20 : Below x20.heap.size x20 X20 := by rw [hX20]; exact below1 ..
        have Dw : Hid (DVB 0 x20.heap.size ww.1 X20) := by show DVB 0 x20.heap.size ww.1 X20; rw [hX20]; exact (DVB.new hV20).mono (Nat.zero_le _)
        replace HB := Lib.hid (keep_belowB HB.out hb20 (Nat.le_refl _))
        replace Ba := Lib.hid (Ba.out.below hb20)
        replace Bb := Lib.hid (Bb.out.below hb20)
        replace Bc := Lib.hid (Bc.out.below hb20)
        replace Dx := Lib.hid (Dx.out.below hb20)
        replace Du := Lib.hid (Du.out.below hb20)
        replace Dv := Lib.hid (Dv.out.below hb20)
        replace HB := Lib.hid (keep_belowB HB.out ha20 (Nat.le_refl _))
        replace Ba := Lib.hid (Ba.out.below ha20)
        replace Bb := Lib.hid (Bb.out.below ha20)
        replace Bc := Lib.hid (Bc.out.below ha20)
        replace Dx := Lib.hid (Dx.out.below ha20)
        replace Du := Lib.hid (Du.out.below ha20)
        replace Dv := Lib.hid (Dv.out.below ha20)
        clear hV20 hb20 ha20 p0 p1 p2 p3 q0 q1 q2 q3
        go_upto_region 30 with (fail)
        rw [← hX20]
        clear hX20
        by_cases huu : uu.2 ≠ 0
        · have t1 : (uu.2 == 0) = false := by simpa using huu
          go_wp2_with fail
          go_ret
          exact ⟨rfl, HB.out⟩
        have huu : uu.2 = 0 := by omega
        have t1 : (uu.2 == 0) = true := by simpa using huu
        by_cases hvv : vv.2 ≠ 0
        · have t2 : (vv.2 == 0) = false := by simpa using hvv
          go_wp2_with fail
          go_ret
          exact ⟨rfl, HB.out⟩
        have hvv : vv.2 = 0 := by omega
        have t2 : (vv.2 == 0) = true := by simpa using hvv
        by_cases hww : ww.2 ≠ 0
        · have t3 : (ww.2 == 0) = false := by simpa using hww
          go_wp2_with fail
          go_ret
          exact ⟨rfl, HB.out⟩
        have hww : ww.2 = 0 := by omega
        have t3 : (ww.2 == 0) = true := by simpa using hww
        obtain ⟨l7, hcan⟩ := ring4 (n1 := na) (n2 := nb) (n3 := nc) H1.out.lt H2.out.lt H3.out.lt E1.out (show mulD (nd 64 xx.1.n) xx.1 nc ⟨sc, Nc, ec⟩ = (uu.1, 0) by rw [← Huu.out]; exact Prod.ext rfl huu) (show mulD na ⟨sa, Na, ea⟩ nc ⟨sc, Nc, ec⟩ = (vv.1, 0) by rw [← Hvv.out]; exact Prod.ext rfl hvv) (show mulD nb ⟨sb, Nb, eb⟩ nc ⟨sc, Nc, ec⟩ = (ww.1, 0) by rw [← Hww.out]; exact Prod.ext rfl hww)
        obtain ⟨u', hu'⟩ : ∃ u' : D × Int, u' = (uu.1, 0) := ⟨_, rfl⟩
        rw [← hu'] at l7
        have L7 := Lib.hid l7
        have Hu' := Lib.hid hu'
        have Hcan := Lib.hid hcan
        clear l7 hu' hcan huu hvv hww
        obtain ⟨Au, cu, ⟨u0, u1, u2, u3⟩, ru⟩ := Dv.out.open
        have Ru := Lib.hid ru
        clear ru
        obtain ⟨Av, cv, ⟨v0, v1, v2, v3⟩, rv⟩ := Dw.out.open
        have Rv := Lib.hid rv
        clear rv
        go_wp2_with fail
        refine (DAdd_any vv.1.s ww.1.s Au Av vv.1.n _ cu ww.1.n _ cv vv.1.e ww.1.e X20 Ru.out Rv.out (HG.out.below HB.out)).mono ?_
        rintro _ x21 ⟨y21, rfl, hV21, hb21⟩
        rw [L7.out] at hV21 ⊢
        obtain ⟨A21, c21, rfl, -⟩ := id hV21
        obtain ⟨X21, hX21⟩ : ∃ X21, X21 = x21.alloc (Obj.cells #[Value.bool u'.1.s, Value.slice A21 (nd 64 u'.1.n) c21, Value.int IntKind.i64 u'.1.e] 26) := ⟨_, rfl⟩
        have ha21 : Below x21.heap.size x21 X21 := by rw [hX21]; exact below1 ..
        have Dr : Hid (DVB 0 x21.heap.size u'.1 X21) := by show DVB 0 x21.heap.size u'.1 X21; rw [hX21]; exact (DVB.new hV21).mono (Nat.zero_le _)
        replace HB := Lib.hid (keep_belowB HB.out hb21 (Nat.le_refl _))
        replace Ba := Lib.hid (Ba.out.below hb21)
        replace Bb := Lib.hid (Bb.out.below hb21)
        replace Bc := Lib.hid (Bc.out.below hb21)
        replace Dx := Lib.hid (Dx.out.below hb21)
        replace Du := Lib.hid (Du.out.below hb21)
        replace Dv := Lib.hid (Dv.out.below hb21)
        replace Dw := Lib.hid (Dw.out.below hb21)
        replace HB := Lib.hid (keep_belowB HB.out ha21 (Nat.le_refl _))
        replace Ba := Lib.hid (Ba.out.below ha21)
        replace Bb := Lib.hid (Bb.out.below ha21)
        replace Bc := Lib.hid (Bc.out.below ha21)
        replace Dx := Lib.hid (Dx.out.below ha21)
        replace Du := Lib.hid (Du.out.below ha21)
        replace Dv := Lib.hid (Dv.out.below ha21)
        replace Dw := Lib.hid (Dw.out.below ha21)
        clear hV21 hb21 ha21 u0 u1 u2 u3 Ru v0 v1 v2 v3 Rv t1 t2 t3
        go_upto_region 32 with (fail)
        rw [← hX21]
        clear hX21
        have t1 : (u'.2 == 0) = true := by rw [Hu'.out]; rfl
        have S1 : Hid (sameB u'.1.s (nd 64 u'.1.n) u'.1.n u'.1.e uu.1.s (nd 64 uu.1.n) uu.1.n uu.1.e = true) := by show _ = _; rw [Hu'.out]; simp [sameB, sameW]
        obtain ⟨Au, cu, ⟨u0, u1, u2, u3⟩, ru⟩ := Dr.out.open
        have Ru := Lib.hid ru
        clear ru
        obtain ⟨Av, cv, ⟨v0, v1, v2, v3⟩, rv⟩ := Du.out.open
        have Rv := Lib.hid rv
        clear rv
        go_wp2_with fail
        refine (same_any u'.1.s uu.1.s Au Av u'.1.n _ cu uu.1.n _ cv u'.1.e uu.1.e X21 Ru.out Rv.out).mono ?_
        rintro _ x22 ⟨rfl, hb22⟩
        rw [S1.out]
        replace HB := Lib.hid (keep_belowB HB.out hb22 (Nat.le_refl _))
        replace Ba := Lib.hid (Ba.out.below hb22)
        replace Bb := Lib.hid (Bb.out.below hb22)
        replace Bc := Lib.hid (Bc.out.below hb22)
        replace Dx := Lib.hid (Dx.out.below hb22)
        replace Du := Lib.hid (Du.out.below hb22)
        replace Dv := Lib.hid (Dv.out.below hb22)
        replace Dw := Lib.hid (Dw.out.below hb22)
        replace Dr := Lib.hid (Dr.out.below hb22)
        clear hb22 u0 u1 u2 u3 Ru v0 v1 v2 v3 Rv
        obtain ⟨Av, cv, ⟨v0, v1, v2, v3⟩, rv⟩ := Du.out.open
        have Rv := Lib.hid rv
        clear rv
        go_wp2_with fail
        refine (oddL_any uu.1 Av cv x22 Hcan.out Rv.out).mono ?_
        rintro _ x23 ⟨rfl, hb23⟩
        replace HB := Lib.hid (keep_belowB HB.out hb23 (Nat.le_refl _))
        replace Ba := Lib.hid (Ba.out.below hb23)
        replace Bb := Lib.hid (Bb.out.below hb23)
        replace Bc := Lib.hid (Bc.out.below hb23)
        replace Dx := Lib.hid (Dx.out.below hb23)
        replace Du := Lib.hid (Du.out.below hb23)
        replace Dv := Lib.hid (Dv.out.below hb23)
        replace Dw := Lib.hid (Dw.out.below hb23)
        replace Dr := Lib.hid (Dr.out.below hb23)
        clear hb23 v0 v1 v2 v3 Rv
        go_wp2_with fail
        go_ret
        exact ⟨rfl, HB.out⟩

end Go.Proofs.YtomhmbnpkphcmaaDoor
