/- The walk of DyadBounds. -/
import Derived.Outline
import Derived.Deep.CutBlock
import Derived.Test.YtomhmbnpkphcmaaDoorLawQ
import Derived.Test.YtomhmbnpkphcmaaDoorLawC
import Derived.Test.YtomhmbnpkphcmaaDoorInv
namespace Go.Proofs.YtomhmbnpkphcmaaDoor
set_option linter.unusedVariables false
open Go.RowKit

theorem floorD_e (n : Nat) (a : D) (h0 : (floorD n a).2 = 0) : 0 ≤ (floorD n a).1.e := by
  unfold floorD at *
  split at h0
  · rename_i h
    rw [if_pos h]
    unfold ansD at *
    split at h0
    · simp at h0
    · rename_i h1
      rw [if_neg h1]
      split at h0
      · simp at h0
      · rename_i h2
        rw [if_neg h2]
        exact oddD_low _ 0 (floorN_e _) (Int.le_refl _)
  · rename_i h
    exact absurd h0 h

theorem bounds_cmp1 (n : Nat) (a : D) (h0 : (floorD n a).2 = 0) : ∃ o, cmpD (nd 64 (floorD n a).1.n) (floorD n a).1 n a = (o, 0) ∧ o ≤ 0 ∧ 0 ≤ (floorD n a).1.e ∧ (floorD n a).1.can := by
  have hv := floorD_val n a (-1000000) (by omega) h0
  have hr := floorD_res n a (-1000000) (by omega)
  refine ⟨_, cmpD_val _ _ _ _ (-1000000) (by omega) (res_ref hr h0) hv.1, ?_, floorD_e n a h0, (hr h0).1⟩
  rw [(hr h0).2.2.2.2]
  unfold sgI
  split
  · omega
  · split <;> omega

theorem bounds_cmp2 (n : Nat) (a : D) (h0 : (floorD n a).2 = 0) (m1 m2 : Nat) (hq : (addD m1 (floorD n a).1 m2 (fromIntD 1)).2 = 0) :
    ∃ o, cmpD (nd 64 (addD m1 (floorD n a).1 m2 (fromIntD 1)).1.n) (addD m1 (floorD n a).1 m2 (fromIntD 1)).1 n a = (o, 0) ∧ 0 < o := by
  have hv := floorD_val n a (-1000000) (by omega) h0
  have hr := floorD_res n a (-1000000) (by omega)
  have hr2 := addD_res m1 m2 (floorD n a).1 (fromIntD 1) (-1000000) (by omega)
  refine ⟨_, cmpD_val _ _ _ _ (-1000000) (by omega) (res_ref hr2 hq) hv.1, ?_⟩
  rw [(hr2 hq).2.2.2.2, (hr h0).2.2.2.2]
  have e1 : (fromIntD 1).i (-1000000) = 2 ^ (- (-1000000 : Int)).toNat := by
    have : fromIntD 1 = ⟨false, 1, 0⟩ := odd1 0
    rw [this, i_one]
    congr 1
  rw [e1]
  unfold sgI
  rw [if_neg (by omega), if_neg (by omega)]
  decide

theorem topD_err (n : Nat) (a : D) (h : (topD n a).2 ≠ 0) : (topD n a).1 = 0 ∧ ((topD n a).2 = 31 → a.n = 0) := by
  unfold topD at *
  split
  · rename_i h1
    rw [if_pos h1] at h
    split
    · rename_i h2
      exact ⟨rfl, fun _ => h2⟩
    · rename_i h2
      rw [if_neg h2] at h
      exact absurd rfl h
  · rename_i h1
    refine ⟨rfl, fun h2 => ?_⟩
    unfold refD at h2
    simp only at h2
    split at h2
    · simp at h2
    · split at h2 <;> simp at h2

theorem bounds_top (n : Nat) (a : D) (h0 : (topD n a).2 = 0) (hr : -40000 ≤ (topD n a).1 ∧ (topD n a).1 < 40000) :
    (∃ o, cmpD 1 ⟨false, 1, (topD n a).1⟩ n ⟨false, a.n, a.e⟩ = (o, 0) ∧ o ≤ 0) ∧ (∃ o, cmpD 1 ⟨false, 1, (topD n a).1 + 1⟩ n ⟨false, a.n, a.e⟩ = (o, 0) ∧ 0 < o) := by
  obtain ⟨hr1, hn, hv⟩ := topD_val n a 0 h0
  have g := refD_zero hr1
  have hb := top_bounds a (-1000000) (by omega) hn
  rw [hv] at hr ⊢
  have r1 : ∀ x : Int, -40000 ≤ x → x ≤ 40000 → refD 1 x = 0 := fun x h1 h2 => by unfold refD; rw [if_neg (by omega), if_neg (by omega)]
  refine ⟨⟨_, cmpD_val _ _ _ _ (-1000000) (by omega) (r1 ((bl a.n : Int) - 1 + a.e) hr.1 (by omega)) hr1, ?_⟩, ⟨_, cmpD_val _ _ _ _ (-1000000) (by omega) (r1 ((bl a.n : Int) - 1 + a.e + 1) (by omega) (by omega)) hr1, ?_⟩⟩
  · have := hb.1
    generalize D.i (-1000000) ⟨false, 1, (bl a.n : Int) - 1 + a.e⟩ = x at *
    generalize D.i (-1000000) ⟨false, a.n, a.e⟩ = y at *
    unfold sgI
    split
    · omega
    · split <;> omega
  · have := hb.2
    generalize D.i (-1000000) ⟨false, 1, (bl a.n : Int) - 1 + a.e + 1⟩ = x at *
    generalize D.i (-1000000) ⟨false, a.n, a.e⟩ = y at *
    unfold sgI
    rw [if_neg (by omega), if_neg (by omega)]
    decide

set_option maxRecDepth 100000 in
set_option maxHeartbeats 4000000 in
theorem bounds_any (s : Bool) (A : Option Addr) (N n c : Nat) (e : Int) (w : World) (hv : Rd 64 w (.slice A n c) N n) (hA0 : A = none → c = 0) (hG : Gl w) (he64 : -9223372036854775808 ≤ e ∧ e ≤ 9223372036854775807) :
    Calls Tryd.prog 6 #[.agg #[.bool s, .slice A n c, .int .i64 e]] w fun e' w' => e' = .returned (.bool true) ∧ Below w.heap.size w w' := by
  obtain ⟨W1, hW1⟩ : ∃ W1, W1 = w.alloc (Obj.cells #[Value.bool s, Value.slice A n c, Value.int IntKind.i64 e] 26) := ⟨_, rfl⟩
  have hB1 : Below w.heap.size w W1 := by rw [hW1]; exact below1 ..
  have b1 : BoxD W1 w.heap.size (.bool s) (.slice A n c) (.int .i64 e) := by rw [hW1]; exact BoxD.new ..
  have H1 := Lib.hid hv
  have HG := Lib.hid hG
  have HA0 := Lib.hid hA0
  clear hv hG hA0
  go_enter Tryd.func6, Tryd.ntmps6
  go_wp2_with fail
  rw [← hW1]
  refine (awake_any W1 (HG.out.below hB1)).mono ?_
  rintro _ w2 ⟨rfl, hb2⟩
  have hB2 := keep_belowB hB1 hb2 (Nat.le_refl _)
  have b2 := b1.below hb2
  clear hW1 hB1 b1 hb2
  obtain ⟨k0, k1, k2, k3, _⟩ := b2.box3.cells
  go_wp2_with fail
  refine (Floor_any s A N n c e w2 (H1.out.below hB2) (HG.out.below hB2)).mono ?_
  rintro _ w3 ⟨x, rfl, hV3, hb3⟩
  obtain ⟨r, hr⟩ : ∃ r, r = floorD n ⟨s, N, e⟩ := ⟨_, rfl⟩
  rw [← hr] at hV3 ⊢
  obtain ⟨A3, c3, rfl, -⟩ := id hV3
  obtain ⟨W4, hW4⟩ : ∃ W4, W4 = w3.alloc (Obj.cells #[Value.bool r.1.s, Value.slice A3 (nd 64 r.1.n) c3, Value.int IntKind.i64 r.1.e] 26) := ⟨_, rfl⟩
  have hb4 : Below w3.heap.size w3 W4 := by rw [hW4]; exact below1 ..
  have hB4 := keep_belowB (keep_belowB hB2 hb3 (Nat.le_refl _)) hb4 (Nat.le_refl _)
  have b4 := (b2.below hb3).below hb4
  have f4 : DVB 0 w3.heap.size r.1 W4 := by rw [hW4]; exact (DVB.new hV3).mono (Nat.zero_le _)
  have hsz : w.heap.size < w3.heap.size := (b2.below hb3).lt
  have Hr := Lib.hid hr
  have HB4 := Lib.hid hB4
  have Hb4 := Lib.hid b4
  have Hf4 := Lib.hid f4
  clear hr k0 k1 k2 k3 hB2 b2 hV3 hb3 hb4 hB4 b4 f4
  go_upto_if 23 with (fail)
  rw [← hW4]
  clear hW4
  go_cut [4, 5, 6, 7, 8] from 15 (fun p4 p5 p6 p7 p8 wx => Below w.heap.size w wx ∧ BoxD wx w.heap.size (.bool s) (.slice A n c) (.int .i64 e))
  case first =>
    by_cases h0 : r.2 = 0
    · have t1 : (r.2 == 0) = true := by simpa using h0
      have H0 := Lib.hid h0
      rw [t1]
      clear t1 h0
      obtain ⟨q, hq⟩ : ∃ q, q = addD (nd 64 r.1.n) r.1 (nd 64 (fromIntD 1).n) (fromIntD 1) := ⟨_, rfl⟩
      have Hq := Lib.hid hq
      clear hq
      have hG4 := HG.out.below HB4.out
      obtain ⟨A5, c5, ⟨p0, p1, p2, p3⟩, hR3⟩ := Hf4.out.open
      go_upto_region 5 with (fail)
      go_cut [5, 6] from 15 (fun p5 p6 wx => p6 = .int .i64 q.2 ∧ (∃ g, p5 = .pointer (some ⟨g, 0, none⟩) ∧ W4.heap.size ≤ g ∧ DVB W4.heap.size g q.1 wx) ∧ Below W4.heap.size W4 wx)
      case first =>
        refine wp_region_J [25, 26, 27, 24, 28, 29, 5, 6] (fun l vs wx => ∃ l0 l1 l2 l3 l4 l5 l6 l7 l8 v25 v26 v27 v24 v28 v29 v5 v6, l = [l0, l1, l2, l3, l4, l5, l6, l7, l8] ∧ vs = [v25, v26, v27, v24, v28, v29, v5, v6] ∧ Below W4.heap.size W4 wx ∧ (l0 = true → v25 = Value.agg #[Value.bool r.1.s, Value.slice A5 (nd 64 r.1.n) c5, Value.int IntKind.i64 r.1.e]) ∧ (l1 = true → DV W4.heap.size wx v26 (fromIntD 1)) ∧ (l2 = true → TupD W4.heap.size q v27 wx) ∧ (l3 = true → TupD W4.heap.size q v24 wx) ∧ (l5 = true → v29 = Value.int IntKind.i64 q.2) ∧ (l8 = true → v6 = Value.int IntKind.i64 q.2) ∧ SideD W4.heap.size q.1 l4 l6 l7 v28 v5 wx) (by kernel_rfl) ?_ ?_ ?_ ?_ ?_
        · intro vs hvs
          obtain ⟨y0, y1, y2, y3, y4, y5, y6, y7, rfl⟩ : ∃ y0 y1 y2 y3 y4 y5 y6 y7, vs = [y0, y1, y2, y3, y4, y5, y6, y7] := by
            match vs, hvs with
            | [y0, y1, y2, y3, y4, y5, y6, y7], _ => exact ⟨y0, y1, y2, y3, y4, y5, y6, y7, rfl⟩
          exact ⟨false, false, false, false, false, false, false, false, false, y0, y1, y2, y3, y4, y5, y6, y7, rfl, rfl, (Below.refl _ _).drew, nofun, nofun, nofun, nofun, nofun, nofun, SideD.start ..⟩
        · refine ⟨?_, ?_, ?_, ?_, ?_, ?_, ?_, ?_, ?_, trivial⟩
          · rintro _ _ wx ⟨l0, l1, l2, l3, l4, l5, l6, l7, l8, v25, v26, v27, v24, v28, v29, v5, v6, rfl, rfl, hB, h0, h1, h2, h3, h5, h8, hS5⟩ hl hall K' hK
            clear hall hl
            have q0 := keep_cell hB p0
            have q1 := keep_cell hB p1
            have q2 := keep_cell hB p2
            clear p0 p1 p2 p3
            simp only [putL, Act.put, List.setIfInBounds_toArray, List.set_cons_zero, List.set_cons_succ]
            go_simp
            have hh := hK.out [Value.agg #[Value.bool r.1.s, Value.slice A5 (nd 64 r.1.n) c5, Value.int IntKind.i64 r.1.e], v26, v27, v24, v28, v29, v5, v6] wx ⟨true, l1, l2, l3, l4, l5, l6, l7, l8, Value.agg #[Value.bool r.1.s, Value.slice A5 (nd 64 r.1.n) c5, Value.int IntKind.i64 r.1.e], v26, v27, v24, v28, v29, v5, v6, rfl, rfl, hB, fun _ => rfl, h1, h2, h3, h5, h8, hS5⟩
            simp only [putL, Act.put, List.setIfInBounds_toArray, List.set_cons_zero, List.set_cons_succ] at hh
            exact hh
          · rintro _ _ wx ⟨l0, l1, l2, l3, l4, l5, l6, l7, l8, v25, v26, v27, v24, v28, v29, v5, v6, rfl, rfl, hB, h0, h1, h2, h3, h5, h8, hS5⟩ hl hall K' hK
            clear hall hl
            clear p0 p1 p2 p3
            simp only [putL, Act.put, List.setIfInBounds_toArray, List.set_cons_zero, List.set_cons_succ]
            go_simp
            refine (FromInt_any 1 wx (by decide) (hG4.below hB)).mono ?_
            rintro e w2 ⟨x2, rfl, hV2, hx1⟩
            go_simp
            have hh := hK.out [v25, x2, v27, v24, v28, v29, v5, v6] w2 ⟨l0, true, l2, l3, l4, l5, l6, l7, l8, v25, x2, v27, v24, v28, v29, v5, v6, rfl, rfl, keep_below hB hx1, h0, fun _ => hV2.mono hB.size, fun h => (h2 h).below hx1, fun h => (h3 h).below hx1, h5, h8, hS5.below hx1⟩
            simp only [putL, Act.put, List.setIfInBounds_toArray, List.set_cons_zero, List.set_cons_succ] at hh
            exact hh
          · rintro _ _ wx ⟨l0, l1, l2, l3, l4, l5, l6, l7, l8, v25, v26, v27, v24, v28, v29, v5, v6, rfl, rfl, hB, h0, h1, h2, h3, h5, h8, hS5⟩ hl hall K' hK
            have e0l : l0 = true := hall ⟨0, .data⟩ (by simp) (by rfl)
            have e1l : l1 = true := hall ⟨1, .data⟩ (by simp) (by rfl)
            clear hall hl
            subst e0l e1l
            clear p0 p1 p2 p3
            simp only [putL, Act.put, List.setIfInBounds_toArray, List.set_cons_zero, List.set_cons_succ]
            have e0 := h0 rfl
            obtain ⟨A1, c1, e1, -, -, hR1, hF1⟩ := h1 rfl
            simp only [e0, e1]
            go_simp
            refine (DAdd_any r.1.s (fromIntD 1).s A5 A1 r.1.n _ c5 (fromIntD 1).n _ c1 r.1.e (fromIntD 1).e wx (hR3.below hB) hR1 (hG4.below hB)).mono ?_
            rintro e w2 ⟨x2, rfl, hV2, hx1⟩
            rw [← Hq.out] at hV2 ⊢
            go_simp
            have hh := hK.out [v25, v26, .tuple #[x2, .int .i64 q.2], v24, v28, v29, v5, v6] w2 ⟨true, true, true, l3, l4, l5, l6, l7, l8, v25, v26, .tuple #[x2, .int .i64 q.2], v24, v28, v29, v5, v6, rfl, rfl, keep_below hB hx1, h0, fun h => (h1 h).below hx1, fun _ => ⟨x2, rfl, hV2.mono hB.size⟩, fun h => (h3 h).below hx1, h5, h8, hS5.below hx1⟩
            simp only [putL, Act.put, List.setIfInBounds_toArray, List.set_cons_zero, List.set_cons_succ] at hh
            simp only [e0, e1] at hh
            exact hh
          · rintro _ _ wx ⟨l0, l1, l2, l3, l4, l5, l6, l7, l8, v25, v26, v27, v24, v28, v29, v5, v6, rfl, rfl, hB, h0, h1, h2, h3, h5, h8, hS5⟩ hl hall K' hK
            have e2l : l2 = true := hall ⟨2, .data⟩ (by simp) (by rfl)
            clear hall hl
            subst e2l
            clear p0 p1 p2 p3
            simp only [putL, Act.put, List.setIfInBounds_toArray, List.set_cons_zero, List.set_cons_succ]
            obtain ⟨x2, e2, hV2⟩ := h2 rfl
            simp only [e2]
            go_simp
            have hh := hK.out [v25, v26, v27, v27, v28, v29, v5, v6] wx ⟨l0, l1, true, true, l4, l5, l6, l7, l8, v25, v26, v27, v27, v28, v29, v5, v6, rfl, rfl, hB, h0, h1, h2, fun _ => h2 rfl, h5, h8, hS5⟩
            simp only [putL, Act.put, List.setIfInBounds_toArray, List.set_cons_zero, List.set_cons_succ] at hh
            simp only [e2] at hh
            exact hh
          · rintro _ _ wx ⟨l0, l1, l2, l3, l4, l5, l6, l7, l8, v25, v26, v27, v24, v28, v29, v5, v6, rfl, rfl, hB, h0, h1, h2, h3, h5, h8, hS5⟩ hl hall K' hK
            have e3l : l3 = true := hall ⟨3, .data⟩ (by simp) (by rfl)
            have e4l : l4 = false := by simpa using hl
            clear hall hl
            subst e3l e4l
            clear p0 p1 p2 p3
            simp only [putL, Act.put, List.setIfInBounds_toArray, List.set_cons_zero, List.set_cons_succ]
            obtain ⟨x3, e3, hV3⟩ := h3 rfl
            simp only [e3]
            go_simp
            have hh := hK.out [v25, v26, v27, v24, x3, v29, v5, v6] wx ⟨l0, l1, l2, true, true, l5, l6, l7, l8, v25, v26, v27, v24, x3, v29, v5, v6, rfl, rfl, hB, h0, h1, h2, h3, h5, h8, hS5.call (Below.refl _ _) hV3⟩
            simp only [putL, Act.put, List.setIfInBounds_toArray, List.set_cons_zero, List.set_cons_succ] at hh
            simp only [e3] at hh
            exact hh
          · rintro _ _ wx ⟨l0, l1, l2, l3, l4, l5, l6, l7, l8, v25, v26, v27, v24, v28, v29, v5, v6, rfl, rfl, hB, h0, h1, h2, h3, h5, h8, hS5⟩ hl hall K' hK
            have e3l : l3 = true := hall ⟨3, .data⟩ (by simp) (by rfl)
            clear hall hl
            subst e3l
            clear p0 p1 p2 p3
            simp only [putL, Act.put, List.setIfInBounds_toArray, List.set_cons_zero, List.set_cons_succ]
            obtain ⟨x3, e3, hV3⟩ := h3 rfl
            simp only [e3]
            go_simp
            have hh := hK.out [v25, v26, v27, v24, v28, .int .i64 q.2, v5, v6] wx ⟨l0, l1, l2, true, l4, true, l6, l7, l8, v25, v26, v27, v24, v28, .int .i64 q.2, v5, v6, rfl, rfl, hB, h0, h1, h2, h3, fun _ => rfl, h8, hS5⟩
            simp only [putL, Act.put, List.setIfInBounds_toArray, List.set_cons_zero, List.set_cons_succ] at hh
            simp only [e3] at hh
            exact hh
          · rintro _ _ wx ⟨l0, l1, l2, l3, l4, l5, l6, l7, l8, v25, v26, v27, v24, v28, v29, v5, v6, rfl, rfl, hB, h0, h1, h2, h3, h5, h8, hS5⟩ hl hall K' hK
            have e6l : l6 = false := by simpa using hl
            clear hall hl
            subst e6l
            clear p0 p1 p2 p3
            simp only [putL, Act.put, List.setIfInBounds_toArray, List.set_cons_zero, List.set_cons_succ]
            go_simp
            have hh := hK.out [v25, v26, v27, v24, v28, v29, .pointer (some ⟨wx.heap.size, 0, none⟩), v6] (wx.alloc (Obj.cells #[Value.bool false, Value.slice none 0 0, Value.int IntKind.i64 0] 26)) ⟨l0, l1, l2, l3, l4, l5, true, l7, l8, v25, v26, v27, v24, v28, v29, .pointer (some ⟨wx.heap.size, 0, none⟩), v6, rfl, rfl, below_alloc' hB _, h0, fun h => (h1 h).below (below1 _ _), fun h => (h2 h).below (below1 _ _), fun h => (h3 h).below (below1 _ _), h5, h8, hS5.make hB.size _ _ _⟩
            simp only [putL, Act.put, List.setIfInBounds_toArray, List.set_cons_zero, List.set_cons_succ] at hh
            exact hh
          · rintro _ _ wx ⟨l0, l1, l2, l3, l4, l5, l6, l7, l8, v25, v26, v27, v24, v28, v29, v5, v6, rfl, rfl, hB, h0, h1, h2, h3, h5, h8, hS5⟩ hl hall K' hK
            have e4l : l4 = true := hall ⟨4, .data⟩ (by simp) (by rfl)
            have e6l : l6 = true := hall ⟨6, .data⟩ (by simp) (by rfl)
            clear hall hl
            subst e4l e6l
            clear p0 p1 p2 p3
            simp only [putL, Act.put, List.setIfInBounds_toArray, List.set_cons_zero, List.set_cons_succ]
            obtain ⟨A4, c4, e4, -, -, hR4, hF4⟩ := hS5.1 rfl
            obtain ⟨g, a, b, c, eg, hg, hb⟩ := hS5.ptr
            obtain ⟨r0, r1, r2, r3, _⟩ := hb.box3.cells
            simp only [e4, eg]
            go_simp
            have hh := hK.out [v25, v26, v27, v24, v28, v29, v5, v6] (((wx.setCell ⟨g, 0, none⟩ (.bool q.1.s)).setCell ⟨g, 1, none⟩ (.slice A4 (nd 64 q.1.n) c4)).setCell ⟨g, 2, none⟩ (.int .i64 q.1.e)) ⟨l0, l1, l2, l3, true, l5, true, true, l8, v25, v26, v27, v24, v28, v29, v5, v6, rfl, rfl, below_box hB hg _ _ _, h0, fun h => (h1 h).wd hb.wd, fun h => (h2 h).wd hb.wd, fun h => (h3 h).wd hb.wd, h5, h8, (by have h := hS5; rw [eg, e4] at h ⊢; exact h.store)⟩
            simp only [putL, Act.put, List.setIfInBounds_toArray, List.set_cons_zero, List.set_cons_succ] at hh
            simp only [e4, eg] at hh
            exact hh
          · rintro _ _ wx ⟨l0, l1, l2, l3, l4, l5, l6, l7, l8, v25, v26, v27, v24, v28, v29, v5, v6, rfl, rfl, hB, h0, h1, h2, h3, h5, h8, hS5⟩ hl hall K' hK
            have e5l : l5 = true := hall ⟨5, .data⟩ (by simp) (by rfl)
            clear hall hl
            subst e5l
            clear p0 p1 p2 p3
            simp only [putL, Act.put, List.setIfInBounds_toArray, List.set_cons_zero, List.set_cons_succ]
            have e5 := h5 rfl
            simp only [e5]
            go_simp
            have hh := hK.out [v25, v26, v27, v24, v28, v29, v5, v29] wx ⟨l0, l1, l2, l3, l4, true, l6, l7, true, v25, v26, v27, v24, v28, v29, v5, v29, rfl, rfl, hB, h0, h1, h2, h3, h5, fun _ => e5, hS5⟩
            simp only [putL, Act.put, List.setIfInBounds_toArray, List.set_cons_zero, List.set_cons_succ] at hh
            simp only [e5] at hh
            exact hh
        · rintro vs wx ⟨l0, l1, l2, l3, l4, l5, l6, l7, l8, v25, v26, v27, v24, v28, v29, v5, v6, hl, rfl, hB, h0, h1, h2, h3, h5, h8, hS5⟩
          obtain ⟨rfl, rfl, rfl, rfl, rfl, rfl, rfl, rfl, rfl⟩ : true = l0 ∧ true = l1 ∧ true = l2 ∧ true = l3 ∧ true = l4 ∧ true = l5 ∧ true = l6 ∧ true = l7 ∧ true = l8 := by simpa using hl
          simp only [putL, Act.put, List.setIfInBounds_toArray, List.set_cons_zero, List.set_cons_succ]
          go_wp2_with fail
          go_meet
          case rel => exact ⟨rfl, hS5.dvb, hB⟩
        · rintro _ vs wx ⟨l0, l1, l2, l3, l4, l5, l6, l7, l8, v25, v26, v27, v24, v28, v29, v5, v6, rfl, _⟩
          rfl
        · rintro _ vs wx ⟨l0, l1, l2, l3, l4, l5, l6, l7, l8, v25, v26, v27, v24, v28, v29, v5, v6, rfl, -⟩
          revert l0 l1 l2 l3 l4 l5 l6 l7 l8
          decide +kernel
      case rest =>
        obtain ⟨rfl, ⟨g5, rfl, hg5, hf5⟩, hBc⟩ := hcut
        obtain ⟨o1, ho1, hle1, he1, hcan⟩ := bounds_cmp1 n ⟨s, N, e⟩ (by rw [← Hr.out]; exact H0.out)
        rw [← Hr.out] at ho1 he1 hcan
        have HBc := Lib.hid (keep_belowB HB4.out hBc (Nat.le_refl _))
        have Hbc := Lib.hid (Hb4.out.below hBc)
        have Hfc := Lib.hid (Hf4.out.below hBc)
        have Hf5 := Lib.hid hf5
        have Hcan := Lib.hid hcan
        have Ho1 := Lib.hid ho1
        clear hBc hf5 p0 p1 p2 p3 hR3 hG4 HB4 Hb4 Hf4 hcan ho1
        obtain ⟨A6, c6, ⟨p0, p1, p2, p3⟩, hR6⟩ := Hfc.out.open
        obtain ⟨k0, k1, k2, k3, _⟩ := Hbc.out.box3.cells
        have HR6 := Lib.hid hR6
        clear hR6
        go_wp2_with fail
        refine (DCmp_any r.1.s s A6 A r.1.n _ c6 N n c r.1.e e wc HR6.out (H1.out.below HBc.out) (HG.out.below HBc.out)).mono ?_
        rintro _ w7 ⟨rfl, hb7⟩
        rw [Ho1.out]
        have HB7 := Lib.hid (keep_belowB HBc.out hb7 (Nat.le_refl _))
        have Hb7 := Lib.hid (Hbc.out.below hb7)
        have Hf7 := Lib.hid (Hfc.out.below hb7)
        have Hg7 := Lib.hid (Hf5.out.below hb7)
        clear HR6 hb7 HBc Hbc Hfc Hf5 p0 p1 p2 p3 k0 k1 k2 k3
        obtain ⟨A6, c6, ⟨p0, p1, p2, p3⟩, hR6⟩ := Hf7.out.open
        have HR6 := Lib.hid hR6
        clear hR6
        go_wp2_with fail
        refine (oddL_any r.1 A6 c6 w7 Hcan.out HR6.out).mono ?_
        rintro _ w8 ⟨rfl, hb8⟩
        have HB8 := Lib.hid (keep_belowB HB7.out hb8 (Nat.le_refl _))
        have Hb8 := Lib.hid (Hb7.out.below hb8)
        have Hg8 := Lib.hid (Hg7.out.below hb8)
        clear HR6 hb8 HB7 Hb7 Hf7 Hg7 p0 p1 p2 p3 Hcan
        go_upto_if 53 with (fail)
        by_cases hq : q.2 = 0
        · have t1 : (q.2 == 0) = true := by simpa using hq
          rw [t1]
          clear t1
          obtain ⟨o2, ho2, hlt2⟩ := bounds_cmp2 n ⟨s, N, e⟩ (by rw [← Hr.out]; exact H0.out) _ _ (by rw [← Hr.out, ← Hq.out]; exact hq)
          rw [← Hr.out, ← Hq.out] at ho2
          have Ho2 := Lib.hid ho2
          clear ho2 hq
          obtain ⟨A7, c7, ⟨p0, p1, p2, p3⟩, hR7⟩ := Hg8.out.open
          obtain ⟨k0, k1, k2, k3, _⟩ := Hb8.out.box3.cells
          have HR7 := Lib.hid hR7
          clear hR7
          go_wp2_with fail
          refine (DCmp_any q.1.s s A7 A q.1.n _ c7 N n c q.1.e e w8 HR7.out (H1.out.below HB8.out) (HG.out.below HB8.out)).mono ?_
          rintro _ w9 ⟨rfl, hb9⟩
          rw [Ho2.out]
          have HB9 := Lib.hid (keep_belowB HB8.out hb9 (Nat.le_refl _))
          have Hb9 := Lib.hid (Hb8.out.below hb9)
          clear HR7 hb9 HB8 Hb8 Hg8 p0 p1 p2 p3 k0 k1 k2 k3
          go_wp2_with fail
          go_meet
          case rel => exact ⟨HB9.out, Hb9.out⟩
        · have t1 : (q.2 == 0) = false := by simpa using hq
          rw [t1]
          clear t1 hq
          go_wp2_with fail
          go_meet
          case rel => exact ⟨HB8.out, Hb8.out⟩
    · have t1 : (r.2 == 0) = false := by simpa using h0
      go_wp2_with fail
      go_meet
      case rel => exact ⟨HB4.out, Hb4.out⟩
  case rest =>
    obtain ⟨hB5, hb5⟩ := hcut
    clear HB4 Hb4 Hf4 Hr hsz
    obtain ⟨k0, k1, k2, k3, _⟩ := hb5.box3.cells
    have HB5 := Lib.hid hB5
    have Hb5 := Lib.hid hb5
    clear hB5 hb5
    go_wp2_with fail
    refine (Top_any s A N n c e wc (H1.out.below HB5.out)).mono ?_
    rintro _ W6 ⟨rfl, hb6⟩
    have HB6 := Lib.hid (keep_belowB HB5.out hb6 (Nat.le_refl _))
    have Hb6 := Lib.hid (Hb5.out.below hb6)
    clear hb6 HB5 Hb5 k0 k1 k2 k3
    obtain ⟨t, ht⟩ : ∃ t, t = topD n ⟨s, N, e⟩ := ⟨_, rfl⟩
    rw [← ht]
    have Ht := Lib.hid ht
    clear ht
    go_upto_if 72 with (fail)
    by_cases h2 : t.2 = 0
    · have t1 : (t.2 != 0) = false := by simpa using h2
      rw [t1]
      have H2 := Lib.hid h2
      obtain ⟨hr6, hN6, htv⟩ := topD_val n ⟨s, N, e⟩ 0 (by rw [← Ht.out]; exact h2)
      rw [← Ht.out] at htv
      have hr7 := refD_zero hr6
      obtain ⟨hn, he1, he2⟩ : n ≤ 1024 ∧ -40000 ≤ e ∧ e ≤ 40000 := by omega
      have Hr6 := Lib.hid hr6
      have HN6 := Lib.hid hN6
      have Htv := Lib.hid htv
      clear t1 h2 hr6 hN6 htv hr7
      by_cases hlo : t.1 < -40000
      · go_wp2_with fail
        go_ret
        exact ⟨rfl, HB6.out⟩
      by_cases hhi : 40000 ≤ t.1
      · have hlo' : -40000 ≤ t.1 := by omega
        clear hlo
        go_wp2_with fail
        go_ret
        exact ⟨rfl, HB6.out⟩
      · have hrg1 : -40000 ≤ t.1 := by omega
        have hrg2 : t.1 < 40000 := by omega
        clear hlo hhi
        obtain ⟨p0, p1, p2, p3, _⟩ := Hb6.out.box3.cells
        go_upto_region 18 with (fail)
        go_cut [10] from 15 (fun p10 wx => (∃ g a b c', p10 = .pointer (some ⟨g, 0, none⟩) ∧ W6.heap.size ≤ g ∧ BoxD wx g a b c' ∧ CopyP false N n e W6.heap.size (.agg #[a, b, c']) wx) ∧ Below W6.heap.size W6 wx)
        case first =>
          refine wp_region_J [90, 91, 92, 93, 94, 95, 96, 10] (fun l vs wx => ∃ l0 l1 l2 l3 l4 l5 l6 l7 l8 v90 v91 v92 v93 v94 v95 v96 v10, l = [l0, l1, l2, l3, l4, l5, l6, l7, l8] ∧ vs = [v90, v91, v92, v93, v94, v95, v96, v10] ∧ Below W6.heap.size W6 wx ∧ (l0 = true → (l3 = false → Row 64 W6.heap.size wx v90 0 0)) ∧ (l1 = true → v91 = Value.pointer (some ⟨w.heap.size, 1, none⟩)) ∧ (l2 = true → v92 = Value.slice A n c) ∧ (l3 = true → Row 64 W6.heap.size wx v93 N n) ∧ (l4 = true → v94 = Value.pointer (some ⟨w.heap.size, 2, none⟩)) ∧ (l5 = true → v95 = Value.int IntKind.i64 e) ∧ SideP (CopyP false N n e W6.heap.size) W6.heap.size l6 l7 l8 v96 v10 wx ∧ (l6 = true → l3 = true)) (by kernel_rfl) ?_ ?_ ?_ ?_ ?_
          · intro vs hvs
            obtain ⟨y0, y1, y2, y3, y4, y5, y6, y7, rfl⟩ : ∃ y0 y1 y2 y3 y4 y5 y6 y7, vs = [y0, y1, y2, y3, y4, y5, y6, y7] := by
              match vs, hvs with
              | [y0, y1, y2, y3, y4, y5, y6, y7], _ => exact ⟨y0, y1, y2, y3, y4, y5, y6, y7, rfl⟩
            exact ⟨false, false, false, false, false, false, false, false, false, y0, y1, y2, y3, y4, y5, y6, y7, rfl, rfl, (Below.refl _ _).drew, nofun, nofun, nofun, nofun, nofun, nofun, SideP.start .., nofun⟩
          · refine ⟨?_, ?_, ?_, ?_, ?_, ?_, ?_, ?_, ?_, trivial⟩
            · rintro _ _ wx ⟨l0, l1, l2, l3, l4, l5, l6, l7, l8, v90, v91, v92, v93, v94, v95, v96, v10, rfl, rfl, hB, h0, h1, h2, h3, h4, h5, hS10, hi6_3⟩ hl hall K' hK
              clear hall hl
              clear p0 p1 p2 p3
              simp only [putL, Act.put, List.setIfInBounds_toArray, List.set_cons_zero, List.set_cons_succ]
              go_simp
              have hh := hK.out [.slice (some ⟨wx.heap.size, 0, none⟩) 0 0, v91, v92, v93, v94, v95, v96, v10] (wx.alloc (Obj.cells #[] 49)) ⟨true, l1, l2, l3, l4, l5, l6, l7, l8, .slice (some ⟨wx.heap.size, 0, none⟩) 0 0, v91, v92, v93, v94, v95, v96, v10, rfl, rfl, below_alloc' hB _, fun _ => fun _ => Row.empty hB.size, h1, h2, fun h => (h3 h).below (below1 _ _), h4, h5, hS10.below (CopyP.kept false N n e W6.heap.size) (below1 _ _), hi6_3⟩
              simp only [putL, Act.put, List.setIfInBounds_toArray, List.set_cons_zero, List.set_cons_succ] at hh
              exact hh
            · rintro _ _ wx ⟨l0, l1, l2, l3, l4, l5, l6, l7, l8, v90, v91, v92, v93, v94, v95, v96, v10, rfl, rfl, hB, h0, h1, h2, h3, h4, h5, hS10, hi6_3⟩ hl hall K' hK
              clear hall hl
              clear p0 p1 p2 p3
              simp only [putL, Act.put, List.setIfInBounds_toArray, List.set_cons_zero, List.set_cons_succ]
              go_simp
              have hh := hK.out [v90, Value.pointer (some ⟨w.heap.size, 1, none⟩), v92, v93, v94, v95, v96, v10] wx ⟨l0, true, l2, l3, l4, l5, l6, l7, l8, v90, Value.pointer (some ⟨w.heap.size, 1, none⟩), v92, v93, v94, v95, v96, v10, rfl, rfl, hB, h0, fun _ => rfl, h2, h3, h4, h5, hS10, hi6_3⟩
              simp only [putL, Act.put, List.setIfInBounds_toArray, List.set_cons_zero, List.set_cons_succ] at hh
              exact hh
            · rintro _ _ wx ⟨l0, l1, l2, l3, l4, l5, l6, l7, l8, v90, v91, v92, v93, v94, v95, v96, v10, rfl, rfl, hB, h0, h1, h2, h3, h4, h5, hS10, hi6_3⟩ hl hall K' hK
              have e1l : l1 = true := hall ⟨1, .data⟩ (by simp) (by rfl)
              clear hall hl
              subst e1l
              have q0 := keep_cell hB p1
              clear p0 p1 p2 p3
              simp only [putL, Act.put, List.setIfInBounds_toArray, List.set_cons_zero, List.set_cons_succ]
              have e1 := h1 rfl
              simp only [e1]
              go_simp
              have hh := hK.out [v90, v91, Value.slice A n c, v93, v94, v95, v96, v10] wx ⟨l0, true, true, l3, l4, l5, l6, l7, l8, v90, v91, Value.slice A n c, v93, v94, v95, v96, v10, rfl, rfl, hB, h0, h1, fun _ => rfl, h3, h4, h5, hS10, hi6_3⟩
              simp only [putL, Act.put, List.setIfInBounds_toArray, List.set_cons_zero, List.set_cons_succ] at hh
              simp only [e1] at hh
              exact hh
            · rintro _ _ wx ⟨l0, l1, l2, l3, l4, l5, l6, l7, l8, v90, v91, v92, v93, v94, v95, v96, v10, rfl, rfl, hB, h0, h1, h2, h3, h4, h5, hS10, hi6_3⟩ hl hall K' hK
              have e0l : l0 = true := hall ⟨0, .data⟩ (by simp) (by rfl)
              have e2l : l2 = true := hall ⟨2, .data⟩ (by simp) (by rfl)
              have e3l : l3 = false := by simpa using hl
              have e6l : l6 = false := by subst e3l; cases l6 with | false => rfl | true => exact absurd (hi6_3 rfl) (by decide)
              clear hall hl
              subst e0l e2l e3l e6l
              clear p0 p1 p2 p3
              simp only [putL, Act.put, List.setIfInBounds_toArray, List.set_cons_zero, List.set_cons_succ]
              have hR0 := h0 rfl rfl
              have e2 := h2 rfl
              simp only [e2]
              refine step_wp rfl ?_
              refine wp_append_words (.tmp 90) (.tmp 92) rfl (k := 64) (B := W6.heap.size) (N := 0) (n := 0) rfl hR0 (A := A) (m := n) (c := c) (M := N) rfl ((H1.out.below (keep_belowB HB6.out hB (Nat.le_refl _)))) HA0.out (by omega) hB.size ?_
              intro v' w' hR' hg'
              have hR2 : Row 64 W6.heap.size w' v' N n := by simpa using hR'
              obtain ⟨A', c', rfl, -⟩ := hR2.form
              have hh := hK.out [v90, v91, v92, .slice A' n c', v94, v95, v96, v10] w' ⟨true, l1, true, true, l4, l5, false, l7, l8, v90, v91, v92, .slice A' n c', v94, v95, v96, v10, rfl, rfl, hR0.grown hg' hB hB.size, (fun _ h => (nomatch h)), h1, h2, fun _ => hR2, h4, h5, hS10.grown hR0 hg', (fun _ => rfl)⟩
              simp only [putL, Act.put, List.setIfInBounds_toArray, List.set_cons_zero, List.set_cons_succ] at hh
              simp only [e2] at hh
              exact hh
            · rintro _ _ wx ⟨l0, l1, l2, l3, l4, l5, l6, l7, l8, v90, v91, v92, v93, v94, v95, v96, v10, rfl, rfl, hB, h0, h1, h2, h3, h4, h5, hS10, hi6_3⟩ hl hall K' hK
              clear hall hl
              clear p0 p1 p2 p3
              simp only [putL, Act.put, List.setIfInBounds_toArray, List.set_cons_zero, List.set_cons_succ]
              go_simp
              have hh := hK.out [v90, v91, v92, v93, Value.pointer (some ⟨w.heap.size, 2, none⟩), v95, v96, v10] wx ⟨l0, l1, l2, l3, true, l5, l6, l7, l8, v90, v91, v92, v93, Value.pointer (some ⟨w.heap.size, 2, none⟩), v95, v96, v10, rfl, rfl, hB, h0, h1, h2, h3, fun _ => rfl, h5, hS10, hi6_3⟩
              simp only [putL, Act.put, List.setIfInBounds_toArray, List.set_cons_zero, List.set_cons_succ] at hh
              exact hh
            · rintro _ _ wx ⟨l0, l1, l2, l3, l4, l5, l6, l7, l8, v90, v91, v92, v93, v94, v95, v96, v10, rfl, rfl, hB, h0, h1, h2, h3, h4, h5, hS10, hi6_3⟩ hl hall K' hK
              have e4l : l4 = true := hall ⟨4, .data⟩ (by simp) (by rfl)
              clear hall hl
              subst e4l
              have q0 := keep_cell hB p2
              clear p0 p1 p2 p3
              simp only [putL, Act.put, List.setIfInBounds_toArray, List.set_cons_zero, List.set_cons_succ]
              have e4 := h4 rfl
              simp only [e4]
              go_simp
              have hh := hK.out [v90, v91, v92, v93, v94, Value.int IntKind.i64 e, v96, v10] wx ⟨l0, l1, l2, l3, true, true, l6, l7, l8, v90, v91, v92, v93, v94, Value.int IntKind.i64 e, v96, v10, rfl, rfl, hB, h0, h1, h2, h3, h4, fun _ => rfl, hS10, hi6_3⟩
              simp only [putL, Act.put, List.setIfInBounds_toArray, List.set_cons_zero, List.set_cons_succ] at hh
              simp only [e4] at hh
              exact hh
            · rintro _ _ wx ⟨l0, l1, l2, l3, l4, l5, l6, l7, l8, v90, v91, v92, v93, v94, v95, v96, v10, rfl, rfl, hB, h0, h1, h2, h3, h4, h5, hS10, hi6_3⟩ hl hall K' hK
              have e3l : l3 = true := hall ⟨3, .data⟩ (by simp) (by rfl)
              have e5l : l5 = true := hall ⟨5, .data⟩ (by simp) (by rfl)
              have e6l : l6 = false := by simpa using hl
              clear hall hl
              subst e3l e5l e6l
              clear p0 p1 p2 p3
              simp only [putL, Act.put, List.setIfInBounds_toArray, List.set_cons_zero, List.set_cons_succ]
              have hR3 := h3 rfl
              obtain ⟨A', c', e3, -⟩ := hR3.form
              rw [e3] at hR3
              have e5 := h5 rfl
              simp only [e3, e5]
              go_simp
              have hh := hK.out [v90, v91, v92, v93, v94, v95, .agg #[.bool false, .slice A' n c', .int .i64 e], v10] wx ⟨l0, l1, l2, true, l4, true, true, l7, l8, v90, v91, v92, v93, v94, v95, .agg #[.bool false, .slice A' n c', .int .i64 e], v10, rfl, rfl, hB, h0, h1, h2, h3, h4, h5, hS10.call (CopyP.kept false N n e W6.heap.size) (Below.refl _ _) ⟨A', c', rfl, hR3⟩, (fun _ => rfl)⟩
              simp only [putL, Act.put, List.setIfInBounds_toArray, List.set_cons_zero, List.set_cons_succ] at hh
              simp only [e3, e5] at hh
              exact hh
            · rintro _ _ wx ⟨l0, l1, l2, l3, l4, l5, l6, l7, l8, v90, v91, v92, v93, v94, v95, v96, v10, rfl, rfl, hB, h0, h1, h2, h3, h4, h5, hS10, hi6_3⟩ hl hall K' hK
              have e7l : l7 = false := by simpa using hl
              clear hall hl
              subst e7l
              clear p0 p1 p2 p3
              simp only [putL, Act.put, List.setIfInBounds_toArray, List.set_cons_zero, List.set_cons_succ]
              go_simp
              have hh := hK.out [v90, v91, v92, v93, v94, v95, v96, .pointer (some ⟨wx.heap.size, 0, none⟩)] (wx.alloc (Obj.cells #[Value.bool false, Value.slice none 0 0, Value.int IntKind.i64 0] 26)) ⟨l0, l1, l2, l3, l4, l5, l6, true, l8, v90, v91, v92, v93, v94, v95, v96, .pointer (some ⟨wx.heap.size, 0, none⟩), rfl, rfl, below_alloc' hB _, fun h h' => (h0 h h').below (below1 _ _), h1, h2, fun h => (h3 h).below (below1 _ _), h4, h5, hS10.make (CopyP.kept false N n e W6.heap.size) hB.size _ _ _, hi6_3⟩
              simp only [putL, Act.put, List.setIfInBounds_toArray, List.set_cons_zero, List.set_cons_succ] at hh
              exact hh
            · rintro _ _ wx ⟨l0, l1, l2, l3, l4, l5, l6, l7, l8, v90, v91, v92, v93, v94, v95, v96, v10, rfl, rfl, hB, h0, h1, h2, h3, h4, h5, hS10, hi6_3⟩ hl hall K' hK
              have e6l : l6 = true := hall ⟨6, .data⟩ (by simp) (by rfl)
              have e7l : l7 = true := hall ⟨7, .data⟩ (by simp) (by rfl)
              clear hall hl
              subst e6l e7l
              clear p0 p1 p2 p3
              simp only [putL, Act.put, List.setIfInBounds_toArray, List.set_cons_zero, List.set_cons_succ]
              obtain ⟨A', c', e6, hR6⟩ := hS10.1 rfl
              obtain ⟨g, a, b, c, eg, hg, hb⟩ := hS10.ptr
              obtain ⟨r0, r1, r2, r3, _⟩ := hb.box3.cells
              simp only [e6, eg]
              go_simp
              have hh := hK.out [v90, v91, v92, v93, v94, v95, v96, v10] (((wx.setCell ⟨g, 0, none⟩ (.bool false)).setCell ⟨g, 1, none⟩ (.slice A' n c')).setCell ⟨g, 2, none⟩ (.int .i64 e)) ⟨l0, l1, l2, l3, l4, l5, true, true, true, v90, v91, v92, v93, v94, v95, v96, v10, rfl, rfl, below_box hB hg _ _ _, fun h h' => (h0 h h').wd hb.wd, h1, h2, fun h => (h3 h).wd hb.wd, h4, h5, (by have h := hS10; rw [eg, e6] at h ⊢; exact h.store (CopyP.kept false N n e W6.heap.size)), hi6_3⟩
              simp only [putL, Act.put, List.setIfInBounds_toArray, List.set_cons_zero, List.set_cons_succ] at hh
              simp only [e6, eg] at hh
              exact hh
          · rintro vs wx ⟨l0, l1, l2, l3, l4, l5, l6, l7, l8, v90, v91, v92, v93, v94, v95, v96, v10, hl, rfl, hB, h0, h1, h2, h3, h4, h5, hS10, hi6_3⟩
            obtain ⟨rfl, rfl, rfl, rfl, rfl, rfl, rfl, rfl, rfl⟩ : true = l0 ∧ true = l1 ∧ true = l2 ∧ true = l3 ∧ true = l4 ∧ true = l5 ∧ true = l6 ∧ true = l7 ∧ true = l8 := by simpa using hl
            simp only [putL, Act.put, List.setIfInBounds_toArray, List.set_cons_zero, List.set_cons_succ]
            go_wp2_with fail
            go_meet
            case rel => exact ⟨hS10.done, hB⟩
          · rintro _ vs wx ⟨l0, l1, l2, l3, l4, l5, l6, l7, l8, v90, v91, v92, v93, v94, v95, v96, v10, rfl, _⟩
            rfl
          · rintro _ vs wx ⟨l0, l1, l2, l3, l4, l5, l6, l7, l8, v90, v91, v92, v93, v94, v95, v96, v10, rfl, -⟩
            revert l0 l1 l2 l3 l4 l5 l6 l7 l8
            decide +kernel
        case rest =>
          obtain ⟨⟨g, a0, a1, a2, rfl, hg, hbx, A', c', hag, hrow⟩, hBc⟩ := hcut
          simp only [Value.agg.injEq, Array.mk.injEq, List.cons.injEq, and_true] at hag
          obtain ⟨rfl, rfl, rfl⟩ := hag
          have hrd := hrow.rd (by omega)
          have HBc := Lib.hid (keep_belowB HB6.out hBc (Nat.le_refl _))
          have Hbx := Lib.hid hbx
          have Hrd := Lib.hid hrd
          have hsc : w.heap.size ≤ wc.heap.size := HBc.out.size
          clear hBc hbx hrow hrd p0 p1 p2 p3 HB6 Hb6
          obtain ⟨⟨o1, ho1, hle1⟩, o2, ho2, hlt2⟩ := bounds_top n ⟨s, N, e⟩ (by rw [← Ht.out]; exact H2.out) (by rw [← Ht.out]; exact ⟨hrg1, hrg2⟩)
          rw [← Ht.out] at ho1 ho2
          have Ho1 := Lib.hid ho1
          have Ho2 := Lib.hid ho2
          clear ho1 ho2 Ht Htv
          obtain ⟨W7, hW7⟩ : ∃ W7, W7 = wc.alloc (.cells #[.int .u64 1] 49) := ⟨_, rfl⟩
          have hb7 : Below wc.heap.size wc W7 := by rw [hW7]; exact below1 ..
          have hr7 : Rd 64 W7 (.slice (some ⟨wc.heap.size, 0, none⟩) 1 1) 1 1 := by rw [hW7]; exact Rd.one' wc 1 1 rfl (by omega)
          have HB7 := Lib.hid (keep_belowB HBc.out hb7 (Nat.le_refl _))
          have Hbx7 := Lib.hid (Hbx.out.below hb7)
          have Hrd7 := Lib.hid (Hrd.out.below hb7)
          have Hr7 := Lib.hid hr7
          have hs7 := hb7.size
          clear hb7 hr7 HBc Hbx Hrd
          obtain ⟨p0, p1, p2, p3, _⟩ := Hbx7.out.box3.cells
          have hwr : IntKind.i64.wrap (t.1 + 1) = t.1 + 1 := by rw [IntKind.wrap_i64]; omega
          rw [hW7] at p0 p1 p2 p3
          go_wp2_with fail
          rw [← hW7]
          refine (DCmp_any false false (some ⟨wc.heap.size, 0, none⟩) A' 1 1 1 N n c' t.1 e W7 Hr7.out Hrd7.out (HG.out.below HB7.out)).mono ?_
          rintro _ w8 ⟨rfl, hb8⟩
          rw [Ho1.out]
          clear hW7 p0 p1 p2 p3
          have HB8 := Lib.hid (keep_belowB HB7.out hb8 (Nat.le_refl _))
          have Hbx8 := Lib.hid (Hbx7.out.below hb8)
          have Hrd8 := Lib.hid (Hrd7.out.below hb8)
          have hs8 := hb8.size
          clear hb8 HB7 Hbx7 Hrd7 Hr7
          obtain ⟨W9, hW9⟩ : ∃ W9, W9 = w8.alloc (.cells #[.int .u64 1] 49) := ⟨_, rfl⟩
          have hb9 : Below w8.heap.size w8 W9 := by rw [hW9]; exact below1 ..
          have hr9 : Rd 64 W9 (.slice (some ⟨w8.heap.size, 0, none⟩) 1 1) 1 1 := by rw [hW9]; exact Rd.one' w8 1 1 rfl (by omega)
          have HB9 := Lib.hid (keep_belowB HB8.out hb9 (Nat.le_refl _))
          have Hbx9 := Lib.hid (Hbx8.out.below hb9)
          have Hrd9 := Lib.hid (Hrd8.out.below hb9)
          have Hr9 := Lib.hid hr9
          clear hb9 hr9 HB8 Hbx8 Hrd8
          obtain ⟨p0, p1, p2, p3, _⟩ := Hbx9.out.box3.cells
          rw [hW9] at p0 p1 p2 p3
          go_wp2_with fail
          rw [← hW9]
          refine (DCmp_any false false (some ⟨w8.heap.size, 0, none⟩) A' 1 1 1 N n c' (t.1 + 1) e W9 Hr9.out Hrd9.out (HG.out.below HB9.out)).mono ?_
          rintro _ wA ⟨rfl, hbA⟩
          rw [Ho2.out]
          clear hW9 p0 p1 p2 p3
          have HBA := Lib.hid (keep_belowB HB9.out hbA (Nat.le_refl _))
          clear hbA HB9 Hbx9 Hrd9 Hr9
          go_wp2_with fail
          go_ret
          exact ⟨rfl, HBA.out⟩
    · have t1 : (t.2 != 0) = true := by simpa using h2
      rw [t1]
      clear t1
      obtain ⟨hte, hts⟩ := topD_err n ⟨s, N, e⟩ (by rw [← Ht.out]; exact h2)
      rw [← Ht.out] at hte hts
      rw [hte]
      clear h2 hte
      by_cases h31 : t.2 = 31
      · have hN0 : N = 0 := hts h31
        have hsg : sgD s N = 0 := by rw [hN0]; rfl
        have Hsg := Lib.hid hsg
        rw [h31]
        clear h31 hN0 hsg hts Ht
        obtain ⟨k0, k1, k2, k3, _⟩ := Hb6.out.box3.cells
        go_wp2_with fail
        refine (Sign_any s A N n c e W6 (H1.out.below HB6.out)).mono ?_
        rintro _ w7 ⟨rfl, hb7⟩
        rw [Hsg.out]
        have HB7 := Lib.hid (keep_belowB HB6.out hb7 (Nat.le_refl _))
        clear hb7 k0 k1 k2 k3 HB6 Hb6 Hsg
        go_wp2_with fail
        go_ret
        exact ⟨rfl, HB7.out⟩
      · have t1 : (t.2 != 31) = true := by simpa using h31
        clear h31 hts
        go_wp2_with fail
        go_ret
        exact ⟨rfl, HB6.out⟩

end Go.Proofs.YtomhmbnpkphcmaaDoor
