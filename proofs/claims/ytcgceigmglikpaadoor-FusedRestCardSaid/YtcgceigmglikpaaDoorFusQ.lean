/- The walk of FusedRest. Printed by gen/fusr.py. -/
import Derived.Deep.CutBlock
import Derived.Test.YtcgceigmglikpaaDoorFusN
import Derived.Test.YtcgceigmglikpaaDoorFusR
namespace Go.Proofs.YtcgceigmglikpaaDoor
set_option linter.unusedVariables false
set_option linter.unusedSimpArgs false
open Go.RowKit

section
variable {F : Fm}
theorem mulS_facts (ok : F.Ok) (m : Nat) {a b : Nat} (ha : a < 2 ^ F.w) (hb : b < 2 ^ F.w) : (mulS F m a b).1 < 2 ^ F.w ∧ ((mulS F m a b).2 = 0 ∨ (mulS F m a b).2 = 1 ∨ (mulS F m a b).2 = 16 ∨ (mulS F m a b).2 = 20 ∨ (mulS F m a b).2 = 24) := by
  rw [← product_z ok m ha hb]
  exact fuseZ_lt ok m _ _

/-- the exact product is the sum of the rounded one and of the rest -/
theorem rest_cmp (ok : F.Ok) {a b p r : Nat} (fa : F.abs a < F.inf) (fb : F.abs b < F.inf) (fp : F.abs p < F.inf) (fr : F.abs r < F.inf) (h : F.val (-2500) a * F.val (-2500) b = F.val (-5000) p + F.val (-5000) r) :
    ∃ x s, mulD (nd 64 (valD F a).n) (valD F a) (nd 64 (valD F b).n) (valD F b) = (x, 0) ∧ addD (nd 64 (valD F p).n) (valD F p) (nd 64 (valD F r).n) (valD F r) = (s, 0) ∧ cmpD (nd 64 x.n) x (nd 64 s.n) s = (0, 0) := by
  have hm := prod_eq ok fa fb
  have hi := prod_i ok fa fb
  have hs := prod_sm ok fa fb
  obtain ⟨s, h1, h2, h3, h4⟩ := addD_sm (valD_sm ok fp) (valD_sm ok fr)
  rw [i_of_val ok fp _ (by decide), i_of_val ok fr _ (by decide), ← h, ← hi] at h4
  have he := can_inj (L := -5000) hs.can h2.can hs.lo h3 h4.symm
  refine ⟨_, s, hm, h1, ?_⟩
  rw [he, cmpD_val _ _ _ _ (-40000) (by decide) h2.ref h2.ref, Int.sub_self]
  rfl
end

theorem andnot16 {g : Nat} (h : g = 0 ∨ g = 1 ∨ g = 16 ∨ g = 20 ∨ g = 24) : (bits .andNot .i64 (g : Int) 16 != 0) = !decide (g = 0 ∨ g = 16) := by
  rcases h with rfl | rfl | rfl | rfl | rfl <;> decide +kernel
theorem and8 {g : Nat} (h : g = 0 ∨ g = 1 ∨ g = 16 ∨ g = 20 ∨ g = 24) : (bits .and .i64 (g : Int) 8 != 0) = decide (g = 24) := by
  rcases h with rfl | rfl | rfl | rfl | rfl <;> decide +kernel

set_option maxRecDepth 100000 in
set_option maxHeartbeats 32000000 in
theorem rest_any (f m : Int) (a b c d : Nat) (w : World) (hf : -9223372036854775808 ≤ f ∧ f ≤ 9223372036854775807) (hm : -9223372036854775808 ≤ m ∧ m ≤ 9223372036854775807) (ha : a < 18446744073709551616) (hb : b < 18446744073709551616) (hc : c < 18446744073709551616) (hd : d < 18446744073709551616) (hG : Gl w) (hR : GlR w) :
    Calls Tryd.prog 13 #[.agg (fourA f m a b c d)] w fun e w' => e = .returned (.bool true) ∧ Below w.heap.size w w' := by
  have hst := fun wx => four_start f m a b c d wx hf hm ha hb hc hd
  have hb0 := below1 w (.cells (fourA f m a b c d) 68)
  have hx := Bx.new w (fourA f m a b c d) 68
  obtain ⟨W, hW⟩ : ∃ W, W = w.alloc (.cells (fourA f m a b c d) 68) := ⟨_, rfl⟩
  rw [← hW] at hb0 hx
  have HS := Lib.hid (show St w.heap.size w w.heap.size (fourA f m a b c d) W from ⟨hb0, hG.below hb0, hR.below hb0, hx⟩)
  have HGB := Lib.hid (fun (u : World) (h : Below w.heap.size w u) => hG.below h)
  have HRB := Lib.hid (fun (u : World) (h : Below w.heap.size w u) => hR.below h)
  have Hst := Lib.hid hst
  clear hst hb0 hx hG hR hf hm ha hb hc hd
  unfold fourA at hW HS Hst
  unfold fourA
  go_enter Tryd.func13, Tryd.ntmps13
  go_upto_region 1 with (fail)
  rw [← hW]
  clear hW
  go_wp2_with fail
  refine (fawake_any W HS.out.gl HS.out.glr).mono ?_
  rintro _ w1 ⟨rfl, hb1⟩
  replace HS := Lib.hid (HS.out.below hb1 (Nat.le_refl _))
  clear hb1
  obtain ⟨k0, k1, k2, k3, k4, k5⟩ := HS.out.bx.six
  have xf : ∀ j, w1.frozen? ⟨w.heap.size, j, none⟩ = false := fun j => HS.out.bx.free j
  go_wp2_with fail
  refine (Hst.out w1).mono ?_
  rintro _ w2 ⟨n, k, a, b, c, d, hin, rfl, hb2⟩
  replace HS := Lib.hid (HS.out.below hb2 (Nat.le_refl _))
  clear hb2 k0 k1 k2 k3 k4 k5 xf Hst
  have HI := Lib.hid hin
  clear hin
  obtain ⟨k0, k1, k2, k3, k4, k5⟩ := HS.out.bx.six
  have xf : ∀ j, w2.frozen? ⟨w.heap.size, j, none⟩ = false := fun j => HS.out.bx.free j
  go_upto_region 4 with (fail)
  replace HS := Lib.hid (HS.out.set6 HGB.out HRB.out (.int .i64 n) (.int .i64 k) (.int .u64 a) (.int .u64 b) (.int .u64 c) (.int .u64 d))
  clear k0 k1 k2 k3 k4 k5 xf
  generalize (((((w2.setCell ⟨w.heap.size, 0, none⟩ (.int .i64 n)).setCell ⟨w.heap.size, 1, none⟩ (.int .i64 k)).setCell ⟨w.heap.size, 2, none⟩ (.int .u64 a)).setCell ⟨w.heap.size, 3, none⟩ (.int .u64 b)).setCell ⟨w.heap.size, 4, none⟩ (.int .u64 c)).setCell ⟨w.heap.size, 5, none⟩ (.int .u64 d) = W3 at *
  obtain ⟨k0, k1, k2, k3, k4, k5⟩ := HS.out.bx.six
  obtain ⟨hn, hk, hal, hbl, hcl, hdl⟩ := HI.out
  have ok := fm_ok n
  have qa := fun wx => lfinite_ok n a wx hn hal
  have Qa := Lib.hid qa
  have qb := fun wx => lfinite_ok n b wx hn hbl
  have Qb := Lib.hid qb
  clear qa qb
  have HN := Lib.hid (And.intro hn (And.intro hk (And.intro hal (And.intro hbl (And.intro hcl hdl)))))
  clear hn hk hal hbl hcl hdl ok HI
  by_cases fa : (fm n).abs a < (fm n).inf
  rotate_left
  · have q := Qa.out
    rw [decide_eq_false fa] at q
    have Q := Lib.hid q
    clear q fa
    go_wp2_with fail
    refine (Q.out _).mono ?_
    rintro _ wq ⟨rfl, hb⟩
    replace HS := Lib.hid (HS.out.below hb (Nat.le_refl _))
    clear hb k0 k1 k2 k3 k4 k5 Q
    go_wp2_with fail
    go_ret
    exact ⟨rfl, HS.out.bl⟩
  have q := Qa.out
  rw [decide_eq_true fa] at q
  have Q := Lib.hid q
  have Fa := Lib.hid fa
  clear q fa Qa
  go_wp2_with fail
  refine (Q.out _).mono ?_
  rintro _ W4 ⟨rfl, hb⟩
  replace HS := Lib.hid (HS.out.below hb (Nat.le_refl _))
  clear hb k0 k1 k2 k3 k4 k5 Q
  obtain ⟨k0, k1, k2, k3, k4, k5⟩ := HS.out.bx.six
  by_cases fb : (fm n).abs b < (fm n).inf
  rotate_left
  · have q := Qb.out
    rw [decide_eq_false fb] at q
    have Q := Lib.hid q
    clear q fb Fa
    go_wp2_with fail
    refine (Q.out _).mono ?_
    rintro _ wq ⟨rfl, hb⟩
    replace HS := Lib.hid (HS.out.below hb (Nat.le_refl _))
    clear hb k0 k1 k2 k3 k4 k5 Q
    go_wp2_with fail
    go_ret
    exact ⟨rfl, HS.out.bl⟩
  have q := Qb.out
  rw [decide_eq_true fb] at q
  have Q := Lib.hid q
  have Fb := Lib.hid fb
  clear q fb Qb
  go_wp2_with fail
  refine (Q.out _).mono ?_
  rintro _ W4 ⟨rfl, hb⟩
  replace HS := Lib.hid (HS.out.below hb (Nat.le_refl _))
  clear hb k0 k1 k2 k3 k4 k5 Q
  obtain ⟨k0, k1, k2, k3, k4, k5⟩ := HS.out.bx.six
  obtain ⟨hn, hk, hal, hbl, hcl, hdl⟩ := HN.out
  have ok := fm_ok n
  have fa := Fa.out
  have fb := Fb.out
  clear HN Fa Fb
  obtain ⟨mp, mg⟩ := mulS_facts ok 0 hal hbl
  have cm := fun wx h1 h2 => Mul_ok n 0 a b wx hn (by decide) hal hbl h1 h2
  obtain ⟨p, hp⟩ : ∃ z, z = (mulS (fm n) 0 a b).1 := ⟨_, rfl⟩
  obtain ⟨g, hg⟩ : ∃ z, z = (mulS (fm n) 0 a b).2 := ⟨_, rfl⟩
  rw [← hp, ← hg] at cm
  rw [← hp] at mp
  rw [← hg] at mg
  have cs := fun wx h1 h2 => Fms_ok n k a b p wx hn hk hal hbl mp h1 h2
  obtain ⟨mr, mh⟩ := fuseZ_lt ok k (prodZ (fm n) a b) (oneZ (fm n) ((fm n).flip p))
  have hl := fun (h1 : (mulS (fm n) 0 a b).2 = 0 ∨ (mulS (fm n) 0 a b).2 = 16) h2 h3 => rest_law ok k fa fb h1 h2 h3
  rw [← hp, ← hg] at hl
  rw [← fmaZ ok] at mr mh hl
  obtain ⟨r, hr⟩ : ∃ z, z = (fmaS (fm n) k a b ((fm n).flip p)).1 := ⟨_, rfl⟩
  obtain ⟨h, hh⟩ : ∃ z, z = (fmaS (fm n) k a b ((fm n).flip p)).2 := ⟨_, rfl⟩
  rw [← hr, ← hh] at cs hl
  rw [← hr] at mr
  rw [← hh] at mh
  have qp := fun wx => lfinite_ok n p wx hn mp
  have qr := fun wx => lfinite_ok n r wx hn mr
  have va := fun wx h1 h2 => lvalue_dv n a wx hn hal fa h1 h2
  have vb := fun wx h1 h2 => lvalue_dv n b wx hn hbl fb h1 h2
  have vp := fun hfp wx h1 h2 => lvalue_dv n p wx hn mp hfp h1 h2
  have vr := fun hfr wx h1 h2 => lvalue_dv n r wx hn mr hfr h1 h2
  have rc := fun hfp hfr e => rest_cmp ok fa fb (p := p) (r := r) hfp hfr e
  have CM := Lib.hid cm
  have CS := Lib.hid cs
  have QP := Lib.hid qp
  have QR := Lib.hid qr
  have VA := Lib.hid va
  have VB := Lib.hid vb
  have VP := Lib.hid vp
  have VR := Lib.hid vr
  have RC := Lib.hid rc
  have HL := Lib.hid hl
  have MG := Lib.hid mg
  have MH := Lib.hid mh
  have t16 := andnot16 mg
  have t8 := and8 mh
  clear cm cs qp qr va vb vp vr rc hl mp mg mr mh hp hg hr hh hn hk hal hbl hcl hdl ok fa fb HGB HRB
  go_wp2_with fail
  refine (CM.out _ HS.out.gl HS.out.glr).mono ?_
  rintro _ W5 ⟨rfl, hb⟩
  replace HS := Lib.hid (HS.out.below hb (Nat.le_refl _))
  clear hb k0 k1 k2 k3 k4 k5 CM
  obtain ⟨k0, k1, k2, k3, k4, k5⟩ := HS.out.bx.six
  go_upto_region 10 with (fail)
  by_cases hg : g = 0 ∨ g = 16
  rotate_left
  · rw [decide_eq_false hg] at t16
    have t16' : (bits .andNot .i64 (g : Int) 16 != 0) = true := t16
    clear t16 hg MG
    go_wp2_with fail
    go_ret
    exact ⟨rfl, HS.out.bl⟩
  rw [decide_eq_true hg] at t16
  have t16' : (bits .andNot .i64 (g : Int) 16 != 0) = false := t16
  have HG := Lib.hid hg
  clear t16 hg
  have q := QP.out
  by_cases fp : (fm n).abs p < (fm n).inf
  rotate_left
  · rw [decide_eq_false fp] at q
    have Q := Lib.hid q
    clear q fp
    go_wp2_with fail
    refine (Q.out _).mono ?_
    rintro _ wq ⟨rfl, hb⟩
    replace HS := Lib.hid (HS.out.below hb (Nat.le_refl _))
    clear hb k0 k1 k2 k3 k4 k5 Q
    go_wp2_with fail
    go_ret
    exact ⟨rfl, HS.out.bl⟩
  rw [decide_eq_true fp] at q
  have Q := Lib.hid q
  have FP := Lib.hid fp
  clear q fp QP
  go_wp2_with fail
  refine (Q.out _).mono ?_
  rintro _ W6 ⟨rfl, hb⟩
  replace HS := Lib.hid (HS.out.below hb (Nat.le_refl _))
  clear hb k0 k1 k2 k3 k4 k5 Q
  obtain ⟨k0, k1, k2, k3, k4, k5⟩ := HS.out.bx.six
  go_wp2_with fail
  refine (CS.out _ HS.out.gl HS.out.glr).mono ?_
  rintro _ W7 ⟨rfl, hb⟩
  replace HS := Lib.hid (HS.out.below hb (Nat.le_refl _))
  clear hb k0 k1 k2 k3 k4 k5 CS
  obtain ⟨k0, k1, k2, k3, k4, k5⟩ := HS.out.bx.six
  go_upto_region 15 with (fail)
  clear t16'
  by_cases hh : h = 24
  · rw [decide_eq_true hh] at t8
    clear hh
    go_wp2_with fail
    go_ret
    exact ⟨rfl, HS.out.bl⟩
  rw [decide_eq_false hh] at t8
  obtain ⟨h0, fr, hsum⟩ := HL.out HG.out FP.out hh
  obtain ⟨x, s, hx, hs, hcmp⟩ := RC.out FP.out fr hsum
  have q := QR.out
  rw [decide_eq_true fr] at q
  have Q := Lib.hid q
  have vp := VP.out FP.out
  have vr := VR.out fr
  have VP' := Lib.hid vp
  have VR' := Lib.hid vr
  have HX := Lib.hid hx
  have HSD := Lib.hid hs
  have HC := Lib.hid hcmp
  subst h0
  clear hh fr hsum q vp vr hx hs hcmp HL HG FP RC QR VP VR MG MH
  go_wp2_with fail
  refine (Q.out _).mono ?_
  rintro _ W8 ⟨rfl, hb⟩
  replace HS := Lib.hid (HS.out.below hb (Nat.le_refl _))
  clear hb k0 k1 k2 k3 k4 k5 Q t8
  generalize hu : valD (fm n) a = u at *
  generalize hv : valD (fm n) b = v at *
  generalize hup : valD (fm n) p = up at *
  generalize hvr : valD (fm n) r = vr at *
  clear hu hv hup hvr
  obtain ⟨k0, k1, k2, k3, k4, k5⟩ := HS.out.bx.six
  go_upto_region 19 with (fail)
  have hGX := HS.out.gl
  have hRX := HS.out.glr
  go_cut [6, 9] from 84 (fun p6 p9 wx => p6 = .int .i64 0 ∧ (∃ g, p9 = .pointer (some ⟨g, 0, none⟩) ∧ W8.heap.size ≤ g ∧ DVB W8.heap.size g x wx) ∧ Below W8.heap.size W8 wx)
  case first =>
    refine wp_region_JR [84, 85, 86, 87, 88, 89, 90, 91, 92, 93, 94, 83, 95, 96, 9, 6] (fun l vs wx => ∃ l0 l1 l2 l3 l4 l5 l6 l7 l8 l9 l10 l11 l12 l13 l14 l15 l16 v84 v85 v86 v87 v88 v89 v90 v91 v92 v93 v94 v83 v95 v96 v9 v6, l = [l0, l1, l2, l3, l4, l5, l6, l7, l8, l9, l10, l11, l12, l13, l14, l15, l16] ∧ vs = [v84, v85, v86, v87, v88, v89, v90, v91, v92, v93, v94, v83, v95, v96, v9, v6] ∧ Below W8.heap.size W8 wx ∧ (l0 = true → v84 = Value.pointer (some ⟨w.heap.size, 0, none⟩)) ∧ (l1 = true → v85 = Value.int IntKind.i64 n) ∧ (l2 = true → v86 = Value.pointer (some ⟨w.heap.size, 2, none⟩)) ∧ (l3 = true → v87 = Value.int IntKind.u64 a) ∧ (l4 = true → DV W8.heap.size wx v88 u) ∧ (l5 = true → v89 = Value.pointer (some ⟨w.heap.size, 0, none⟩)) ∧ (l6 = true → v90 = Value.int IntKind.i64 n) ∧ (l7 = true → v91 = Value.pointer (some ⟨w.heap.size, 3, none⟩)) ∧ (l8 = true → v92 = Value.int IntKind.u64 b) ∧ (l9 = true → DV W8.heap.size wx v93 v) ∧ (l10 = true → TupD W8.heap.size (x, (0 : Int)) v94 wx) ∧ (l11 = true → TupD W8.heap.size (x, (0 : Int)) v83 wx) ∧ (l13 = true → v96 = Value.int IntKind.i64 (x, (0 : Int)).2) ∧ (l16 = true → v6 = Value.int IntKind.i64 (x, (0 : Int)).2) ∧ SideD W8.heap.size (x, (0 : Int)).1 l12 l14 l15 v95 v9 wx) (by kernel_rfl) (by kernel_rfl) ?_ ?_ ?_ ?_
    · intro vs hvs
      obtain ⟨y0, y1, y2, y3, y4, y5, y6, y7, y8, y9, y10, y11, y12, y13, y14, y15, rfl⟩ : ∃ y0 y1 y2 y3 y4 y5 y6 y7 y8 y9 y10 y11 y12 y13 y14 y15, vs = [y0, y1, y2, y3, y4, y5, y6, y7, y8, y9, y10, y11, y12, y13, y14, y15] := by
        match vs, hvs with
        | [y0, y1, y2, y3, y4, y5, y6, y7, y8, y9, y10, y11, y12, y13, y14, y15], _ => exact ⟨y0, y1, y2, y3, y4, y5, y6, y7, y8, y9, y10, y11, y12, y13, y14, y15, rfl⟩
      exact ⟨false, false, false, false, false, false, false, false, false, false, false, false, false, false, false, false, false, y0, y1, y2, y3, y4, y5, y6, y7, y8, y9, y10, y11, y12, y13, y14, y15, rfl, rfl, (Below.refl _ _).drew, nofun, nofun, nofun, nofun, nofun, nofun, nofun, nofun, nofun, nofun, nofun, nofun, nofun, nofun, SideD.start ..⟩
    · refine ⟨?_, ?_, ?_, ?_, ?_, ?_, ?_, ?_, ?_, ?_, ?_, ?_, ?_, ?_, ?_, ?_, ?_, trivial⟩
      · rintro _ _ wx ⟨l0, l1, l2, l3, l4, l5, l6, l7, l8, l9, l10, l11, l12, l13, l14, l15, l16, v84, v85, v86, v87, v88, v89, v90, v91, v92, v93, v94, v83, v95, v96, v9, v6, rfl, rfl, hB, h0, h1, h2, h3, h4, h5, h6, h7, h8, h9, h10, h11, h13, h16, hS9⟩ hl hall K' hK
        clear hall hl
        clear k0 k1 k2 k3 k4 k5
        simp only [putL, Act.put, List.setIfInBounds_toArray, List.set_cons_zero, List.set_cons_succ]
        go_simp
        have hh := hK.out [Value.pointer (some ⟨w.heap.size, 0, none⟩), v85, v86, v87, v88, v89, v90, v91, v92, v93, v94, v83, v95, v96, v9, v6] wx ⟨true, l1, l2, l3, l4, l5, l6, l7, l8, l9, l10, l11, l12, l13, l14, l15, l16, Value.pointer (some ⟨w.heap.size, 0, none⟩), v85, v86, v87, v88, v89, v90, v91, v92, v93, v94, v83, v95, v96, v9, v6, rfl, rfl, hB, fun _ => rfl, h1, h2, h3, h4, h5, h6, h7, h8, h9, h10, h11, h13, h16, hS9⟩
        simp only [putL, Act.put, List.setIfInBounds_toArray, List.set_cons_zero, List.set_cons_succ] at hh
        exact hh
      · rintro _ _ wx ⟨l0, l1, l2, l3, l4, l5, l6, l7, l8, l9, l10, l11, l12, l13, l14, l15, l16, v84, v85, v86, v87, v88, v89, v90, v91, v92, v93, v94, v83, v95, v96, v9, v6, rfl, rfl, hB, h0, h1, h2, h3, h4, h5, h6, h7, h8, h9, h10, h11, h13, h16, hS9⟩ hl hall K' hK
        have e0l : l0 = true := hall ⟨0, .data⟩ (by simp) (by rfl)
        clear hall hl
        subst e0l
        have q0 := keep_cell hB k0
        clear k0 k1 k2 k3 k4 k5
        simp only [putL, Act.put, List.setIfInBounds_toArray, List.set_cons_zero, List.set_cons_succ]
        have e0 := h0 rfl
        simp only [e0]
        go_simp
        have hh := hK.out [v84, Value.int IntKind.i64 n, v86, v87, v88, v89, v90, v91, v92, v93, v94, v83, v95, v96, v9, v6] wx ⟨true, true, l2, l3, l4, l5, l6, l7, l8, l9, l10, l11, l12, l13, l14, l15, l16, v84, Value.int IntKind.i64 n, v86, v87, v88, v89, v90, v91, v92, v93, v94, v83, v95, v96, v9, v6, rfl, rfl, hB, h0, fun _ => rfl, h2, h3, h4, h5, h6, h7, h8, h9, h10, h11, h13, h16, hS9⟩
        simp only [putL, Act.put, List.setIfInBounds_toArray, List.set_cons_zero, List.set_cons_succ] at hh
        simp only [e0] at hh
        exact hh
      · rintro _ _ wx ⟨l0, l1, l2, l3, l4, l5, l6, l7, l8, l9, l10, l11, l12, l13, l14, l15, l16, v84, v85, v86, v87, v88, v89, v90, v91, v92, v93, v94, v83, v95, v96, v9, v6, rfl, rfl, hB, h0, h1, h2, h3, h4, h5, h6, h7, h8, h9, h10, h11, h13, h16, hS9⟩ hl hall K' hK
        clear hall hl
        clear k0 k1 k2 k3 k4 k5
        simp only [putL, Act.put, List.setIfInBounds_toArray, List.set_cons_zero, List.set_cons_succ]
        go_simp
        have hh := hK.out [v84, v85, Value.pointer (some ⟨w.heap.size, 2, none⟩), v87, v88, v89, v90, v91, v92, v93, v94, v83, v95, v96, v9, v6] wx ⟨l0, l1, true, l3, l4, l5, l6, l7, l8, l9, l10, l11, l12, l13, l14, l15, l16, v84, v85, Value.pointer (some ⟨w.heap.size, 2, none⟩), v87, v88, v89, v90, v91, v92, v93, v94, v83, v95, v96, v9, v6, rfl, rfl, hB, h0, h1, fun _ => rfl, h3, h4, h5, h6, h7, h8, h9, h10, h11, h13, h16, hS9⟩
        simp only [putL, Act.put, List.setIfInBounds_toArray, List.set_cons_zero, List.set_cons_succ] at hh
        exact hh
      · rintro _ _ wx ⟨l0, l1, l2, l3, l4, l5, l6, l7, l8, l9, l10, l11, l12, l13, l14, l15, l16, v84, v85, v86, v87, v88, v89, v90, v91, v92, v93, v94, v83, v95, v96, v9, v6, rfl, rfl, hB, h0, h1, h2, h3, h4, h5, h6, h7, h8, h9, h10, h11, h13, h16, hS9⟩ hl hall K' hK
        have e2l : l2 = true := hall ⟨2, .data⟩ (by simp) (by rfl)
        clear hall hl
        subst e2l
        have q0 := keep_cell hB k2
        clear k0 k1 k2 k3 k4 k5
        simp only [putL, Act.put, List.setIfInBounds_toArray, List.set_cons_zero, List.set_cons_succ]
        have e2 := h2 rfl
        simp only [e2]
        go_simp
        have hh := hK.out [v84, v85, v86, Value.int IntKind.u64 a, v88, v89, v90, v91, v92, v93, v94, v83, v95, v96, v9, v6] wx ⟨l0, l1, true, true, l4, l5, l6, l7, l8, l9, l10, l11, l12, l13, l14, l15, l16, v84, v85, v86, Value.int IntKind.u64 a, v88, v89, v90, v91, v92, v93, v94, v83, v95, v96, v9, v6, rfl, rfl, hB, h0, h1, h2, fun _ => rfl, h4, h5, h6, h7, h8, h9, h10, h11, h13, h16, hS9⟩
        simp only [putL, Act.put, List.setIfInBounds_toArray, List.set_cons_zero, List.set_cons_succ] at hh
        simp only [e2] at hh
        exact hh
      · rintro _ _ wx ⟨l0, l1, l2, l3, l4, l5, l6, l7, l8, l9, l10, l11, l12, l13, l14, l15, l16, v84, v85, v86, v87, v88, v89, v90, v91, v92, v93, v94, v83, v95, v96, v9, v6, rfl, rfl, hB, h0, h1, h2, h3, h4, h5, h6, h7, h8, h9, h10, h11, h13, h16, hS9⟩ hl hall K' hK
        have e1l : l1 = true := hall ⟨1, .data⟩ (by simp) (by rfl)
        have e3l : l3 = true := hall ⟨3, .data⟩ (by simp) (by rfl)
        clear hall hl
        subst e1l e3l
        clear k0 k1 k2 k3 k4 k5
        simp only [putL, Act.put, List.setIfInBounds_toArray, List.set_cons_zero, List.set_cons_succ]
        have e1 := h1 rfl
        have e3 := h3 rfl
        simp only [e1, e3]
        go_simp
        refine (VA.out wx (hGX.below hB) (hRX.below hB)).mono ?_
        rintro e w2 ⟨x2, rfl, hV2, hx1⟩
        go_simp
        have hh := hK.out [v84, v85, v86, v87, x2, v89, v90, v91, v92, v93, v94, v83, v95, v96, v9, v6] w2 ⟨l0, true, l2, true, true, l5, l6, l7, l8, l9, l10, l11, l12, l13, l14, l15, l16, v84, v85, v86, v87, x2, v89, v90, v91, v92, v93, v94, v83, v95, v96, v9, v6, rfl, rfl, keep_below hB hx1, h0, h1, h2, h3, fun _ => hV2.mono hB.size, h5, h6, h7, h8, fun h => (h9 h).below hx1, fun h => (h10 h).below hx1, fun h => (h11 h).below hx1, h13, h16, hS9.below hx1⟩
        simp only [putL, Act.put, List.setIfInBounds_toArray, List.set_cons_zero, List.set_cons_succ] at hh
        simp only [e1, e3] at hh
        exact hh
      · rintro _ _ wx ⟨l0, l1, l2, l3, l4, l5, l6, l7, l8, l9, l10, l11, l12, l13, l14, l15, l16, v84, v85, v86, v87, v88, v89, v90, v91, v92, v93, v94, v83, v95, v96, v9, v6, rfl, rfl, hB, h0, h1, h2, h3, h4, h5, h6, h7, h8, h9, h10, h11, h13, h16, hS9⟩ hl hall K' hK
        clear hall hl
        clear k0 k1 k2 k3 k4 k5
        simp only [putL, Act.put, List.setIfInBounds_toArray, List.set_cons_zero, List.set_cons_succ]
        go_simp
        have hh := hK.out [v84, v85, v86, v87, v88, Value.pointer (some ⟨w.heap.size, 0, none⟩), v90, v91, v92, v93, v94, v83, v95, v96, v9, v6] wx ⟨l0, l1, l2, l3, l4, true, l6, l7, l8, l9, l10, l11, l12, l13, l14, l15, l16, v84, v85, v86, v87, v88, Value.pointer (some ⟨w.heap.size, 0, none⟩), v90, v91, v92, v93, v94, v83, v95, v96, v9, v6, rfl, rfl, hB, h0, h1, h2, h3, h4, fun _ => rfl, h6, h7, h8, h9, h10, h11, h13, h16, hS9⟩
        simp only [putL, Act.put, List.setIfInBounds_toArray, List.set_cons_zero, List.set_cons_succ] at hh
        exact hh
      · rintro _ _ wx ⟨l0, l1, l2, l3, l4, l5, l6, l7, l8, l9, l10, l11, l12, l13, l14, l15, l16, v84, v85, v86, v87, v88, v89, v90, v91, v92, v93, v94, v83, v95, v96, v9, v6, rfl, rfl, hB, h0, h1, h2, h3, h4, h5, h6, h7, h8, h9, h10, h11, h13, h16, hS9⟩ hl hall K' hK
        have e5l : l5 = true := hall ⟨5, .data⟩ (by simp) (by rfl)
        clear hall hl
        subst e5l
        have q0 := keep_cell hB k0
        clear k0 k1 k2 k3 k4 k5
        simp only [putL, Act.put, List.setIfInBounds_toArray, List.set_cons_zero, List.set_cons_succ]
        have e5 := h5 rfl
        simp only [e5]
        go_simp
        have hh := hK.out [v84, v85, v86, v87, v88, v89, Value.int IntKind.i64 n, v91, v92, v93, v94, v83, v95, v96, v9, v6] wx ⟨l0, l1, l2, l3, l4, true, true, l7, l8, l9, l10, l11, l12, l13, l14, l15, l16, v84, v85, v86, v87, v88, v89, Value.int IntKind.i64 n, v91, v92, v93, v94, v83, v95, v96, v9, v6, rfl, rfl, hB, h0, h1, h2, h3, h4, h5, fun _ => rfl, h7, h8, h9, h10, h11, h13, h16, hS9⟩
        simp only [putL, Act.put, List.setIfInBounds_toArray, List.set_cons_zero, List.set_cons_succ] at hh
        simp only [e5] at hh
        exact hh
      · rintro _ _ wx ⟨l0, l1, l2, l3, l4, l5, l6, l7, l8, l9, l10, l11, l12, l13, l14, l15, l16, v84, v85, v86, v87, v88, v89, v90, v91, v92, v93, v94, v83, v95, v96, v9, v6, rfl, rfl, hB, h0, h1, h2, h3, h4, h5, h6, h7, h8, h9, h10, h11, h13, h16, hS9⟩ hl hall K' hK
        clear hall hl
        clear k0 k1 k2 k3 k4 k5
        simp only [putL, Act.put, List.setIfInBounds_toArray, List.set_cons_zero, List.set_cons_succ]
        go_simp
        have hh := hK.out [v84, v85, v86, v87, v88, v89, v90, Value.pointer (some ⟨w.heap.size, 3, none⟩), v92, v93, v94, v83, v95, v96, v9, v6] wx ⟨l0, l1, l2, l3, l4, l5, l6, true, l8, l9, l10, l11, l12, l13, l14, l15, l16, v84, v85, v86, v87, v88, v89, v90, Value.pointer (some ⟨w.heap.size, 3, none⟩), v92, v93, v94, v83, v95, v96, v9, v6, rfl, rfl, hB, h0, h1, h2, h3, h4, h5, h6, fun _ => rfl, h8, h9, h10, h11, h13, h16, hS9⟩
        simp only [putL, Act.put, List.setIfInBounds_toArray, List.set_cons_zero, List.set_cons_succ] at hh
        exact hh
      · rintro _ _ wx ⟨l0, l1, l2, l3, l4, l5, l6, l7, l8, l9, l10, l11, l12, l13, l14, l15, l16, v84, v85, v86, v87, v88, v89, v90, v91, v92, v93, v94, v83, v95, v96, v9, v6, rfl, rfl, hB, h0, h1, h2, h3, h4, h5, h6, h7, h8, h9, h10, h11, h13, h16, hS9⟩ hl hall K' hK
        have e7l : l7 = true := hall ⟨7, .data⟩ (by simp) (by rfl)
        clear hall hl
        subst e7l
        have q0 := keep_cell hB k3
        clear k0 k1 k2 k3 k4 k5
        simp only [putL, Act.put, List.setIfInBounds_toArray, List.set_cons_zero, List.set_cons_succ]
        have e7 := h7 rfl
        simp only [e7]
        go_simp
        have hh := hK.out [v84, v85, v86, v87, v88, v89, v90, v91, Value.int IntKind.u64 b, v93, v94, v83, v95, v96, v9, v6] wx ⟨l0, l1, l2, l3, l4, l5, l6, true, true, l9, l10, l11, l12, l13, l14, l15, l16, v84, v85, v86, v87, v88, v89, v90, v91, Value.int IntKind.u64 b, v93, v94, v83, v95, v96, v9, v6, rfl, rfl, hB, h0, h1, h2, h3, h4, h5, h6, h7, fun _ => rfl, h9, h10, h11, h13, h16, hS9⟩
        simp only [putL, Act.put, List.setIfInBounds_toArray, List.set_cons_zero, List.set_cons_succ] at hh
        simp only [e7] at hh
        exact hh
      · rintro _ _ wx ⟨l0, l1, l2, l3, l4, l5, l6, l7, l8, l9, l10, l11, l12, l13, l14, l15, l16, v84, v85, v86, v87, v88, v89, v90, v91, v92, v93, v94, v83, v95, v96, v9, v6, rfl, rfl, hB, h0, h1, h2, h3, h4, h5, h6, h7, h8, h9, h10, h11, h13, h16, hS9⟩ hl hall K' hK
        have e6l : l6 = true := hall ⟨6, .data⟩ (by simp) (by rfl)
        have e8l : l8 = true := hall ⟨8, .data⟩ (by simp) (by rfl)
        clear hall hl
        subst e6l e8l
        clear k0 k1 k2 k3 k4 k5
        simp only [putL, Act.put, List.setIfInBounds_toArray, List.set_cons_zero, List.set_cons_succ]
        have e6 := h6 rfl
        have e8 := h8 rfl
        simp only [e6, e8]
        go_simp
        refine (VB.out wx (hGX.below hB) (hRX.below hB)).mono ?_
        rintro e w2 ⟨x2, rfl, hV2, hx1⟩
        go_simp
        have hh := hK.out [v84, v85, v86, v87, v88, v89, v90, v91, v92, x2, v94, v83, v95, v96, v9, v6] w2 ⟨l0, l1, l2, l3, l4, l5, true, l7, true, true, l10, l11, l12, l13, l14, l15, l16, v84, v85, v86, v87, v88, v89, v90, v91, v92, x2, v94, v83, v95, v96, v9, v6, rfl, rfl, keep_below hB hx1, h0, h1, h2, h3, fun h => (h4 h).below hx1, h5, h6, h7, h8, fun _ => hV2.mono hB.size, fun h => (h10 h).below hx1, fun h => (h11 h).below hx1, h13, h16, hS9.below hx1⟩
        simp only [putL, Act.put, List.setIfInBounds_toArray, List.set_cons_zero, List.set_cons_succ] at hh
        simp only [e6, e8] at hh
        exact hh
      · rintro _ _ wx ⟨l0, l1, l2, l3, l4, l5, l6, l7, l8, l9, l10, l11, l12, l13, l14, l15, l16, v84, v85, v86, v87, v88, v89, v90, v91, v92, v93, v94, v83, v95, v96, v9, v6, rfl, rfl, hB, h0, h1, h2, h3, h4, h5, h6, h7, h8, h9, h10, h11, h13, h16, hS9⟩ hl hall K' hK
        have e4l : l4 = true := hall ⟨4, .data⟩ (by simp) (by rfl)
        have e9l : l9 = true := hall ⟨9, .data⟩ (by simp) (by rfl)
        clear hall hl
        subst e4l e9l
        clear k0 k1 k2 k3 k4 k5
        simp only [putL, Act.put, List.setIfInBounds_toArray, List.set_cons_zero, List.set_cons_succ]
        obtain ⟨A4, c4, e4, -, -, hR4, hF4⟩ := h4 rfl
        obtain ⟨A9, c9, e9, -, -, hR9, hF9⟩ := h9 rfl
        simp only [e4, e9]
        go_simp
        refine (DMul_any u.s v.s A4 A9 u.n (nd 64 u.n) c4 v.n (nd 64 v.n) c9 u.e v.e wx hR4 hR9 (hGX.below hB)).mono ?_
        rintro e w2 ⟨x2, rfl, hV2, hx1⟩
        rw [HX.out] at hV2 ⊢
        go_simp
        have hh := hK.out [v84, v85, v86, v87, v88, v89, v90, v91, v92, v93, .tuple #[x2, .int .i64 (x, (0 : Int)).2], v83, v95, v96, v9, v6] w2 ⟨l0, l1, l2, l3, true, l5, l6, l7, l8, true, true, l11, l12, l13, l14, l15, l16, v84, v85, v86, v87, v88, v89, v90, v91, v92, v93, .tuple #[x2, .int .i64 (x, (0 : Int)).2], v83, v95, v96, v9, v6, rfl, rfl, keep_below hB hx1, h0, h1, h2, h3, fun h => (h4 h).below hx1, h5, h6, h7, h8, fun h => (h9 h).below hx1, fun _ => ⟨x2, rfl, hV2.mono hB.size⟩, fun h => (h11 h).below hx1, h13, h16, hS9.below hx1⟩
        simp only [putL, Act.put, List.setIfInBounds_toArray, List.set_cons_zero, List.set_cons_succ] at hh
        simp only [e4, e9] at hh
        exact hh
      · rintro _ _ wx ⟨l0, l1, l2, l3, l4, l5, l6, l7, l8, l9, l10, l11, l12, l13, l14, l15, l16, v84, v85, v86, v87, v88, v89, v90, v91, v92, v93, v94, v83, v95, v96, v9, v6, rfl, rfl, hB, h0, h1, h2, h3, h4, h5, h6, h7, h8, h9, h10, h11, h13, h16, hS9⟩ hl hall K' hK
        have e10l : l10 = true := hall ⟨10, .data⟩ (by simp) (by rfl)
        clear hall hl
        subst e10l
        clear k0 k1 k2 k3 k4 k5
        simp only [putL, Act.put, List.setIfInBounds_toArray, List.set_cons_zero, List.set_cons_succ]
        obtain ⟨x10, e10, hV10⟩ := h10 rfl
        simp only [e10]
        go_simp
        have hh := hK.out [v84, v85, v86, v87, v88, v89, v90, v91, v92, v93, v94, v94, v95, v96, v9, v6] wx ⟨l0, l1, l2, l3, l4, l5, l6, l7, l8, l9, true, true, l12, l13, l14, l15, l16, v84, v85, v86, v87, v88, v89, v90, v91, v92, v93, v94, v94, v95, v96, v9, v6, rfl, rfl, hB, h0, h1, h2, h3, h4, h5, h6, h7, h8, h9, h10, fun _ => h10 rfl, h13, h16, hS9⟩
        simp only [putL, Act.put, List.setIfInBounds_toArray, List.set_cons_zero, List.set_cons_succ] at hh
        simp only [e10] at hh
        exact hh
      · rintro _ _ wx ⟨l0, l1, l2, l3, l4, l5, l6, l7, l8, l9, l10, l11, l12, l13, l14, l15, l16, v84, v85, v86, v87, v88, v89, v90, v91, v92, v93, v94, v83, v95, v96, v9, v6, rfl, rfl, hB, h0, h1, h2, h3, h4, h5, h6, h7, h8, h9, h10, h11, h13, h16, hS9⟩ hl hall K' hK
        have e11l : l11 = true := hall ⟨11, .data⟩ (by simp) (by rfl)
        have e12l : l12 = false := by simpa using hl
        clear hall hl
        subst e11l e12l
        clear k0 k1 k2 k3 k4 k5
        simp only [putL, Act.put, List.setIfInBounds_toArray, List.set_cons_zero, List.set_cons_succ]
        obtain ⟨x11, e11, hV11⟩ := h11 rfl
        simp only [e11]
        go_simp
        have hh := hK.out [v84, v85, v86, v87, v88, v89, v90, v91, v92, v93, v94, v83, x11, v96, v9, v6] wx ⟨l0, l1, l2, l3, l4, l5, l6, l7, l8, l9, l10, true, true, l13, l14, l15, l16, v84, v85, v86, v87, v88, v89, v90, v91, v92, v93, v94, v83, x11, v96, v9, v6, rfl, rfl, hB, h0, h1, h2, h3, h4, h5, h6, h7, h8, h9, h10, h11, h13, h16, hS9.call (Below.refl _ _) hV11⟩
        simp only [putL, Act.put, List.setIfInBounds_toArray, List.set_cons_zero, List.set_cons_succ] at hh
        simp only [e11] at hh
        exact hh
      · rintro _ _ wx ⟨l0, l1, l2, l3, l4, l5, l6, l7, l8, l9, l10, l11, l12, l13, l14, l15, l16, v84, v85, v86, v87, v88, v89, v90, v91, v92, v93, v94, v83, v95, v96, v9, v6, rfl, rfl, hB, h0, h1, h2, h3, h4, h5, h6, h7, h8, h9, h10, h11, h13, h16, hS9⟩ hl hall K' hK
        have e11l : l11 = true := hall ⟨11, .data⟩ (by simp) (by rfl)
        clear hall hl
        subst e11l
        clear k0 k1 k2 k3 k4 k5
        simp only [putL, Act.put, List.setIfInBounds_toArray, List.set_cons_zero, List.set_cons_succ]
        obtain ⟨x11, e11, hV11⟩ := h11 rfl
        simp only [e11]
        go_simp
        have hh := hK.out [v84, v85, v86, v87, v88, v89, v90, v91, v92, v93, v94, v83, v95, .int .i64 (x, (0 : Int)).2, v9, v6] wx ⟨l0, l1, l2, l3, l4, l5, l6, l7, l8, l9, l10, true, l12, true, l14, l15, l16, v84, v85, v86, v87, v88, v89, v90, v91, v92, v93, v94, v83, v95, .int .i64 (x, (0 : Int)).2, v9, v6, rfl, rfl, hB, h0, h1, h2, h3, h4, h5, h6, h7, h8, h9, h10, h11, fun _ => rfl, h16, hS9⟩
        simp only [putL, Act.put, List.setIfInBounds_toArray, List.set_cons_zero, List.set_cons_succ] at hh
        simp only [e11] at hh
        exact hh
      · rintro _ _ wx ⟨l0, l1, l2, l3, l4, l5, l6, l7, l8, l9, l10, l11, l12, l13, l14, l15, l16, v84, v85, v86, v87, v88, v89, v90, v91, v92, v93, v94, v83, v95, v96, v9, v6, rfl, rfl, hB, h0, h1, h2, h3, h4, h5, h6, h7, h8, h9, h10, h11, h13, h16, hS9⟩ hl hall K' hK
        have e14l : l14 = false := by simpa using hl
        clear hall hl
        subst e14l
        clear k0 k1 k2 k3 k4 k5
        simp only [putL, Act.put, List.setIfInBounds_toArray, List.set_cons_zero, List.set_cons_succ]
        go_simp
        have hh := hK.out [v84, v85, v86, v87, v88, v89, v90, v91, v92, v93, v94, v83, v95, v96, .pointer (some ⟨wx.heap.size, 0, none⟩), v6] (wx.alloc (Obj.cells #[Value.bool false, Value.slice none 0 0, Value.int IntKind.i64 0] 53)) ⟨l0, l1, l2, l3, l4, l5, l6, l7, l8, l9, l10, l11, l12, l13, true, l15, l16, v84, v85, v86, v87, v88, v89, v90, v91, v92, v93, v94, v83, v95, v96, .pointer (some ⟨wx.heap.size, 0, none⟩), v6, rfl, rfl, below_alloc' hB _, h0, h1, h2, h3, fun h => (h4 h).below (below1 _ _), h5, h6, h7, h8, fun h => (h9 h).below (below1 _ _), fun h => (h10 h).below (below1 _ _), fun h => (h11 h).below (below1 _ _), h13, h16, hS9.make hB.size _ _ _⟩
        simp only [putL, Act.put, List.setIfInBounds_toArray, List.set_cons_zero, List.set_cons_succ] at hh
        exact hh
      · rintro _ _ wx ⟨l0, l1, l2, l3, l4, l5, l6, l7, l8, l9, l10, l11, l12, l13, l14, l15, l16, v84, v85, v86, v87, v88, v89, v90, v91, v92, v93, v94, v83, v95, v96, v9, v6, rfl, rfl, hB, h0, h1, h2, h3, h4, h5, h6, h7, h8, h9, h10, h11, h13, h16, hS9⟩ hl hall K' hK
        have e12l : l12 = true := hall ⟨12, .data⟩ (by simp) (by rfl)
        have e14l : l14 = true := hall ⟨14, .data⟩ (by simp) (by rfl)
        clear hall hl
        subst e12l e14l
        clear k0 k1 k2 k3 k4 k5
        simp only [putL, Act.put, List.setIfInBounds_toArray, List.set_cons_zero, List.set_cons_succ]
        obtain ⟨A12, c12, e12, -, -, hR12, hF12⟩ := hS9.1 rfl
        obtain ⟨g, a, b, c, eg, hg, hb⟩ := hS9.ptr
        obtain ⟨r0, r1, r2, r3, _⟩ := hb.box3.cells
        simp only [e12, eg]
        go_simp
        have hh := hK.out [v84, v85, v86, v87, v88, v89, v90, v91, v92, v93, v94, v83, v95, v96, v9, v6] (((wx.setCell ⟨g, 0, none⟩ (.bool (x, (0 : Int)).1.s)).setCell ⟨g, 1, none⟩ (.slice A12 (nd 64 (x, (0 : Int)).1.n) c12)).setCell ⟨g, 2, none⟩ (.int .i64 (x, (0 : Int)).1.e)) ⟨l0, l1, l2, l3, l4, l5, l6, l7, l8, l9, l10, l11, true, l13, true, true, l16, v84, v85, v86, v87, v88, v89, v90, v91, v92, v93, v94, v83, v95, v96, v9, v6, rfl, rfl, below_box hB hg _ _ _, h0, h1, h2, h3, fun h => (h4 h).wd hb.wd, h5, h6, h7, h8, fun h => (h9 h).wd hb.wd, fun h => (h10 h).wd hb.wd, fun h => (h11 h).wd hb.wd, h13, h16, (by have h := hS9; rw [eg, e12] at h ⊢; exact h.store)⟩
        simp only [putL, Act.put, List.setIfInBounds_toArray, List.set_cons_zero, List.set_cons_succ] at hh
        simp only [e12, eg] at hh
        exact hh
      · rintro _ _ wx ⟨l0, l1, l2, l3, l4, l5, l6, l7, l8, l9, l10, l11, l12, l13, l14, l15, l16, v84, v85, v86, v87, v88, v89, v90, v91, v92, v93, v94, v83, v95, v96, v9, v6, rfl, rfl, hB, h0, h1, h2, h3, h4, h5, h6, h7, h8, h9, h10, h11, h13, h16, hS9⟩ hl hall K' hK
        have e13l : l13 = true := hall ⟨13, .data⟩ (by simp) (by rfl)
        clear hall hl
        subst e13l
        clear k0 k1 k2 k3 k4 k5
        simp only [putL, Act.put, List.setIfInBounds_toArray, List.set_cons_zero, List.set_cons_succ]
        have e13 := h13 rfl
        simp only [e13]
        go_simp
        have hh := hK.out [v84, v85, v86, v87, v88, v89, v90, v91, v92, v93, v94, v83, v95, v96, v9, v96] wx ⟨l0, l1, l2, l3, l4, l5, l6, l7, l8, l9, l10, l11, l12, true, l14, l15, true, v84, v85, v86, v87, v88, v89, v90, v91, v92, v93, v94, v83, v95, v96, v9, v96, rfl, rfl, hB, h0, h1, h2, h3, h4, h5, h6, h7, h8, h9, h10, h11, h13, fun _ => e13, hS9⟩
        simp only [putL, Act.put, List.setIfInBounds_toArray, List.set_cons_zero, List.set_cons_succ] at hh
        simp only [e13] at hh
        exact hh
    · rintro vs wx ⟨l0, l1, l2, l3, l4, l5, l6, l7, l8, l9, l10, l11, l12, l13, l14, l15, l16, v84, v85, v86, v87, v88, v89, v90, v91, v92, v93, v94, v83, v95, v96, v9, v6, hl, rfl, hB, h0, h1, h2, h3, h4, h5, h6, h7, h8, h9, h10, h11, h13, h16, hS9⟩
      obtain ⟨rfl, rfl, rfl, rfl, rfl, rfl, rfl, rfl, rfl, rfl, rfl, rfl, rfl, rfl, rfl, rfl, rfl⟩ : true = l0 ∧ true = l1 ∧ true = l2 ∧ true = l3 ∧ true = l4 ∧ true = l5 ∧ true = l6 ∧ true = l7 ∧ true = l8 ∧ true = l9 ∧ true = l10 ∧ true = l11 ∧ true = l12 ∧ true = l13 ∧ true = l14 ∧ true = l15 ∧ true = l16 := by simpa using hl
      simp only [putL, Act.put, List.setIfInBounds_toArray, List.set_cons_zero, List.set_cons_succ]
      go_wp2_with fail
      go_meet
      case rel => exact ⟨rfl, hS9.dvb, hB⟩
    · rintro _ vs wx ⟨l0, l1, l2, l3, l4, l5, l6, l7, l8, l9, l10, l11, l12, l13, l14, l15, l16, v84, v85, v86, v87, v88, v89, v90, v91, v92, v93, v94, v83, v95, v96, v9, v6, rfl, _⟩
      rfl
  case rest =>
    obtain ⟨rfl, ⟨g9, rfl, hg9, hf9⟩, hbc⟩ := hcut
    replace HS := Lib.hid (HS.out.below hbc (Nat.le_refl _))
    have D9 : Hid (DVB 0 g9 x wc) := hf9.mono (Nat.zero_le _)
    clear hbc hf9 hg9 hGX hRX k0 k1 k2 k3 k4 k5 VA VB
    obtain ⟨k0, k1, k2, k3, k4, k5⟩ := HS.out.bx.six
    go_upto_region 20 with (fail)
    have hGX := HS.out.gl
    have hRX := HS.out.glr
    go_cut [10, 11] from 98 (fun p10 p11 wx => p11 = .int .i64 0 ∧ (∃ g, p10 = .pointer (some ⟨g, 0, none⟩) ∧ wc.heap.size ≤ g ∧ DVB wc.heap.size g s wx) ∧ Below wc.heap.size wc wx)
    case first =>
      refine wp_region_JR [98, 99, 100, 101, 102, 103, 104, 105, 106, 97, 107, 108, 10, 11] (fun l vs wx => ∃ l0 l1 l2 l3 l4 l5 l6 l7 l8 l9 l10 l11 l12 l13 l14 v98 v99 v100 v101 v102 v103 v104 v105 v106 v97 v107 v108 v10 v11, l = [l0, l1, l2, l3, l4, l5, l6, l7, l8, l9, l10, l11, l12, l13, l14] ∧ vs = [v98, v99, v100, v101, v102, v103, v104, v105, v106, v97, v107, v108, v10, v11] ∧ Below wc.heap.size wc wx ∧ (l0 = true → v98 = Value.pointer (some ⟨w.heap.size, 0, none⟩)) ∧ (l1 = true → v99 = Value.int IntKind.i64 n) ∧ (l2 = true → v100 = Value.int IntKind.u64 p) ∧ (l3 = true → DV wc.heap.size wx v101 up) ∧ (l4 = true → v102 = Value.pointer (some ⟨w.heap.size, 0, none⟩)) ∧ (l5 = true → v103 = Value.int IntKind.i64 n) ∧ (l6 = true → v104 = Value.int IntKind.u64 r) ∧ (l7 = true → DV wc.heap.size wx v105 vr) ∧ (l8 = true → TupD wc.heap.size (s, (0 : Int)) v106 wx) ∧ (l9 = true → TupD wc.heap.size (s, (0 : Int)) v97 wx) ∧ (l11 = true → v108 = Value.int IntKind.i64 (s, (0 : Int)).2) ∧ (l14 = true → v11 = Value.int IntKind.i64 (s, (0 : Int)).2) ∧ SideD wc.heap.size (s, (0 : Int)).1 l10 l12 l13 v107 v10 wx) (by kernel_rfl) (by kernel_rfl) ?_ ?_ ?_ ?_
      · intro vs hvs
        obtain ⟨y0, y1, y2, y3, y4, y5, y6, y7, y8, y9, y10, y11, y12, y13, rfl⟩ : ∃ y0 y1 y2 y3 y4 y5 y6 y7 y8 y9 y10 y11 y12 y13, vs = [y0, y1, y2, y3, y4, y5, y6, y7, y8, y9, y10, y11, y12, y13] := by
          match vs, hvs with
          | [y0, y1, y2, y3, y4, y5, y6, y7, y8, y9, y10, y11, y12, y13], _ => exact ⟨y0, y1, y2, y3, y4, y5, y6, y7, y8, y9, y10, y11, y12, y13, rfl⟩
        exact ⟨false, false, false, false, false, false, false, false, false, false, false, false, false, false, false, y0, y1, y2, y3, y4, y5, y6, y7, y8, y9, y10, y11, y12, y13, rfl, rfl, (Below.refl _ _).drew, nofun, nofun, nofun, nofun, nofun, nofun, nofun, nofun, nofun, nofun, nofun, nofun, SideD.start ..⟩
      · refine ⟨?_, ?_, ?_, ?_, ?_, ?_, ?_, ?_, ?_, ?_, ?_, ?_, ?_, ?_, ?_, trivial⟩
        · rintro _ _ wx ⟨l0, l1, l2, l3, l4, l5, l6, l7, l8, l9, l10, l11, l12, l13, l14, v98, v99, v100, v101, v102, v103, v104, v105, v106, v97, v107, v108, v10, v11, rfl, rfl, hB, h0, h1, h2, h3, h4, h5, h6, h7, h8, h9, h11, h14, hS10⟩ hl hall K' hK
          clear hall hl
          clear k0 k1 k2 k3 k4 k5
          simp only [putL, Act.put, List.setIfInBounds_toArray, List.set_cons_zero, List.set_cons_succ]
          go_simp
          have hh := hK.out [Value.pointer (some ⟨w.heap.size, 0, none⟩), v99, v100, v101, v102, v103, v104, v105, v106, v97, v107, v108, v10, v11] wx ⟨true, l1, l2, l3, l4, l5, l6, l7, l8, l9, l10, l11, l12, l13, l14, Value.pointer (some ⟨w.heap.size, 0, none⟩), v99, v100, v101, v102, v103, v104, v105, v106, v97, v107, v108, v10, v11, rfl, rfl, hB, fun _ => rfl, h1, h2, h3, h4, h5, h6, h7, h8, h9, h11, h14, hS10⟩
          simp only [putL, Act.put, List.setIfInBounds_toArray, List.set_cons_zero, List.set_cons_succ] at hh
          exact hh
        · rintro _ _ wx ⟨l0, l1, l2, l3, l4, l5, l6, l7, l8, l9, l10, l11, l12, l13, l14, v98, v99, v100, v101, v102, v103, v104, v105, v106, v97, v107, v108, v10, v11, rfl, rfl, hB, h0, h1, h2, h3, h4, h5, h6, h7, h8, h9, h11, h14, hS10⟩ hl hall K' hK
          have e0l : l0 = true := hall ⟨0, .data⟩ (by simp) (by rfl)
          clear hall hl
          subst e0l
          have q0 := keep_cell hB k0
          clear k0 k1 k2 k3 k4 k5
          simp only [putL, Act.put, List.setIfInBounds_toArray, List.set_cons_zero, List.set_cons_succ]
          have e0 := h0 rfl
          simp only [e0]
          go_simp
          have hh := hK.out [v98, Value.int IntKind.i64 n, v100, v101, v102, v103, v104, v105, v106, v97, v107, v108, v10, v11] wx ⟨true, true, l2, l3, l4, l5, l6, l7, l8, l9, l10, l11, l12, l13, l14, v98, Value.int IntKind.i64 n, v100, v101, v102, v103, v104, v105, v106, v97, v107, v108, v10, v11, rfl, rfl, hB, h0, fun _ => rfl, h2, h3, h4, h5, h6, h7, h8, h9, h11, h14, hS10⟩
          simp only [putL, Act.put, List.setIfInBounds_toArray, List.set_cons_zero, List.set_cons_succ] at hh
          simp only [e0] at hh
          exact hh
        · rintro _ _ wx ⟨l0, l1, l2, l3, l4, l5, l6, l7, l8, l9, l10, l11, l12, l13, l14, v98, v99, v100, v101, v102, v103, v104, v105, v106, v97, v107, v108, v10, v11, rfl, rfl, hB, h0, h1, h2, h3, h4, h5, h6, h7, h8, h9, h11, h14, hS10⟩ hl hall K' hK
          clear hall hl
          clear k0 k1 k2 k3 k4 k5
          simp only [putL, Act.put, List.setIfInBounds_toArray, List.set_cons_zero, List.set_cons_succ]
          go_simp
          have hh := hK.out [v98, v99, Value.int IntKind.u64 p, v101, v102, v103, v104, v105, v106, v97, v107, v108, v10, v11] wx ⟨l0, l1, true, l3, l4, l5, l6, l7, l8, l9, l10, l11, l12, l13, l14, v98, v99, Value.int IntKind.u64 p, v101, v102, v103, v104, v105, v106, v97, v107, v108, v10, v11, rfl, rfl, hB, h0, h1, fun _ => rfl, h3, h4, h5, h6, h7, h8, h9, h11, h14, hS10⟩
          simp only [putL, Act.put, List.setIfInBounds_toArray, List.set_cons_zero, List.set_cons_succ] at hh
          exact hh
        · rintro _ _ wx ⟨l0, l1, l2, l3, l4, l5, l6, l7, l8, l9, l10, l11, l12, l13, l14, v98, v99, v100, v101, v102, v103, v104, v105, v106, v97, v107, v108, v10, v11, rfl, rfl, hB, h0, h1, h2, h3, h4, h5, h6, h7, h8, h9, h11, h14, hS10⟩ hl hall K' hK
          have e1l : l1 = true := hall ⟨1, .data⟩ (by simp) (by rfl)
          have e2l : l2 = true := hall ⟨2, .data⟩ (by simp) (by rfl)
          clear hall hl
          subst e1l e2l
          clear k0 k1 k2 k3 k4 k5
          simp only [putL, Act.put, List.setIfInBounds_toArray, List.set_cons_zero, List.set_cons_succ]
          have e1 := h1 rfl
          have e2 := h2 rfl
          simp only [e1, e2]
          go_simp
          refine (VP'.out wx (hGX.below hB) (hRX.below hB)).mono ?_
          rintro e w2 ⟨x2, rfl, hV2, hx1⟩
          go_simp
          have hh := hK.out [v98, v99, v100, x2, v102, v103, v104, v105, v106, v97, v107, v108, v10, v11] w2 ⟨l0, true, true, true, l4, l5, l6, l7, l8, l9, l10, l11, l12, l13, l14, v98, v99, v100, x2, v102, v103, v104, v105, v106, v97, v107, v108, v10, v11, rfl, rfl, keep_below hB hx1, h0, h1, h2, fun _ => hV2.mono hB.size, h4, h5, h6, fun h => (h7 h).below hx1, fun h => (h8 h).below hx1, fun h => (h9 h).below hx1, h11, h14, hS10.below hx1⟩
          simp only [putL, Act.put, List.setIfInBounds_toArray, List.set_cons_zero, List.set_cons_succ] at hh
          simp only [e1, e2] at hh
          exact hh
        · rintro _ _ wx ⟨l0, l1, l2, l3, l4, l5, l6, l7, l8, l9, l10, l11, l12, l13, l14, v98, v99, v100, v101, v102, v103, v104, v105, v106, v97, v107, v108, v10, v11, rfl, rfl, hB, h0, h1, h2, h3, h4, h5, h6, h7, h8, h9, h11, h14, hS10⟩ hl hall K' hK
          clear hall hl
          clear k0 k1 k2 k3 k4 k5
          simp only [putL, Act.put, List.setIfInBounds_toArray, List.set_cons_zero, List.set_cons_succ]
          go_simp
          have hh := hK.out [v98, v99, v100, v101, Value.pointer (some ⟨w.heap.size, 0, none⟩), v103, v104, v105, v106, v97, v107, v108, v10, v11] wx ⟨l0, l1, l2, l3, true, l5, l6, l7, l8, l9, l10, l11, l12, l13, l14, v98, v99, v100, v101, Value.pointer (some ⟨w.heap.size, 0, none⟩), v103, v104, v105, v106, v97, v107, v108, v10, v11, rfl, rfl, hB, h0, h1, h2, h3, fun _ => rfl, h5, h6, h7, h8, h9, h11, h14, hS10⟩
          simp only [putL, Act.put, List.setIfInBounds_toArray, List.set_cons_zero, List.set_cons_succ] at hh
          exact hh
        · rintro _ _ wx ⟨l0, l1, l2, l3, l4, l5, l6, l7, l8, l9, l10, l11, l12, l13, l14, v98, v99, v100, v101, v102, v103, v104, v105, v106, v97, v107, v108, v10, v11, rfl, rfl, hB, h0, h1, h2, h3, h4, h5, h6, h7, h8, h9, h11, h14, hS10⟩ hl hall K' hK
          have e4l : l4 = true := hall ⟨4, .data⟩ (by simp) (by rfl)
          clear hall hl
          subst e4l
          have q0 := keep_cell hB k0
          clear k0 k1 k2 k3 k4 k5
          simp only [putL, Act.put, List.setIfInBounds_toArray, List.set_cons_zero, List.set_cons_succ]
          have e4 := h4 rfl
          simp only [e4]
          go_simp
          have hh := hK.out [v98, v99, v100, v101, v102, Value.int IntKind.i64 n, v104, v105, v106, v97, v107, v108, v10, v11] wx ⟨l0, l1, l2, l3, true, true, l6, l7, l8, l9, l10, l11, l12, l13, l14, v98, v99, v100, v101, v102, Value.int IntKind.i64 n, v104, v105, v106, v97, v107, v108, v10, v11, rfl, rfl, hB, h0, h1, h2, h3, h4, fun _ => rfl, h6, h7, h8, h9, h11, h14, hS10⟩
          simp only [putL, Act.put, List.setIfInBounds_toArray, List.set_cons_zero, List.set_cons_succ] at hh
          simp only [e4] at hh
          exact hh
        · rintro _ _ wx ⟨l0, l1, l2, l3, l4, l5, l6, l7, l8, l9, l10, l11, l12, l13, l14, v98, v99, v100, v101, v102, v103, v104, v105, v106, v97, v107, v108, v10, v11, rfl, rfl, hB, h0, h1, h2, h3, h4, h5, h6, h7, h8, h9, h11, h14, hS10⟩ hl hall K' hK
          clear hall hl
          clear k0 k1 k2 k3 k4 k5
          simp only [putL, Act.put, List.setIfInBounds_toArray, List.set_cons_zero, List.set_cons_succ]
          go_simp
          have hh := hK.out [v98, v99, v100, v101, v102, v103, Value.int IntKind.u64 r, v105, v106, v97, v107, v108, v10, v11] wx ⟨l0, l1, l2, l3, l4, l5, true, l7, l8, l9, l10, l11, l12, l13, l14, v98, v99, v100, v101, v102, v103, Value.int IntKind.u64 r, v105, v106, v97, v107, v108, v10, v11, rfl, rfl, hB, h0, h1, h2, h3, h4, h5, fun _ => rfl, h7, h8, h9, h11, h14, hS10⟩
          simp only [putL, Act.put, List.setIfInBounds_toArray, List.set_cons_zero, List.set_cons_succ] at hh
          exact hh
        · rintro _ _ wx ⟨l0, l1, l2, l3, l4, l5, l6, l7, l8, l9, l10, l11, l12, l13, l14, v98, v99, v100, v101, v102, v103, v104, v105, v106, v97, v107, v108, v10, v11, rfl, rfl, hB, h0, h1, h2, h3, h4, h5, h6, h7, h8, h9, h11, h14, hS10⟩ hl hall K' hK
          have e5l : l5 = true := hall ⟨5, .data⟩ (by simp) (by rfl)
          have e6l : l6 = true := hall ⟨6, .data⟩ (by simp) (by rfl)
          clear hall hl
          subst e5l e6l
          clear k0 k1 k2 k3 k4 k5
          simp only [putL, Act.put, List.setIfInBounds_toArray, List.set_cons_zero, List.set_cons_succ]
          have e5 := h5 rfl
          have e6 := h6 rfl
          simp only [e5, e6]
          go_simp
          refine (VR'.out wx (hGX.below hB) (hRX.below hB)).mono ?_
          rintro e w2 ⟨x2, rfl, hV2, hx1⟩
          go_simp
          have hh := hK.out [v98, v99, v100, v101, v102, v103, v104, x2, v106, v97, v107, v108, v10, v11] w2 ⟨l0, l1, l2, l3, l4, true, true, true, l8, l9, l10, l11, l12, l13, l14, v98, v99, v100, v101, v102, v103, v104, x2, v106, v97, v107, v108, v10, v11, rfl, rfl, keep_below hB hx1, h0, h1, h2, fun h => (h3 h).below hx1, h4, h5, h6, fun _ => hV2.mono hB.size, fun h => (h8 h).below hx1, fun h => (h9 h).below hx1, h11, h14, hS10.below hx1⟩
          simp only [putL, Act.put, List.setIfInBounds_toArray, List.set_cons_zero, List.set_cons_succ] at hh
          simp only [e5, e6] at hh
          exact hh
        · rintro _ _ wx ⟨l0, l1, l2, l3, l4, l5, l6, l7, l8, l9, l10, l11, l12, l13, l14, v98, v99, v100, v101, v102, v103, v104, v105, v106, v97, v107, v108, v10, v11, rfl, rfl, hB, h0, h1, h2, h3, h4, h5, h6, h7, h8, h9, h11, h14, hS10⟩ hl hall K' hK
          have e3l : l3 = true := hall ⟨3, .data⟩ (by simp) (by rfl)
          have e7l : l7 = true := hall ⟨7, .data⟩ (by simp) (by rfl)
          clear hall hl
          subst e3l e7l
          clear k0 k1 k2 k3 k4 k5
          simp only [putL, Act.put, List.setIfInBounds_toArray, List.set_cons_zero, List.set_cons_succ]
          obtain ⟨A3, c3, e3, -, -, hR3, hF3⟩ := h3 rfl
          obtain ⟨A7, c7, e7, -, -, hR7, hF7⟩ := h7 rfl
          simp only [e3, e7]
          go_simp
          refine (DAdd_any up.s vr.s A3 A7 up.n (nd 64 up.n) c3 vr.n (nd 64 vr.n) c7 up.e vr.e wx hR3 hR7 (hGX.below hB)).mono ?_
          rintro e w2 ⟨x2, rfl, hV2, hx1⟩
          rw [HSD.out] at hV2 ⊢
          go_simp
          have hh := hK.out [v98, v99, v100, v101, v102, v103, v104, v105, .tuple #[x2, .int .i64 (s, (0 : Int)).2], v97, v107, v108, v10, v11] w2 ⟨l0, l1, l2, true, l4, l5, l6, true, true, l9, l10, l11, l12, l13, l14, v98, v99, v100, v101, v102, v103, v104, v105, .tuple #[x2, .int .i64 (s, (0 : Int)).2], v97, v107, v108, v10, v11, rfl, rfl, keep_below hB hx1, h0, h1, h2, fun h => (h3 h).below hx1, h4, h5, h6, fun h => (h7 h).below hx1, fun _ => ⟨x2, rfl, hV2.mono hB.size⟩, fun h => (h9 h).below hx1, h11, h14, hS10.below hx1⟩
          simp only [putL, Act.put, List.setIfInBounds_toArray, List.set_cons_zero, List.set_cons_succ] at hh
          simp only [e3, e7] at hh
          exact hh
        · rintro _ _ wx ⟨l0, l1, l2, l3, l4, l5, l6, l7, l8, l9, l10, l11, l12, l13, l14, v98, v99, v100, v101, v102, v103, v104, v105, v106, v97, v107, v108, v10, v11, rfl, rfl, hB, h0, h1, h2, h3, h4, h5, h6, h7, h8, h9, h11, h14, hS10⟩ hl hall K' hK
          have e8l : l8 = true := hall ⟨8, .data⟩ (by simp) (by rfl)
          clear hall hl
          subst e8l
          clear k0 k1 k2 k3 k4 k5
          simp only [putL, Act.put, List.setIfInBounds_toArray, List.set_cons_zero, List.set_cons_succ]
          obtain ⟨x8, e8, hV8⟩ := h8 rfl
          simp only [e8]
          go_simp
          have hh := hK.out [v98, v99, v100, v101, v102, v103, v104, v105, v106, v106, v107, v108, v10, v11] wx ⟨l0, l1, l2, l3, l4, l5, l6, l7, true, true, l10, l11, l12, l13, l14, v98, v99, v100, v101, v102, v103, v104, v105, v106, v106, v107, v108, v10, v11, rfl, rfl, hB, h0, h1, h2, h3, h4, h5, h6, h7, h8, fun _ => h8 rfl, h11, h14, hS10⟩
          simp only [putL, Act.put, List.setIfInBounds_toArray, List.set_cons_zero, List.set_cons_succ] at hh
          simp only [e8] at hh
          exact hh
        · rintro _ _ wx ⟨l0, l1, l2, l3, l4, l5, l6, l7, l8, l9, l10, l11, l12, l13, l14, v98, v99, v100, v101, v102, v103, v104, v105, v106, v97, v107, v108, v10, v11, rfl, rfl, hB, h0, h1, h2, h3, h4, h5, h6, h7, h8, h9, h11, h14, hS10⟩ hl hall K' hK
          have e9l : l9 = true := hall ⟨9, .data⟩ (by simp) (by rfl)
          have e10l : l10 = false := by simpa using hl
          clear hall hl
          subst e9l e10l
          clear k0 k1 k2 k3 k4 k5
          simp only [putL, Act.put, List.setIfInBounds_toArray, List.set_cons_zero, List.set_cons_succ]
          obtain ⟨x9, e9, hV9⟩ := h9 rfl
          simp only [e9]
          go_simp
          have hh := hK.out [v98, v99, v100, v101, v102, v103, v104, v105, v106, v97, x9, v108, v10, v11] wx ⟨l0, l1, l2, l3, l4, l5, l6, l7, l8, true, true, l11, l12, l13, l14, v98, v99, v100, v101, v102, v103, v104, v105, v106, v97, x9, v108, v10, v11, rfl, rfl, hB, h0, h1, h2, h3, h4, h5, h6, h7, h8, h9, h11, h14, hS10.call (Below.refl _ _) hV9⟩
          simp only [putL, Act.put, List.setIfInBounds_toArray, List.set_cons_zero, List.set_cons_succ] at hh
          simp only [e9] at hh
          exact hh
        · rintro _ _ wx ⟨l0, l1, l2, l3, l4, l5, l6, l7, l8, l9, l10, l11, l12, l13, l14, v98, v99, v100, v101, v102, v103, v104, v105, v106, v97, v107, v108, v10, v11, rfl, rfl, hB, h0, h1, h2, h3, h4, h5, h6, h7, h8, h9, h11, h14, hS10⟩ hl hall K' hK
          have e9l : l9 = true := hall ⟨9, .data⟩ (by simp) (by rfl)
          clear hall hl
          subst e9l
          clear k0 k1 k2 k3 k4 k5
          simp only [putL, Act.put, List.setIfInBounds_toArray, List.set_cons_zero, List.set_cons_succ]
          obtain ⟨x9, e9, hV9⟩ := h9 rfl
          simp only [e9]
          go_simp
          have hh := hK.out [v98, v99, v100, v101, v102, v103, v104, v105, v106, v97, v107, .int .i64 (s, (0 : Int)).2, v10, v11] wx ⟨l0, l1, l2, l3, l4, l5, l6, l7, l8, true, l10, true, l12, l13, l14, v98, v99, v100, v101, v102, v103, v104, v105, v106, v97, v107, .int .i64 (s, (0 : Int)).2, v10, v11, rfl, rfl, hB, h0, h1, h2, h3, h4, h5, h6, h7, h8, h9, fun _ => rfl, h14, hS10⟩
          simp only [putL, Act.put, List.setIfInBounds_toArray, List.set_cons_zero, List.set_cons_succ] at hh
          simp only [e9] at hh
          exact hh
        · rintro _ _ wx ⟨l0, l1, l2, l3, l4, l5, l6, l7, l8, l9, l10, l11, l12, l13, l14, v98, v99, v100, v101, v102, v103, v104, v105, v106, v97, v107, v108, v10, v11, rfl, rfl, hB, h0, h1, h2, h3, h4, h5, h6, h7, h8, h9, h11, h14, hS10⟩ hl hall K' hK
          have e12l : l12 = false := by simpa using hl
          clear hall hl
          subst e12l
          clear k0 k1 k2 k3 k4 k5
          simp only [putL, Act.put, List.setIfInBounds_toArray, List.set_cons_zero, List.set_cons_succ]
          go_simp
          have hh := hK.out [v98, v99, v100, v101, v102, v103, v104, v105, v106, v97, v107, v108, .pointer (some ⟨wx.heap.size, 0, none⟩), v11] (wx.alloc (Obj.cells #[Value.bool false, Value.slice none 0 0, Value.int IntKind.i64 0] 53)) ⟨l0, l1, l2, l3, l4, l5, l6, l7, l8, l9, l10, l11, true, l13, l14, v98, v99, v100, v101, v102, v103, v104, v105, v106, v97, v107, v108, .pointer (some ⟨wx.heap.size, 0, none⟩), v11, rfl, rfl, below_alloc' hB _, h0, h1, h2, fun h => (h3 h).below (below1 _ _), h4, h5, h6, fun h => (h7 h).below (below1 _ _), fun h => (h8 h).below (below1 _ _), fun h => (h9 h).below (below1 _ _), h11, h14, hS10.make hB.size _ _ _⟩
          simp only [putL, Act.put, List.setIfInBounds_toArray, List.set_cons_zero, List.set_cons_succ] at hh
          exact hh
        · rintro _ _ wx ⟨l0, l1, l2, l3, l4, l5, l6, l7, l8, l9, l10, l11, l12, l13, l14, v98, v99, v100, v101, v102, v103, v104, v105, v106, v97, v107, v108, v10, v11, rfl, rfl, hB, h0, h1, h2, h3, h4, h5, h6, h7, h8, h9, h11, h14, hS10⟩ hl hall K' hK
          have e10l : l10 = true := hall ⟨10, .data⟩ (by simp) (by rfl)
          have e12l : l12 = true := hall ⟨12, .data⟩ (by simp) (by rfl)
          clear hall hl
          subst e10l e12l
          clear k0 k1 k2 k3 k4 k5
          simp only [putL, Act.put, List.setIfInBounds_toArray, List.set_cons_zero, List.set_cons_succ]
          obtain ⟨A10, c10, e10, -, -, hR10, hF10⟩ := hS10.1 rfl
          obtain ⟨g, a, b, c, eg, hg, hb⟩ := hS10.ptr
          obtain ⟨r0, r1, r2, r3, _⟩ := hb.box3.cells
          simp only [e10, eg]
          go_simp
          have hh := hK.out [v98, v99, v100, v101, v102, v103, v104, v105, v106, v97, v107, v108, v10, v11] (((wx.setCell ⟨g, 0, none⟩ (.bool (s, (0 : Int)).1.s)).setCell ⟨g, 1, none⟩ (.slice A10 (nd 64 (s, (0 : Int)).1.n) c10)).setCell ⟨g, 2, none⟩ (.int .i64 (s, (0 : Int)).1.e)) ⟨l0, l1, l2, l3, l4, l5, l6, l7, l8, l9, true, l11, true, true, l14, v98, v99, v100, v101, v102, v103, v104, v105, v106, v97, v107, v108, v10, v11, rfl, rfl, below_box hB hg _ _ _, h0, h1, h2, fun h => (h3 h).wd hb.wd, h4, h5, h6, fun h => (h7 h).wd hb.wd, fun h => (h8 h).wd hb.wd, fun h => (h9 h).wd hb.wd, h11, h14, (by have h := hS10; rw [eg, e10] at h ⊢; exact h.store)⟩
          simp only [putL, Act.put, List.setIfInBounds_toArray, List.set_cons_zero, List.set_cons_succ] at hh
          simp only [e10, eg] at hh
          exact hh
        · rintro _ _ wx ⟨l0, l1, l2, l3, l4, l5, l6, l7, l8, l9, l10, l11, l12, l13, l14, v98, v99, v100, v101, v102, v103, v104, v105, v106, v97, v107, v108, v10, v11, rfl, rfl, hB, h0, h1, h2, h3, h4, h5, h6, h7, h8, h9, h11, h14, hS10⟩ hl hall K' hK
          have e11l : l11 = true := hall ⟨11, .data⟩ (by simp) (by rfl)
          clear hall hl
          subst e11l
          clear k0 k1 k2 k3 k4 k5
          simp only [putL, Act.put, List.setIfInBounds_toArray, List.set_cons_zero, List.set_cons_succ]
          have e11 := h11 rfl
          simp only [e11]
          go_simp
          have hh := hK.out [v98, v99, v100, v101, v102, v103, v104, v105, v106, v97, v107, v108, v10, v108] wx ⟨l0, l1, l2, l3, l4, l5, l6, l7, l8, l9, l10, true, l12, l13, true, v98, v99, v100, v101, v102, v103, v104, v105, v106, v97, v107, v108, v10, v108, rfl, rfl, hB, h0, h1, h2, h3, h4, h5, h6, h7, h8, h9, h11, fun _ => e11, hS10⟩
          simp only [putL, Act.put, List.setIfInBounds_toArray, List.set_cons_zero, List.set_cons_succ] at hh
          simp only [e11] at hh
          exact hh
      · rintro vs wx ⟨l0, l1, l2, l3, l4, l5, l6, l7, l8, l9, l10, l11, l12, l13, l14, v98, v99, v100, v101, v102, v103, v104, v105, v106, v97, v107, v108, v10, v11, hl, rfl, hB, h0, h1, h2, h3, h4, h5, h6, h7, h8, h9, h11, h14, hS10⟩
        obtain ⟨rfl, rfl, rfl, rfl, rfl, rfl, rfl, rfl, rfl, rfl, rfl, rfl, rfl, rfl, rfl⟩ : true = l0 ∧ true = l1 ∧ true = l2 ∧ true = l3 ∧ true = l4 ∧ true = l5 ∧ true = l6 ∧ true = l7 ∧ true = l8 ∧ true = l9 ∧ true = l10 ∧ true = l11 ∧ true = l12 ∧ true = l13 ∧ true = l14 := by simpa using hl
        simp only [putL, Act.put, List.setIfInBounds_toArray, List.set_cons_zero, List.set_cons_succ]
        go_wp2_with fail
        go_meet
        case rel => exact ⟨rfl, hS10.dvb, hB⟩
      · rintro _ vs wx ⟨l0, l1, l2, l3, l4, l5, l6, l7, l8, l9, l10, l11, l12, l13, l14, v98, v99, v100, v101, v102, v103, v104, v105, v106, v97, v107, v108, v10, v11, rfl, _⟩
        rfl
    case rest =>
      obtain ⟨rfl, ⟨g10, rfl, hg10, hf10⟩, hbc⟩ := hcut
      replace HS := Lib.hid (HS.out.below hbc (Nat.le_refl _))
      have D9' := D9.out.below hbc
      have D10 : Hid (DVB 0 g10 s _) := hf10.mono (Nat.zero_le _)
      clear hbc hf10 hg10 hGX hRX k0 k1 k2 k3 k4 k5 VP' VR' D9
      obtain ⟨A1, c1, ⟨r0, r1, r2, -⟩, hr1⟩ := D9'.open
      obtain ⟨A2, c2, ⟨q0, q1, q2, -⟩, hr2⟩ := D10.out.open
      have HR1 := Lib.hid hr1
      have HR2 := Lib.hid hr2
      clear D9' D10 hr1 hr2
      go_wp2_with fail
      refine (DCmp_any x.s s.s A1 A2 x.n (nd 64 x.n) c1 s.n (nd 64 s.n) c2 x.e s.e _ HR1.out HR2.out HS.out.gl).mono ?_
      rintro _ wz ⟨rfl, hb⟩
      rw [show cmpD (nd 64 x.n) ⟨x.s, x.n, x.e⟩ (nd 64 s.n) ⟨s.s, s.n, s.e⟩ = (0, 0) from HC.out]
      replace HS := Lib.hid (HS.out.below hb (Nat.le_refl _))
      clear hb HR1 HR2 r0 r1 r2 q0 q1 q2
      go_wp2_with fail
      go_ret
      exact ⟨by simp, HS.out.bl⟩

end Go.Proofs.YtcgceigmglikpaaDoor
