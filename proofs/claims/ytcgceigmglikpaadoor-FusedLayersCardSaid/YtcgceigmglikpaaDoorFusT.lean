/- The walk of FusedLayers. Printed by gen/fust.py. -/
import Derived.Deep.CutBlock
import Derived.Test.YtcgceigmglikpaaDoorFusN
import Derived.Test.YtcgceigmglikpaaDoorFusM
namespace Go.Proofs.YtcgceigmglikpaaDoor
set_option linter.unusedVariables false
set_option linter.unusedSimpArgs false
open Go.RowKit

section
variable {F : Fm}
theorem single_fin {a : Nat} (fa : F.abs a < F.inf) : singleP F a = ⟨false, false, false, false, F.neg a, valD F a⟩ := by
  obtain ⟨n1, i1⟩ := fin_nan fa
  unfold singleP
  rw [n1, i1, sig_nan n1]
  rfl

theorem times_fin (ok : F.Ok) {a b : Nat} (fa : F.abs a < F.inf) (fb : F.abs b < F.inf) : timesP (singleP F a) (singleP F b) = ⟨false, false, false, false, F.neg a != F.neg b, (mulD (nd 64 (valD F a).n) (valD F a) (nd 64 (valD F b).n) (valD F b)).1⟩ := by
  rw [single_fin fa, single_fin fb]
  unfold timesP
  simp

/-- of numbers: what a sum of two parts is -/
theorem fuse_fin {x y : Pt} {s : D} (m : Nat) (hx : x.sig = false ∧ x.inv = false ∧ x.nan = false ∧ x.inf = false) (hy : y.sig = false ∧ y.inv = false ∧ y.nan = false ∧ y.inf = false) (hs : addD (nd 64 x.d.n) x.d (nd 64 y.d.n) y.d = (s, 0)) :
    (s.n = 0 → (fuseS F m x y).2 = 0 ∧ rankZ F (fuseS F m x y).1 = 0) ∧ (s.n ≠ 0 → fuseS F m x y = intoS F m s.s s.n s.e false) := by
  have e : sumP x y = s := by unfold sumP; rw [hs]
  have h : fuseS F m x y = if s.n = 0 then (F.sg (if decide (x.d.n = 0) && decide (y.d.n = 0) && (x.neg == y.neg) then x.neg else m == 4), 0) else intoS F m s.s s.n s.e false := by
    unfold fuseS
    rw [e]
    simp [hx, hy]
  constructor
  · intro h0
    rw [h, if_pos h0]
    exact ⟨rfl, (rank_sg _).1⟩
  · intro h0
    rw [h, if_neg h0]

/-- the sum of a product and of a part, and what the law says of it -/
theorem layers_law (ok : F.Ok) {a b c d : Nat} (fa : F.abs a < F.inf) (fb : F.abs b < F.inf) (fc : F.abs c < F.inf) (fd : F.abs d < F.inf) :
    ∃ p q s u, mulD (nd 64 (valD F a).n) (valD F a) (nd 64 (valD F b).n) (valD F b) = (p, 0) ∧ mulD (nd 64 (valD F c).n) (valD F c) (nd 64 (valD F d).n) (valD F d) = (q, 0) ∧
      addD (nd 64 p.n) p (nd 64 (valD F c).n) (valD F c) = (s, 0) ∧ addD (nd 64 p.n) p (nd 64 q.n) q = (u, 0) ∧ Cn s ∧ Cn u ∧
      ∀ k, ((s.n = 0 → (fmaS F k a b c).2 = 0 ∧ rankZ F (fmaS F k a b c).1 = 0) ∧ (s.n ≠ 0 → fmaS F k a b c = intoS F k s.s s.n s.e false)) ∧
        ((u.n = 0 → (dot2S F k a b c d).2 = 0 ∧ rankZ F (dot2S F k a b c d).1 = 0) ∧ (u.n ≠ 0 → dot2S F k a b c d = intoS F k u.s u.n u.e false)) := by
  have hp := prod_eq ok fa fb
  have hq := prod_eq ok fc fd
  have sp := prod_sm ok fa fb
  have sq := prod_sm ok fc fd
  have sc := valD_sm ok fc
  obtain ⟨s, hs, cs, -, -⟩ := addD_sm sp sc
  obtain ⟨u, hu, cu, -, -⟩ := addD_sm sp sq
  refine ⟨_, _, s, u, hp, hq, hs, hu, cs, cu, fun k => ?_⟩
  unfold fmaS dot2S
  rw [times_fin ok fa fb, times_fin ok fc fd, single_fin fc, hp, hq]
  exact ⟨fuse_fin k ⟨rfl, rfl, rfl, rfl⟩ ⟨rfl, rfl, rfl, rfl⟩ hs, fuse_fin k ⟨rfl, rfl, rfl, rfl⟩ ⟨rfl, rfl, rfl, rfl⟩ hu⟩
end

set_option maxRecDepth 100000 in
set_option maxHeartbeats 64000000 in
theorem layers_any (f m : Int) (a b c d : Nat) (w : World) (hf : -9223372036854775808 ≤ f ∧ f ≤ 9223372036854775807) (hm : -9223372036854775808 ≤ m ∧ m ≤ 9223372036854775807) (ha : a < 18446744073709551616) (hb : b < 18446744073709551616) (hc : c < 18446744073709551616) (hd : d < 18446744073709551616) (hG : Gl w) (hR : GlR w) :
    Calls Tryd.prog 10 #[.agg (fourA f m a b c d)] w fun e w' => e = .returned (.bool true) ∧ Below w.heap.size w w' := by
  have hst := fun wx => four_start f m a b c d wx hf hm ha hb hc hd
  have hb0 := below1 w (.cells (fourA f m a b c d) 68)
  have hx := Bx.new w (fourA f m a b c d) 68
  obtain ⟨W, hW⟩ : ∃ W, W = w.alloc (.cells (fourA f m a b c d) 68) := ⟨_, rfl⟩
  rw [← hW] at hb0 hx
  have HS := Lib.hid (show St w.heap.size w w.heap.size (fourA f m a b c d) W from ⟨hb0, hG.below hb0, hR.below hb0, hx⟩)
  have HGB := Lib.hid (fun (u : World) (h : Below w.heap.size w u) => hG.below h)
  have HRB := Lib.hid (fun (u : World) (h : Below w.heap.size w u) => hR.below h)
  have Hst := Lib.hid hst
  clear hst hb0 hx hG hR hf hm ha hb hc hd
  unfold fourA at hW HS Hst
  unfold fourA
  go_enter Tryd.func10, Tryd.ntmps10
  go_upto_region 1 with (fail)
  rw [← hW]
  clear hW
  go_wp2_with fail
  refine (fawake_any W HS.out.gl HS.out.glr).mono ?_
  rintro _ w1 ⟨rfl, hb1⟩
  replace HS := Lib.hid (HS.out.below hb1 (Nat.le_refl _))
  clear hb1
  obtain ⟨k0, k1, k2, k3, k4, k5⟩ := HS.out.bx.six
  have xf : ∀ j, w1.frozen? ⟨w.heap.size, j, none⟩ = false := fun j => HS.out.bx.free j
  go_wp2_with fail
  refine (Hst.out w1).mono ?_
  rintro _ w2 ⟨n, k, a, b, c, d, hin, rfl, hb2⟩
  replace HS := Lib.hid (HS.out.below hb2 (Nat.le_refl _))
  clear hb2 k0 k1 k2 k3 k4 k5 xf Hst
  have HI := Lib.hid hin
  clear hin
  obtain ⟨k0, k1, k2, k3, k4, k5⟩ := HS.out.bx.six
  have xf : ∀ j, w2.frozen? ⟨w.heap.size, j, none⟩ = false := fun j => HS.out.bx.free j
  go_upto_region 4 with (fail)
  replace HS := Lib.hid (HS.out.set6 HGB.out HRB.out (.int .i64 n) (.int .i64 k) (.int .u64 a) (.int .u64 b) (.int .u64 c) (.int .u64 d))
  clear k0 k1 k2 k3 k4 k5 xf
  generalize (((((w2.setCell ⟨w.heap.size, 0, none⟩ (.int .i64 n)).setCell ⟨w.heap.size, 1, none⟩ (.int .i64 k)).setCell ⟨w.heap.size, 2, none⟩ (.int .u64 a)).setCell ⟨w.heap.size, 3, none⟩ (.int .u64 b)).setCell ⟨w.heap.size, 4, none⟩ (.int .u64 c)).setCell ⟨w.heap.size, 5, none⟩ (.int .u64 d) = W3 at *
  obtain ⟨k0, k1, k2, k3, k4, k5⟩ := HS.out.bx.six
  obtain ⟨hn, hk, hal, hbl, hcl, hdl⟩ := HI.out
  have ok := fm_ok n
  have qa := fun wx => lfinite_ok n a wx hn hal
  have Qa := Lib.hid qa
  have qb := fun wx => lfinite_ok n b wx hn hbl
  have Qb := Lib.hid qb
  have qc := fun wx => lfinite_ok n c wx hn hcl
  have Qc := Lib.hid qc
  have qd := fun wx => lfinite_ok n d wx hn hdl
  have Qd := Lib.hid qd
  clear qa qb qc qd
  have HN := Lib.hid (And.intro hn (And.intro hk (And.intro hal (And.intro hbl (And.intro hcl hdl)))))
  clear hn hk hal hbl hcl hdl ok HI
  by_cases fa : (fm n).abs a < (fm n).inf
  rotate_left
  · have q := Qa.out
    rw [decide_eq_false fa] at q
    have Q := Lib.hid q
    clear q fa
    go_wp2_with fail
    refine (Q.out _).mono ?_
    rintro _ wq ⟨rfl, hb⟩
    replace HS := Lib.hid (HS.out.below hb (Nat.le_refl _))
    clear hb k0 k1 k2 k3 k4 k5 Q
    go_wp2_with fail
    go_ret
    exact ⟨rfl, HS.out.bl⟩
  have q := Qa.out
  rw [decide_eq_true fa] at q
  have Q := Lib.hid q
  have Fa := Lib.hid fa
  clear q fa Qa
  go_wp2_with fail
  refine (Q.out _).mono ?_
  rintro _ W4 ⟨rfl, hb⟩
  replace HS := Lib.hid (HS.out.below hb (Nat.le_refl _))
  clear hb k0 k1 k2 k3 k4 k5 Q
  obtain ⟨k0, k1, k2, k3, k4, k5⟩ := HS.out.bx.six
  by_cases fb : (fm n).abs b < (fm n).inf
  rotate_left
  · have q := Qb.out
    rw [decide_eq_false fb] at q
    have Q := Lib.hid q
    clear q fb Fa
    go_wp2_with fail
    refine (Q.out _).mono ?_
    rintro _ wq ⟨rfl, hb⟩
    replace HS := Lib.hid (HS.out.below hb (Nat.le_refl _))
    clear hb k0 k1 k2 k3 k4 k5 Q
    go_wp2_with fail
    go_ret
    exact ⟨rfl, HS.out.bl⟩
  have q := Qb.out
  rw [decide_eq_true fb] at q
  have Q := Lib.hid q
  have Fb := Lib.hid fb
  clear q fb Qb
  go_wp2_with fail
  refine (Q.out _).mono ?_
  rintro _ W4 ⟨rfl, hb⟩
  replace HS := Lib.hid (HS.out.below hb (Nat.le_refl _))
  clear hb k0 k1 k2 k3 k4 k5 Q
  obtain ⟨k0, k1, k2, k3, k4, k5⟩ := HS.out.bx.six
  by_cases fc : (fm n).abs c < (fm n).inf
  rotate_left
  · have q := Qc.out
    rw [decide_eq_false fc] at q
    have Q := Lib.hid q
    clear q fc Fa Fb
    go_wp2_with fail
    refine (Q.out _).mono ?_
    rintro _ wq ⟨rfl, hb⟩
    replace HS := Lib.hid (HS.out.below hb (Nat.le_refl _))
    clear hb k0 k1 k2 k3 k4 k5 Q
    go_wp2_with fail
    go_ret
    exact ⟨rfl, HS.out.bl⟩
  have q := Qc.out
  rw [decide_eq_true fc] at q
  have Q := Lib.hid q
  have Fc := Lib.hid fc
  clear q fc Qc
  go_wp2_with fail
  refine (Q.out _).mono ?_
  rintro _ W4 ⟨rfl, hb⟩
  replace HS := Lib.hid (HS.out.below hb (Nat.le_refl _))
  clear hb k0 k1 k2 k3 k4 k5 Q
  obtain ⟨k0, k1, k2, k3, k4, k5⟩ := HS.out.bx.six
  by_cases fd : (fm n).abs d < (fm n).inf
  rotate_left
  · have q := Qd.out
    rw [decide_eq_false fd] at q
    have Q := Lib.hid q
    clear q fd Fa Fb Fc
    go_wp2_with fail
    refine (Q.out _).mono ?_
    rintro _ wq ⟨rfl, hb⟩
    replace HS := Lib.hid (HS.out.below hb (Nat.le_refl _))
    clear hb k0 k1 k2 k3 k4 k5 Q
    go_wp2_with fail
    go_ret
    exact ⟨rfl, HS.out.bl⟩
  have q := Qd.out
  rw [decide_eq_true fd] at q
  have Q := Lib.hid q
  have Fd := Lib.hid fd
  clear q fd Qd
  go_wp2_with fail
  refine (Q.out _).mono ?_
  rintro _ W4 ⟨rfl, hb⟩
  replace HS := Lib.hid (HS.out.below hb (Nat.le_refl _))
  clear hb k0 k1 k2 k3 k4 k5 Q
  obtain ⟨k0, k1, k2, k3, k4, k5⟩ := HS.out.bx.six
  obtain ⟨hn, hk, hal, hbl, hcl, hdl⟩ := HN.out
  have ok := fm_ok n
  have fa := Fa.out
  have fb := Fb.out
  have fc := Fc.out
  have fd := Fd.out
  clear HN Fa Fb Fc Fd
  obtain ⟨p, q, s, v, hp, hq, hs, hv, cs, cv, hlaw⟩ := layers_law ok fa fb fc fd
  have hlk := hlaw k
  have va := fun wx h1 h2 => lvalue_dv n a wx hn hal fa h1 h2
  have vb := fun wx h1 h2 => lvalue_dv n b wx hn hbl fb h1 h2
  have vc := fun wx h1 h2 => lvalue_dv n c wx hn hcl fc h1 h2
  have vd := fun wx h1 h2 => lvalue_dv n d wx hn hdl fd h1 h2
  have cm := fun wx h1 h2 => lfma_ok n k a b c d wx hn hk hal hbl hcl hdl h1 h2
  have c2 := fun wx h1 h2 => ldot2_ok n k a b c d wx hn hk hal hbl hcl hdl h1 h2
  have xl := (fuseZ_lt ok k (prodZ (fm n) a b) (oneZ (fm n) c)).1
  have yl := (fuseZ_lt ok k (prodZ (fm n) a b) (prodZ (fm n) c d)).1
  rw [← fmaZ ok] at xl
  rw [← dotZ ok] at yl
  have rx := fun wx => lrank_ok n _ wx hn xl
  have ry := fun wx => lrank_ok n _ wx hn yl
  have es := fun (h0 : s.n ≠ 0) A c1 wx h => Exact_ok n k s A c1 wx hn hk cs.own ⟨cs.sz, cs.lo, cs.hi⟩ h0 h
  have ev := fun (h0 : v.n ≠ 0) A c1 wx h => Exact_ok n k v A c1 wx hn hk cv.own ⟨cv.sz, cv.lo, cv.hi⟩ h0 h
  obtain ⟨fx, hfx⟩ : ∃ z, z = fmaS (fm n) k a b c := ⟨_, rfl⟩
  obtain ⟨fy, hfy⟩ : ∃ z, z = dot2S (fm n) k a b c d := ⟨_, rfl⟩
  rw [← hfx] at cm rx
  rw [← hfy] at c2 ry
  rw [← hfx, ← hfy] at hlk
  obtain ⟨ix, hix⟩ : ∃ z, z = intoS (fm n) k s.s s.n s.e false := ⟨_, rfl⟩
  obtain ⟨iy, hiy⟩ : ∃ z, z = intoS (fm n) k v.s v.n v.e false := ⟨_, rfl⟩
  rw [← hix] at es
  rw [← hiy] at ev
  rw [← hix, ← hiy] at hlk
  unfold fourA at cm c2
  have VA := Lib.hid va
  have VBb := Lib.hid vb
  have VC := Lib.hid vc
  have VD := Lib.hid vd
  have CM := Lib.hid cm
  have C2 := Lib.hid c2
  have RX := Lib.hid rx
  have RY := Lib.hid ry
  have ES := Lib.hid es
  have EV := Lib.hid ev
  have HP := Lib.hid hp
  have HQ := Lib.hid hq
  have HSs := Lib.hid hs
  have HV := Lib.hid hv
  have HL := Lib.hid hlk
  clear va vb vc vd cm c2 xl yl rx ry es ev hfx hfy hix hiy hp hq hs hv cs cv hlaw hlk hn hk hal hbl hcl hdl ok fa fb fc fd HGB HRB
  generalize hu : valD (fm n) a = ua at *
  generalize hv : valD (fm n) b = ub at *
  generalize hw : valD (fm n) c = uc at *
  generalize hz : valD (fm n) d = ud at *
  clear hu hv hw hz
  go_upto_region 6 with (fail)
  have hGX := HS.out.gl
  have hRX := HS.out.glr
  go_cut [3, 4] from 56 (fun p3 p4 wx => p4 = .int .i64 0 ∧ (∃ g, p3 = .pointer (some ⟨g, 0, none⟩) ∧ W4.heap.size ≤ g ∧ DVB W4.heap.size g p wx) ∧ Below W4.heap.size W4 wx)
  case first =>
    refine wp_region_JR [57, 58, 59, 60, 61, 62, 63, 64, 65, 66, 67, 56, 68, 69, 3, 4] (fun l vs wx => ∃ l0 l1 l2 l3 l4 l5 l6 l7 l8 l9 l10 l11 l12 l13 l14 l15 l16 v57 v58 v59 v60 v61 v62 v63 v64 v65 v66 v67 v56 v68 v69 v3 v4, l = [l0, l1, l2, l3, l4, l5, l6, l7, l8, l9, l10, l11, l12, l13, l14, l15, l16] ∧ vs = [v57, v58, v59, v60, v61, v62, v63, v64, v65, v66, v67, v56, v68, v69, v3, v4] ∧ Below W4.heap.size W4 wx ∧ (l0 = true → v57 = Value.pointer (some ⟨w.heap.size, 0, none⟩)) ∧ (l1 = true → v58 = Value.int IntKind.i64 n) ∧ (l2 = true → v59 = Value.pointer (some ⟨w.heap.size, 2, none⟩)) ∧ (l3 = true → v60 = Value.int IntKind.u64 a) ∧ (l4 = true → DV W4.heap.size wx v61 ua) ∧ (l5 = true → v62 = Value.pointer (some ⟨w.heap.size, 0, none⟩)) ∧ (l6 = true → v63 = Value.int IntKind.i64 n) ∧ (l7 = true → v64 = Value.pointer (some ⟨w.heap.size, 3, none⟩)) ∧ (l8 = true → v65 = Value.int IntKind.u64 b) ∧ (l9 = true → DV W4.heap.size wx v66 ub) ∧ (l10 = true → TupD W4.heap.size (p, (0 : Int)) v67 wx) ∧ (l11 = true → TupD W4.heap.size (p, (0 : Int)) v56 wx) ∧ (l13 = true → v69 = Value.int IntKind.i64 (p, (0 : Int)).2) ∧ (l16 = true → v4 = Value.int IntKind.i64 (p, (0 : Int)).2) ∧ SideD W4.heap.size (p, (0 : Int)).1 l12 l14 l15 v68 v3 wx) (by kernel_rfl) (by kernel_rfl) ?_ ?_ ?_ ?_
    · intro vs hvs
      obtain ⟨y0, y1, y2, y3, y4, y5, y6, y7, y8, y9, y10, y11, y12, y13, y14, y15, rfl⟩ : ∃ y0 y1 y2 y3 y4 y5 y6 y7 y8 y9 y10 y11 y12 y13 y14 y15, vs = [y0, y1, y2, y3, y4, y5, y6, y7, y8, y9, y10, y11, y12, y13, y14, y15] := by
        match vs, hvs with
        | [y0, y1, y2, y3, y4, y5, y6, y7, y8, y9, y10, y11, y12, y13, y14, y15], _ => exact ⟨y0, y1, y2, y3, y4, y5, y6, y7, y8, y9, y10, y11, y12, y13, y14, y15, rfl⟩
      exact ⟨false, false, false, false, false, false, false, false, false, false, false, false, false, false, false, false, false, y0, y1, y2, y3, y4, y5, y6, y7, y8, y9, y10, y11, y12, y13, y14, y15, rfl, rfl, (Below.refl _ _).drew, nofun, nofun, nofun, nofun, nofun, nofun, nofun, nofun, nofun, nofun, nofun, nofun, nofun, nofun, SideD.start ..⟩
    · refine ⟨?_, ?_, ?_, ?_, ?_, ?_, ?_, ?_, ?_, ?_, ?_, ?_, ?_, ?_, ?_, ?_, ?_, trivial⟩
      · rintro _ _ wx ⟨l0, l1, l2, l3, l4, l5, l6, l7, l8, l9, l10, l11, l12, l13, l14, l15, l16, v57, v58, v59, v60, v61, v62, v63, v64, v65, v66, v67, v56, v68, v69, v3, v4, rfl, rfl, hB, h0, h1, h2, h3, h4, h5, h6, h7, h8, h9, h10, h11, h13, h16, hS3⟩ hl hall K' hK
        clear hall hl
        clear k0 k1 k2 k3 k4 k5
        simp only [putL, Act.put, List.setIfInBounds_toArray, List.set_cons_zero, List.set_cons_succ]
        go_simp
        have hh := hK.out [Value.pointer (some ⟨w.heap.size, 0, none⟩), v58, v59, v60, v61, v62, v63, v64, v65, v66, v67, v56, v68, v69, v3, v4] wx ⟨true, l1, l2, l3, l4, l5, l6, l7, l8, l9, l10, l11, l12, l13, l14, l15, l16, Value.pointer (some ⟨w.heap.size, 0, none⟩), v58, v59, v60, v61, v62, v63, v64, v65, v66, v67, v56, v68, v69, v3, v4, rfl, rfl, hB, fun _ => rfl, h1, h2, h3, h4, h5, h6, h7, h8, h9, h10, h11, h13, h16, hS3⟩
        simp only [putL, Act.put, List.setIfInBounds_toArray, List.set_cons_zero, List.set_cons_succ] at hh
        exact hh
      · rintro _ _ wx ⟨l0, l1, l2, l3, l4, l5, l6, l7, l8, l9, l10, l11, l12, l13, l14, l15, l16, v57, v58, v59, v60, v61, v62, v63, v64, v65, v66, v67, v56, v68, v69, v3, v4, rfl, rfl, hB, h0, h1, h2, h3, h4, h5, h6, h7, h8, h9, h10, h11, h13, h16, hS3⟩ hl hall K' hK
        have e0l : l0 = true := hall ⟨0, .data⟩ (by simp) (by rfl)
        clear hall hl
        subst e0l
        have q0 := keep_cell hB k0
        clear k0 k1 k2 k3 k4 k5
        simp only [putL, Act.put, List.setIfInBounds_toArray, List.set_cons_zero, List.set_cons_succ]
        have e0 := h0 rfl
        simp only [e0]
        go_simp
        have hh := hK.out [v57, Value.int IntKind.i64 n, v59, v60, v61, v62, v63, v64, v65, v66, v67, v56, v68, v69, v3, v4] wx ⟨true, true, l2, l3, l4, l5, l6, l7, l8, l9, l10, l11, l12, l13, l14, l15, l16, v57, Value.int IntKind.i64 n, v59, v60, v61, v62, v63, v64, v65, v66, v67, v56, v68, v69, v3, v4, rfl, rfl, hB, h0, fun _ => rfl, h2, h3, h4, h5, h6, h7, h8, h9, h10, h11, h13, h16, hS3⟩
        simp only [putL, Act.put, List.setIfInBounds_toArray, List.set_cons_zero, List.set_cons_succ] at hh
        simp only [e0] at hh
        exact hh
      · rintro _ _ wx ⟨l0, l1, l2, l3, l4, l5, l6, l7, l8, l9, l10, l11, l12, l13, l14, l15, l16, v57, v58, v59, v60, v61, v62, v63, v64, v65, v66, v67, v56, v68, v69, v3, v4, rfl, rfl, hB, h0, h1, h2, h3, h4, h5, h6, h7, h8, h9, h10, h11, h13, h16, hS3⟩ hl hall K' hK
        clear hall hl
        clear k0 k1 k2 k3 k4 k5
        simp only [putL, Act.put, List.setIfInBounds_toArray, List.set_cons_zero, List.set_cons_succ]
        go_simp
        have hh := hK.out [v57, v58, Value.pointer (some ⟨w.heap.size, 2, none⟩), v60, v61, v62, v63, v64, v65, v66, v67, v56, v68, v69, v3, v4] wx ⟨l0, l1, true, l3, l4, l5, l6, l7, l8, l9, l10, l11, l12, l13, l14, l15, l16, v57, v58, Value.pointer (some ⟨w.heap.size, 2, none⟩), v60, v61, v62, v63, v64, v65, v66, v67, v56, v68, v69, v3, v4, rfl, rfl, hB, h0, h1, fun _ => rfl, h3, h4, h5, h6, h7, h8, h9, h10, h11, h13, h16, hS3⟩
        simp only [putL, Act.put, List.setIfInBounds_toArray, List.set_cons_zero, List.set_cons_succ] at hh
        exact hh
      · rintro _ _ wx ⟨l0, l1, l2, l3, l4, l5, l6, l7, l8, l9, l10, l11, l12, l13, l14, l15, l16, v57, v58, v59, v60, v61, v62, v63, v64, v65, v66, v67, v56, v68, v69, v3, v4, rfl, rfl, hB, h0, h1, h2, h3, h4, h5, h6, h7, h8, h9, h10, h11, h13, h16, hS3⟩ hl hall K' hK
        have e2l : l2 = true := hall ⟨2, .data⟩ (by simp) (by rfl)
        clear hall hl
        subst e2l
        have q0 := keep_cell hB k2
        clear k0 k1 k2 k3 k4 k5
        simp only [putL, Act.put, List.setIfInBounds_toArray, List.set_cons_zero, List.set_cons_succ]
        have e2 := h2 rfl
        simp only [e2]
        go_simp
        have hh := hK.out [v57, v58, v59, Value.int IntKind.u64 a, v61, v62, v63, v64, v65, v66, v67, v56, v68, v69, v3, v4] wx ⟨l0, l1, true, true, l4, l5, l6, l7, l8, l9, l10, l11, l12, l13, l14, l15, l16, v57, v58, v59, Value.int IntKind.u64 a, v61, v62, v63, v64, v65, v66, v67, v56, v68, v69, v3, v4, rfl, rfl, hB, h0, h1, h2, fun _ => rfl, h4, h5, h6, h7, h8, h9, h10, h11, h13, h16, hS3⟩
        simp only [putL, Act.put, List.setIfInBounds_toArray, List.set_cons_zero, List.set_cons_succ] at hh
        simp only [e2] at hh
        exact hh
      · rintro _ _ wx ⟨l0, l1, l2, l3, l4, l5, l6, l7, l8, l9, l10, l11, l12, l13, l14, l15, l16, v57, v58, v59, v60, v61, v62, v63, v64, v65, v66, v67, v56, v68, v69, v3, v4, rfl, rfl, hB, h0, h1, h2, h3, h4, h5, h6, h7, h8, h9, h10, h11, h13, h16, hS3⟩ hl hall K' hK
        have e1l : l1 = true := hall ⟨1, .data⟩ (by simp) (by rfl)
        have e3l : l3 = true := hall ⟨3, .data⟩ (by simp) (by rfl)
        clear hall hl
        subst e1l e3l
        clear k0 k1 k2 k3 k4 k5
        simp only [putL, Act.put, List.setIfInBounds_toArray, List.set_cons_zero, List.set_cons_succ]
        have e1 := h1 rfl
        have e3 := h3 rfl
        simp only [e1, e3]
        go_simp
        refine (VA.out wx (hGX.below hB) (hRX.below hB)).mono ?_
        rintro e w2 ⟨x2, rfl, hV2, hx1⟩
        go_simp
        have hh := hK.out [v57, v58, v59, v60, x2, v62, v63, v64, v65, v66, v67, v56, v68, v69, v3, v4] w2 ⟨l0, true, l2, true, true, l5, l6, l7, l8, l9, l10, l11, l12, l13, l14, l15, l16, v57, v58, v59, v60, x2, v62, v63, v64, v65, v66, v67, v56, v68, v69, v3, v4, rfl, rfl, keep_below hB hx1, h0, h1, h2, h3, fun _ => hV2.mono hB.size, h5, h6, h7, h8, fun h => (h9 h).below hx1, fun h => (h10 h).below hx1, fun h => (h11 h).below hx1, h13, h16, hS3.below hx1⟩
        simp only [putL, Act.put, List.setIfInBounds_toArray, List.set_cons_zero, List.set_cons_succ] at hh
        simp only [e1, e3] at hh
        exact hh
      · rintro _ _ wx ⟨l0, l1, l2, l3, l4, l5, l6, l7, l8, l9, l10, l11, l12, l13, l14, l15, l16, v57, v58, v59, v60, v61, v62, v63, v64, v65, v66, v67, v56, v68, v69, v3, v4, rfl, rfl, hB, h0, h1, h2, h3, h4, h5, h6, h7, h8, h9, h10, h11, h13, h16, hS3⟩ hl hall K' hK
        clear hall hl
        clear k0 k1 k2 k3 k4 k5
        simp only [putL, Act.put, List.setIfInBounds_toArray, List.set_cons_zero, List.set_cons_succ]
        go_simp
        have hh := hK.out [v57, v58, v59, v60, v61, Value.pointer (some ⟨w.heap.size, 0, none⟩), v63, v64, v65, v66, v67, v56, v68, v69, v3, v4] wx ⟨l0, l1, l2, l3, l4, true, l6, l7, l8, l9, l10, l11, l12, l13, l14, l15, l16, v57, v58, v59, v60, v61, Value.pointer (some ⟨w.heap.size, 0, none⟩), v63, v64, v65, v66, v67, v56, v68, v69, v3, v4, rfl, rfl, hB, h0, h1, h2, h3, h4, fun _ => rfl, h6, h7, h8, h9, h10, h11, h13, h16, hS3⟩
        simp only [putL, Act.put, List.setIfInBounds_toArray, List.set_cons_zero, List.set_cons_succ] at hh
        exact hh
      · rintro _ _ wx ⟨l0, l1, l2, l3, l4, l5, l6, l7, l8, l9, l10, l11, l12, l13, l14, l15, l16, v57, v58, v59, v60, v61, v62, v63, v64, v65, v66, v67, v56, v68, v69, v3, v4, rfl, rfl, hB, h0, h1, h2, h3, h4, h5, h6, h7, h8, h9, h10, h11, h13, h16, hS3⟩ hl hall K' hK
        have e5l : l5 = true := hall ⟨5, .data⟩ (by simp) (by rfl)
        clear hall hl
        subst e5l
        have q0 := keep_cell hB k0
        clear k0 k1 k2 k3 k4 k5
        simp only [putL, Act.put, List.setIfInBounds_toArray, List.set_cons_zero, List.set_cons_succ]
        have e5 := h5 rfl
        simp only [e5]
        go_simp
        have hh := hK.out [v57, v58, v59, v60, v61, v62, Value.int IntKind.i64 n, v64, v65, v66, v67, v56, v68, v69, v3, v4] wx ⟨l0, l1, l2, l3, l4, true, true, l7, l8, l9, l10, l11, l12, l13, l14, l15, l16, v57, v58, v59, v60, v61, v62, Value.int IntKind.i64 n, v64, v65, v66, v67, v56, v68, v69, v3, v4, rfl, rfl, hB, h0, h1, h2, h3, h4, h5, fun _ => rfl, h7, h8, h9, h10, h11, h13, h16, hS3⟩
        simp only [putL, Act.put, List.setIfInBounds_toArray, List.set_cons_zero, List.set_cons_succ] at hh
        simp only [e5] at hh
        exact hh
      · rintro _ _ wx ⟨l0, l1, l2, l3, l4, l5, l6, l7, l8, l9, l10, l11, l12, l13, l14, l15, l16, v57, v58, v59, v60, v61, v62, v63, v64, v65, v66, v67, v56, v68, v69, v3, v4, rfl, rfl, hB, h0, h1, h2, h3, h4, h5, h6, h7, h8, h9, h10, h11, h13, h16, hS3⟩ hl hall K' hK
        clear hall hl
        clear k0 k1 k2 k3 k4 k5
        simp only [putL, Act.put, List.setIfInBounds_toArray, List.set_cons_zero, List.set_cons_succ]
        go_simp
        have hh := hK.out [v57, v58, v59, v60, v61, v62, v63, Value.pointer (some ⟨w.heap.size, 3, none⟩), v65, v66, v67, v56, v68, v69, v3, v4] wx ⟨l0, l1, l2, l3, l4, l5, l6, true, l8, l9, l10, l11, l12, l13, l14, l15, l16, v57, v58, v59, v60, v61, v62, v63, Value.pointer (some ⟨w.heap.size, 3, none⟩), v65, v66, v67, v56, v68, v69, v3, v4, rfl, rfl, hB, h0, h1, h2, h3, h4, h5, h6, fun _ => rfl, h8, h9, h10, h11, h13, h16, hS3⟩
        simp only [putL, Act.put, List.setIfInBounds_toArray, List.set_cons_zero, List.set_cons_succ] at hh
        exact hh
      · rintro _ _ wx ⟨l0, l1, l2, l3, l4, l5, l6, l7, l8, l9, l10, l11, l12, l13, l14, l15, l16, v57, v58, v59, v60, v61, v62, v63, v64, v65, v66, v67, v56, v68, v69, v3, v4, rfl, rfl, hB, h0, h1, h2, h3, h4, h5, h6, h7, h8, h9, h10, h11, h13, h16, hS3⟩ hl hall K' hK
        have e7l : l7 = true := hall ⟨7, .data⟩ (by simp) (by rfl)
        clear hall hl
        subst e7l
        have q0 := keep_cell hB k3
        clear k0 k1 k2 k3 k4 k5
        simp only [putL, Act.put, List.setIfInBounds_toArray, List.set_cons_zero, List.set_cons_succ]
        have e7 := h7 rfl
        simp only [e7]
        go_simp
        have hh := hK.out [v57, v58, v59, v60, v61, v62, v63, v64, Value.int IntKind.u64 b, v66, v67, v56, v68, v69, v3, v4] wx ⟨l0, l1, l2, l3, l4, l5, l6, true, true, l9, l10, l11, l12, l13, l14, l15, l16, v57, v58, v59, v60, v61, v62, v63, v64, Value.int IntKind.u64 b, v66, v67, v56, v68, v69, v3, v4, rfl, rfl, hB, h0, h1, h2, h3, h4, h5, h6, h7, fun _ => rfl, h9, h10, h11, h13, h16, hS3⟩
        simp only [putL, Act.put, List.setIfInBounds_toArray, List.set_cons_zero, List.set_cons_succ] at hh
        simp only [e7] at hh
        exact hh
      · rintro _ _ wx ⟨l0, l1, l2, l3, l4, l5, l6, l7, l8, l9, l10, l11, l12, l13, l14, l15, l16, v57, v58, v59, v60, v61, v62, v63, v64, v65, v66, v67, v56, v68, v69, v3, v4, rfl, rfl, hB, h0, h1, h2, h3, h4, h5, h6, h7, h8, h9, h10, h11, h13, h16, hS3⟩ hl hall K' hK
        have e6l : l6 = true := hall ⟨6, .data⟩ (by simp) (by rfl)
        have e8l : l8 = true := hall ⟨8, .data⟩ (by simp) (by rfl)
        clear hall hl
        subst e6l e8l
        clear k0 k1 k2 k3 k4 k5
        simp only [putL, Act.put, List.setIfInBounds_toArray, List.set_cons_zero, List.set_cons_succ]
        have e6 := h6 rfl
        have e8 := h8 rfl
        simp only [e6, e8]
        go_simp
        refine (VBb.out wx (hGX.below hB) (hRX.below hB)).mono ?_
        rintro e w2 ⟨x2, rfl, hV2, hx1⟩
        go_simp
        have hh := hK.out [v57, v58, v59, v60, v61, v62, v63, v64, v65, x2, v67, v56, v68, v69, v3, v4] w2 ⟨l0, l1, l2, l3, l4, l5, true, l7, true, true, l10, l11, l12, l13, l14, l15, l16, v57, v58, v59, v60, v61, v62, v63, v64, v65, x2, v67, v56, v68, v69, v3, v4, rfl, rfl, keep_below hB hx1, h0, h1, h2, h3, fun h => (h4 h).below hx1, h5, h6, h7, h8, fun _ => hV2.mono hB.size, fun h => (h10 h).below hx1, fun h => (h11 h).below hx1, h13, h16, hS3.below hx1⟩
        simp only [putL, Act.put, List.setIfInBounds_toArray, List.set_cons_zero, List.set_cons_succ] at hh
        simp only [e6, e8] at hh
        exact hh
      · rintro _ _ wx ⟨l0, l1, l2, l3, l4, l5, l6, l7, l8, l9, l10, l11, l12, l13, l14, l15, l16, v57, v58, v59, v60, v61, v62, v63, v64, v65, v66, v67, v56, v68, v69, v3, v4, rfl, rfl, hB, h0, h1, h2, h3, h4, h5, h6, h7, h8, h9, h10, h11, h13, h16, hS3⟩ hl hall K' hK
        have e4l : l4 = true := hall ⟨4, .data⟩ (by simp) (by rfl)
        have e9l : l9 = true := hall ⟨9, .data⟩ (by simp) (by rfl)
        clear hall hl
        subst e4l e9l
        clear k0 k1 k2 k3 k4 k5
        simp only [putL, Act.put, List.setIfInBounds_toArray, List.set_cons_zero, List.set_cons_succ]
        obtain ⟨A4, c4, e4, -, -, hR4, hF4⟩ := h4 rfl
        obtain ⟨A9, c9, e9, -, -, hR9, hF9⟩ := h9 rfl
        simp only [e4, e9]
        go_simp
        refine (DMul_any ua.s ub.s A4 A9 ua.n (nd 64 ua.n) c4 ub.n (nd 64 ub.n) c9 ua.e ub.e wx hR4 hR9 (hGX.below hB)).mono ?_
        rintro e w2 ⟨x2, rfl, hV2, hx1⟩
        rw [HP.out] at hV2 ⊢
        go_simp
        have hh := hK.out [v57, v58, v59, v60, v61, v62, v63, v64, v65, v66, .tuple #[x2, .int .i64 (p, (0 : Int)).2], v56, v68, v69, v3, v4] w2 ⟨l0, l1, l2, l3, true, l5, l6, l7, l8, true, true, l11, l12, l13, l14, l15, l16, v57, v58, v59, v60, v61, v62, v63, v64, v65, v66, .tuple #[x2, .int .i64 (p, (0 : Int)).2], v56, v68, v69, v3, v4, rfl, rfl, keep_below hB hx1, h0, h1, h2, h3, fun h => (h4 h).below hx1, h5, h6, h7, h8, fun h => (h9 h).below hx1, fun _ => ⟨x2, rfl, hV2.mono hB.size⟩, fun h => (h11 h).below hx1, h13, h16, hS3.below hx1⟩
        simp only [putL, Act.put, List.setIfInBounds_toArray, List.set_cons_zero, List.set_cons_succ] at hh
        simp only [e4, e9] at hh
        exact hh
      · rintro _ _ wx ⟨l0, l1, l2, l3, l4, l5, l6, l7, l8, l9, l10, l11, l12, l13, l14, l15, l16, v57, v58, v59, v60, v61, v62, v63, v64, v65, v66, v67, v56, v68, v69, v3, v4, rfl, rfl, hB, h0, h1, h2, h3, h4, h5, h6, h7, h8, h9, h10, h11, h13, h16, hS3⟩ hl hall K' hK
        have e10l : l10 = true := hall ⟨10, .data⟩ (by simp) (by rfl)
        clear hall hl
        subst e10l
        clear k0 k1 k2 k3 k4 k5
        simp only [putL, Act.put, List.setIfInBounds_toArray, List.set_cons_zero, List.set_cons_succ]
        obtain ⟨x10, e10, hV10⟩ := h10 rfl
        simp only [e10]
        go_simp
        have hh := hK.out [v57, v58, v59, v60, v61, v62, v63, v64, v65, v66, v67, v67, v68, v69, v3, v4] wx ⟨l0, l1, l2, l3, l4, l5, l6, l7, l8, l9, true, true, l12, l13, l14, l15, l16, v57, v58, v59, v60, v61, v62, v63, v64, v65, v66, v67, v67, v68, v69, v3, v4, rfl, rfl, hB, h0, h1, h2, h3, h4, h5, h6, h7, h8, h9, h10, fun _ => h10 rfl, h13, h16, hS3⟩
        simp only [putL, Act.put, List.setIfInBounds_toArray, List.set_cons_zero, List.set_cons_succ] at hh
        simp only [e10] at hh
        exact hh
      · rintro _ _ wx ⟨l0, l1, l2, l3, l4, l5, l6, l7, l8, l9, l10, l11, l12, l13, l14, l15, l16, v57, v58, v59, v60, v61, v62, v63, v64, v65, v66, v67, v56, v68, v69, v3, v4, rfl, rfl, hB, h0, h1, h2, h3, h4, h5, h6, h7, h8, h9, h10, h11, h13, h16, hS3⟩ hl hall K' hK
        have e11l : l11 = true := hall ⟨11, .data⟩ (by simp) (by rfl)
        have e12l : l12 = false := by simpa using hl
        clear hall hl
        subst e11l e12l
        clear k0 k1 k2 k3 k4 k5
        simp only [putL, Act.put, List.setIfInBounds_toArray, List.set_cons_zero, List.set_cons_succ]
        obtain ⟨x11, e11, hV11⟩ := h11 rfl
        simp only [e11]
        go_simp
        have hh := hK.out [v57, v58, v59, v60, v61, v62, v63, v64, v65, v66, v67, v56, x11, v69, v3, v4] wx ⟨l0, l1, l2, l3, l4, l5, l6, l7, l8, l9, l10, true, true, l13, l14, l15, l16, v57, v58, v59, v60, v61, v62, v63, v64, v65, v66, v67, v56, x11, v69, v3, v4, rfl, rfl, hB, h0, h1, h2, h3, h4, h5, h6, h7, h8, h9, h10, h11, h13, h16, hS3.call (Below.refl _ _) hV11⟩
        simp only [putL, Act.put, List.setIfInBounds_toArray, List.set_cons_zero, List.set_cons_succ] at hh
        simp only [e11] at hh
        exact hh
      · rintro _ _ wx ⟨l0, l1, l2, l3, l4, l5, l6, l7, l8, l9, l10, l11, l12, l13, l14, l15, l16, v57, v58, v59, v60, v61, v62, v63, v64, v65, v66, v67, v56, v68, v69, v3, v4, rfl, rfl, hB, h0, h1, h2, h3, h4, h5, h6, h7, h8, h9, h10, h11, h13, h16, hS3⟩ hl hall K' hK
        have e11l : l11 = true := hall ⟨11, .data⟩ (by simp) (by rfl)
        clear hall hl
        subst e11l
        clear k0 k1 k2 k3 k4 k5
        simp only [putL, Act.put, List.setIfInBounds_toArray, List.set_cons_zero, List.set_cons_succ]
        obtain ⟨x11, e11, hV11⟩ := h11 rfl
        simp only [e11]
        go_simp
        have hh := hK.out [v57, v58, v59, v60, v61, v62, v63, v64, v65, v66, v67, v56, v68, .int .i64 (p, (0 : Int)).2, v3, v4] wx ⟨l0, l1, l2, l3, l4, l5, l6, l7, l8, l9, l10, true, l12, true, l14, l15, l16, v57, v58, v59, v60, v61, v62, v63, v64, v65, v66, v67, v56, v68, .int .i64 (p, (0 : Int)).2, v3, v4, rfl, rfl, hB, h0, h1, h2, h3, h4, h5, h6, h7, h8, h9, h10, h11, fun _ => rfl, h16, hS3⟩
        simp only [putL, Act.put, List.setIfInBounds_toArray, List.set_cons_zero, List.set_cons_succ] at hh
        simp only [e11] at hh
        exact hh
      · rintro _ _ wx ⟨l0, l1, l2, l3, l4, l5, l6, l7, l8, l9, l10, l11, l12, l13, l14, l15, l16, v57, v58, v59, v60, v61, v62, v63, v64, v65, v66, v67, v56, v68, v69, v3, v4, rfl, rfl, hB, h0, h1, h2, h3, h4, h5, h6, h7, h8, h9, h10, h11, h13, h16, hS3⟩ hl hall K' hK
        have e14l : l14 = false := by simpa using hl
        clear hall hl
        subst e14l
        clear k0 k1 k2 k3 k4 k5
        simp only [putL, Act.put, List.setIfInBounds_toArray, List.set_cons_zero, List.set_cons_succ]
        go_simp
        have hh := hK.out [v57, v58, v59, v60, v61, v62, v63, v64, v65, v66, v67, v56, v68, v69, .pointer (some ⟨wx.heap.size, 0, none⟩), v4] (wx.alloc (Obj.cells #[Value.bool false, Value.slice none 0 0, Value.int IntKind.i64 0] 53)) ⟨l0, l1, l2, l3, l4, l5, l6, l7, l8, l9, l10, l11, l12, l13, true, l15, l16, v57, v58, v59, v60, v61, v62, v63, v64, v65, v66, v67, v56, v68, v69, .pointer (some ⟨wx.heap.size, 0, none⟩), v4, rfl, rfl, below_alloc' hB _, h0, h1, h2, h3, fun h => (h4 h).below (below1 _ _), h5, h6, h7, h8, fun h => (h9 h).below (below1 _ _), fun h => (h10 h).below (below1 _ _), fun h => (h11 h).below (below1 _ _), h13, h16, hS3.make hB.size _ _ _⟩
        simp only [putL, Act.put, List.setIfInBounds_toArray, List.set_cons_zero, List.set_cons_succ] at hh
        exact hh
      · rintro _ _ wx ⟨l0, l1, l2, l3, l4, l5, l6, l7, l8, l9, l10, l11, l12, l13, l14, l15, l16, v57, v58, v59, v60, v61, v62, v63, v64, v65, v66, v67, v56, v68, v69, v3, v4, rfl, rfl, hB, h0, h1, h2, h3, h4, h5, h6, h7, h8, h9, h10, h11, h13, h16, hS3⟩ hl hall K' hK
        have e12l : l12 = true := hall ⟨12, .data⟩ (by simp) (by rfl)
        have e14l : l14 = true := hall ⟨14, .data⟩ (by simp) (by rfl)
        clear hall hl
        subst e12l e14l
        clear k0 k1 k2 k3 k4 k5
        simp only [putL, Act.put, List.setIfInBounds_toArray, List.set_cons_zero, List.set_cons_succ]
        obtain ⟨A12, c12, e12, -, -, hR12, hF12⟩ := hS3.1 rfl
        obtain ⟨g, a, b, c, eg, hg, hb⟩ := hS3.ptr
        obtain ⟨r0, r1, r2, r3, _⟩ := hb.box3.cells
        simp only [e12, eg]
        go_simp
        have hh := hK.out [v57, v58, v59, v60, v61, v62, v63, v64, v65, v66, v67, v56, v68, v69, v3, v4] (((wx.setCell ⟨g, 0, none⟩ (.bool (p, (0 : Int)).1.s)).setCell ⟨g, 1, none⟩ (.slice A12 (nd 64 (p, (0 : Int)).1.n) c12)).setCell ⟨g, 2, none⟩ (.int .i64 (p, (0 : Int)).1.e)) ⟨l0, l1, l2, l3, l4, l5, l6, l7, l8, l9, l10, l11, true, l13, true, true, l16, v57, v58, v59, v60, v61, v62, v63, v64, v65, v66, v67, v56, v68, v69, v3, v4, rfl, rfl, below_box hB hg _ _ _, h0, h1, h2, h3, fun h => (h4 h).wd hb.wd, h5, h6, h7, h8, fun h => (h9 h).wd hb.wd, fun h => (h10 h).wd hb.wd, fun h => (h11 h).wd hb.wd, h13, h16, (by have h := hS3; rw [eg, e12] at h ⊢; exact h.store)⟩
        simp only [putL, Act.put, List.setIfInBounds_toArray, List.set_cons_zero, List.set_cons_succ] at hh
        simp only [e12, eg] at hh
        exact hh
      · rintro _ _ wx ⟨l0, l1, l2, l3, l4, l5, l6, l7, l8, l9, l10, l11, l12, l13, l14, l15, l16, v57, v58, v59, v60, v61, v62, v63, v64, v65, v66, v67, v56, v68, v69, v3, v4, rfl, rfl, hB, h0, h1, h2, h3, h4, h5, h6, h7, h8, h9, h10, h11, h13, h16, hS3⟩ hl hall K' hK
        have e13l : l13 = true := hall ⟨13, .data⟩ (by simp) (by rfl)
        clear hall hl
        subst e13l
        clear k0 k1 k2 k3 k4 k5
        simp only [putL, Act.put, List.setIfInBounds_toArray, List.set_cons_zero, List.set_cons_succ]
        have e13 := h13 rfl
        simp only [e13]
        go_simp
        have hh := hK.out [v57, v58, v59, v60, v61, v62, v63, v64, v65, v66, v67, v56, v68, v69, v3, v69] wx ⟨l0, l1, l2, l3, l4, l5, l6, l7, l8, l9, l10, l11, l12, true, l14, l15, true, v57, v58, v59, v60, v61, v62, v63, v64, v65, v66, v67, v56, v68, v69, v3, v69, rfl, rfl, hB, h0, h1, h2, h3, h4, h5, h6, h7, h8, h9, h10, h11, h13, fun _ => e13, hS3⟩
        simp only [putL, Act.put, List.setIfInBounds_toArray, List.set_cons_zero, List.set_cons_succ] at hh
        simp only [e13] at hh
        exact hh
    · rintro vs wx ⟨l0, l1, l2, l3, l4, l5, l6, l7, l8, l9, l10, l11, l12, l13, l14, l15, l16, v57, v58, v59, v60, v61, v62, v63, v64, v65, v66, v67, v56, v68, v69, v3, v4, hl, rfl, hB, h0, h1, h2, h3, h4, h5, h6, h7, h8, h9, h10, h11, h13, h16, hS3⟩
      obtain ⟨rfl, rfl, rfl, rfl, rfl, rfl, rfl, rfl, rfl, rfl, rfl, rfl, rfl, rfl, rfl, rfl, rfl⟩ : true = l0 ∧ true = l1 ∧ true = l2 ∧ true = l3 ∧ true = l4 ∧ true = l5 ∧ true = l6 ∧ true = l7 ∧ true = l8 ∧ true = l9 ∧ true = l10 ∧ true = l11 ∧ true = l12 ∧ true = l13 ∧ true = l14 ∧ true = l15 ∧ true = l16 := by simpa using hl
      simp only [putL, Act.put, List.setIfInBounds_toArray, List.set_cons_zero, List.set_cons_succ]
      go_wp2_with fail
      go_meet
      case rel => exact ⟨rfl, hS3.dvb, hB⟩
    · rintro _ vs wx ⟨l0, l1, l2, l3, l4, l5, l6, l7, l8, l9, l10, l11, l12, l13, l14, l15, l16, v57, v58, v59, v60, v61, v62, v63, v64, v65, v66, v67, v56, v68, v69, v3, v4, rfl, _⟩
      rfl
  case rest =>
    obtain ⟨rfl, ⟨g3, rfl, hg, hf⟩, hbc⟩ := hcut
    replace HS := Lib.hid (HS.out.below hbc (Nat.le_refl _))
    have DP := Lib.hid (hf.mono (Nat.zero_le _))
    clear hbc hf hg hGX hRX k0 k1 k2 k3 k4 k5 VA VBb
    generalize wc = W5 at *
    obtain ⟨k0, k1, k2, k3, k4, k5⟩ := HS.out.bx.six
    go_upto_region 7 with (fail)
    have hGX := HS.out.gl
    have hRX := HS.out.glr
    go_cut [5, 6] from 70 (fun p5 p6 wx => p6 = .int .i64 0 ∧ (∃ g, p5 = .pointer (some ⟨g, 0, none⟩) ∧ W5.heap.size ≤ g ∧ DVB W5.heap.size g q wx) ∧ Below W5.heap.size W5 wx)
    case first =>
      refine wp_region_JR [71, 72, 73, 74, 75, 76, 77, 78, 79, 80, 81, 70, 82, 83, 5, 6] (fun l vs wx => ∃ l0 l1 l2 l3 l4 l5 l6 l7 l8 l9 l10 l11 l12 l13 l14 l15 l16 v71 v72 v73 v74 v75 v76 v77 v78 v79 v80 v81 v70 v82 v83 v5 v6, l = [l0, l1, l2, l3, l4, l5, l6, l7, l8, l9, l10, l11, l12, l13, l14, l15, l16] ∧ vs = [v71, v72, v73, v74, v75, v76, v77, v78, v79, v80, v81, v70, v82, v83, v5, v6] ∧ Below W5.heap.size W5 wx ∧ (l0 = true → v71 = Value.pointer (some ⟨w.heap.size, 0, none⟩)) ∧ (l1 = true → v72 = Value.int IntKind.i64 n) ∧ (l2 = true → v73 = Value.pointer (some ⟨w.heap.size, 4, none⟩)) ∧ (l3 = true → v74 = Value.int IntKind.u64 c) ∧ (l4 = true → DV W5.heap.size wx v75 uc) ∧ (l5 = true → v76 = Value.pointer (some ⟨w.heap.size, 0, none⟩)) ∧ (l6 = true → v77 = Value.int IntKind.i64 n) ∧ (l7 = true → v78 = Value.pointer (some ⟨w.heap.size, 5, none⟩)) ∧ (l8 = true → v79 = Value.int IntKind.u64 d) ∧ (l9 = true → DV W5.heap.size wx v80 ud) ∧ (l10 = true → TupD W5.heap.size (q, (0 : Int)) v81 wx) ∧ (l11 = true → TupD W5.heap.size (q, (0 : Int)) v70 wx) ∧ (l13 = true → v83 = Value.int IntKind.i64 (q, (0 : Int)).2) ∧ (l16 = true → v6 = Value.int IntKind.i64 (q, (0 : Int)).2) ∧ SideD W5.heap.size (q, (0 : Int)).1 l12 l14 l15 v82 v5 wx) (by kernel_rfl) (by kernel_rfl) ?_ ?_ ?_ ?_
      · intro vs hvs
        obtain ⟨y0, y1, y2, y3, y4, y5, y6, y7, y8, y9, y10, y11, y12, y13, y14, y15, rfl⟩ : ∃ y0 y1 y2 y3 y4 y5 y6 y7 y8 y9 y10 y11 y12 y13 y14 y15, vs = [y0, y1, y2, y3, y4, y5, y6, y7, y8, y9, y10, y11, y12, y13, y14, y15] := by
          match vs, hvs with
          | [y0, y1, y2, y3, y4, y5, y6, y7, y8, y9, y10, y11, y12, y13, y14, y15], _ => exact ⟨y0, y1, y2, y3, y4, y5, y6, y7, y8, y9, y10, y11, y12, y13, y14, y15, rfl⟩
        exact ⟨false, false, false, false, false, false, false, false, false, false, false, false, false, false, false, false, false, y0, y1, y2, y3, y4, y5, y6, y7, y8, y9, y10, y11, y12, y13, y14, y15, rfl, rfl, (Below.refl _ _).drew, nofun, nofun, nofun, nofun, nofun, nofun, nofun, nofun, nofun, nofun, nofun, nofun, nofun, nofun, SideD.start ..⟩
      · refine ⟨?_, ?_, ?_, ?_, ?_, ?_, ?_, ?_, ?_, ?_, ?_, ?_, ?_, ?_, ?_, ?_, ?_, trivial⟩
        · rintro _ _ wx ⟨l0, l1, l2, l3, l4, l5, l6, l7, l8, l9, l10, l11, l12, l13, l14, l15, l16, v71, v72, v73, v74, v75, v76, v77, v78, v79, v80, v81, v70, v82, v83, v5, v6, rfl, rfl, hB, h0, h1, h2, h3, h4, h5, h6, h7, h8, h9, h10, h11, h13, h16, hS5⟩ hl hall K' hK
          clear hall hl
          clear k0 k1 k2 k3 k4 k5
          simp only [putL, Act.put, List.setIfInBounds_toArray, List.set_cons_zero, List.set_cons_succ]
          go_simp
          have hh := hK.out [Value.pointer (some ⟨w.heap.size, 0, none⟩), v72, v73, v74, v75, v76, v77, v78, v79, v80, v81, v70, v82, v83, v5, v6] wx ⟨true, l1, l2, l3, l4, l5, l6, l7, l8, l9, l10, l11, l12, l13, l14, l15, l16, Value.pointer (some ⟨w.heap.size, 0, none⟩), v72, v73, v74, v75, v76, v77, v78, v79, v80, v81, v70, v82, v83, v5, v6, rfl, rfl, hB, fun _ => rfl, h1, h2, h3, h4, h5, h6, h7, h8, h9, h10, h11, h13, h16, hS5⟩
          simp only [putL, Act.put, List.setIfInBounds_toArray, List.set_cons_zero, List.set_cons_succ] at hh
          exact hh
        · rintro _ _ wx ⟨l0, l1, l2, l3, l4, l5, l6, l7, l8, l9, l10, l11, l12, l13, l14, l15, l16, v71, v72, v73, v74, v75, v76, v77, v78, v79, v80, v81, v70, v82, v83, v5, v6, rfl, rfl, hB, h0, h1, h2, h3, h4, h5, h6, h7, h8, h9, h10, h11, h13, h16, hS5⟩ hl hall K' hK
          have e0l : l0 = true := hall ⟨0, .data⟩ (by simp) (by rfl)
          clear hall hl
          subst e0l
          have q0 := keep_cell hB k0
          clear k0 k1 k2 k3 k4 k5
          simp only [putL, Act.put, List.setIfInBounds_toArray, List.set_cons_zero, List.set_cons_succ]
          have e0 := h0 rfl
          simp only [e0]
          go_simp
          have hh := hK.out [v71, Value.int IntKind.i64 n, v73, v74, v75, v76, v77, v78, v79, v80, v81, v70, v82, v83, v5, v6] wx ⟨true, true, l2, l3, l4, l5, l6, l7, l8, l9, l10, l11, l12, l13, l14, l15, l16, v71, Value.int IntKind.i64 n, v73, v74, v75, v76, v77, v78, v79, v80, v81, v70, v82, v83, v5, v6, rfl, rfl, hB, h0, fun _ => rfl, h2, h3, h4, h5, h6, h7, h8, h9, h10, h11, h13, h16, hS5⟩
          simp only [putL, Act.put, List.setIfInBounds_toArray, List.set_cons_zero, List.set_cons_succ] at hh
          simp only [e0] at hh
          exact hh
        · rintro _ _ wx ⟨l0, l1, l2, l3, l4, l5, l6, l7, l8, l9, l10, l11, l12, l13, l14, l15, l16, v71, v72, v73, v74, v75, v76, v77, v78, v79, v80, v81, v70, v82, v83, v5, v6, rfl, rfl, hB, h0, h1, h2, h3, h4, h5, h6, h7, h8, h9, h10, h11, h13, h16, hS5⟩ hl hall K' hK
          clear hall hl
          clear k0 k1 k2 k3 k4 k5
          simp only [putL, Act.put, List.setIfInBounds_toArray, List.set_cons_zero, List.set_cons_succ]
          go_simp
          have hh := hK.out [v71, v72, Value.pointer (some ⟨w.heap.size, 4, none⟩), v74, v75, v76, v77, v78, v79, v80, v81, v70, v82, v83, v5, v6] wx ⟨l0, l1, true, l3, l4, l5, l6, l7, l8, l9, l10, l11, l12, l13, l14, l15, l16, v71, v72, Value.pointer (some ⟨w.heap.size, 4, none⟩), v74, v75, v76, v77, v78, v79, v80, v81, v70, v82, v83, v5, v6, rfl, rfl, hB, h0, h1, fun _ => rfl, h3, h4, h5, h6, h7, h8, h9, h10, h11, h13, h16, hS5⟩
          simp only [putL, Act.put, List.setIfInBounds_toArray, List.set_cons_zero, List.set_cons_succ] at hh
          exact hh
        · rintro _ _ wx ⟨l0, l1, l2, l3, l4, l5, l6, l7, l8, l9, l10, l11, l12, l13, l14, l15, l16, v71, v72, v73, v74, v75, v76, v77, v78, v79, v80, v81, v70, v82, v83, v5, v6, rfl, rfl, hB, h0, h1, h2, h3, h4, h5, h6, h7, h8, h9, h10, h11, h13, h16, hS5⟩ hl hall K' hK
          have e2l : l2 = true := hall ⟨2, .data⟩ (by simp) (by rfl)
          clear hall hl
          subst e2l
          have q0 := keep_cell hB k4
          clear k0 k1 k2 k3 k4 k5
          simp only [putL, Act.put, List.setIfInBounds_toArray, List.set_cons_zero, List.set_cons_succ]
          have e2 := h2 rfl
          simp only [e2]
          go_simp
          have hh := hK.out [v71, v72, v73, Value.int IntKind.u64 c, v75, v76, v77, v78, v79, v80, v81, v70, v82, v83, v5, v6] wx ⟨l0, l1, true, true, l4, l5, l6, l7, l8, l9, l10, l11, l12, l13, l14, l15, l16, v71, v72, v73, Value.int IntKind.u64 c, v75, v76, v77, v78, v79, v80, v81, v70, v82, v83, v5, v6, rfl, rfl, hB, h0, h1, h2, fun _ => rfl, h4, h5, h6, h7, h8, h9, h10, h11, h13, h16, hS5⟩
          simp only [putL, Act.put, List.setIfInBounds_toArray, List.set_cons_zero, List.set_cons_succ] at hh
          simp only [e2] at hh
          exact hh
        · rintro _ _ wx ⟨l0, l1, l2, l3, l4, l5, l6, l7, l8, l9, l10, l11, l12, l13, l14, l15, l16, v71, v72, v73, v74, v75, v76, v77, v78, v79, v80, v81, v70, v82, v83, v5, v6, rfl, rfl, hB, h0, h1, h2, h3, h4, h5, h6, h7, h8, h9, h10, h11, h13, h16, hS5⟩ hl hall K' hK
          have e1l : l1 = true := hall ⟨1, .data⟩ (by simp) (by rfl)
          have e3l : l3 = true := hall ⟨3, .data⟩ (by simp) (by rfl)
          clear hall hl
          subst e1l e3l
          clear k0 k1 k2 k3 k4 k5
          simp only [putL, Act.put, List.setIfInBounds_toArray, List.set_cons_zero, List.set_cons_succ]
          have e1 := h1 rfl
          have e3 := h3 rfl
          simp only [e1, e3]
          go_simp
          refine (VC.out wx (hGX.below hB) (hRX.below hB)).mono ?_
          rintro e w2 ⟨x2, rfl, hV2, hx1⟩
          go_simp
          have hh := hK.out [v71, v72, v73, v74, x2, v76, v77, v78, v79, v80, v81, v70, v82, v83, v5, v6] w2 ⟨l0, true, l2, true, true, l5, l6, l7, l8, l9, l10, l11, l12, l13, l14, l15, l16, v71, v72, v73, v74, x2, v76, v77, v78, v79, v80, v81, v70, v82, v83, v5, v6, rfl, rfl, keep_below hB hx1, h0, h1, h2, h3, fun _ => hV2.mono hB.size, h5, h6, h7, h8, fun h => (h9 h).below hx1, fun h => (h10 h).below hx1, fun h => (h11 h).below hx1, h13, h16, hS5.below hx1⟩
          simp only [putL, Act.put, List.setIfInBounds_toArray, List.set_cons_zero, List.set_cons_succ] at hh
          simp only [e1, e3] at hh
          exact hh
        · rintro _ _ wx ⟨l0, l1, l2, l3, l4, l5, l6, l7, l8, l9, l10, l11, l12, l13, l14, l15, l16, v71, v72, v73, v74, v75, v76, v77, v78, v79, v80, v81, v70, v82, v83, v5, v6, rfl, rfl, hB, h0, h1, h2, h3, h4, h5, h6, h7, h8, h9, h10, h11, h13, h16, hS5⟩ hl hall K' hK
          clear hall hl
          clear k0 k1 k2 k3 k4 k5
          simp only [putL, Act.put, List.setIfInBounds_toArray, List.set_cons_zero, List.set_cons_succ]
          go_simp
          have hh := hK.out [v71, v72, v73, v74, v75, Value.pointer (some ⟨w.heap.size, 0, none⟩), v77, v78, v79, v80, v81, v70, v82, v83, v5, v6] wx ⟨l0, l1, l2, l3, l4, true, l6, l7, l8, l9, l10, l11, l12, l13, l14, l15, l16, v71, v72, v73, v74, v75, Value.pointer (some ⟨w.heap.size, 0, none⟩), v77, v78, v79, v80, v81, v70, v82, v83, v5, v6, rfl, rfl, hB, h0, h1, h2, h3, h4, fun _ => rfl, h6, h7, h8, h9, h10, h11, h13, h16, hS5⟩
          simp only [putL, Act.put, List.setIfInBounds_toArray, List.set_cons_zero, List.set_cons_succ] at hh
          exact hh
        · rintro _ _ wx ⟨l0, l1, l2, l3, l4, l5, l6, l7, l8, l9, l10, l11, l12, l13, l14, l15, l16, v71, v72, v73, v74, v75, v76, v77, v78, v79, v80, v81, v70, v82, v83, v5, v6, rfl, rfl, hB, h0, h1, h2, h3, h4, h5, h6, h7, h8, h9, h10, h11, h13, h16, hS5⟩ hl hall K' hK
          have e5l : l5 = true := hall ⟨5, .data⟩ (by simp) (by rfl)
          clear hall hl
          subst e5l
          have q0 := keep_cell hB k0
          clear k0 k1 k2 k3 k4 k5
          simp only [putL, Act.put, List.setIfInBounds_toArray, List.set_cons_zero, List.set_cons_succ]
          have e5 := h5 rfl
          simp only [e5]
          go_simp
          have hh := hK.out [v71, v72, v73, v74, v75, v76, Value.int IntKind.i64 n, v78, v79, v80, v81, v70, v82, v83, v5, v6] wx ⟨l0, l1, l2, l3, l4, true, true, l7, l8, l9, l10, l11, l12, l13, l14, l15, l16, v71, v72, v73, v74, v75, v76, Value.int IntKind.i64 n, v78, v79, v80, v81, v70, v82, v83, v5, v6, rfl, rfl, hB, h0, h1, h2, h3, h4, h5, fun _ => rfl, h7, h8, h9, h10, h11, h13, h16, hS5⟩
          simp only [putL, Act.put, List.setIfInBounds_toArray, List.set_cons_zero, List.set_cons_succ] at hh
          simp only [e5] at hh
          exact hh
        · rintro _ _ wx ⟨l0, l1, l2, l3, l4, l5, l6, l7, l8, l9, l10, l11, l12, l13, l14, l15, l16, v71, v72, v73, v74, v75, v76, v77, v78, v79, v80, v81, v70, v82, v83, v5, v6, rfl, rfl, hB, h0, h1, h2, h3, h4, h5, h6, h7, h8, h9, h10, h11, h13, h16, hS5⟩ hl hall K' hK
          clear hall hl
          clear k0 k1 k2 k3 k4 k5
          simp only [putL, Act.put, List.setIfInBounds_toArray, List.set_cons_zero, List.set_cons_succ]
          go_simp
          have hh := hK.out [v71, v72, v73, v74, v75, v76, v77, Value.pointer (some ⟨w.heap.size, 5, none⟩), v79, v80, v81, v70, v82, v83, v5, v6] wx ⟨l0, l1, l2, l3, l4, l5, l6, true, l8, l9, l10, l11, l12, l13, l14, l15, l16, v71, v72, v73, v74, v75, v76, v77, Value.pointer (some ⟨w.heap.size, 5, none⟩), v79, v80, v81, v70, v82, v83, v5, v6, rfl, rfl, hB, h0, h1, h2, h3, h4, h5, h6, fun _ => rfl, h8, h9, h10, h11, h13, h16, hS5⟩
          simp only [putL, Act.put, List.setIfInBounds_toArray, List.set_cons_zero, List.set_cons_succ] at hh
          exact hh
        · rintro _ _ wx ⟨l0, l1, l2, l3, l4, l5, l6, l7, l8, l9, l10, l11, l12, l13, l14, l15, l16, v71, v72, v73, v74, v75, v76, v77, v78, v79, v80, v81, v70, v82, v83, v5, v6, rfl, rfl, hB, h0, h1, h2, h3, h4, h5, h6, h7, h8, h9, h10, h11, h13, h16, hS5⟩ hl hall K' hK
          have e7l : l7 = true := hall ⟨7, .data⟩ (by simp) (by rfl)
          clear hall hl
          subst e7l
          have q0 := keep_cell hB k5
          clear k0 k1 k2 k3 k4 k5
          simp only [putL, Act.put, List.setIfInBounds_toArray, List.set_cons_zero, List.set_cons_succ]
          have e7 := h7 rfl
          simp only [e7]
          go_simp
          have hh := hK.out [v71, v72, v73, v74, v75, v76, v77, v78, Value.int IntKind.u64 d, v80, v81, v70, v82, v83, v5, v6] wx ⟨l0, l1, l2, l3, l4, l5, l6, true, true, l9, l10, l11, l12, l13, l14, l15, l16, v71, v72, v73, v74, v75, v76, v77, v78, Value.int IntKind.u64 d, v80, v81, v70, v82, v83, v5, v6, rfl, rfl, hB, h0, h1, h2, h3, h4, h5, h6, h7, fun _ => rfl, h9, h10, h11, h13, h16, hS5⟩
          simp only [putL, Act.put, List.setIfInBounds_toArray, List.set_cons_zero, List.set_cons_succ] at hh
          simp only [e7] at hh
          exact hh
        · rintro _ _ wx ⟨l0, l1, l2, l3, l4, l5, l6, l7, l8, l9, l10, l11, l12, l13, l14, l15, l16, v71, v72, v73, v74, v75, v76, v77, v78, v79, v80, v81, v70, v82, v83, v5, v6, rfl, rfl, hB, h0, h1, h2, h3, h4, h5, h6, h7, h8, h9, h10, h11, h13, h16, hS5⟩ hl hall K' hK
          have e6l : l6 = true := hall ⟨6, .data⟩ (by simp) (by rfl)
          have e8l : l8 = true := hall ⟨8, .data⟩ (by simp) (by rfl)
          clear hall hl
          subst e6l e8l
          clear k0 k1 k2 k3 k4 k5
          simp only [putL, Act.put, List.setIfInBounds_toArray, List.set_cons_zero, List.set_cons_succ]
          have e6 := h6 rfl
          have e8 := h8 rfl
          simp only [e6, e8]
          go_simp
          refine (VD.out wx (hGX.below hB) (hRX.below hB)).mono ?_
          rintro e w2 ⟨x2, rfl, hV2, hx1⟩
          go_simp
          have hh := hK.out [v71, v72, v73, v74, v75, v76, v77, v78, v79, x2, v81, v70, v82, v83, v5, v6] w2 ⟨l0, l1, l2, l3, l4, l5, true, l7, true, true, l10, l11, l12, l13, l14, l15, l16, v71, v72, v73, v74, v75, v76, v77, v78, v79, x2, v81, v70, v82, v83, v5, v6, rfl, rfl, keep_below hB hx1, h0, h1, h2, h3, fun h => (h4 h).below hx1, h5, h6, h7, h8, fun _ => hV2.mono hB.size, fun h => (h10 h).below hx1, fun h => (h11 h).below hx1, h13, h16, hS5.below hx1⟩
          simp only [putL, Act.put, List.setIfInBounds_toArray, List.set_cons_zero, List.set_cons_succ] at hh
          simp only [e6, e8] at hh
          exact hh
        · rintro _ _ wx ⟨l0, l1, l2, l3, l4, l5, l6, l7, l8, l9, l10, l11, l12, l13, l14, l15, l16, v71, v72, v73, v74, v75, v76, v77, v78, v79, v80, v81, v70, v82, v83, v5, v6, rfl, rfl, hB, h0, h1, h2, h3, h4, h5, h6, h7, h8, h9, h10, h11, h13, h16, hS5⟩ hl hall K' hK
          have e4l : l4 = true := hall ⟨4, .data⟩ (by simp) (by rfl)
          have e9l : l9 = true := hall ⟨9, .data⟩ (by simp) (by rfl)
          clear hall hl
          subst e4l e9l
          clear k0 k1 k2 k3 k4 k5
          simp only [putL, Act.put, List.setIfInBounds_toArray, List.set_cons_zero, List.set_cons_succ]
          obtain ⟨A4, c4, e4, -, -, hR4, hF4⟩ := h4 rfl
          obtain ⟨A9, c9, e9, -, -, hR9, hF9⟩ := h9 rfl
          simp only [e4, e9]
          go_simp
          refine (DMul_any uc.s ud.s A4 A9 uc.n (nd 64 uc.n) c4 ud.n (nd 64 ud.n) c9 uc.e ud.e wx hR4 hR9 (hGX.below hB)).mono ?_
          rintro e w2 ⟨x2, rfl, hV2, hx1⟩
          rw [HQ.out] at hV2 ⊢
          go_simp
          have hh := hK.out [v71, v72, v73, v74, v75, v76, v77, v78, v79, v80, .tuple #[x2, .int .i64 (q, (0 : Int)).2], v70, v82, v83, v5, v6] w2 ⟨l0, l1, l2, l3, true, l5, l6, l7, l8, true, true, l11, l12, l13, l14, l15, l16, v71, v72, v73, v74, v75, v76, v77, v78, v79, v80, .tuple #[x2, .int .i64 (q, (0 : Int)).2], v70, v82, v83, v5, v6, rfl, rfl, keep_below hB hx1, h0, h1, h2, h3, fun h => (h4 h).below hx1, h5, h6, h7, h8, fun h => (h9 h).below hx1, fun _ => ⟨x2, rfl, hV2.mono hB.size⟩, fun h => (h11 h).below hx1, h13, h16, hS5.below hx1⟩
          simp only [putL, Act.put, List.setIfInBounds_toArray, List.set_cons_zero, List.set_cons_succ] at hh
          simp only [e4, e9] at hh
          exact hh
        · rintro _ _ wx ⟨l0, l1, l2, l3, l4, l5, l6, l7, l8, l9, l10, l11, l12, l13, l14, l15, l16, v71, v72, v73, v74, v75, v76, v77, v78, v79, v80, v81, v70, v82, v83, v5, v6, rfl, rfl, hB, h0, h1, h2, h3, h4, h5, h6, h7, h8, h9, h10, h11, h13, h16, hS5⟩ hl hall K' hK
          have e10l : l10 = true := hall ⟨10, .data⟩ (by simp) (by rfl)
          clear hall hl
          subst e10l
          clear k0 k1 k2 k3 k4 k5
          simp only [putL, Act.put, List.setIfInBounds_toArray, List.set_cons_zero, List.set_cons_succ]
          obtain ⟨x10, e10, hV10⟩ := h10 rfl
          simp only [e10]
          go_simp
          have hh := hK.out [v71, v72, v73, v74, v75, v76, v77, v78, v79, v80, v81, v81, v82, v83, v5, v6] wx ⟨l0, l1, l2, l3, l4, l5, l6, l7, l8, l9, true, true, l12, l13, l14, l15, l16, v71, v72, v73, v74, v75, v76, v77, v78, v79, v80, v81, v81, v82, v83, v5, v6, rfl, rfl, hB, h0, h1, h2, h3, h4, h5, h6, h7, h8, h9, h10, fun _ => h10 rfl, h13, h16, hS5⟩
          simp only [putL, Act.put, List.setIfInBounds_toArray, List.set_cons_zero, List.set_cons_succ] at hh
          simp only [e10] at hh
          exact hh
        · rintro _ _ wx ⟨l0, l1, l2, l3, l4, l5, l6, l7, l8, l9, l10, l11, l12, l13, l14, l15, l16, v71, v72, v73, v74, v75, v76, v77, v78, v79, v80, v81, v70, v82, v83, v5, v6, rfl, rfl, hB, h0, h1, h2, h3, h4, h5, h6, h7, h8, h9, h10, h11, h13, h16, hS5⟩ hl hall K' hK
          have e11l : l11 = true := hall ⟨11, .data⟩ (by simp) (by rfl)
          have e12l : l12 = false := by simpa using hl
          clear hall hl
          subst e11l e12l
          clear k0 k1 k2 k3 k4 k5
          simp only [putL, Act.put, List.setIfInBounds_toArray, List.set_cons_zero, List.set_cons_succ]
          obtain ⟨x11, e11, hV11⟩ := h11 rfl
          simp only [e11]
          go_simp
          have hh := hK.out [v71, v72, v73, v74, v75, v76, v77, v78, v79, v80, v81, v70, x11, v83, v5, v6] wx ⟨l0, l1, l2, l3, l4, l5, l6, l7, l8, l9, l10, true, true, l13, l14, l15, l16, v71, v72, v73, v74, v75, v76, v77, v78, v79, v80, v81, v70, x11, v83, v5, v6, rfl, rfl, hB, h0, h1, h2, h3, h4, h5, h6, h7, h8, h9, h10, h11, h13, h16, hS5.call (Below.refl _ _) hV11⟩
          simp only [putL, Act.put, List.setIfInBounds_toArray, List.set_cons_zero, List.set_cons_succ] at hh
          simp only [e11] at hh
          exact hh
        · rintro _ _ wx ⟨l0, l1, l2, l3, l4, l5, l6, l7, l8, l9, l10, l11, l12, l13, l14, l15, l16, v71, v72, v73, v74, v75, v76, v77, v78, v79, v80, v81, v70, v82, v83, v5, v6, rfl, rfl, hB, h0, h1, h2, h3, h4, h5, h6, h7, h8, h9, h10, h11, h13, h16, hS5⟩ hl hall K' hK
          have e11l : l11 = true := hall ⟨11, .data⟩ (by simp) (by rfl)
          clear hall hl
          subst e11l
          clear k0 k1 k2 k3 k4 k5
          simp only [putL, Act.put, List.setIfInBounds_toArray, List.set_cons_zero, List.set_cons_succ]
          obtain ⟨x11, e11, hV11⟩ := h11 rfl
          simp only [e11]
          go_simp
          have hh := hK.out [v71, v72, v73, v74, v75, v76, v77, v78, v79, v80, v81, v70, v82, .int .i64 (q, (0 : Int)).2, v5, v6] wx ⟨l0, l1, l2, l3, l4, l5, l6, l7, l8, l9, l10, true, l12, true, l14, l15, l16, v71, v72, v73, v74, v75, v76, v77, v78, v79, v80, v81, v70, v82, .int .i64 (q, (0 : Int)).2, v5, v6, rfl, rfl, hB, h0, h1, h2, h3, h4, h5, h6, h7, h8, h9, h10, h11, fun _ => rfl, h16, hS5⟩
          simp only [putL, Act.put, List.setIfInBounds_toArray, List.set_cons_zero, List.set_cons_succ] at hh
          simp only [e11] at hh
          exact hh
        · rintro _ _ wx ⟨l0, l1, l2, l3, l4, l5, l6, l7, l8, l9, l10, l11, l12, l13, l14, l15, l16, v71, v72, v73, v74, v75, v76, v77, v78, v79, v80, v81, v70, v82, v83, v5, v6, rfl, rfl, hB, h0, h1, h2, h3, h4, h5, h6, h7, h8, h9, h10, h11, h13, h16, hS5⟩ hl hall K' hK
          have e14l : l14 = false := by simpa using hl
          clear hall hl
          subst e14l
          clear k0 k1 k2 k3 k4 k5
          simp only [putL, Act.put, List.setIfInBounds_toArray, List.set_cons_zero, List.set_cons_succ]
          go_simp
          have hh := hK.out [v71, v72, v73, v74, v75, v76, v77, v78, v79, v80, v81, v70, v82, v83, .pointer (some ⟨wx.heap.size, 0, none⟩), v6] (wx.alloc (Obj.cells #[Value.bool false, Value.slice none 0 0, Value.int IntKind.i64 0] 53)) ⟨l0, l1, l2, l3, l4, l5, l6, l7, l8, l9, l10, l11, l12, l13, true, l15, l16, v71, v72, v73, v74, v75, v76, v77, v78, v79, v80, v81, v70, v82, v83, .pointer (some ⟨wx.heap.size, 0, none⟩), v6, rfl, rfl, below_alloc' hB _, h0, h1, h2, h3, fun h => (h4 h).below (below1 _ _), h5, h6, h7, h8, fun h => (h9 h).below (below1 _ _), fun h => (h10 h).below (below1 _ _), fun h => (h11 h).below (below1 _ _), h13, h16, hS5.make hB.size _ _ _⟩
          simp only [putL, Act.put, List.setIfInBounds_toArray, List.set_cons_zero, List.set_cons_succ] at hh
          exact hh
        · rintro _ _ wx ⟨l0, l1, l2, l3, l4, l5, l6, l7, l8, l9, l10, l11, l12, l13, l14, l15, l16, v71, v72, v73, v74, v75, v76, v77, v78, v79, v80, v81, v70, v82, v83, v5, v6, rfl, rfl, hB, h0, h1, h2, h3, h4, h5, h6, h7, h8, h9, h10, h11, h13, h16, hS5⟩ hl hall K' hK
          have e12l : l12 = true := hall ⟨12, .data⟩ (by simp) (by rfl)
          have e14l : l14 = true := hall ⟨14, .data⟩ (by simp) (by rfl)
          clear hall hl
          subst e12l e14l
          clear k0 k1 k2 k3 k4 k5
          simp only [putL, Act.put, List.setIfInBounds_toArray, List.set_cons_zero, List.set_cons_succ]
          obtain ⟨A12, c12, e12, -, -, hR12, hF12⟩ := hS5.1 rfl
          obtain ⟨g, a, b, c, eg, hg, hb⟩ := hS5.ptr
          obtain ⟨r0, r1, r2, r3, _⟩ := hb.box3.cells
          simp only [e12, eg]
          go_simp
          have hh := hK.out [v71, v72, v73, v74, v75, v76, v77, v78, v79, v80, v81, v70, v82, v83, v5, v6] (((wx.setCell ⟨g, 0, none⟩ (.bool (q, (0 : Int)).1.s)).setCell ⟨g, 1, none⟩ (.slice A12 (nd 64 (q, (0 : Int)).1.n) c12)).setCell ⟨g, 2, none⟩ (.int .i64 (q, (0 : Int)).1.e)) ⟨l0, l1, l2, l3, l4, l5, l6, l7, l8, l9, l10, l11, true, l13, true, true, l16, v71, v72, v73, v74, v75, v76, v77, v78, v79, v80, v81, v70, v82, v83, v5, v6, rfl, rfl, below_box hB hg _ _ _, h0, h1, h2, h3, fun h => (h4 h).wd hb.wd, h5, h6, h7, h8, fun h => (h9 h).wd hb.wd, fun h => (h10 h).wd hb.wd, fun h => (h11 h).wd hb.wd, h13, h16, (by have h := hS5; rw [eg, e12] at h ⊢; exact h.store)⟩
          simp only [putL, Act.put, List.setIfInBounds_toArray, List.set_cons_zero, List.set_cons_succ] at hh
          simp only [e12, eg] at hh
          exact hh
        · rintro _ _ wx ⟨l0, l1, l2, l3, l4, l5, l6, l7, l8, l9, l10, l11, l12, l13, l14, l15, l16, v71, v72, v73, v74, v75, v76, v77, v78, v79, v80, v81, v70, v82, v83, v5, v6, rfl, rfl, hB, h0, h1, h2, h3, h4, h5, h6, h7, h8, h9, h10, h11, h13, h16, hS5⟩ hl hall K' hK
          have e13l : l13 = true := hall ⟨13, .data⟩ (by simp) (by rfl)
          clear hall hl
          subst e13l
          clear k0 k1 k2 k3 k4 k5
          simp only [putL, Act.put, List.setIfInBounds_toArray, List.set_cons_zero, List.set_cons_succ]
          have e13 := h13 rfl
          simp only [e13]
          go_simp
          have hh := hK.out [v71, v72, v73, v74, v75, v76, v77, v78, v79, v80, v81, v70, v82, v83, v5, v83] wx ⟨l0, l1, l2, l3, l4, l5, l6, l7, l8, l9, l10, l11, l12, true, l14, l15, true, v71, v72, v73, v74, v75, v76, v77, v78, v79, v80, v81, v70, v82, v83, v5, v83, rfl, rfl, hB, h0, h1, h2, h3, h4, h5, h6, h7, h8, h9, h10, h11, h13, fun _ => e13, hS5⟩
          simp only [putL, Act.put, List.setIfInBounds_toArray, List.set_cons_zero, List.set_cons_succ] at hh
          simp only [e13] at hh
          exact hh
      · rintro vs wx ⟨l0, l1, l2, l3, l4, l5, l6, l7, l8, l9, l10, l11, l12, l13, l14, l15, l16, v71, v72, v73, v74, v75, v76, v77, v78, v79, v80, v81, v70, v82, v83, v5, v6, hl, rfl, hB, h0, h1, h2, h3, h4, h5, h6, h7, h8, h9, h10, h11, h13, h16, hS5⟩
        obtain ⟨rfl, rfl, rfl, rfl, rfl, rfl, rfl, rfl, rfl, rfl, rfl, rfl, rfl, rfl, rfl, rfl, rfl⟩ : true = l0 ∧ true = l1 ∧ true = l2 ∧ true = l3 ∧ true = l4 ∧ true = l5 ∧ true = l6 ∧ true = l7 ∧ true = l8 ∧ true = l9 ∧ true = l10 ∧ true = l11 ∧ true = l12 ∧ true = l13 ∧ true = l14 ∧ true = l15 ∧ true = l16 := by simpa using hl
        simp only [putL, Act.put, List.setIfInBounds_toArray, List.set_cons_zero, List.set_cons_succ]
        go_wp2_with fail
        go_meet
        case rel => exact ⟨rfl, hS5.dvb, hB⟩
      · rintro _ vs wx ⟨l0, l1, l2, l3, l4, l5, l6, l7, l8, l9, l10, l11, l12, l13, l14, l15, l16, v71, v72, v73, v74, v75, v76, v77, v78, v79, v80, v81, v70, v82, v83, v5, v6, rfl, _⟩
        rfl
    case rest =>
      obtain ⟨rfl, ⟨g5, rfl, hg, hf⟩, hbc⟩ := hcut
      replace HS := Lib.hid (HS.out.below hbc (Nat.le_refl _))
      replace DP := Lib.hid (DP.out.below hbc)
      have DQ := Lib.hid (hf.mono (Nat.zero_le _))
      clear hbc hf hg hGX hRX k0 k1 k2 k3 k4 k5 VD
      generalize wc = W6 at *
      obtain ⟨k0, k1, k2, k3, k4, k5⟩ := HS.out.bx.six
      go_upto_region 8 with (fail)
      have hGX := HS.out.gl
      have hRX := HS.out.glr
      obtain ⟨Ap, cp, ⟨p0, p1, p2, -⟩, hrp⟩ := DP.out.open
      have HRp := Lib.hid hrp
      clear hrp
      go_cut [7, 8] from 84 (fun p7 p8 wx => p8 = .int .i64 0 ∧ (∃ g, p7 = .pointer (some ⟨g, 0, none⟩) ∧ W6.heap.size ≤ g ∧ DVB W6.heap.size g s wx) ∧ Below W6.heap.size W6 wx)
      case first =>
        refine wp_region_JR [85, 86, 87, 88, 89, 90, 91, 84, 92, 93, 7, 8] (fun l vs wx => ∃ l0 l1 l2 l3 l4 l5 l6 l7 l8 l9 l10 l11 l12 v85 v86 v87 v88 v89 v90 v91 v84 v92 v93 v7 v8, l = [l0, l1, l2, l3, l4, l5, l6, l7, l8, l9, l10, l11, l12] ∧ vs = [v85, v86, v87, v88, v89, v90, v91, v84, v92, v93, v7, v8] ∧ Below W6.heap.size W6 wx ∧ (l0 = true → v85 = Value.agg #[Value.bool p.s, Value.slice Ap (nd 64 p.n) cp, Value.int IntKind.i64 p.e]) ∧ (l1 = true → v86 = Value.pointer (some ⟨w.heap.size, 0, none⟩)) ∧ (l2 = true → v87 = Value.int IntKind.i64 n) ∧ (l3 = true → v88 = Value.pointer (some ⟨w.heap.size, 4, none⟩)) ∧ (l4 = true → v89 = Value.int IntKind.u64 c) ∧ (l5 = true → DV W6.heap.size wx v90 uc) ∧ (l6 = true → TupD W6.heap.size (s, (0 : Int)) v91 wx) ∧ (l7 = true → TupD W6.heap.size (s, (0 : Int)) v84 wx) ∧ (l9 = true → v93 = Value.int IntKind.i64 (s, (0 : Int)).2) ∧ (l12 = true → v8 = Value.int IntKind.i64 (s, (0 : Int)).2) ∧ SideD W6.heap.size (s, (0 : Int)).1 l8 l10 l11 v92 v7 wx) (by kernel_rfl) (by kernel_rfl) ?_ ?_ ?_ ?_
        · intro vs hvs
          obtain ⟨y0, y1, y2, y3, y4, y5, y6, y7, y8, y9, y10, y11, rfl⟩ : ∃ y0 y1 y2 y3 y4 y5 y6 y7 y8 y9 y10 y11, vs = [y0, y1, y2, y3, y4, y5, y6, y7, y8, y9, y10, y11] := by
            match vs, hvs with
            | [y0, y1, y2, y3, y4, y5, y6, y7, y8, y9, y10, y11], _ => exact ⟨y0, y1, y2, y3, y4, y5, y6, y7, y8, y9, y10, y11, rfl⟩
          exact ⟨false, false, false, false, false, false, false, false, false, false, false, false, false, y0, y1, y2, y3, y4, y5, y6, y7, y8, y9, y10, y11, rfl, rfl, (Below.refl _ _).drew, nofun, nofun, nofun, nofun, nofun, nofun, nofun, nofun, nofun, nofun, SideD.start ..⟩
        · refine ⟨?_, ?_, ?_, ?_, ?_, ?_, ?_, ?_, ?_, ?_, ?_, ?_, ?_, trivial⟩
          · rintro _ _ wx ⟨l0, l1, l2, l3, l4, l5, l6, l7, l8, l9, l10, l11, l12, v85, v86, v87, v88, v89, v90, v91, v84, v92, v93, v7, v8, rfl, rfl, hB, h0, h1, h2, h3, h4, h5, h6, h7, h9, h12, hS7⟩ hl hall K' hK
            clear hall hl
            have q0 := keep_cell hB p0
            have q1 := keep_cell hB p1
            have q2 := keep_cell hB p2
            clear k0 k1 k2 k3 k4 k5 p0 p1 p2
            simp only [putL, Act.put, List.setIfInBounds_toArray, List.set_cons_zero, List.set_cons_succ]
            go_simp
            have hh := hK.out [Value.agg #[Value.bool p.s, Value.slice Ap (nd 64 p.n) cp, Value.int IntKind.i64 p.e], v86, v87, v88, v89, v90, v91, v84, v92, v93, v7, v8] wx ⟨true, l1, l2, l3, l4, l5, l6, l7, l8, l9, l10, l11, l12, Value.agg #[Value.bool p.s, Value.slice Ap (nd 64 p.n) cp, Value.int IntKind.i64 p.e], v86, v87, v88, v89, v90, v91, v84, v92, v93, v7, v8, rfl, rfl, hB, fun _ => rfl, h1, h2, h3, h4, h5, h6, h7, h9, h12, hS7⟩
            simp only [putL, Act.put, List.setIfInBounds_toArray, List.set_cons_zero, List.set_cons_succ] at hh
            exact hh
          · rintro _ _ wx ⟨l0, l1, l2, l3, l4, l5, l6, l7, l8, l9, l10, l11, l12, v85, v86, v87, v88, v89, v90, v91, v84, v92, v93, v7, v8, rfl, rfl, hB, h0, h1, h2, h3, h4, h5, h6, h7, h9, h12, hS7⟩ hl hall K' hK
            clear hall hl
            clear k0 k1 k2 k3 k4 k5 p0 p1 p2
            simp only [putL, Act.put, List.setIfInBounds_toArray, List.set_cons_zero, List.set_cons_succ]
            go_simp
            have hh := hK.out [v85, Value.pointer (some ⟨w.heap.size, 0, none⟩), v87, v88, v89, v90, v91, v84, v92, v93, v7, v8] wx ⟨l0, true, l2, l3, l4, l5, l6, l7, l8, l9, l10, l11, l12, v85, Value.pointer (some ⟨w.heap.size, 0, none⟩), v87, v88, v89, v90, v91, v84, v92, v93, v7, v8, rfl, rfl, hB, h0, fun _ => rfl, h2, h3, h4, h5, h6, h7, h9, h12, hS7⟩
            simp only [putL, Act.put, List.setIfInBounds_toArray, List.set_cons_zero, List.set_cons_succ] at hh
            exact hh
          · rintro _ _ wx ⟨l0, l1, l2, l3, l4, l5, l6, l7, l8, l9, l10, l11, l12, v85, v86, v87, v88, v89, v90, v91, v84, v92, v93, v7, v8, rfl, rfl, hB, h0, h1, h2, h3, h4, h5, h6, h7, h9, h12, hS7⟩ hl hall K' hK
            have e1l : l1 = true := hall ⟨1, .data⟩ (by simp) (by rfl)
            clear hall hl
            subst e1l
            have q0 := keep_cell hB k0
            clear k0 k1 k2 k3 k4 k5 p0 p1 p2
            simp only [putL, Act.put, List.setIfInBounds_toArray, List.set_cons_zero, List.set_cons_succ]
            have e1 := h1 rfl
            simp only [e1]
            go_simp
            have hh := hK.out [v85, v86, Value.int IntKind.i64 n, v88, v89, v90, v91, v84, v92, v93, v7, v8] wx ⟨l0, true, true, l3, l4, l5, l6, l7, l8, l9, l10, l11, l12, v85, v86, Value.int IntKind.i64 n, v88, v89, v90, v91, v84, v92, v93, v7, v8, rfl, rfl, hB, h0, h1, fun _ => rfl, h3, h4, h5, h6, h7, h9, h12, hS7⟩
            simp only [putL, Act.put, List.setIfInBounds_toArray, List.set_cons_zero, List.set_cons_succ] at hh
            simp only [e1] at hh
            exact hh
          · rintro _ _ wx ⟨l0, l1, l2, l3, l4, l5, l6, l7, l8, l9, l10, l11, l12, v85, v86, v87, v88, v89, v90, v91, v84, v92, v93, v7, v8, rfl, rfl, hB, h0, h1, h2, h3, h4, h5, h6, h7, h9, h12, hS7⟩ hl hall K' hK
            clear hall hl
            clear k0 k1 k2 k3 k4 k5 p0 p1 p2
            simp only [putL, Act.put, List.setIfInBounds_toArray, List.set_cons_zero, List.set_cons_succ]
            go_simp
            have hh := hK.out [v85, v86, v87, Value.pointer (some ⟨w.heap.size, 4, none⟩), v89, v90, v91, v84, v92, v93, v7, v8] wx ⟨l0, l1, l2, true, l4, l5, l6, l7, l8, l9, l10, l11, l12, v85, v86, v87, Value.pointer (some ⟨w.heap.size, 4, none⟩), v89, v90, v91, v84, v92, v93, v7, v8, rfl, rfl, hB, h0, h1, h2, fun _ => rfl, h4, h5, h6, h7, h9, h12, hS7⟩
            simp only [putL, Act.put, List.setIfInBounds_toArray, List.set_cons_zero, List.set_cons_succ] at hh
            exact hh
          · rintro _ _ wx ⟨l0, l1, l2, l3, l4, l5, l6, l7, l8, l9, l10, l11, l12, v85, v86, v87, v88, v89, v90, v91, v84, v92, v93, v7, v8, rfl, rfl, hB, h0, h1, h2, h3, h4, h5, h6, h7, h9, h12, hS7⟩ hl hall K' hK
            have e3l : l3 = true := hall ⟨3, .data⟩ (by simp) (by rfl)
            clear hall hl
            subst e3l
            have q0 := keep_cell hB k4
            clear k0 k1 k2 k3 k4 k5 p0 p1 p2
            simp only [putL, Act.put, List.setIfInBounds_toArray, List.set_cons_zero, List.set_cons_succ]
            have e3 := h3 rfl
            simp only [e3]
            go_simp
            have hh := hK.out [v85, v86, v87, v88, Value.int IntKind.u64 c, v90, v91, v84, v92, v93, v7, v8] wx ⟨l0, l1, l2, true, true, l5, l6, l7, l8, l9, l10, l11, l12, v85, v86, v87, v88, Value.int IntKind.u64 c, v90, v91, v84, v92, v93, v7, v8, rfl, rfl, hB, h0, h1, h2, h3, fun _ => rfl, h5, h6, h7, h9, h12, hS7⟩
            simp only [putL, Act.put, List.setIfInBounds_toArray, List.set_cons_zero, List.set_cons_succ] at hh
            simp only [e3] at hh
            exact hh
          · rintro _ _ wx ⟨l0, l1, l2, l3, l4, l5, l6, l7, l8, l9, l10, l11, l12, v85, v86, v87, v88, v89, v90, v91, v84, v92, v93, v7, v8, rfl, rfl, hB, h0, h1, h2, h3, h4, h5, h6, h7, h9, h12, hS7⟩ hl hall K' hK
            have e2l : l2 = true := hall ⟨2, .data⟩ (by simp) (by rfl)
            have e4l : l4 = true := hall ⟨4, .data⟩ (by simp) (by rfl)
            clear hall hl
            subst e2l e4l
            clear k0 k1 k2 k3 k4 k5 p0 p1 p2
            simp only [putL, Act.put, List.setIfInBounds_toArray, List.set_cons_zero, List.set_cons_succ]
            have e2 := h2 rfl
            have e4 := h4 rfl
            simp only [e2, e4]
            go_simp
            refine (VC.out wx (hGX.below hB) (hRX.below hB)).mono ?_
            rintro e w2 ⟨x2, rfl, hV2, hx1⟩
            go_simp
            have hh := hK.out [v85, v86, v87, v88, v89, x2, v91, v84, v92, v93, v7, v8] w2 ⟨l0, l1, true, l3, true, true, l6, l7, l8, l9, l10, l11, l12, v85, v86, v87, v88, v89, x2, v91, v84, v92, v93, v7, v8, rfl, rfl, keep_below hB hx1, h0, h1, h2, h3, h4, fun _ => hV2.mono hB.size, fun h => (h6 h).below hx1, fun h => (h7 h).below hx1, h9, h12, hS7.below hx1⟩
            simp only [putL, Act.put, List.setIfInBounds_toArray, List.set_cons_zero, List.set_cons_succ] at hh
            simp only [e2, e4] at hh
            exact hh
          · rintro _ _ wx ⟨l0, l1, l2, l3, l4, l5, l6, l7, l8, l9, l10, l11, l12, v85, v86, v87, v88, v89, v90, v91, v84, v92, v93, v7, v8, rfl, rfl, hB, h0, h1, h2, h3, h4, h5, h6, h7, h9, h12, hS7⟩ hl hall K' hK
            have e0l : l0 = true := hall ⟨0, .data⟩ (by simp) (by rfl)
            have e5l : l5 = true := hall ⟨5, .data⟩ (by simp) (by rfl)
            clear hall hl
            subst e0l e5l
            clear k0 k1 k2 k3 k4 k5 p0 p1 p2
            simp only [putL, Act.put, List.setIfInBounds_toArray, List.set_cons_zero, List.set_cons_succ]
            have e0 := h0 rfl
            obtain ⟨A5, c5, e5, -, -, hR5, hF5⟩ := h5 rfl
            simp only [e0, e5]
            go_simp
            refine (DAdd_any p.s uc.s Ap A5 p.n (nd 64 p.n) cp uc.n (nd 64 uc.n) c5 p.e uc.e wx (HRp.out.below hB) hR5 (hGX.below hB)).mono ?_
            rintro e w2 ⟨x2, rfl, hV2, hx1⟩
            rw [HSs.out] at hV2 ⊢
            go_simp
            have hh := hK.out [v85, v86, v87, v88, v89, v90, .tuple #[x2, .int .i64 (s, (0 : Int)).2], v84, v92, v93, v7, v8] w2 ⟨true, l1, l2, l3, l4, true, true, l7, l8, l9, l10, l11, l12, v85, v86, v87, v88, v89, v90, .tuple #[x2, .int .i64 (s, (0 : Int)).2], v84, v92, v93, v7, v8, rfl, rfl, keep_below hB hx1, h0, h1, h2, h3, h4, fun h => (h5 h).below hx1, fun _ => ⟨x2, rfl, hV2.mono hB.size⟩, fun h => (h7 h).below hx1, h9, h12, hS7.below hx1⟩
            simp only [putL, Act.put, List.setIfInBounds_toArray, List.set_cons_zero, List.set_cons_succ] at hh
            simp only [e0, e5] at hh
            exact hh
          · rintro _ _ wx ⟨l0, l1, l2, l3, l4, l5, l6, l7, l8, l9, l10, l11, l12, v85, v86, v87, v88, v89, v90, v91, v84, v92, v93, v7, v8, rfl, rfl, hB, h0, h1, h2, h3, h4, h5, h6, h7, h9, h12, hS7⟩ hl hall K' hK
            have e6l : l6 = true := hall ⟨6, .data⟩ (by simp) (by rfl)
            clear hall hl
            subst e6l
            clear k0 k1 k2 k3 k4 k5 p0 p1 p2
            simp only [putL, Act.put, List.setIfInBounds_toArray, List.set_cons_zero, List.set_cons_succ]
            obtain ⟨x6, e6, hV6⟩ := h6 rfl
            simp only [e6]
            go_simp
            have hh := hK.out [v85, v86, v87, v88, v89, v90, v91, v91, v92, v93, v7, v8] wx ⟨l0, l1, l2, l3, l4, l5, true, true, l8, l9, l10, l11, l12, v85, v86, v87, v88, v89, v90, v91, v91, v92, v93, v7, v8, rfl, rfl, hB, h0, h1, h2, h3, h4, h5, h6, fun _ => h6 rfl, h9, h12, hS7⟩
            simp only [putL, Act.put, List.setIfInBounds_toArray, List.set_cons_zero, List.set_cons_succ] at hh
            simp only [e6] at hh
            exact hh
          · rintro _ _ wx ⟨l0, l1, l2, l3, l4, l5, l6, l7, l8, l9, l10, l11, l12, v85, v86, v87, v88, v89, v90, v91, v84, v92, v93, v7, v8, rfl, rfl, hB, h0, h1, h2, h3, h4, h5, h6, h7, h9, h12, hS7⟩ hl hall K' hK
            have e7l : l7 = true := hall ⟨7, .data⟩ (by simp) (by rfl)
            have e8l : l8 = false := by simpa using hl
            clear hall hl
            subst e7l e8l
            clear k0 k1 k2 k3 k4 k5 p0 p1 p2
            simp only [putL, Act.put, List.setIfInBounds_toArray, List.set_cons_zero, List.set_cons_succ]
            obtain ⟨x7, e7, hV7⟩ := h7 rfl
            simp only [e7]
            go_simp
            have hh := hK.out [v85, v86, v87, v88, v89, v90, v91, v84, x7, v93, v7, v8] wx ⟨l0, l1, l2, l3, l4, l5, l6, true, true, l9, l10, l11, l12, v85, v86, v87, v88, v89, v90, v91, v84, x7, v93, v7, v8, rfl, rfl, hB, h0, h1, h2, h3, h4, h5, h6, h7, h9, h12, hS7.call (Below.refl _ _) hV7⟩
            simp only [putL, Act.put, List.setIfInBounds_toArray, List.set_cons_zero, List.set_cons_succ] at hh
            simp only [e7] at hh
            exact hh
          · rintro _ _ wx ⟨l0, l1, l2, l3, l4, l5, l6, l7, l8, l9, l10, l11, l12, v85, v86, v87, v88, v89, v90, v91, v84, v92, v93, v7, v8, rfl, rfl, hB, h0, h1, h2, h3, h4, h5, h6, h7, h9, h12, hS7⟩ hl hall K' hK
            have e7l : l7 = true := hall ⟨7, .data⟩ (by simp) (by rfl)
            clear hall hl
            subst e7l
            clear k0 k1 k2 k3 k4 k5 p0 p1 p2
            simp only [putL, Act.put, List.setIfInBounds_toArray, List.set_cons_zero, List.set_cons_succ]
            obtain ⟨x7, e7, hV7⟩ := h7 rfl
            simp only [e7]
            go_simp
            have hh := hK.out [v85, v86, v87, v88, v89, v90, v91, v84, v92, .int .i64 (s, (0 : Int)).2, v7, v8] wx ⟨l0, l1, l2, l3, l4, l5, l6, true, l8, true, l10, l11, l12, v85, v86, v87, v88, v89, v90, v91, v84, v92, .int .i64 (s, (0 : Int)).2, v7, v8, rfl, rfl, hB, h0, h1, h2, h3, h4, h5, h6, h7, fun _ => rfl, h12, hS7⟩
            simp only [putL, Act.put, List.setIfInBounds_toArray, List.set_cons_zero, List.set_cons_succ] at hh
            simp only [e7] at hh
            exact hh
          · rintro _ _ wx ⟨l0, l1, l2, l3, l4, l5, l6, l7, l8, l9, l10, l11, l12, v85, v86, v87, v88, v89, v90, v91, v84, v92, v93, v7, v8, rfl, rfl, hB, h0, h1, h2, h3, h4, h5, h6, h7, h9, h12, hS7⟩ hl hall K' hK
            have e10l : l10 = false := by simpa using hl
            clear hall hl
            subst e10l
            clear k0 k1 k2 k3 k4 k5 p0 p1 p2
            simp only [putL, Act.put, List.setIfInBounds_toArray, List.set_cons_zero, List.set_cons_succ]
            go_simp
            have hh := hK.out [v85, v86, v87, v88, v89, v90, v91, v84, v92, v93, .pointer (some ⟨wx.heap.size, 0, none⟩), v8] (wx.alloc (Obj.cells #[Value.bool false, Value.slice none 0 0, Value.int IntKind.i64 0] 53)) ⟨l0, l1, l2, l3, l4, l5, l6, l7, l8, l9, true, l11, l12, v85, v86, v87, v88, v89, v90, v91, v84, v92, v93, .pointer (some ⟨wx.heap.size, 0, none⟩), v8, rfl, rfl, below_alloc' hB _, h0, h1, h2, h3, h4, fun h => (h5 h).below (below1 _ _), fun h => (h6 h).below (below1 _ _), fun h => (h7 h).below (below1 _ _), h9, h12, hS7.make hB.size _ _ _⟩
            simp only [putL, Act.put, List.setIfInBounds_toArray, List.set_cons_zero, List.set_cons_succ] at hh
            exact hh
          · rintro _ _ wx ⟨l0, l1, l2, l3, l4, l5, l6, l7, l8, l9, l10, l11, l12, v85, v86, v87, v88, v89, v90, v91, v84, v92, v93, v7, v8, rfl, rfl, hB, h0, h1, h2, h3, h4, h5, h6, h7, h9, h12, hS7⟩ hl hall K' hK
            have e8l : l8 = true := hall ⟨8, .data⟩ (by simp) (by rfl)
            have e10l : l10 = true := hall ⟨10, .data⟩ (by simp) (by rfl)
            clear hall hl
            subst e8l e10l
            clear k0 k1 k2 k3 k4 k5 p0 p1 p2
            simp only [putL, Act.put, List.setIfInBounds_toArray, List.set_cons_zero, List.set_cons_succ]
            obtain ⟨A8, c8, e8, -, -, hR8, hF8⟩ := hS7.1 rfl
            obtain ⟨g, a, b, c, eg, hg, hb⟩ := hS7.ptr
            obtain ⟨r0, r1, r2, r3, _⟩ := hb.box3.cells
            simp only [e8, eg]
            go_simp
            have hh := hK.out [v85, v86, v87, v88, v89, v90, v91, v84, v92, v93, v7, v8] (((wx.setCell ⟨g, 0, none⟩ (.bool (s, (0 : Int)).1.s)).setCell ⟨g, 1, none⟩ (.slice A8 (nd 64 (s, (0 : Int)).1.n) c8)).setCell ⟨g, 2, none⟩ (.int .i64 (s, (0 : Int)).1.e)) ⟨l0, l1, l2, l3, l4, l5, l6, l7, true, l9, true, true, l12, v85, v86, v87, v88, v89, v90, v91, v84, v92, v93, v7, v8, rfl, rfl, below_box hB hg _ _ _, h0, h1, h2, h3, h4, fun h => (h5 h).wd hb.wd, fun h => (h6 h).wd hb.wd, fun h => (h7 h).wd hb.wd, h9, h12, (by have h := hS7; rw [eg, e8] at h ⊢; exact h.store)⟩
            simp only [putL, Act.put, List.setIfInBounds_toArray, List.set_cons_zero, List.set_cons_succ] at hh
            simp only [e8, eg] at hh
            exact hh
          · rintro _ _ wx ⟨l0, l1, l2, l3, l4, l5, l6, l7, l8, l9, l10, l11, l12, v85, v86, v87, v88, v89, v90, v91, v84, v92, v93, v7, v8, rfl, rfl, hB, h0, h1, h2, h3, h4, h5, h6, h7, h9, h12, hS7⟩ hl hall K' hK
            have e9l : l9 = true := hall ⟨9, .data⟩ (by simp) (by rfl)
            clear hall hl
            subst e9l
            clear k0 k1 k2 k3 k4 k5 p0 p1 p2
            simp only [putL, Act.put, List.setIfInBounds_toArray, List.set_cons_zero, List.set_cons_succ]
            have e9 := h9 rfl
            simp only [e9]
            go_simp
            have hh := hK.out [v85, v86, v87, v88, v89, v90, v91, v84, v92, v93, v7, v93] wx ⟨l0, l1, l2, l3, l4, l5, l6, l7, l8, true, l10, l11, true, v85, v86, v87, v88, v89, v90, v91, v84, v92, v93, v7, v93, rfl, rfl, hB, h0, h1, h2, h3, h4, h5, h6, h7, h9, fun _ => e9, hS7⟩
            simp only [putL, Act.put, List.setIfInBounds_toArray, List.set_cons_zero, List.set_cons_succ] at hh
            simp only [e9] at hh
            exact hh
        · rintro vs wx ⟨l0, l1, l2, l3, l4, l5, l6, l7, l8, l9, l10, l11, l12, v85, v86, v87, v88, v89, v90, v91, v84, v92, v93, v7, v8, hl, rfl, hB, h0, h1, h2, h3, h4, h5, h6, h7, h9, h12, hS7⟩
          obtain ⟨rfl, rfl, rfl, rfl, rfl, rfl, rfl, rfl, rfl, rfl, rfl, rfl, rfl⟩ : true = l0 ∧ true = l1 ∧ true = l2 ∧ true = l3 ∧ true = l4 ∧ true = l5 ∧ true = l6 ∧ true = l7 ∧ true = l8 ∧ true = l9 ∧ true = l10 ∧ true = l11 ∧ true = l12 := by simpa using hl
          simp only [putL, Act.put, List.setIfInBounds_toArray, List.set_cons_zero, List.set_cons_succ]
          go_wp2_with fail
          go_meet
          case rel => exact ⟨rfl, hS7.dvb, hB⟩
        · rintro _ vs wx ⟨l0, l1, l2, l3, l4, l5, l6, l7, l8, l9, l10, l11, l12, v85, v86, v87, v88, v89, v90, v91, v84, v92, v93, v7, v8, rfl, _⟩
          rfl
      case rest =>
        obtain ⟨rfl, ⟨g7, rfl, hg, hf⟩, hbc⟩ := hcut
        replace HS := Lib.hid (HS.out.below hbc (Nat.le_refl _))
        replace DP := Lib.hid (DP.out.below hbc)
        replace DQ := Lib.hid (DQ.out.below hbc)
        have DS := Lib.hid (hf.mono (Nat.zero_le _))
        clear hbc hf hg hGX hRX k0 k1 k2 k3 k4 k5 VC p0 p1 p2 HRp
        generalize wc = W7 at *
        obtain ⟨k0, k1, k2, k3, k4, k5⟩ := HS.out.bx.six
        obtain ⟨Ap', cp', ⟨p0, p1, p2, -⟩, hrp⟩ := DP.out.open
        obtain ⟨Aq, cq, ⟨q0, q1, q2, -⟩, hrq⟩ := DQ.out.open
        have HRp := Lib.hid hrp
        have HRq := Lib.hid hrq
        clear hrp hrq DP DQ
        go_wp2_with fail
        refine (DAdd_any p.s q.s Ap' Aq p.n (nd 64 p.n) cp' q.n (nd 64 q.n) cq p.e q.e W7 HRp.out HRq.out HS.out.gl).mono ?_
        rintro _ W8 ⟨y, rfl, hV, hb⟩
        rw [show addD (nd 64 p.n) ⟨p.s, p.n, p.e⟩ (nd 64 q.n) ⟨q.s, q.n, q.e⟩ = (v, 0) from HV.out] at hV ⊢
        obtain ⟨Av, cv, rfl, -, -, hrv, -⟩ := hV
        replace HS := Lib.hid ((HS.out.below hb (Nat.le_refl _)).alloc (.cells #[.bool v.s, .slice Av (nd 64 v.n) cv, .int .i64 v.e] 53) (Nat.le_refl _))
        replace DS := Lib.hid ((DS.out.below hb).below (below1 W8 (.cells #[.bool v.s, .slice Av (nd 64 v.n) cv, .int .i64 v.e] 53)))
        have DVV := Lib.hid (VB.new hrv 53)
        clear hb hrv HRp HRq p0 p1 p2 q0 q1 q2 k0 k1 k2 k3 k4 k5
        obtain ⟨k0, k1, k2, k3, k4, k5⟩ := HS.out.bx.six
        go_wp2_with fail
        refine (CM.out _ HS.out.gl HS.out.glr).mono ?_
        rintro _ W9 ⟨rfl, hb⟩
        replace HS := Lib.hid (HS.out.below hb (Nat.le_refl _))
        replace DS := Lib.hid (DS.out.below hb)
        replace DVV := Lib.hid (DVV.out.below hb)
        clear hb k0 k1 k2 k3 k4 k5 CM
        obtain ⟨k0, k1, k2, k3, k4, k5⟩ := HS.out.bx.six
        generalize W8.heap.size = g9 at *
        go_wp2_with fail
        refine (C2.out _ HS.out.gl HS.out.glr).mono ?_
        rintro _ W10 ⟨rfl, hb⟩
        replace HS := Lib.hid (HS.out.below hb (Nat.le_refl _))
        replace DS := Lib.hid (DS.out.below hb)
        replace DVV := Lib.hid (DVV.out.below hb)
        clear hb k0 k1 k2 k3 k4 k5 C2
        obtain ⟨k0, k1, k2, k3, k4, k5⟩ := HS.out.bx.six
        obtain ⟨As, cs, ⟨s0, s1, s2, -⟩, hrs⟩ := DS.out.open
        have HRs := Lib.hid hrs
        clear hrs
        go_wp2_with fail
        refine (Sign_any s.s As s.n (nd 64 s.n) cs s.e _ HRs.out).mono ?_
        rintro _ W11 ⟨rfl, hb⟩
        replace HS := Lib.hid (HS.out.below hb (Nat.le_refl _))
        replace DVV := Lib.hid (DVV.out.below hb)
        replace DS := Lib.hid (DS.out.below hb)
        have HRs' := Lib.hid (HRs.out.below hb)
        have z0 := keep_cell hb s0
        have z1 := keep_cell hb s1
        have z2 := keep_cell hb s2
        clear hb k0 k1 k2 k3 k4 k5 HRs s0 s1 s2
        obtain ⟨k0, k1, k2, k3, k4, k5⟩ := HS.out.bx.six
        have key : (∃ W12, ∃ _ : World, True) := ⟨W11, W11, trivial⟩
        clear key
        obtain ⟨l1, l2⟩ := HL.out
        go_upto_if 134 with (fail)
        go_cut [2, 17, 18, 19, 134] from 135 (fun v2 v17 v18 v19 v134 wx => v2 = .bool false ∧ Below W11.heap.size W11 wx)
        case first =>
          by_cases sz : s.n = 0
          · obtain ⟨f2', fr⟩ := l1.1 sz
            have f2 : ((fx.2 : Int) != 0) = false := by rw [f2']; rfl
            clear f2'
            have ez : (sgD s.s s.n == 0) = true := by unfold sgD; rw [if_pos sz]; rfl
            have rx := RX.out
            rw [fr] at rx
            have RX' := Lib.hid rx
            clear sz l1 l2 HL fr rx DS DVV z0 z1 z2 ES EV RX RY HRs'
            go_wp2_with fail
            refine (RX'.out _).mono ?_
            rintro _ wz ⟨rfl, hb⟩
            have HBz := Lib.hid hb
            clear hb k0 k1 k2 k3 k4 k5 RX'
            go_wp2_with fail
            go_meet
            case rel => exact ⟨rfl, HBz.out⟩
          · have fe := l1.2 sz
            have ez : (sgD s.s s.n == 0) = false := by unfold sgD; rw [if_neg sz]; cases s.s <;> rfl
            have es := ES.out sz As cs
            rw [← fe] at es
            have ES' := Lib.hid es
            clear sz l1 l2 HL fe es DS DVV ES EV RX RY
            go_wp2_with fail
            refine (ES'.out _ HRs'.out HS.out.gl HS.out.glr).mono ?_
            rintro _ wz ⟨rfl, hb⟩
            have HBz := Lib.hid hb
            clear hb k0 k1 k2 k3 k4 k5 ES' HRs' z0 z1 z2
            go_wp2_with fail
            go_meet
            case rel => exact ⟨rfl, HBz.out⟩
        case rest =>
          obtain ⟨rfl, hbc⟩ := hcut
          replace HS := Lib.hid (HS.out.below hbc (Nat.le_refl _))
          replace DVV := Lib.hid (DVV.out.below hbc)
          clear hbc k0 k1 k2 k3 k4 k5 DS HRs' z0 z1 z2 RX ES
          obtain ⟨k0, k1, k2, k3, k4, k5⟩ := HS.out.bx.six
          obtain ⟨b0, b1, b2, -, -⟩ := DVV.out.bx.cells
          go_wp2_with fail
          refine (Sign_any v.s Av v.n (nd 64 v.n) cv v.e _ DVV.out.rd).mono ?_
          rintro _ W13 ⟨rfl, hb⟩
          replace HS := Lib.hid (HS.out.below hb (Nat.le_refl _))
          replace DVV := Lib.hid (DVV.out.below hb)
          clear hb k0 k1 k2 k3 k4 k5 b0 b1 b2
          obtain ⟨k0, k1, k2, k3, k4, k5⟩ := HS.out.bx.six
          obtain ⟨b0, b1, b2, -, -⟩ := DVV.out.bx.cells
          by_cases sz : v.n = 0
          · obtain ⟨f2', fr⟩ := l2.1 sz
            have f2 : ((fy.2 : Int) == 0) = true := by rw [f2']; rfl
            clear f2'
            have ez : (sgD v.s v.n == 0) = true := by unfold sgD; rw [if_pos sz]; rfl
            have ry := RY.out
            rw [fr] at ry
            have RY' := Lib.hid ry
            clear sz l1 l2 HL fr ry DVV b0 b1 b2 EV RY
            go_wp2_with fail
            refine (RY'.out _).mono ?_
            rintro _ wz ⟨rfl, hb⟩
            replace HS := Lib.hid (HS.out.below hb (Nat.le_refl _))
            clear hb k0 k1 k2 k3 k4 k5 RY'
            go_wp2_with fail
            go_ret
            exact ⟨by simp, HS.out.bl⟩
          · have fe := l2.2 sz
            have ez : (sgD v.s v.n == 0) = false := by unfold sgD; rw [if_neg sz]; cases v.s <;> rfl
            have ev := EV.out sz Av cv
            rw [← fe] at ev
            have EV' := Lib.hid ev
            clear sz l1 l2 HL fe ev EV RY
            go_wp2_with fail
            refine (EV'.out _ DVV.out.rd HS.out.gl HS.out.glr).mono ?_
            rintro _ wz ⟨rfl, hb⟩
            replace HS := Lib.hid (HS.out.below hb (Nat.le_refl _))
            clear hb k0 k1 k2 k3 k4 k5 EV' DVV b0 b1 b2
            go_wp2_with fail
            go_ret
            exact ⟨by simp, HS.out.bl⟩

end Go.Proofs.YtcgceigmglikpaaDoor
