/- The walk of fused.single: one float taken apart. -/
import Derived.Test.YtdbfkfbncmbfcaaGreatDoorFusA
import Derived.Test.YtdbfkfbncmbfcaaGreatDoorFusS
import Derived.Test.YtdbfkfbncmbfcaaGreatDoorPackM
namespace Go.Proofs.YtdbfkfbncmbfcaaGreatDoor
set_option linter.unusedVariables false
open Go.RowKit

def pv (q : Pt) (A : Option Addr) (c : Nat) : Array Value := #[.bool q.nan, .bool q.sig, .bool q.inv, .bool q.inf, .bool q.neg, .bool q.d.s, .slice A (nd 64 q.d.n) c, .int .i64 q.d.e]

def pv0 : Array Value := #[.bool false, .bool false, .bool false, .bool false, .bool false, .bool false, .slice none 0 0, .int .i64 0]

theorem Bx.set8 {w : World} {g : Nat} {a0 a1 a2 a3 a4 a5 a6 a7 : Value} (h : Bx w g #[a0, a1, a2, a3, a4, a5, a6, a7]) (x0 x1 x2 x3 x4 x5 x6 x7 : Value) :
    Bx ((((((((w.setCell ⟨g, 0, none⟩ x0).setCell ⟨g, 1, none⟩ x1).setCell ⟨g, 2, none⟩ x2).setCell ⟨g, 3, none⟩ x3).setCell ⟨g, 4, none⟩ x4).setCell ⟨g, 5, none⟩ x5).setCell ⟨g, 6, none⟩ x6).setCell ⟨g, 7, none⟩ x7) g #[x0, x1, x2, x3, x4, x5, x6, x7] := by
  obtain ⟨t, h⟩ := h
  refine ⟨t, ?_⟩
  simp [World.setCell, Array.getElem?_modify, h]

theorem Bx.set3 {w : World} {g : Nat} {a0 a1 a2 a3 a4 a5 a6 a7 : Value} (h : Bx w g #[a0, a1, a2, a3, a4, a5, a6, a7]) (x5 x6 x7 : Value) :
    Bx (((w.setCell ⟨g, 5, none⟩ x5).setCell ⟨g, 6, none⟩ x6).setCell ⟨g, 7, none⟩ x7) g #[a0, a1, a2, a3, a4, x5, x6, x7] := by
  obtain ⟨t, h⟩ := h
  refine ⟨t, ?_⟩
  simp [World.setCell, Array.getElem?_modify, h]

theorem Bx.put3 {w : World} {g : Nat} {a0 a1 a2 a3 a4 a5 a6 a7 : Value} (h : Bx w g #[a0, a1, a2, a3, a4, a5, a6, a7]) (x : Value) : Bx (w.setCell ⟨g, 3, none⟩ x) g #[a0, a1, a2, x, a4, a5, a6, a7] := by
  obtain ⟨t, h⟩ := h
  refine ⟨t, ?_⟩
  simp [World.setCell, Array.getElem?_modify, h]

theorem Bx.put2 {w : World} {g : Nat} {a0 a1 a2 a3 a4 a5 a6 a7 : Value} (h : Bx w g #[a0, a1, a2, a3, a4, a5, a6, a7]) (x : Value) : Bx (w.setCell ⟨g, 2, none⟩ x) g #[a0, a1, x, a3, a4, a5, a6, a7] := by
  obtain ⟨t, h⟩ := h
  refine ⟨t, ?_⟩
  simp [World.setCell, Array.getElem?_modify, h]

theorem Bx.other {w : World} {g : Nat} {arr : Array Value} (h : Bx w g arr) {p : Addr} (hp : p.block ≠ g) (u : Value) : Bx (w.setCell p u) g arr := by
  obtain ⟨t, h⟩ := h
  refine ⟨t, ?_⟩
  unfold World.setCell
  simp only [Array.getElem?_modify]
  rw [if_neg hp]
  exact h

theorem Bx.eight {w : World} {g : Nat} {a0 a1 a2 a3 a4 a5 a6 a7 : Value} (h : Bx w g #[a0, a1, a2, a3, a4, a5, a6, a7]) :
    w.cell? ⟨g, 0, none⟩ = some a0 ∧ w.cell? ⟨g, 1, none⟩ = some a1 ∧ w.cell? ⟨g, 2, none⟩ = some a2 ∧ w.cell? ⟨g, 3, none⟩ = some a3 ∧ w.cell? ⟨g, 4, none⟩ = some a4 ∧ w.cell? ⟨g, 5, none⟩ = some a5 ∧ w.cell? ⟨g, 6, none⟩ = some a6 ∧ w.cell? ⟨g, 7, none⟩ = some a7 :=
  ⟨h.cell 0 rfl, h.cell 1 rfl, h.cell 2 rfl, h.cell 3 rfl, h.cell 4 rfl, h.cell 5 rfl, h.cell 6 rfl, h.cell 7 rfl⟩

theorem rf_set {B : Nat} {w : World} {v : Value} {N n : Nat} (h : Rd 64 w v N n ∧ Fr B w v) {p : Addr} (hp : p.block < B) (u : Value) : Rd 64 (w.setCell p u) v N n ∧ Fr B (w.setCell p u) v := ⟨h.1.setCell_fr h.2 hp u, h.2.setCell hp u⟩

theorem below_set8 {w w1 : World} {g : Nat} (h : Below w.heap.size w w1) (hg : w.heap.size ≤ g) (x0 x1 x2 x3 x4 x5 x6 x7 : Value) :
    Below w.heap.size w ((((((((w1.setCell ⟨g, 0, none⟩ x0).setCell ⟨g, 1, none⟩ x1).setCell ⟨g, 2, none⟩ x2).setCell ⟨g, 3, none⟩ x3).setCell ⟨g, 4, none⟩ x4).setCell ⟨g, 5, none⟩ x5).setCell ⟨g, 6, none⟩ x6).setCell ⟨g, 7, none⟩ x7) :=
  (((((((h.setCell (p := ⟨g, 0, none⟩) hg x0).setCell (p := ⟨g, 1, none⟩) hg x1).setCell (p := ⟨g, 2, none⟩) hg x2).setCell (p := ⟨g, 3, none⟩) hg x3).setCell (p := ⟨g, 4, none⟩) hg x4).setCell (p := ⟨g, 5, none⟩) hg x5).setCell (p := ⟨g, 6, none⟩) hg x6).setCell (p := ⟨g, 7, none⟩) hg x7

set_option maxRecDepth 100000 in
set_option maxHeartbeats 8000000 in
theorem single_any (f a : Nat) (w : World) (hf : f < 4) (ha : a < 2 ^ (fm f).w) (hG : Gl w) (hR : GlR w) :
    Calls Tryz.prog 32 #[.int .i64 f, .int .u64 a] w fun e w' => ∃ A c, e = .returned (.agg (pv (singleP (fm f) a) A c)) ∧ Rd 64 w' (.slice A (nd 64 (singleP (fm f) a).d.n) c) (singleP (fm f) a).d.n (nd 64 (singleP (fm f) a).d.n) ∧ Below w.heap.size w w' := by
  have ok := fm_ok f
  have hcl := fun wx h => Class_ok f a wx hf ha h
  have hfl := fun wx h => Fields_ok f a wx hf ha h
  obtain ⟨cc, hcc⟩ : ∃ y, y = clsF (fm f) a := ⟨_, rfl⟩
  have hn := cls_nan ok a
  have hs := cls_sig ok a
  have hi := cls_inf ok a
  rw [← hcc] at hcl hn hs hi
  have hr : 0 ≤ cc := by
    rw [hcc]; unfold clsF; repeat' split
    all_goals omega
  have hval := fun (hfin : (fm f).abs a < (fm f).inf) wx h1 h2 => Value_fin f a wx hf ha hfin h1 h2
  have hfi : (fm f).isNan a = false → (fm f).isInf a = false → (fm f).abs a < (fm f).inf := fin_of
  obtain ⟨q, hq⟩ : ∃ q, q = singleP (fm f) a := ⟨_, rfl⟩
  rw [← hq]
  unfold singleP at hq
  have hb0 := below1 w (.cells pv0 65)
  have b0 := Bx.new w pv0 65
  have HB := Lib.hid hb0
  have B4 := Lib.hid b0
  have HG := Lib.hid (hG.below hb0)
  have HR := Lib.hid (hR.below hb0)
  have Hcl := Lib.hid hcl
  have Hfl := Lib.hid hfl
  have Hval := Lib.hid hval
  have Hq := Lib.hid hq
  have Hi := Lib.hid (And.intro hn (And.intro hs (And.intro hi hfi)))
  generalize (fm f).neg a = ng at *
  clear hcl hfl hval hq hn hs hi hfi hcc hb0 b0 hG hR ok hf ha
  go_enter Tryz.func32, Tryz.ntmps32
  go_wp2_with fail
  unfold pv0 at B4
  refine (Hcl.out _ HR.out).mono ?_
  rintro _ w1 ⟨rfl, hb1⟩
  replace HB := Lib.hid (keep_belowB HB.out hb1 (Nat.le_refl _))
  replace B4 := Lib.hid (B4.out.below hb1)
  replace HG := Lib.hid (HG.out.below hb1)
  replace HR := Lib.hid (HR.out.below hb1)
  clear hb1 Hcl
  go_wp2_with fail
  refine (Hfl.out _ HR.out).mono ?_
  rintro _ w2 ⟨rfl, hb2⟩
  replace HB := Lib.hid (keep_belowB HB.out hb2 (Nat.le_refl _))
  replace B4 := Lib.hid (B4.out.below hb2)
  replace HG := Lib.hid (HG.out.below hb2)
  replace HR := Lib.hid (HR.out.below hb2)
  clear hb2 Hfl
  have hi := Hi.out
  go_upto_region 3 with (fail)
  by_cases h0 : cc = 0
  · subst h0
    have hq' : q = ⟨true, true, false, false, ng, D.zero⟩ := by rw [Hq.out, hi.1, hi.2.1, hi.2.2.1]; rfl
    clear Hq Hval Hi hi
    have bn := Bx.new w2 #[.bool true, .bool true, .bool false, .bool false, .bool ng, .bool false, .slice none 0 0, .int .i64 0] 65
    have hbn := below1 w2 (.cells #[.bool true, .bool true, .bool false, .bool false, .bool ng, .bool false, .slice none 0 0, .int .i64 0] 65)
    obtain ⟨k0, k1, k2, k3, k4, k5, k6, k7⟩ := bn.eight
    replace B4 := Lib.hid (B4.out.below hbn)
    replace HB := Lib.hid (keep_belowB HB.out hbn (Nat.le_refl _))
    clear bn hbn
    obtain ⟨c0, c1, c2, c3, c4, c5, c6, c7⟩ := B4.out.eight
    have rf : ∀ j, (w2.alloc (.cells #[.bool true, .bool true, .bool false, .bool false, .bool ng, .bool false, .slice none 0 0, .int .i64 0] 65)).frozen? ⟨w.heap.size, j, none⟩ = false := fun j => B4.out.free j
    go_wp2_with fail
    obtain ⟨r0, r1, r2, r3, r4, r5, r6, r7⟩ := (B4.out.set8 (.bool true) (.bool true) (.bool false) (.bool false) (.bool ng) (.bool false) (.slice none 0 0) (.int .i64 0)).eight
    refine bodyPost_ret (v := .agg #[.bool true, .bool true, .bool false, .bool false, .bool ng, .bool false, .slice none 0 0, .int .i64 0]) (by simp [results, Tryz.results32, go_sem, r0, r1, r2, r3, r4, r5, r6, r7]) rfl ?_
    subst hq'
    exact ⟨none, 0, rfl, Rd.none_, below_set8 HB.out (Nat.le_refl _) _ _ _ _ _ _ _ _⟩
  by_cases h1 : cc = 1
  · subst h1
    have hq' : q = ⟨true, false, false, false, ng, D.zero⟩ := by rw [Hq.out, hi.1, hi.2.1, hi.2.2.1]; rfl
    clear Hq Hval Hi hi h0
    have bn := Bx.new w2 #[.bool true, .bool false, .bool false, .bool false, .bool ng, .bool false, .slice none 0 0, .int .i64 0] 65
    have hbn := below1 w2 (.cells #[.bool true, .bool false, .bool false, .bool false, .bool ng, .bool false, .slice none 0 0, .int .i64 0] 65)
    obtain ⟨k0, k1, k2, k3, k4, k5, k6, k7⟩ := bn.eight
    replace B4 := Lib.hid (B4.out.below hbn)
    replace HB := Lib.hid (keep_belowB HB.out hbn (Nat.le_refl _))
    clear bn hbn
    obtain ⟨c0, c1, c2, c3, c4, c5, c6, c7⟩ := B4.out.eight
    have rf : ∀ j, (w2.alloc (.cells #[.bool true, .bool false, .bool false, .bool false, .bool ng, .bool false, .slice none 0 0, .int .i64 0] 65)).frozen? ⟨w.heap.size, j, none⟩ = false := fun j => B4.out.free j
    go_wp2_with fail
    obtain ⟨r0, r1, r2, r3, r4, r5, r6, r7⟩ := (B4.out.set8 (.bool true) (.bool false) (.bool false) (.bool false) (.bool ng) (.bool false) (.slice none 0 0) (.int .i64 0)).eight
    refine bodyPost_ret (v := .agg #[.bool true, .bool false, .bool false, .bool false, .bool ng, .bool false, .slice none 0 0, .int .i64 0]) (by simp [results, Tryz.results32, go_sem, r0, r1, r2, r3, r4, r5, r6, r7]) rfl ?_
    subst hq'
    exact ⟨none, 0, rfl, Rd.none_, below_set8 HB.out (Nat.le_refl _) _ _ _ _ _ _ _ _⟩
  by_cases h2 : cc = 2
  · subst h2
    have hq' : q = ⟨false, false, false, true, ng, D.zero⟩ := by rw [Hq.out, hi.1, hi.2.1, hi.2.2.1]; rfl
    clear Hq Hval Hi hi h0 h1
    have bn := Bx.new w2 #[.bool false, .bool false, .bool false, .bool true, .bool ng, .bool false, .slice none 0 0, .int .i64 0] 65
    have hbn := below1 w2 (.cells #[.bool false, .bool false, .bool false, .bool true, .bool ng, .bool false, .slice none 0 0, .int .i64 0] 65)
    obtain ⟨k0, k1, k2, k3, k4, k5, k6, k7⟩ := bn.eight
    replace B4 := Lib.hid (B4.out.below hbn)
    replace HB := Lib.hid (keep_belowB HB.out hbn (Nat.le_refl _))
    clear bn hbn
    obtain ⟨c0, c1, c2, c3, c4, c5, c6, c7⟩ := B4.out.eight
    have rf : ∀ j, (w2.alloc (.cells #[.bool false, .bool false, .bool false, .bool true, .bool ng, .bool false, .slice none 0 0, .int .i64 0] 65)).frozen? ⟨w.heap.size, j, none⟩ = false := fun j => B4.out.free j
    go_wp2_with fail
    obtain ⟨r0, r1, r2, r3, r4, r5, r6, r7⟩ := (B4.out.set8 (.bool false) (.bool false) (.bool false) (.bool true) (.bool ng) (.bool false) (.slice none 0 0) (.int .i64 0)).eight
    refine bodyPost_ret (v := .agg #[.bool false, .bool false, .bool false, .bool true, .bool ng, .bool false, .slice none 0 0, .int .i64 0]) (by simp [results, Tryz.results32, go_sem, r0, r1, r2, r3, r4, r5, r6, r7]) rfl ?_
    subst hq'
    exact ⟨none, 0, rfl, Rd.none_, below_set8 HB.out (Nat.le_refl _) _ _ _ _ _ _ _ _⟩
  by_cases h9 : cc = 9
  · subst h9
    have hq' : q = ⟨false, false, false, true, ng, D.zero⟩ := by rw [Hq.out, hi.1, hi.2.1, hi.2.2.1]; rfl
    clear Hq Hval Hi hi h0 h1 h2
    have bn := Bx.new w2 #[.bool false, .bool false, .bool false, .bool true, .bool ng, .bool false, .slice none 0 0, .int .i64 0] 65
    have hbn := below1 w2 (.cells #[.bool false, .bool false, .bool false, .bool true, .bool ng, .bool false, .slice none 0 0, .int .i64 0] 65)
    obtain ⟨k0, k1, k2, k3, k4, k5, k6, k7⟩ := bn.eight
    replace B4 := Lib.hid (B4.out.below hbn)
    replace HB := Lib.hid (keep_belowB HB.out hbn (Nat.le_refl _))
    clear bn hbn
    obtain ⟨c0, c1, c2, c3, c4, c5, c6, c7⟩ := B4.out.eight
    have rf : ∀ j, (w2.alloc (.cells #[.bool false, .bool false, .bool false, .bool true, .bool ng, .bool false, .slice none 0 0, .int .i64 0] 65)).frozen? ⟨w.heap.size, j, none⟩ = false := fun j => B4.out.free j
    go_wp2_with fail
    obtain ⟨r0, r1, r2, r3, r4, r5, r6, r7⟩ := (B4.out.set8 (.bool false) (.bool false) (.bool false) (.bool true) (.bool ng) (.bool false) (.slice none 0 0) (.int .i64 0)).eight
    refine bodyPost_ret (v := .agg #[.bool false, .bool false, .bool false, .bool true, .bool ng, .bool false, .slice none 0 0, .int .i64 0]) (by simp [results, Tryz.results32, go_sem, r0, r1, r2, r3, r4, r5, r6, r7]) rfl ?_
    subst hq'
    exact ⟨none, 0, rfl, Rd.none_, below_set8 HB.out (Nat.le_refl _) _ _ _ _ _ _ _ _⟩
  have e1 : (fm f).isNan a = false := by rw [hi.1]; simp; omega
  have e2 : (fm f).isSig a = false := by rw [hi.2.1]; simp; omega
  have e3 : (fm f).isInf a = false := by rw [hi.2.2.1]; simp; omega
  have hv := Hval.out (hi.2.2.2 e1 e3)
  have hq' : q = ⟨false, false, false, false, ng, valD (fm f) a⟩ := by rw [Hq.out, e1, e2, e3]; rfl
  have t0 : (cc == 0) = false := by simpa using h0
  have t1 : decide (cc ≤ 1) = false := by simp; omega
  have t2 : (cc == 2) = false := by simpa using h2
  have t9 : (cc == 9) = false := by simpa using h9
  obtain ⟨d, hd⟩ : ∃ d, d = valD (fm f) a := ⟨_, rfl⟩
  rw [← hd] at hq' hv
  have Hv := Lib.hid hv
  have bn := Bx.new w2 #[.bool false, .bool false, .bool false, .bool false, .bool ng, .bool false, .slice none 0 0, .int .i64 0] 65
  have hbn := below1 w2 (.cells #[.bool false, .bool false, .bool false, .bool false, .bool ng, .bool false, .slice none 0 0, .int .i64 0] 65)
  obtain ⟨k0, k1, k2, k3, k4, k5, k6, k7⟩ := bn.eight
  have HB2 := Lib.hid (keep_belowB (keep_belowB HB.out (Below.refl _ _) (Nat.le_refl _)) hbn (Nat.le_refl _))
  replace HG := Lib.hid (HG.out.below hbn)
  replace HR := Lib.hid (HR.out.below hbn)
  have hlt : w.heap.size < w2.heap.size := by obtain ⟨t, h⟩ := B4.out; exact lt_size_of_some h
  replace B4 := Lib.hid (B4.out.below hbn)
  have BN := Lib.hid bn
  have Hlt := Lib.hid hlt
  clear hd hv bn hbn Hq Hval Hi hi e1 e2 e3 h0 h1 h2 h9 hr HB hlt
  go_wp2_with fail
  refine (Hv.out _ HR.out HG.out).mono ?_
  rintro _ w3 ⟨x, rfl, ⟨A, c, rfl, -, -, hrd, hfr⟩, hb3⟩
  replace HB2 := Lib.hid (keep_belowB HB2.out hb3 (Nat.le_refl _))
  replace B4 := Lib.hid (B4.out.below hb3)
  replace BN := Lib.hid (BN.out.below hb3)
  clear hb3 Hv k0 k1 k2 k3 k4 k5 k6 k7
  have BN2 := Lib.hid (BN.out.set3 (.bool d.s) (.slice A (nd 64 d.n) c) (.int .i64 d.e))
  obtain ⟨k0, k1, k2, k3, k4, k5, k6, k7⟩ := BN2.out.eight
  obtain ⟨l0, l1, l2, l3, l4, l5, l6, l7⟩ := BN.out.eight
  have lf : ∀ j, w3.frozen? ⟨w2.heap.size, j, none⟩ = false := fun j => BN.out.free j
  have hne' : w2.heap.size ≠ w.heap.size := by have := Hlt.out; omega
  have B5 := (((B4.out.other (p := ⟨w2.heap.size, 5, none⟩) hne' (.bool d.s)).other (p := ⟨w2.heap.size, 6, none⟩) hne' (.slice A (nd 64 d.n) c)).other (p := ⟨w2.heap.size, 7, none⟩) hne' (.int .i64 d.e))
  obtain ⟨c0, c1, c2, c3, c4, c5, c6, c7⟩ := B5.eight
  have rf := fun j => B5.free j
  clear hne'
  go_wp2_with fail
  have hne : w2.heap.size ≠ w.heap.size := by have := Hlt.out; omega
  obtain ⟨r0, r1, r2, r3, r4, r5, r6, r7⟩ := ((((B4.out.other (p := ⟨w2.heap.size, 5, none⟩) hne (.bool d.s)).other (p := ⟨w2.heap.size, 6, none⟩) hne (.slice A (nd 64 d.n) c)).other (p := ⟨w2.heap.size, 7, none⟩) hne (.int .i64 d.e)).set8 (.bool false) (.bool false) (.bool false) (.bool false) (.bool ng) (.bool d.s) (.slice A (nd 64 d.n) c) (.int .i64 d.e)).eight
  refine bodyPost_ret (v := .agg #[.bool false, .bool false, .bool false, .bool false, .bool ng, .bool d.s, .slice A (nd 64 d.n) c, .int .i64 d.e]) (by simp [results, Tryz.results32, go_sem, r0, r1, r2, r3, r4, r5, r6, r7]) rfl ?_
  subst hq'
  have hle : w.heap.size ≤ w2.heap.size := by have := Hlt.out; omega
  have hB1 : w2.heap.size < (w2.alloc (.cells #[.bool false, .bool false, .bool false, .bool false, .bool ng, .bool false, .slice none 0 0, .int .i64 0] 65)).heap.size := by simp
  have hB2 := Nat.lt_of_le_of_lt hle hB1
  refine ⟨A, c, rfl, ?_, below_set8 (((HB2.out.setCell (p := ⟨w2.heap.size, 5, none⟩) hle (.bool d.s)).setCell (p := ⟨w2.heap.size, 6, none⟩) hle (.slice A (nd 64 d.n) c)).setCell (p := ⟨w2.heap.size, 7, none⟩) hle (.int .i64 d.e)) (Nat.le_refl _) _ _ _ _ _ _ _ _⟩
  exact (rf_set (rf_set (rf_set (rf_set (rf_set (rf_set (rf_set (rf_set (rf_set (rf_set (rf_set (And.intro hrd hfr) (p := ⟨w2.heap.size, 5, none⟩) hB1 _) (p := ⟨w2.heap.size, 6, none⟩) hB1 _) (p := ⟨w2.heap.size, 7, none⟩) hB1 _) (p := ⟨w.heap.size, 0, none⟩) hB2 _) (p := ⟨w.heap.size, 1, none⟩) hB2 _) (p := ⟨w.heap.size, 2, none⟩) hB2 _) (p := ⟨w.heap.size, 3, none⟩) hB2 _) (p := ⟨w.heap.size, 4, none⟩) hB2 _) (p := ⟨w.heap.size, 5, none⟩) hB2 _) (p := ⟨w.heap.size, 6, none⟩) hB2 _) (p := ⟨w.heap.size, 7, none⟩) hB2 _).1

end Go.Proofs.YtdbfkfbncmbfcaaGreatDoor
