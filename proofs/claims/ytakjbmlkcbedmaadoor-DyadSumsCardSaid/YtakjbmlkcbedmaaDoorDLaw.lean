/- Walks of the law's own functions: copied, kept. -/
import Derived.Deep.DeepCutAuto
import Derived.Deep.CutBlock
import Derived.Test.YtakjbmlkcbedmaaDoorRefB
namespace Go.Proofs.YtakjbmlkcbedmaaDoor
set_option linter.unusedVariables false
set_option linter.unusedSimpArgs false
open Go.RowKit

/-- the marks behind a copy -/
def mk3 : Nat := 71 + 72 * 2 ^ 64 + 73 * 2 ^ 128

theorem mk3_dg : dg 64 mk3 0 = 71 ∧ dg 64 mk3 1 = 72 ∧ dg 64 mk3 2 = 73 := by decide +kernel

theorem mk3_lt : mk3 < 2 ^ (64 * 3) := by decide +kernel

theorem Rd.three (w : World) (t : TypeId) : Rd 64 (w.alloc (.cells #[.int .u64 71, .int .u64 72, .int .u64 73] t)) (.slice (some ⟨w.heap.size, 0, none⟩) 3 3) mk3 3 := by
  refine ⟨_, 3, rfl, Nat.le_refl _, by omega, mk3_lt, fun _ => ⟨_, 0, rfl, by simp, fun j hj => ?_⟩⟩
  obtain ⟨h0, h1, h2⟩ := mk3_dg
  rcases (show j = 0 ∨ j = 1 ∨ j = 2 by omega) with rfl | rfl | rfl
  · rw [World.cell?_alloc_at _ _ _ _ rfl, h0]; rfl
  · rw [World.cell?_alloc_at _ _ _ _ rfl, h1]; rfl
  · rw [World.cell?_alloc_at _ _ _ _ rfl, h2]; rfl

/-- x is a copy, with the marks behind its words -/
def Cpy (B : Nat) (w : World) (x : Value) (s : Bool) (N n : Nat) (e : Int) : Prop :=
  ∃ A c, x = .agg #[.bool s, .slice A n c, .int .i64 e] ∧ Row 64 B w (.slice A (n + 3) c) (N + mk3 * 2 ^ (64 * n)) (n + 3) ∧ N < 2 ^ (64 * n)

set_option maxRecDepth 100000 in
set_option maxHeartbeats 4000000 in
theorem lcopied_any (s : Bool) (A : Option Addr) (N n c : Nat) (e : Int) (w : World) (hv : Rd 64 w (.slice A n c) N n) (hA : A = none → c = 0) (hn : n + 3 ≤ 17592186044416) :
    Calls Tryd.prog 7 #[.agg #[.bool s, .slice A n c, .int .i64 e]] w fun e' w' => ∃ x, e' = .returned x ∧ Cpy w.heap.size w' x s N n e ∧ Below w.heap.size w w' := by
  have hb0 := below2 w (.cells #[.bool s, .slice A n c, .int .i64 e] 26) (.cells #[.bool false, .slice none 0 0, .int .i64 0] 26)
  have b1 := (Box3.new w (.bool s) (.slice A n c) (.int .i64 e) 26).alloc (.cells #[.bool false, .slice none 0 0, .int .i64 0] 26)
  have b2 := BoxD.new (w.alloc (.cells #[.bool s, .slice A n c, .int .i64 e] 26)) (.bool false) (.slice none 0 0) (.int .i64 0)
  rw [World.size_alloc] at b2
  obtain ⟨W, hW⟩ : ∃ W, W = (w.alloc (.cells #[.bool s, .slice A n c, .int .i64 e] 26)).alloc (.cells #[.bool false, .slice none 0 0, .int .i64 0] 26) := ⟨_, rfl⟩
  have hWs : w.heap.size + 1 < W.heap.size := by rw [hW]; simp
  have hvW : Rd 64 W (.slice A n c) N n := by rw [hW]; exact hv.below hb0
  rw [← hW] at hb0 b1 b2
  have HB := Lib.hid hb0
  have B2 := Lib.hid b2
  have HWs := Lib.hid hWs
  have R := Lib.hid (hvW.below (below1 W (Obj.cells #[] 42)))
  have HRow := Lib.hid (Row.empty (k := 64) (w := W) (Nat.le_refl _))
  obtain ⟨p0, p1, p2, pf, -⟩ := (b1.alloc (Obj.cells #[] 42)).cells
  have Hlt := Lib.hid hv.lt
  have HA := Lib.hid hA
  have Hn := Lib.hid hn
  have B1 := Lib.hid b1
  clear hb0 b1 b2 hWs hv hvW hA hn
  go_enter Tryd.func7, Tryd.ntmps7
  go_upto_region 1 with (fail)
  rw [← hW]
  clear hW
  go_upto_region 2 with (at_builtin; refine wpList_append_words' rfl (.tmp 4) (.tmp 6) rfl rfl HRow.out rfl R.out HA.out (by have := Hn.out; omega) (by simp) ?_; intro v' w' hR hg; have hbw' := HRow.out.grown hg (below1 _ _) (by simp))
  rw [show 0 + N * 2 ^ (64 * 0) = N by simp, Nat.zero_add] at hR
  obtain ⟨A1, c1, rfl, hc1, -⟩ := hR.form
  have HR := Lib.hid (hR.alloc (.cells #[.int .u64 71, .int .u64 72, .int .u64 73] 42))
  have HBw := Lib.hid hbw'
  have HThree := Lib.hid (Rd.three w' 42)
  have hws := hbw'.size
  have HBw2 := Lib.hid (below_alloc' hbw' (.cells #[.int .u64 71, .int .u64 72, .int .u64 73] 42))
  have HS2 := Lib.hid (show W.heap.size ≤ (w'.alloc (.cells #[.int .u64 71, .int .u64 72, .int .u64 73] 42)).heap.size by simp; omega)
  clear hR hg hbw' HRow R HA p0 p1 p2 pf hc1 hws
  go_wp2_with (at_builtin; refine wpList_append_words' rfl (.tmp 8) (.tmp 9) rfl rfl HR.out rfl HThree.out nofun (by have := Hn.out; omega) HS2.out ?_; intro v2 w2 hR2 hg2; have hbw2 := HR.out.grown hg2 HBw2.out HS2.out)
  obtain ⟨A2, c2, rfl, hc2, -⟩ := hR2.form
  have hc2' : (n : Int) ≤ (c2 : Int) := by omega
  have hn0 : (0 : Int) ≤ (n : Int) := by omega
  have b1 := B1.out.keep hbw2
  have b2 := B2.out.below hbw2
  have HR2 := Lib.hid hR2
  have HBn := Lib.hid (keep_belowB HB.out hbw2 (by have := HB.out.size; omega))
  have HB2 := Lib.hid b2
  obtain ⟨p0, p1, p2, -, -⟩ := b1.cells
  obtain ⟨y0, y1, y2, yf, -⟩ := b2.box3.cells
  clear hR2 hg2 hbw2 HR HThree HBw HBw2 HS2 B1 B2 b1 b2
  go_region
  go_wp2
  obtain ⟨q0, q1, q2, -, -⟩ := (HB2.out.box3.setAll (.bool s) (.slice A2 n c2) (.int .i64 e)).cells
  refine bodyPost_ret (v := .agg #[.bool s, .slice A2 n c2, .int .i64 e]) (by simp [results, Tryd.results7, go_sem, q0, q1, q2]) rfl ?_
  exact ⟨_, rfl, ⟨A2, c2, rfl, (HR2.out.mono (by have := HWs.out; omega)).wd HB2.out.wd, Hlt.out⟩, (below_box HBn.out (show w.heap.size ≤ w.heap.size + 1 by omega) _ _ _).drew⟩

theorem Cpy.below {B : Nat} {w w' : World} {x : Value} {s : Bool} {N n : Nat} {e : Int} (h : Cpy B w x s N n e) (hb : Below w.heap.size w w') : Cpy B w' x s N n e := by
  obtain ⟨A, c, e1, h1, h2⟩ := h
  exact ⟨A, c, e1, h1.below hb, h2⟩

/-- the words of a copy, and the marks -/
theorem Cpy.open {B : Nat} {w : World} {x : Value} {s : Bool} {N n : Nat} {e : Int} (h : Cpy B w x s N n e) (hn : n + 3 ≤ 17592186044416) :
    ∃ A c, x = .agg #[.bool s, .slice A n c, .int .i64 e] ∧ Rd 64 w (.slice A n c) N n ∧ Rd 64 w (.slice A (n + 3) c) (N + mk3 * 2 ^ (64 * n)) (n + 3) := by
  obtain ⟨A, c, e1, h1, h2⟩ := h
  have h3 := h1.rd (by omega)
  refine ⟨A, c, e1, ?_, h3⟩
  obtain ⟨_, h4, h5, h6⟩ := h3.at_
  refine ⟨A, c, rfl, by omega, by omega, h2, fun h0 => ?_⟩
  obtain ⟨b, o, rfl, hb, hc⟩ := h6 (by omega)
  refine ⟨b, o, rfl, hb, fun j hj => ?_⟩
  rw [hc j (by omega), dg_cat 64 N mk3 n j h2, if_pos hj]

theorem mk3_at {N n : Nat} (h : N < 2 ^ (64 * n)) : dg 64 (N + mk3 * 2 ^ (64 * n)) n = 71 ∧ dg 64 (N + mk3 * 2 ^ (64 * n)) (n + 1) = 72 ∧ dg 64 (N + mk3 * 2 ^ (64 * n)) (n + 2) = 73 := by
  obtain ⟨h0, h1, h2⟩ := mk3_dg
  refine ⟨?_, ?_, ?_⟩ <;> rw [dg_cat 64 N mk3 n _ h, if_neg (by omega)]
  · rw [Nat.sub_self]; exact h0
  · rw [show n + 1 - n = 1 by omega]; exact h1
  · rw [show n + 2 - n = 2 by omega]; exact h2

theorem same_self (s : Bool) (N n : Nat) (e : Int) : sameB s n N e s n N e = true := by unfold sameB sameW; simp

set_option maxRecDepth 100000 in
set_option maxHeartbeats 4000000 in
theorem kept_any (s : Bool) (A0 A : Option Addr) (N n c0 c : Nat) (e : Int) (w : World) (hx : Rd 64 w (.slice A n c) N n) (hx3 : Rd 64 w (.slice A (n + 3) c) (N + mk3 * 2 ^ (64 * n)) (n + 3)) (hv : Rd 64 w (.slice A0 n c0) N n) :
    Calls Tryd.prog 12 #[.agg #[.bool s, .slice A n c, .int .i64 e], .agg #[.bool s, .slice A0 n c0, .int .i64 e]] w fun e' w' => e' = .returned (.bool true) ∧ Below w.heap.size w w' := by
  have hb0 := below2 w (.cells #[.bool s, .slice A n c, .int .i64 e] 26) (.cells #[.bool s, .slice A0 n c0, .int .i64 e] 26)
  have b1 := (Box3.new w (.bool s) (.slice A n c) (.int .i64 e) 26).alloc (.cells #[.bool s, .slice A0 n c0, .int .i64 e] 26)
  have b2 := Box3.new1 w (.cells #[.bool s, .slice A n c, .int .i64 e] 26) (.bool s) (.slice A0 n c0) (.int .i64 e) 26
  obtain ⟨W, hW⟩ : ∃ W, W = (w.alloc (.cells #[.bool s, .slice A n c, .int .i64 e] 26)).alloc (.cells #[.bool s, .slice A0 n c0, .int .i64 e] 26) := ⟨_, rfl⟩
  have hxW : Rd 64 W (.slice A n c) N n := by rw [hW]; exact hx.below hb0
  have hx3W : Rd 64 W (.slice A (n + 3) c) (N + mk3 * 2 ^ (64 * n)) (n + 3) := by rw [hW]; exact hx3.below hb0
  have hvW : Rd 64 W (.slice A0 n c0) N n := by rw [hW]; exact hv.below hb0
  rw [← hW] at hb0 b1 b2
  have HB := Lib.hid hb0
  have B1 := Lib.hid b1
  have HSm := Lib.hid (same_any s s A A0 N n c N n c0 e e W hxW hvW)
  have R3 := Lib.hid hx3W
  have Hlt := Lib.hid hx.lt
  obtain ⟨p0, p1, p2, -, -⟩ := b1.cells
  obtain ⟨q0, q1, q2, -, -⟩ := b2.cells
  obtain ⟨-, hc3, hn3, -⟩ := hx3W.at_
  have hc' : (n : Int) + 3 ≤ (c : Int) := by omega
  have hw : IntKind.i64.wrap ((n : Int) + 3) = (n : Int) + 3 := by rw [IntKind.wrap_i64]; omega
  clear hb0 b1 b2 hx hx3 hv hxW hx3W hvW
  go_enter Tryd.func12, Tryd.ntmps12
  go_upto_region 1 with (fail)
  rw [← hW]
  clear hW
  go_wp2_with fail
  refine HSm.out.mono ?_
  rintro _ w1 ⟨rfl, hb⟩
  rw [same_self]
  replace HB := Lib.hid (keep_belowB HB.out hb (by have := HB.out.size; omega))
  replace B1 := Lib.hid (B1.out.keep hb)
  replace R3 := Lib.hid (R3.out.below hb)
  clear HSm hb p0 p1 p2 q0 q1 q2
  obtain ⟨p0, p1, p2, -, -⟩ := B1.out.cells
  obtain ⟨-, -, -, hr⟩ := R3.out.at_
  obtain ⟨b, o, rfl, hbs, hc⟩ := hr (by omega)
  obtain ⟨m0, m1, m2⟩ := mk3_at Hlt.out
  have k0 := hc n (by omega)
  have k1 := hc (n + 1) (by omega)
  have k2 := hc (n + 2) (by omega)
  rw [m0] at k0
  rw [m1] at k1
  rw [m2] at k2
  have hw1 : IntKind.i64.wrap ((n : Int) + 1) = (n : Int) + 1 := by rw [IntKind.wrap_i64]; omega
  have hw2 : IntKind.i64.wrap ((n : Int) + 2) = (n : Int) + 2 := by rw [IntKind.wrap_i64]; omega
  clear hr hc m0 m1 m2 R3 Hlt
  go_wp2_with fail
  go_ret
  exact ⟨rfl, HB.out⟩

end Go.Proofs.YtakjbmlkcbedmaaDoor
