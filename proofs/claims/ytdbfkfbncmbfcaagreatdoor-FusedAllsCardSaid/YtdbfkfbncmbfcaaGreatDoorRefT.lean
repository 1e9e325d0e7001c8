/- Walks of vernierref09's small functions: Zero, One, Opposite, turned. -/
import Derived.Outline
import Derived.Deep.CutBlock
import Derived.Test.YtdbfkfbncmbfcaaGreatDoorRefQ
import Derived.Test.YtdbfkfbncmbfcaaGreatDoorRefX
namespace Go.Proofs.YtdbfkfbncmbfcaaGreatDoor
set_option linter.unusedVariables false
set_option linter.unusedSimpArgs false
open Go.RowKit

def flA (x : Fl) (A : Option Addr) (c : Nat) : Array Value := #[.bool x.nan, .bool x.sig, .bool x.inf, .bool x.neg, .bool x.d.s, .slice A (nd 32 x.d.n) c, .int .i64 x.d.e]
def tmA (x : Tm) (A : Option Addr) (c : Nat) : Array Value := #[.bool x.wrong, .bool x.nan, .bool x.sig, .bool x.inf, .bool x.neg, .bool x.d.s, .slice A (nd 32 x.d.n) c, .int .i64 x.d.e]
def FlV (w : World) (v : Value) (x : Fl) : Prop := ∃ A c, v = .agg (flA x A c) ∧ Rd 32 w (.slice A (nd 32 x.d.n) c) x.d.n (nd 32 x.d.n)
def TmV (w : World) (v : Value) (x : Tm) : Prop := ∃ A c, v = .agg (tmA x A c) ∧ Rd 32 w (.slice A (nd 32 x.d.n) c) x.d.n (nd 32 x.d.n)

theorem FlV.belowB {w w' : World} {v : Value} {x : Fl} {B : Nat} (h : FlV w v x) (hb : Below B w w') (hB : w.heap.size ≤ B) : FlV w' v x := by
  obtain ⟨A, c, e, r⟩ := h; exact ⟨A, c, e, r.belowB hb hB⟩
theorem TmV.belowB {w w' : World} {v : Value} {x : Tm} {B : Nat} (h : TmV w v x) (hb : Below B w w') (hB : w.heap.size ≤ B) : TmV w' v x := by
  obtain ⟨A, c, e, r⟩ := h; exact ⟨A, c, e, r.belowB hb hB⟩

theorem nd_zero_test (n : Nat) : ((((nd 32 n : Nat) : Int) == 0) = decide (n = 0)) ∧ ((nd 32 n == 0) = decide (n = 0)) := by
  by_cases h : n = 0
  · subst h; rw [nd_zero]; exact ⟨rfl, rfl⟩
  · have := nd_pos 32 n h
    rw [decide_eq_false h]
    exact ⟨by rw [beq_eq_false_iff_ne]; omega, by rw [beq_eq_false_iff_ne]; omega⟩

theorem fzero_any (x : Fl) (A : Option Addr) (c : Nat) (w : World) : Calls Tryz.prog 75 #[.agg (flA x A c)] w fun e w' => e = .returned (.bool x.zero) ∧ Below w.heap.size w w' := by
  obtain ⟨z, hz⟩ : ∃ z, z = x.zero := ⟨_, rfl⟩
  rw [← hz]
  unfold Fl.zero at hz
  obtain ⟨t1, t2⟩ := nd_zero_test x.d.n
  have hb0 := below1 w (.cells (flA x A c) 91)
  have b1 := Bx.new w (flA x A c) 91
  obtain ⟨W, hW⟩ : ∃ W, W = w.alloc (.cells (flA x A c) 91) := ⟨_, rfl⟩
  rw [← hW] at hb0 b1
  unfold flA at hW b1 ⊢
  have HB := Lib.hid hb0
  obtain ⟨k0, k1, k2, k3, k4, k5, k6⟩ := b1.seven
  generalize decide (x.d.n = 0) = u at *
  generalize nd 32 x.d.n = l at *
  generalize x.nan = a at *
  generalize x.inf = b at *
  have e := Lib.hid hz
  clear hz hb0 b1
  go_enter Tryz.func75, Tryz.ntmps75
  go_upto_region 1 with (fail)
  rw [← hW]
  clear hW
  cases a
  · cases b
    · go_wp2
      go_ret
      exact ⟨by rw [e.out]; rfl, HB.out⟩
    · go_wp2
      go_ret
      exact ⟨by rw [e.out]; rfl, HB.out⟩
  · go_wp2
    go_ret
    exact ⟨by rw [e.out]; rfl, HB.out⟩

theorem tzero_any (x : Tm) (A : Option Addr) (c : Nat) (w : World) : Calls Tryz.prog 81 #[.agg (tmA x A c)] w fun e w' => e = .returned (.bool x.zero) ∧ Below w.heap.size w w' := by
  obtain ⟨z, hz⟩ : ∃ z, z = x.zero := ⟨_, rfl⟩
  rw [← hz]
  unfold Tm.zero at hz
  obtain ⟨t1, t2⟩ := nd_zero_test x.d.n
  have hb0 := below1 w (.cells (tmA x A c) 88)
  have b1 := Bx.new w (tmA x A c) 88
  obtain ⟨W, hW⟩ : ∃ W, W = w.alloc (.cells (tmA x A c) 88) := ⟨_, rfl⟩
  rw [← hW] at hb0 b1
  unfold tmA at hW b1 ⊢
  have HB := Lib.hid hb0
  obtain ⟨k0, k1, k2, k3, k4, k5, k6, k7⟩ := b1.eight
  generalize decide (x.d.n = 0) = u at *
  generalize nd 32 x.d.n = l at *
  generalize x.wrong = f at *
  generalize x.nan = a at *
  generalize x.inf = b at *
  have e := Lib.hid hz
  clear hz hb0 b1
  go_enter Tryz.func81, Tryz.ntmps81
  go_upto_region 1 with (fail)
  rw [← hW]
  clear hW
  cases f
  · cases a
    · cases b
      · go_wp2
        go_ret
        exact ⟨by rw [e.out]; rfl, HB.out⟩
      · go_wp2
        go_ret
        exact ⟨by rw [e.out]; rfl, HB.out⟩
    · go_wp2
      go_ret
      exact ⟨by rw [e.out]; rfl, HB.out⟩
  · go_wp2
    go_ret
    exact ⟨by rw [e.out]; rfl, HB.out⟩

set_option maxRecDepth 100000 in
theorem opposite_any (s : Bool) (A : Option Addr) (l c : Nat) (e : Int) (w : World) : Calls Tryz.prog 102 #[.agg #[.bool s, .slice A l c, .int .i64 e]] w fun e' w' => e' = .returned (.agg #[.bool (!s), .slice A l c, .int .i64 e]) ∧ Below w.heap.size w w' := by
  have hb0 := below2 w (.cells #[.bool s, .slice A l c, .int .i64 e] 86) (.cells #[.bool false, .slice none 0 0, .int .i64 0] 86)
  have b1 := (Box3.new w (.bool s) (.slice A l c) (.int .i64 e) 86).alloc (.cells #[.bool false, .slice none 0 0, .int .i64 0] 86)
  have b2 := Box3.new1 w (.cells #[.bool s, .slice A l c, .int .i64 e] 86) (.bool false) (.slice none 0 0) (.int .i64 0) 86
  obtain ⟨W, hW⟩ : ∃ W, W = (w.alloc (.cells #[.bool s, .slice A l c, .int .i64 e] 86)).alloc (.cells #[.bool false, .slice none 0 0, .int .i64 0] 86) := ⟨_, rfl⟩
  rw [← hW] at hb0 b1 b2
  have HB := Lib.hid hb0
  have B2 := Lib.hid b2
  obtain ⟨x0, x1, x2, xf, -⟩ := b1.cells
  obtain ⟨y0, y1, y2, yf, -⟩ := b2.cells
  clear hb0 b1 b2
  go_enter Tryz.func102, Tryz.ntmps102
  go_upto_region 1 with (fail)
  rw [← hW]
  clear hW
  go_wp2_with fail
  obtain ⟨q0, q1, q2, -, -⟩ := (B2.out.setAll (.bool (!s)) (.slice A l c) (.int .i64 e)).cells
  refine bodyPost_ret (v := .agg #[.bool (!s), .slice A l c, .int .i64 e]) (by simp [results, Tryz.results102, go_sem, q0, q1, q2]) rfl ?_
  exact ⟨rfl, below_box HB.out (show w.heap.size ≤ w.heap.size + 1 by omega) (.bool (!s)) (.slice A l c) (.int .i64 e)⟩

set_option maxRecDepth 100000 in
theorem tone_any (v : Value) (x : Fl) (w : World) (h : FlV w v x) : Calls Tryz.prog 71 #[v] w fun e w' => ∃ v', e = .returned v' ∧ TmV w' v' (oneT x) ∧ Below w.heap.size w w' := by
  obtain ⟨A, c, rfl, r⟩ := h
  have hb0 := below2 w (.cells (flA x A c) 91) (.cells pv0 88)
  have b1 := (Bx.new w (flA x A c) 91).below (below1 _ (.cells pv0 88))
  have b2 := Bx.new (w.alloc (.cells (flA x A c) 91)) pv0 88
  rw [World.size_alloc] at b2
  obtain ⟨W, hW⟩ : ∃ W, W = (w.alloc (.cells (flA x A c) 91)).alloc (.cells pv0 88) := ⟨_, rfl⟩
  rw [← hW] at hb0 b1 b2
  unfold flA pv0 at hW
  unfold flA at b1
  unfold pv0 at b2
  unfold flA
  have HB := Lib.hid hb0
  have B2 := Lib.hid b2
  have R := Lib.hid r
  obtain ⟨k0, k1, k2, k3, k4, k5, k6⟩ := b1.seven
  obtain ⟨y0, y1, y2, y3, y4, y5, y6, y7⟩ := b2.eight
  have yf : ∀ j, W.frozen? ⟨w.heap.size + 1, j, none⟩ = false := fun j => b2.free j
  clear hb0 b1 b2 r
  go_enter Tryz.func71, Tryz.ntmps71
  go_upto_region 1 with (fail)
  rw [← hW]
  clear hW
  go_wp2_with fail
  obtain ⟨q0, q1, q2, q3, q4, q5, q6, q7⟩ := (B2.out.set8 (.bool false) (.bool x.nan) (.bool x.sig) (.bool x.inf) (.bool x.neg) (.bool x.d.s) (.slice A (nd 32 x.d.n) c) (.int .i64 x.d.e)).eight
  refine bodyPost_ret (v := .agg #[.bool false, .bool x.nan, .bool x.sig, .bool x.inf, .bool x.neg, .bool x.d.s, .slice A (nd 32 x.d.n) c, .int .i64 x.d.e]) (by simp [results, Tryz.results71, go_sem, q0, q1, q2, q3, q4, q5, q6, q7]) rfl ?_
  have hbf := below_set8 HB.out (show w.heap.size ≤ w.heap.size + 1 by omega) (.bool false) (.bool x.nan) (.bool x.sig) (.bool x.inf) (.bool x.neg) (.bool x.d.s) (.slice A (nd 32 x.d.n) c) (.int .i64 x.d.e)
  exact ⟨_, rfl, ⟨_, _, rfl, R.out.belowB hbf (Nat.le_refl _)⟩, hbf⟩

end Go.Proofs.YtdbfkfbncmbfcaaGreatDoor
