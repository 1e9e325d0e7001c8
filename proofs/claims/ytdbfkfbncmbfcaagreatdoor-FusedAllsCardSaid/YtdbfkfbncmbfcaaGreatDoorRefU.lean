/- Walks of vernierref09: turned, Product, Sum. Printed by gen/refprod.py. -/
import Derived.Outline
import Derived.Deep.CutBlock
import Derived.Test.YtdbfkfbncmbfcaaGreatDoorRefT
namespace Go.Proofs.YtdbfkfbncmbfcaaGreatDoor
set_option linter.unusedVariables false
set_option linter.unusedSimpArgs false
open Go.RowKit

def fl0 : Array Value := #[.bool false, .bool false, .bool false, .bool false, .bool false, .slice none 0 0, .int .i64 0]

theorem Bx.putNeg {w : World} {g : Nat} {a0 a1 a2 a3 a4 a5 a6 : Value} (h : Bx w g #[a0, a1, a2, a3, a4, a5, a6]) (x : Value) : Bx (w.setCell ⟨g, 3, none⟩ x) g #[a0, a1, a2, x, a4, a5, a6] := by
  obtain ⟨t, h⟩ := h
  refine ⟨t, ?_⟩
  simp [World.setCell, Array.getElem?_modify, h]
theorem Bx.putWrong {w : World} {g : Nat} {a0 a1 a2 a3 a4 a5 a6 a7 : Value} (h : Bx w g #[a0, a1, a2, a3, a4, a5, a6, a7]) (x : Value) : Bx (w.setCell ⟨g, 0, none⟩ x) g #[x, a1, a2, a3, a4, a5, a6, a7] := by
  obtain ⟨t, h⟩ := h
  refine ⟨t, ?_⟩
  simp [World.setCell, Array.getElem?_modify, h]

set_option maxRecDepth 100000 in
set_option maxHeartbeats 4000000 in
theorem turned_any (v : Value) (x : Fl) (t : Bool) (w : World) (h : FlV w v x) : Calls Tryz.prog 70 #[v, .bool t] w fun e w' => ∃ v', e = .returned v' ∧ FlV w' v' (x.turn t) ∧ Below w.heap.size w w' := by
  obtain ⟨A, c, rfl, r⟩ := h
  have hb0 := below2 w (.cells (flA x A c) 91) (.cells fl0 91)
  have b1 := (Bx.new w (flA x A c) 91).below (below1 _ (.cells fl0 91))
  have b2 := Bx.new (w.alloc (.cells (flA x A c) 91)) fl0 91
  rw [World.size_alloc] at b2
  obtain ⟨W, hW⟩ : ∃ W, W = (w.alloc (.cells (flA x A c) 91)).alloc (.cells fl0 91) := ⟨_, rfl⟩
  rw [← hW] at hb0 b1 b2
  unfold flA fl0 at hW
  unfold flA at b1
  unfold fl0 at b2
  unfold flA
  have HB := Lib.hid hb0
  have B1 := Lib.hid b1
  have B2 := Lib.hid b2
  have R := Lib.hid r
  obtain ⟨k0, k1, k2, k3, k4, k5, k6⟩ := b1.seven
  obtain ⟨y0, y1, y2, y3, y4, y5, y6⟩ := b2.seven
  have xf : ∀ j, W.frozen? ⟨w.heap.size, j, none⟩ = false := fun j => b1.free j
  have yf : ∀ j, W.frozen? ⟨w.heap.size + 1, j, none⟩ = false := fun j => b2.free j
  clear hb0 b1 b2 r
  cases t
  · go_enter Tryz.func70, Tryz.ntmps70
    go_upto_region 1 with (fail)
    rw [← hW]
    clear hW
    go_wp2_with fail
    obtain ⟨q0, q1, q2, q3, q4, q5, q6⟩ := (B2.out.set7 (.bool x.nan) (.bool x.sig) (.bool x.inf) (.bool x.neg) (.bool x.d.s) (.slice A (nd 32 x.d.n) c) (.int .i64 x.d.e)).seven
    refine bodyPost_ret (v := .agg (flA x A c)) (by simp [results, flA, Tryz.results70, go_sem, q0, q1, q2, q3, q4, q5, q6]) rfl ?_
    have hbf := below_set7 HB.out (show w.heap.size ≤ w.heap.size + 1 by omega) (.bool x.nan) (.bool x.sig) (.bool x.inf) (.bool x.neg) (.bool x.d.s) (.slice A (nd 32 x.d.n) c) (.int .i64 x.d.e)
    exact ⟨_, rfl, ⟨_, _, rfl, R.out.belowB hbf (Nat.le_refl _)⟩, hbf⟩
  · go_enter Tryz.func70, Tryz.ntmps70
    go_upto_region 1 with (fail)
    rw [← hW]
    clear hW
    go_upto_region 3 with (fail)
    have HBn := Lib.hid (HB.out.setCell (p := ⟨w.heap.size, 3, none⟩) (Nat.le_refl _) (.bool (!x.neg)))
    have B1n := Lib.hid (B1.out.putNeg (.bool (!x.neg)))
    have B2n := Lib.hid (B2.out.other (p := ⟨w.heap.size, 3, none⟩) (show w.heap.size ≠ w.heap.size + 1 by omega) (.bool (!x.neg)))
    clear k0 k1 k2 k3 k4 k5 k6 y0 y1 y2 y3 y4 y5 y6 xf yf HB B1 B2
    generalize W.setCell ⟨w.heap.size, 3, none⟩ (.bool (!x.neg)) = X at *
    obtain ⟨k0, k1, k2, k3, k4, k5, k6⟩ := B1n.out.seven
    have HO := Lib.hid (opposite_any x.d.s A (nd 32 x.d.n) c x.d.e X)
    go_wp2_with fail
    refine HO.out.mono ?_
    rintro _ X2 ⟨rfl, hb⟩
    have HBz := Lib.hid (keep_belowB HBn.out hb (by have := HBn.out.size; omega))
    have B1z := Lib.hid (B1n.out.below hb)
    have B2z := Lib.hid (B2n.out.below hb)
    clear hb HO k0 k1 k2 k3 k4 k5 k6 HBn B1n B2n
    have k4 := B1z.out.cell 4 rfl
    have k5 := B1z.out.cell 5 rfl
    have k6 := B1z.out.cell 6 rfl
    have xf : ∀ j, X2.frozen? ⟨w.heap.size, j, none⟩ = false := fun j => B1z.out.free j
    go_upto_region 4 with (fail)
    have B1y := Lib.hid (B1z.out.set456 (.bool (!x.d.s)) (.slice A (nd 32 x.d.n) c) (.int .i64 x.d.e))
    have hne : w.heap.size ≠ w.heap.size + 1 := by omega
    have B2y := Lib.hid (((B2z.out.other (p := ⟨w.heap.size, 4, none⟩) hne (.bool (!x.d.s))).other (p := ⟨w.heap.size, 5, none⟩) hne (.slice A (nd 32 x.d.n) c)).other (p := ⟨w.heap.size, 6, none⟩) hne (.int .i64 x.d.e))
    have HBy := Lib.hid (((HBz.out.setCell (p := ⟨w.heap.size, 4, none⟩) (Nat.le_refl _) (.bool (!x.d.s))).setCell (p := ⟨w.heap.size, 5, none⟩) (Nat.le_refl _) (.slice A (nd 32 x.d.n) c)).setCell (p := ⟨w.heap.size, 6, none⟩) (Nat.le_refl _) (.int .i64 x.d.e))
    clear k4 k5 k6 xf HBz B1z B2z hne
    generalize ((X2.setCell ⟨w.heap.size, 4, none⟩ (.bool (!x.d.s))).setCell ⟨w.heap.size, 5, none⟩ (.slice A (nd 32 x.d.n) c)).setCell ⟨w.heap.size, 6, none⟩ (.int .i64 x.d.e) = Y at *
    obtain ⟨k0, k1, k2, k3, k4, k5, k6⟩ := B1y.out.seven
    obtain ⟨y0, y1, y2, y3, y4, y5, y6⟩ := B2y.out.seven
    have yf : ∀ j, Y.frozen? ⟨w.heap.size + 1, j, none⟩ = false := fun j => B2y.out.free j
    go_wp2_with fail
    obtain ⟨q0, q1, q2, q3, q4, q5, q6⟩ := (B2y.out.set7 (.bool x.nan) (.bool x.sig) (.bool x.inf) (.bool (!x.neg)) (.bool (!x.d.s)) (.slice A (nd 32 x.d.n) c) (.int .i64 x.d.e)).seven
    refine bodyPost_ret (v := .agg #[.bool x.nan, .bool x.sig, .bool x.inf, .bool (!x.neg), .bool (!x.d.s), .slice A (nd 32 x.d.n) c, .int .i64 x.d.e]) (by simp [results, Tryz.results70, go_sem, q0, q1, q2, q3, q4, q5, q6]) rfl ?_
    have hbf := below_set7 HBy.out (show w.heap.size ≤ w.heap.size + 1 by omega) (.bool x.nan) (.bool x.sig) (.bool x.inf) (.bool (!x.neg)) (.bool (!x.d.s)) (.slice A (nd 32 x.d.n) c) (.int .i64 x.d.e)
    exact ⟨_, rfl, ⟨A, c, rfl, R.out.belowB hbf (Nat.le_refl _)⟩, hbf⟩


theorem sumR_bounds {x y : D} (hx : x.n < 2 ^ 110) (hy : y.n < 2 ^ 110) (h1 : -5100 ≤ x.e ∧ x.e ≤ 5100) (h2 : -5100 ≤ y.e ∧ y.e ≤ 5100) : nd 32 (sumR x y).n ≤ 1000 ∧ -20000 ≤ (sumR x y).e ∧ (sumR x y).e ≤ 20000 := by
  obtain ⟨E, hE⟩ : ∃ E, E = min x.e y.e := ⟨_, rfl⟩
  obtain ⟨K, hK⟩ : ∃ K : Nat, K = 10310 := ⟨_, rfl⟩
  have key : ∀ n : Nat, n < 2 ^ 110 → ∀ k : Nat, k ≤ 10200 → n * 2 ^ k < 2 ^ K := by
    intro n hn k hk
    refine Nat.lt_of_lt_of_le (Nat.mul_lt_mul_of_pos_right hn (pow_pos2 k)) ?_
    rw [← Nat.pow_add]
    exact Nat.pow_le_pow_right (by decide) (by omega)
  have ka := key x.n hx (x.e - E).toNat (by omega)
  have kb := key y.n hy (y.e - E).toNat (by omega)
  have fin : ∀ n : Nat, n < 2 ^ (K + 1) → nd 32 n ≤ 1000 := by
    intro n hn
    refine Nat.le_trans (nd_le 32 n (K / 32 + 1) (by decide) (Nat.lt_of_lt_of_le hn (Nat.pow_le_pow_right (by decide) (by omega)))) (by omega)
  have e2 : (2 : Nat) ^ (K + 1) = 2 ^ K * 2 := Nat.pow_succ 2 K
  have small : ∀ n : Nat, n < 2 ^ 110 → n < 2 ^ K := fun n hn => Nat.lt_of_lt_of_le hn (Nat.pow_le_pow_right (by decide) (by omega))
  have hxs := small x.n hx
  have hys := small y.n hy
  unfold sumR
  rw [← hE]
  rw [e2] at fin
  clear key small e2 hx hy
  generalize x.n * 2 ^ (x.e - E).toNat = a at *
  generalize y.n * 2 ^ (y.e - E).toNat = b at *
  generalize (2 : Nat) ^ K = P at *
  split
  · exact ⟨fin _ (by omega), by omega, by omega⟩
  · split
    · exact ⟨fin _ (by omega), by omega, by omega⟩
    · split
      · exact ⟨fin _ (by show a + b < _; omega), by show -20000 ≤ E; omega, by show E ≤ 20000; omega⟩
      · split
        · exact ⟨fin _ (by show a - b < _; omega), by show -20000 ≤ E; omega, by show E ≤ 20000; omega⟩
        · exact ⟨fin _ (by show b - a < _; omega), by show -20000 ≤ E; omega, by show E ≤ 20000; omega⟩

/-- what a term may be -/
def TmB (x : Tm) : Prop := x.d.n < 2 ^ 110 ∧ -5100 ≤ x.d.e ∧ x.d.e ≤ 5100

theorem TmB.nd {x : Tm} (h : TmB x) : nd 32 x.d.n ≤ 10000 := Nat.le_trans (nd_le 32 _ 4 (by decide) (Nat.lt_of_lt_of_le h.1 (Nat.pow_le_pow_right (by decide) (by decide)))) (by decide)

set_option maxRecDepth 100000 in
set_option maxHeartbeats 8000000 in
theorem tsum_any (n m : Nat) (v u : Value) (x y : Tm) (w : World) (hn : n < 4) (hm : m ≤ 5) (hx : TmV w v x) (hy : TmV w u y) (bx : TmB x) (by' : TmB y) :
    Calls Tryz.prog 51 #[.int .i64 n, .int .i64 m, v, u] w fun e w' => e = .returned (.tuple #[.int .u64 ((termS (fm n) m x y).1 : Int), .int .i64 ((termS (fm n) m x y).2 : Int)]) ∧ Below w.heap.size w w' := by
  obtain ⟨A, c, rfl, r1⟩ := hx
  obtain ⟨A', c', rfl, r2⟩ := hy
  have hb0 := below2 w (.cells (tmA x A c) 88) (.cells (tmA y A' c') 88)
  have b1 := (Bx.new w (tmA x A c) 88).below (below1 _ (.cells (tmA y A' c') 88))
  have b2 := Bx.new (w.alloc (.cells (tmA x A c) 88)) (tmA y A' c') 88
  rw [World.size_alloc] at b2
  obtain ⟨W, hW⟩ : ∃ W, W = (w.alloc (.cells (tmA x A c) 88)).alloc (.cells (tmA y A' c') 88) := ⟨_, rfl⟩
  rw [← hW] at hb0 b1 b2
  have HQ := Lib.hid (fun wx => rquiet_ok n wx hn)
  have HI := Lib.hid (fun s wx => rinf_ok n s wx hn)
  have HZx := Lib.hid (fun wx => tzero_any x A c wx)
  have HZy := Lib.hid (fun wx => tzero_any y A' c' wx)
  have HS := Lib.hid (fun wx (hb : Below w.heap.size w wx) => rSum_any (.agg #[.bool x.d.s, .slice A (nd 32 x.d.n) c, .int .i64 x.d.e]) (.agg #[.bool y.d.s, .slice A' (nd 32 y.d.n) c', .int .i64 y.d.e]) x.d y.d wx ⟨_, rfl, r1.belowB hb (Nat.le_refl _)⟩ ⟨_, rfl, r2.belowB hb (Nat.le_refl _)⟩ bx.nd by'.nd ⟨by have := bx.2; omega, by have := bx.2; omega⟩ ⟨by have := by'.2; omega, by have := by'.2; omega⟩)
  obtain ⟨sb1, sb2⟩ := sumR_bounds bx.1 by'.1 bx.2 by'.2
  have HF := Lib.hid (fun z neg wx hz => rFinal_any n m z (sumR x.d y.d) neg wx hn hm hz sb1 sb2)
  generalize fm n = F at *
  obtain ⟨r, hr⟩ : ∃ r, r = termS F m x y := ⟨_, rfl⟩
  rw [← hr]
  unfold termS at hr
  have HB := Lib.hid hb0
  obtain ⟨m4, t4⟩ : ∃ b, ((m : Int) == 4) = b := ⟨_, rfl⟩
  have t4' : (m == 4) = m4 := by
    rw [← t4]
    by_cases h : m = 4
    · subst h; rfl
    · rw [show (m == 4) = false by rw [beq_eq_false_iff_ne]; exact h, show ((m : Int) == 4) = false by rw [beq_eq_false_iff_ne]; omega]
  rw [t4'] at hr
  unfold tmA at hW HZx HZy
  unfold tmA at b1 b2
  unfold tmA
  obtain ⟨k0, k1, k2, k3, k4, k5, k6, k7⟩ := b1.eight
  obtain ⟨y0, y1, y2, y3, y4, y5, y6, y7⟩ := b2.eight
  have B1 := Lib.hid b1
  have B2 := Lib.hid b2
  generalize x.zero = zx at *
  generalize y.zero = zy at *
  generalize x.wrong = xw at *
  generalize y.wrong = yw at *
  generalize x.nan = xn at *
  generalize y.nan = yn at *
  generalize x.sig = xs at *
  generalize y.sig = ys at *
  generalize x.inf = xi at *
  generalize y.inf = yi at *
  generalize x.neg = xg at *
  generalize y.neg = yg at *
  obtain ⟨N, hN⟩ : ∃ N, N = F.nan := ⟨_, rfl⟩
  rw [← hN] at hr HQ
  have HRR := Lib.hid hr
  clear hb0 b1 b2 r1 r2 bx by' hn hm hr sb1 sb2 hN t4'
  go_enter Tryz.func51, Tryz.ntmps51
  go_upto_region 1 with (fail)
  rw [← hW]
  clear hW
  cases xs
  rotate_left
  · skip
    have e := Lib.hid (show r = (N, 1) from HRR.out)
    clear HRR HI HZx HZy HS HF B1 B2 t4
    go_wp2_with fail
    refine (HQ.out _).mono ?_
    rintro _ _ ⟨rfl, rfl⟩
    go_wp2_with fail
    refine bodyPost_ret (v := .tuple #[.int .u64 N, .int .i64 1]) (by simp [results, Tryz.results51, go_sem]) rfl ?_
    exact ⟨by rw [e.out]; rfl, HB.out⟩
  cases ys
  rotate_left
  · skip
    have e := Lib.hid (show r = (N, 1) from HRR.out)
    clear HRR HI HZx HZy HS HF B1 B2 t4
    go_wp2_with fail
    refine (HQ.out _).mono ?_
    rintro _ _ ⟨rfl, rfl⟩
    go_wp2_with fail
    refine bodyPost_ret (v := .tuple #[.int .u64 N, .int .i64 1]) (by simp [results, Tryz.results51, go_sem]) rfl ?_
    exact ⟨by rw [e.out]; rfl, HB.out⟩
  cases xw
  rotate_left
  · skip
    have e := Lib.hid (show r = (N, 1) from HRR.out)
    clear HRR HI HZx HZy HS HF B1 B2 t4
    go_wp2_with fail
    refine (HQ.out _).mono ?_
    rintro _ _ ⟨rfl, rfl⟩
    go_wp2_with fail
    refine bodyPost_ret (v := .tuple #[.int .u64 N, .int .i64 1]) (by simp [results, Tryz.results51, go_sem]) rfl ?_
    exact ⟨by rw [e.out]; rfl, HB.out⟩
  cases yw
  rotate_left
  · skip
    have e := Lib.hid (show r = (N, 1) from HRR.out)
    clear HRR HI HZx HZy HS HF B1 B2 t4
    go_wp2_with fail
    refine (HQ.out _).mono ?_
    rintro _ _ ⟨rfl, rfl⟩
    go_wp2_with fail
    refine bodyPost_ret (v := .tuple #[.int .u64 N, .int .i64 1]) (by simp [results, Tryz.results51, go_sem]) rfl ?_
    exact ⟨by rw [e.out]; rfl, HB.out⟩
  cases xn
  rotate_left
  · skip
    have e := Lib.hid (show r = (N, 0) from HRR.out)
    clear HRR HI HZx HZy HS HF B1 B2 t4
    go_wp2_with fail
    refine (HQ.out _).mono ?_
    rintro _ _ ⟨rfl, rfl⟩
    go_wp2_with fail
    refine bodyPost_ret (v := .tuple #[.int .u64 N, .int .i64 0]) (by simp [results, Tryz.results51, go_sem]) rfl ?_
    exact ⟨by rw [e.out]; rfl, HB.out⟩
  cases yn
  rotate_left
  · skip
    have e := Lib.hid (show r = (N, 0) from HRR.out)
    clear HRR HI HZx HZy HS HF B1 B2 t4
    go_wp2_with fail
    refine (HQ.out _).mono ?_
    rintro _ _ ⟨rfl, rfl⟩
    go_wp2_with fail
    refine bodyPost_ret (v := .tuple #[.int .u64 N, .int .i64 0]) (by simp [results, Tryz.results51, go_sem]) rfl ?_
    exact ⟨by rw [e.out]; rfl, HB.out⟩
  obtain ⟨ne, tne⟩ : ∃ b, (xg != yg) = b := ⟨_, rfl⟩
  have tne2 : (!(xg == yg)) = ne := tne
  have hr1 := HRR.out
  rw [tne] at hr1
  have HRR := Lib.hid hr1
  clear hr1
  cases xi
  rotate_left
  · cases yi
    · skip
      have e := Lib.hid (show r = (F.inf + F.sg xg, 0) from HRR.out)
      clear HRR HQ HZx HZy HS HF B1 B2 t4
      go_wp2_with fail
      refine (HI.out xg _).mono ?_
      rintro _ _ ⟨rfl, rfl⟩
      go_wp2_with fail
      refine bodyPost_ret (v := .tuple #[.int .u64 (F.inf + F.sg xg : Nat), .int .i64 0]) (by simp [results, Tryz.results51, go_sem]) rfl ?_
      exact ⟨by rw [e.out]; rfl, HB.out⟩
    · cases ne
      · skip
        have e := Lib.hid (show r = (F.inf + F.sg xg, 0) from HRR.out)
        clear HRR HQ HZx HZy HS HF B1 B2 t4
        go_wp2_with fail
        refine (HI.out xg _).mono ?_
        rintro _ _ ⟨rfl, rfl⟩
        go_wp2_with fail
        refine bodyPost_ret (v := .tuple #[.int .u64 (F.inf + F.sg xg : Nat), .int .i64 0]) (by simp [results, Tryz.results51, go_sem]) rfl ?_
        exact ⟨by rw [e.out]; rfl, HB.out⟩
      · skip
        have e := Lib.hid (show r = (N, 1) from HRR.out)
        clear HRR HI HZx HZy HS HF B1 B2 t4
        go_wp2_with fail
        refine (HQ.out _).mono ?_
        rintro _ _ ⟨rfl, rfl⟩
        go_wp2_with fail
        refine bodyPost_ret (v := .tuple #[.int .u64 N, .int .i64 1]) (by simp [results, Tryz.results51, go_sem]) rfl ?_
        exact ⟨by rw [e.out]; rfl, HB.out⟩
  cases yi
  rotate_left
  · skip
    have e := Lib.hid (show r = (F.inf + F.sg yg, 0) from HRR.out)
    clear HRR HQ HZx HZy HS HF B1 B2 t4
    go_wp2_with fail
    refine (HI.out yg _).mono ?_
    rintro _ _ ⟨rfl, rfl⟩
    go_wp2_with fail
    refine bodyPost_ret (v := .tuple #[.int .u64 (F.inf + F.sg yg : Nat), .int .i64 0]) (by simp [results, Tryz.results51, go_sem]) rfl ?_
    exact ⟨by rw [e.out]; rfl, HB.out⟩
  clear tne HQ HI
  have HR2 := Lib.hid (show r = finR F m (sumR x.d y.d) (if zx && zy && (xg == yg) then xg else m4) from HRR.out)
  obtain ⟨eq, teq⟩ : ∃ b, (xg == yg) = b := ⟨_, rfl⟩
  have hr2 := HR2.out
  rw [teq] at hr2
  have HR3 := Lib.hid hr2
  clear hr2 HR2 HRR tne2
  go_wp2_with fail
  refine (HZx.out _).mono ?_
  rintro _ w6 ⟨rfl, hb⟩
  replace HB := Lib.hid (keep_belowB HB.out hb (by have := HB.out.size; omega))
  replace B1 := Lib.hid (B1.out.below hb)
  replace B2 := Lib.hid (B2.out.below hb)
  clear hb HZx k0 k1 k2 k3 k4 k5 k6 k7 y0 y1 y2 y3 y4 y5 y6 y7
  obtain ⟨k0, k1, k2, k3, k4, k5, k6, k7⟩ := B1.out.eight
  obtain ⟨y0, y1, y2, y3, y4, y5, y6, y7⟩ := B2.out.eight
  cases zx
  · clear HZy
    have e := Lib.hid (show r = finR F m (sumR x.d y.d) m4 from HR3.out)
    clear HR3
    go_wp2_with fail
    refine (HS.out _ HB.out).mono ?_
    rintro _ w8 ⟨vz, rfl, hz, hb⟩
    replace HB := Lib.hid (keep_belowB HB.out hb (by have := HB.out.size; omega))
    have HF' := HF.out vz m4 w8 hz
    rw [← e.out] at HF'
    have HF2 := Lib.hid HF'
    clear hb HF HF' hz HS B1 B2 k0 k1 k2 k3 k4 k5 k6 k7 y0 y1 y2 y3 y4 y5 y6 y7
    go_wp2_with fail
    refine HF2.out.mono ?_
    rintro _ w9 ⟨rfl, hb⟩
    replace HB := Lib.hid (keep_belowB HB.out hb (by have := HB.out.size; omega))
    clear hb HF2
    go_wp2_with fail
    refine bodyPost_ret (v := .tuple #[.int .u64 r.1, .int .i64 r.2]) (by simp [results, Tryz.results51, go_sem]) rfl ?_
    exact ⟨rfl, HB.out⟩
  go_wp2_with fail
  refine (HZy.out _).mono ?_
  rintro _ w7 ⟨rfl, hb⟩
  replace HB := Lib.hid (keep_belowB HB.out hb (by have := HB.out.size; omega))
  replace B1 := Lib.hid (B1.out.below hb)
  replace B2 := Lib.hid (B2.out.below hb)
  clear hb HZy k0 k1 k2 k3 k4 k5 k6 k7 y0 y1 y2 y3 y4 y5 y6 y7
  obtain ⟨k0, k1, k2, k3, k4, k5, k6, k7⟩ := B1.out.eight
  obtain ⟨y0, y1, y2, y3, y4, y5, y6, y7⟩ := B2.out.eight
  cases zy
  · skip
    have e := Lib.hid (show r = finR F m (sumR x.d y.d) m4 from HR3.out)
    clear HR3
    go_wp2_with fail
    refine (HS.out _ HB.out).mono ?_
    rintro _ w8 ⟨vz, rfl, hz, hb⟩
    replace HB := Lib.hid (keep_belowB HB.out hb (by have := HB.out.size; omega))
    have HF' := HF.out vz m4 w8 hz
    rw [← e.out] at HF'
    have HF2 := Lib.hid HF'
    clear hb HF HF' hz HS B1 B2 k0 k1 k2 k3 k4 k5 k6 k7 y0 y1 y2 y3 y4 y5 y6 y7
    go_wp2_with fail
    refine HF2.out.mono ?_
    rintro _ w9 ⟨rfl, hb⟩
    replace HB := Lib.hid (keep_belowB HB.out hb (by have := HB.out.size; omega))
    clear hb HF2
    go_wp2_with fail
    refine bodyPost_ret (v := .tuple #[.int .u64 r.1, .int .i64 r.2]) (by simp [results, Tryz.results51, go_sem]) rfl ?_
    exact ⟨rfl, HB.out⟩
  cases eq
  · skip
    have e := Lib.hid (show r = finR F m (sumR x.d y.d) m4 from HR3.out)
    clear HR3
    go_wp2_with fail
    refine (HS.out _ HB.out).mono ?_
    rintro _ w8 ⟨vz, rfl, hz, hb⟩
    replace HB := Lib.hid (keep_belowB HB.out hb (by have := HB.out.size; omega))
    have HF' := HF.out vz m4 w8 hz
    rw [← e.out] at HF'
    have HF2 := Lib.hid HF'
    clear hb HF HF' hz HS B1 B2 k0 k1 k2 k3 k4 k5 k6 k7 y0 y1 y2 y3 y4 y5 y6 y7
    go_wp2_with fail
    refine HF2.out.mono ?_
    rintro _ w9 ⟨rfl, hb⟩
    replace HB := Lib.hid (keep_belowB HB.out hb (by have := HB.out.size; omega))
    clear hb HF2
    go_wp2_with fail
    refine bodyPost_ret (v := .tuple #[.int .u64 r.1, .int .i64 r.2]) (by simp [results, Tryz.results51, go_sem]) rfl ?_
    exact ⟨rfl, HB.out⟩
  · skip
    have e := Lib.hid (show r = finR F m (sumR x.d y.d) xg from HR3.out)
    clear HR3
    go_wp2_with fail
    refine (HS.out _ HB.out).mono ?_
    rintro _ w8 ⟨vz, rfl, hz, hb⟩
    replace HB := Lib.hid (keep_belowB HB.out hb (by have := HB.out.size; omega))
    have HF' := HF.out vz xg w8 hz
    rw [← e.out] at HF'
    have HF2 := Lib.hid HF'
    clear hb HF HF' hz HS B1 B2 k0 k1 k2 k3 k4 k5 k6 k7 y0 y1 y2 y3 y4 y5 y6 y7
    go_wp2_with fail
    refine HF2.out.mono ?_
    rintro _ w9 ⟨rfl, hb⟩
    replace HB := Lib.hid (keep_belowB HB.out hb (by have := HB.out.size; omega))
    clear hb HF2
    go_wp2_with fail
    refine bodyPost_ret (v := .tuple #[.int .u64 r.1, .int .i64 r.2]) (by simp [results, Tryz.results51, go_sem]) rfl ?_
    exact ⟨rfl, HB.out⟩

end Go.Proofs.YtdbfkfbncmbfcaaGreatDoor
