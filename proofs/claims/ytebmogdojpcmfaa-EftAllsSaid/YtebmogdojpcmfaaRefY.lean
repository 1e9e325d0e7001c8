/- The walk of vernierref09.Product. Printed by gen/refmul.py. -/
import Derived.Outline
import Derived.Deep.CutBlock
import Derived.Deep.RegionHeld3
import Derived.Test.YtebmogdojpcmfaaRefU
namespace Go.Proofs.Ytebmogdojpcmfaa
set_option linter.unusedVariables false
set_option linter.unusedSimpArgs false
open Go.RowKit

theorem rf_set8 {B : Nat} {w : World} {v : Value} {N n g : Nat} (h : Rd 32 w v N n ∧ Fr B w v) (hg : g < B) (x0 x1 x2 x3 x4 x5 x6 x7 : Value) :
    Rd 32 ((((((((w.setCell ⟨g, 0, none⟩ x0).setCell ⟨g, 1, none⟩ x1).setCell ⟨g, 2, none⟩ x2).setCell ⟨g, 3, none⟩ x3).setCell ⟨g, 4, none⟩ x4).setCell ⟨g, 5, none⟩ x5).setCell ⟨g, 6, none⟩ x6).setCell ⟨g, 7, none⟩ x7) v N n :=
  (rf_set32 (rf_set32 (rf_set32 (rf_set32 (rf_set32 (rf_set32 (rf_set32 (rf_set32 h (p := ⟨g, 0, none⟩) hg _) (p := ⟨g, 1, none⟩) hg _) (p := ⟨g, 2, none⟩) hg _) (p := ⟨g, 3, none⟩) hg _) (p := ⟨g, 4, none⟩) hg _) (p := ⟨g, 5, none⟩) hg _) (p := ⟨g, 6, none⟩) hg _) (p := ⟨g, 7, none⟩) hg _).1

theorem ProdF.of {w wx : World} {B q g : Nat} {ss ng : Bool} {N : Nat} {E : Int} {A : Option Addr} {c : Nat} {a5 a6 a7 : Value} (hb : Bx wx q #[.bool false, .bool false, .bool ss, .bool false, .bool ng, a5, a6, a7]) (hg : Bx wx g pv0) (hr : Rd 32 wx (.slice A (nd 32 N) c) N (nd 32 N) ∧ Fr B wx (.slice A (nd 32 N) c)) (hq : q < B) (hw : w.heap.size ≤ q) (hne : q ≠ g) (hbw : Below w.heap.size w wx) :
    Bx (((wx.setCell ⟨q, 5, none⟩ (.bool ng)).setCell ⟨q, 6, none⟩ (.slice A (nd 32 N) c)).setCell ⟨q, 7, none⟩ (.int .i64 E)) q #[.bool false, .bool false, .bool ss, .bool false, .bool ng, .bool ng, .slice A (nd 32 N) c, .int .i64 E] ∧
    Bx (((wx.setCell ⟨q, 5, none⟩ (.bool ng)).setCell ⟨q, 6, none⟩ (.slice A (nd 32 N) c)).setCell ⟨q, 7, none⟩ (.int .i64 E)) g pv0 ∧
    (Rd 32 (((wx.setCell ⟨q, 5, none⟩ (.bool ng)).setCell ⟨q, 6, none⟩ (.slice A (nd 32 N) c)).setCell ⟨q, 7, none⟩ (.int .i64 E)) (.slice A (nd 32 N) c) N (nd 32 N) ∧ Fr B (((wx.setCell ⟨q, 5, none⟩ (.bool ng)).setCell ⟨q, 6, none⟩ (.slice A (nd 32 N) c)).setCell ⟨q, 7, none⟩ (.int .i64 E)) (.slice A (nd 32 N) c)) ∧
    Below w.heap.size w (((wx.setCell ⟨q, 5, none⟩ (.bool ng)).setCell ⟨q, 6, none⟩ (.slice A (nd 32 N) c)).setCell ⟨q, 7, none⟩ (.int .i64 E)) :=
  ⟨hb.set3 _ _ _, ((hg.other (p := ⟨q, 5, none⟩) hne _).other (p := ⟨q, 6, none⟩) hne _).other (p := ⟨q, 7, none⟩) hne _, rf_set32 (rf_set32 (rf_set32 hr (p := ⟨q, 5, none⟩) hq _) (p := ⟨q, 6, none⟩) hq _) (p := ⟨q, 7, none⟩) hq _,
    ((hbw.setCell (p := ⟨q, 5, none⟩) hw _).setCell (p := ⟨q, 6, none⟩) hw _).setCell (p := ⟨q, 7, none⟩) hw _⟩

theorem cell_far1 {w : World} {g g' o o' : Nat} {v x : Value} (hne : g' ≠ g) (h : w.cell? ⟨g', o', none⟩ = some x) : (w.setCell ⟨g, o, none⟩ v).cell? ⟨g', o', none⟩ = some x := by
  rw [World.cell?_setCell_other _ _ _ _ (fun e => by injection e with e1; omega)]
  exact h

theorem cell_off {w : World} {g o o' : Nat} {v x : Value} (hne : o' ≠ o) (h : w.cell? ⟨g, o', none⟩ = some x) : (w.setCell ⟨g, o, none⟩ v).cell? ⟨g, o', none⟩ = some x := by
  rw [World.cell?_setCell_other _ _ _ _ (by intro e; injection e with e1 e2; exact hne e2.symm)]; exact h

theorem s5_store {w : World} {q g0 g1 : Nat} {a b c d e x y z : Value} (h0 : g0 ≠ q) (h1 : g1 ≠ q) (h : w.cell? ⟨q, 4, none⟩ = some a ∧ w.cell? ⟨g0, 5, none⟩ = some b ∧ w.cell? ⟨g0, 6, none⟩ = some c ∧ w.cell? ⟨g1, 5, none⟩ = some d ∧ w.cell? ⟨g1, 6, none⟩ = some e) :
    (((w.setCell ⟨q, 5, none⟩ x).setCell ⟨q, 6, none⟩ y).setCell ⟨q, 7, none⟩ z).cell? ⟨q, 4, none⟩ = some a ∧ (((w.setCell ⟨q, 5, none⟩ x).setCell ⟨q, 6, none⟩ y).setCell ⟨q, 7, none⟩ z).cell? ⟨g0, 5, none⟩ = some b ∧ (((w.setCell ⟨q, 5, none⟩ x).setCell ⟨q, 6, none⟩ y).setCell ⟨q, 7, none⟩ z).cell? ⟨g0, 6, none⟩ = some c ∧ (((w.setCell ⟨q, 5, none⟩ x).setCell ⟨q, 6, none⟩ y).setCell ⟨q, 7, none⟩ z).cell? ⟨g1, 5, none⟩ = some d ∧ (((w.setCell ⟨q, 5, none⟩ x).setCell ⟨q, 6, none⟩ y).setCell ⟨q, 7, none⟩ z).cell? ⟨g1, 6, none⟩ = some e :=
  ⟨cell_off (by decide) (cell_off (by decide) (cell_off (by decide) h.1)), cell_far1 h0 (cell_far1 h0 (cell_far1 h0 h.2.1)), cell_far1 h0 (cell_far1 h0 (cell_far1 h0 h.2.2.1)), cell_far1 h1 (cell_far1 h1 (cell_far1 h1 h.2.2.2.1)), cell_far1 h1 (cell_far1 h1 (cell_far1 h1 h.2.2.2.2))⟩

set_option maxRecDepth 100000 in
set_option maxHeartbeats 8000000 in
theorem tprod_any (v u : Value) (x y : Fl) (w : World) (hx : FlV w v x) (hy : FlV w u y) (nx : x.d.n < 2 ^ 55) (ny : y.d.n < 2 ^ 55) (ex : -3000 ≤ x.d.e ∧ x.d.e ≤ 3000) (ey : -3000 ≤ y.d.e ∧ y.d.e ≤ 3000) :
    Calls Try.prog 49 #[v, u] w fun e w' => ∃ v', e = .returned v' ∧ TmV w' v' (prodT x y) ∧ Below w.heap.size w w' := by
  obtain ⟨A, c, rfl, r1⟩ := hx
  obtain ⟨A', c', rfl, r2⟩ := hy
  have hb0 := below3 w (.cells (flA x A c) 78) (.cells (flA y A' c') 78) (.cells pv0 75)
  have b1 := ((Bx.new w (flA x A c) 78).below (below1 _ (.cells (flA y A' c') 78))).below (below1 _ (.cells pv0 75))
  have b2 := (Bx.new (w.alloc (.cells (flA x A c) 78)) (flA y A' c') 78).below (below1 _ (.cells pv0 75))
  have b3 := Bx.new ((w.alloc (.cells (flA x A c) 78)).alloc (.cells (flA y A' c') 78)) pv0 75
  rw [World.size_alloc] at b2
  rw [World.size_alloc, World.size_alloc] at b3
  obtain ⟨W, hW⟩ : ∃ W, W = ((w.alloc (.cells (flA x A c) 78)).alloc (.cells (flA y A' c') 78)).alloc (.cells pv0 75) := ⟨_, rfl⟩
  have hWs : w.heap.size + 1 + 1 < W.heap.size := by rw [hW]; simp
  rw [← hW] at hb0 b1 b2 b3
  have HZx := Lib.hid (fun wx => fzero_any x A c wx)
  have HZy := Lib.hid (fun wx => fzero_any y A' c' wx)
  have n1 : nd 32 x.d.n ≤ 2 := nd_le 32 _ 2 (by decide) (Nat.lt_of_lt_of_le nx (by decide))
  have n2 : nd 32 y.d.n ≤ 2 := nd_le 32 _ 2 (by decide) (Nat.lt_of_lt_of_le ny (by decide))
  have HT := Lib.hid (fun wx (hb : Below w.heap.size w wx) => rTimes_any (.slice A (nd 32 x.d.n) c) (.slice A' (nd 32 y.d.n) c') x.d.n (nd 32 x.d.n) y.d.n (nd 32 y.d.n) wx (r1.belowB hb (Nat.le_refl _)) (r2.belowB hb (Nat.le_refl _)) (by omega))
  have hwe : IntKind.i64.wrap (x.d.e + y.d.e) = x.d.e + y.d.e := by rw [IntKind.wrap_i64]; omega
  obtain ⟨T, hTT⟩ : ∃ T, T = prodT x y := ⟨_, rfl⟩
  rw [← hTT]
  unfold prodT at hTT
  unfold flA at hW HZx HZy b1 b2
  unfold pv0 at hW
  unfold flA
  have HB := Lib.hid hb0
  have B1 := Lib.hid b1
  have B2 := Lib.hid b2
  have B3 := Lib.hid b3
  obtain ⟨k0, k1, k2, k3, k4, k5, k6⟩ := b1.seven
  obtain ⟨y0, y1, y2, y3, y4, y5, y6⟩ := b2.seven
  generalize x.zero = xz at *
  generalize y.zero = yz at *
  generalize x.nan = xn at *
  generalize y.nan = yn at *
  generalize x.sig = xs at *
  generalize y.sig = ys at *
  generalize x.inf = xi at *
  generalize y.inf = yi at *
  generalize x.neg = xg at *
  generalize y.neg = yg at *
  obtain ⟨ng, tng⟩ : ∃ b, (xg != yg) = b := ⟨_, rfl⟩
  have tng2 : (!(xg == yg)) = ng := tng
  rw [tng] at hTT
  obtain ⟨NN, hNN⟩ : ∃ N, N = x.d.n * y.d.n := ⟨_, rfl⟩
  rw [← hNN] at hTT HT
  obtain ⟨E, hE⟩ : ∃ E, E = x.d.e + y.d.e := ⟨_, rfl⟩
  rw [← hE] at hTT
  rw [show x.d.e + y.d.e = E from hE.symm] at hwe
  have hwe2 : IntKind.i64.wrap (x.d.e + y.d.e) = E := by rw [← hE]; exact hwe
  clear hwe
  have hwe := hwe2
  clear hwe2
  have HTT := Lib.hid hTT
  have HWs := Lib.hid hWs
  clear hb0 b1 b2 b3 r1 r2 nx ny ex ey n1 n2 hTT tng hNN hE hWs
  go_enter Try.func49, Try.ntmps49
  go_upto_region 1 with (fail)
  rw [← hW]
  clear hW
  go_cut [5] from 6 (fun v5 wx => v5 = .pointer (some ⟨W.heap.size, 0, none⟩) ∧ Bx wx W.heap.size #[.bool false, .bool (xn || yn), .bool (xs || ys), .bool false, .bool ng, .bool false, .slice none 0 0, .int .i64 0] ∧ Below W.heap.size W wx)
  case first =>
    cases xn <;> cases xs
    all_goals
      go_wp2_with fail
      go_meet
      case rel => exact ⟨rfl, Bx.new W _ _, below1 W _⟩
  case rest =>
    obtain ⟨rfl, b5, hb⟩ := hcut
    have B5 := Lib.hid b5
    replace B1 := Lib.hid (B1.out.below hb)
    replace B2 := Lib.hid (B2.out.below hb)
    replace B3 := Lib.hid (B3.out.below hb)
    have hq := Lib.hid (show W.heap.size < wc.heap.size from b5.lt)
    replace HB := Lib.hid (keep_belowB HB.out hb (by have := HB.out.size; omega))
    clear b5 hb k0 k1 k2 k3 k4 k5 k6 y0 y1 y2 y3 y4 y5 y6 tng2
    have hr0 := HTT.out
    generalize (xn || yn) = nn at *
    generalize (xs || ys) = ss at *
    have HTT2 := Lib.hid hr0
    clear hr0 HTT
    generalize W.heap.size = q at *
    generalize wc = W2 at *
    obtain ⟨k0, k1, k2, k3, k4, k5, k6⟩ := B1.out.seven
    obtain ⟨y0, y1, y2, y3, y4, y5, y6⟩ := B2.out.seven
    go_upto_region 2 with (fail)
    go_cut [37] from 24 (fun v37 wx => v37 = .bool ((xi && yz) || (xz && yi)) ∧ Below W2.heap.size W2 wx)
    case first =>
      have HBr := Lib.hid (Below.refl W2.heap.size W2)
      cases xi
      · skip
        go_wp2_with fail
        refine (HZx.out _).mono ?_
        rintro _ u1 ⟨rfl, hb⟩
        replace HBr := Lib.hid (keep_below HBr.out hb)
        clear hb HZx k0 k1 k2 k3 k4 k5 k6 y0 y1 y2 y3 y4 y5 y6
        have B1' := Lib.hid (B1.out.below HBr.out)
        have B2' := Lib.hid (B2.out.below HBr.out)
        obtain ⟨k0, k1, k2, k3, k4, k5, k6⟩ := B1'.out.seven
        obtain ⟨y0, y1, y2, y3, y4, y5, y6⟩ := B2'.out.seven
        clear B1' B2'
        cases xz
        · skip
          go_wp2_with fail
          go_meet
          case rel => exact ⟨rfl, HBr.out⟩
        · skip
          go_wp2_with fail
          go_meet
          case rel => exact ⟨rfl, HBr.out⟩
      · skip
        go_wp2_with fail
        refine (HZy.out _).mono ?_
        rintro _ u1 ⟨rfl, hb⟩
        replace HBr := Lib.hid (keep_below HBr.out hb)
        clear hb HZy k0 k1 k2 k3 k4 k5 k6 y0 y1 y2 y3 y4 y5 y6
        have B1' := Lib.hid (B1.out.below HBr.out)
        have B2' := Lib.hid (B2.out.below HBr.out)
        obtain ⟨k0, k1, k2, k3, k4, k5, k6⟩ := B1'.out.seven
        obtain ⟨y0, y1, y2, y3, y4, y5, y6⟩ := B2'.out.seven
        clear B1' B2'
        cases yz
        · skip
          go_wp2_with fail
          refine (HZx.out _).mono ?_
          rintro _ u2 ⟨rfl, hb⟩
          replace HBr := Lib.hid (keep_below HBr.out hb)
          clear hb HZx k0 k1 k2 k3 k4 k5 k6 y0 y1 y2 y3 y4 y5 y6
          have B1' := Lib.hid (B1.out.below HBr.out)
          have B2' := Lib.hid (B2.out.below HBr.out)
          obtain ⟨k0, k1, k2, k3, k4, k5, k6⟩ := B1'.out.seven
          obtain ⟨y0, y1, y2, y3, y4, y5, y6⟩ := B2'.out.seven
          clear B1' B2'
          cases xz
          · skip
            go_wp2_with fail
            go_meet
            case rel => exact ⟨rfl, HBr.out⟩
          · skip
            go_wp2_with fail
            go_meet
            case rel => exact ⟨rfl, HBr.out⟩
        · skip
          go_wp2_with fail
          go_meet
          case rel => exact ⟨rfl, HBr.out⟩
    case rest =>
      obtain ⟨rfl, hb⟩ := hcut
      replace B1 := Lib.hid (B1.out.below hb)
      replace B2 := Lib.hid (B2.out.below hb)
      replace B3 := Lib.hid (B3.out.below hb)
      replace B5 := Lib.hid (B5.out.below hb)
      have hq2 := Lib.hid (show q < wc.heap.size by have := hq.out; have := hb.size; omega)
      replace HB := Lib.hid (keep_belowB HB.out hb (by have := HB.out.size; omega))
      clear hb k0 k1 k2 k3 k4 k5 k6 y0 y1 y2 y3 y4 y5 y6 HZx HZy hq
      have hr0 := HTT2.out
      generalize ((xi && yz) || (xz && yi)) = wr at *
      have HTT := Lib.hid hr0
      clear hr0 HTT2
      generalize wc = W3 at *
      obtain ⟨k0, k1, k2, k3, k4, k5, k6⟩ := B1.out.seven
      obtain ⟨y0, y1, y2, y3, y4, y5, y6⟩ := B2.out.seven
      obtain ⟨z0, z1, z2, z3, z4, z5, z6, z7⟩ := B5.out.eight
      have zf : ∀ j, W3.frozen? ⟨q, j, none⟩ = false := fun j => B5.out.free j
      have hqne : q ≠ w.heap.size + 1 + 1 := by have := HWs.out; omega
      have hqw : w.heap.size ≤ q := by have := HWs.out; omega
      cases wr
      rotate_left
      · have E := Lib.hid (show T = ⟨true, nn, ss, false, ng, ⟨false, 0, 0⟩⟩ from HTT.out)
        clear HTT HT hwe
        go_upto_region 4 with (fail)
        have B5' := Lib.hid (B5.out.putWrong (.bool true))
        have B3' := Lib.hid (B3.out.other (p := ⟨q, 0, none⟩) hqne (.bool true))
        have HB' := Lib.hid (HB.out.setCell (p := ⟨q, 0, none⟩) hqw (.bool true))
        clear B1 B2 B3 B5 HB k0 k1 k2 k3 k4 k5 k6 y0 y1 y2 y3 y4 y5 y6 z0 z1 z2 z3 z4 z5 z6 z7 zf
        generalize W3.setCell ⟨q, 0, none⟩ (.bool true) = X at *
        obtain ⟨z0, z1, z2, z3, z4, z5, z6, z7⟩ := B5'.out.eight
        obtain ⟨s0, s1, s2, s3, s4, s5, s6, s7⟩ := (show Bx X (w.heap.size + 1 + 1) #[.bool false, .bool false, .bool false, .bool false, .bool false, .bool false, .slice none 0 0, .int .i64 0] from B3'.out).eight
        have sf : ∀ j, X.frozen? ⟨w.heap.size + 1 + 1, j, none⟩ = false := fun j => (B3'.out).free j
        go_wp2_with fail
        obtain ⟨q0, q1, q2, q3, q4, q5, q6, q7⟩ := ((show Bx X (w.heap.size + 1 + 1) #[.bool false, .bool false, .bool false, .bool false, .bool false, .bool false, .slice none 0 0, .int .i64 0] from B3'.out).set8 (.bool true) (.bool nn) (.bool ss) (.bool false) (.bool ng) (.bool false) (.slice none 0 0) (.int .i64 0)).eight
        refine bodyPost_ret (v := .agg #[.bool true, .bool nn, .bool ss, .bool false, .bool ng, .bool false, .slice none 0 0, .int .i64 0]) (by simp [results, Try.results49, go_sem, q0, q1, q2, q3, q4, q5, q6, q7]) rfl ?_
        have hbf := below_set8 HB'.out (show w.heap.size ≤ w.heap.size + 1 + 1 by omega) (.bool true) (.bool nn) (.bool ss) (.bool false) (.bool ng) (.bool false) (.slice none 0 0) (.int .i64 0)
        rw [E.out]
        exact ⟨_, rfl, ⟨_, _, rfl, Rd.nil_⟩, hbf⟩
      cases nn
      rotate_left
      · have E := Lib.hid (show T = ⟨false, true, ss, false, ng, ⟨false, 0, 0⟩⟩ from HTT.out)
        clear HTT HT hwe k0 k1 k2 k3 k4 k5 k6 y0 y1 y2 y3 y4 y5 y6 zf z0 z1 z2 z3 z4 z5 z6 z7
        obtain ⟨z0, z1, z2, z3, z4, z5, z6, z7⟩ := B5.out.eight
        obtain ⟨s0, s1, s2, s3, s4, s5, s6, s7⟩ := (show Bx W3 (w.heap.size + 1 + 1) #[.bool false, .bool false, .bool false, .bool false, .bool false, .bool false, .slice none 0 0, .int .i64 0] from B3.out).eight
        have sf : ∀ j, W3.frozen? ⟨w.heap.size + 1 + 1, j, none⟩ = false := fun j => (B3.out).free j
        go_wp2_with fail
        obtain ⟨q0, q1, q2, q3, q4, q5, q6, q7⟩ := ((show Bx W3 (w.heap.size + 1 + 1) #[.bool false, .bool false, .bool false, .bool false, .bool false, .bool false, .slice none 0 0, .int .i64 0] from B3.out).set8 (.bool false) (.bool true) (.bool ss) (.bool false) (.bool ng) (.bool false) (.slice none 0 0) (.int .i64 0)).eight
        refine bodyPost_ret (v := .agg #[.bool false, .bool true, .bool ss, .bool false, .bool ng, .bool false, .slice none 0 0, .int .i64 0]) (by simp [results, Try.results49, go_sem, q0, q1, q2, q3, q4, q5, q6, q7]) rfl ?_
        have hbf := below_set8 HB.out (show w.heap.size ≤ w.heap.size + 1 + 1 by omega) (.bool false) (.bool true) (.bool ss) (.bool false) (.bool ng) (.bool false) (.slice none 0 0) (.int .i64 0)
        rw [E.out]
        exact ⟨_, rfl, ⟨_, _, rfl, Rd.nil_⟩, hbf⟩
      cases xi
      rotate_left
      · skip
        have E := Lib.hid (show T = ⟨false, false, ss, true, ng, ⟨false, 0, 0⟩⟩ from HTT.out)
        clear HTT HT hwe
        go_upto_region 9 with (fail)
        have B5' := Lib.hid (B5.out.put3 (.bool true))
        have B3' := Lib.hid (B3.out.other (p := ⟨q, 3, none⟩) hqne (.bool true))
        have HB' := Lib.hid (HB.out.setCell (p := ⟨q, 3, none⟩) hqw (.bool true))
        clear B1 B2 B3 B5 HB k0 k1 k2 k3 k4 k5 k6 y0 y1 y2 y3 y4 y5 y6 z0 z1 z2 z3 z4 z5 z6 z7 zf
        generalize W3.setCell ⟨q, 3, none⟩ (.bool true) = X at *
        obtain ⟨z0, z1, z2, z3, z4, z5, z6, z7⟩ := B5'.out.eight
        obtain ⟨s0, s1, s2, s3, s4, s5, s6, s7⟩ := (show Bx X (w.heap.size + 1 + 1) #[.bool false, .bool false, .bool false, .bool false, .bool false, .bool false, .slice none 0 0, .int .i64 0] from B3'.out).eight
        have sf : ∀ j, X.frozen? ⟨w.heap.size + 1 + 1, j, none⟩ = false := fun j => (B3'.out).free j
        go_wp2_with fail
        obtain ⟨q0, q1, q2, q3, q4, q5, q6, q7⟩ := ((show Bx X (w.heap.size + 1 + 1) #[.bool false, .bool false, .bool false, .bool false, .bool false, .bool false, .slice none 0 0, .int .i64 0] from B3'.out).set8 (.bool false) (.bool false) (.bool ss) (.bool true) (.bool ng) (.bool false) (.slice none 0 0) (.int .i64 0)).eight
        refine bodyPost_ret (v := .agg #[.bool false, .bool false, .bool ss, .bool true, .bool ng, .bool false, .slice none 0 0, .int .i64 0]) (by simp [results, Try.results49, go_sem, q0, q1, q2, q3, q4, q5, q6, q7]) rfl ?_
        have hbf := below_set8 HB'.out (show w.heap.size ≤ w.heap.size + 1 + 1 by omega) (.bool false) (.bool false) (.bool ss) (.bool true) (.bool ng) (.bool false) (.slice none 0 0) (.int .i64 0)
        rw [E.out]
        exact ⟨_, rfl, ⟨_, _, rfl, Rd.nil_⟩, hbf⟩
      cases yi
      rotate_left
      · skip
        have E := Lib.hid (show T = ⟨false, false, ss, true, ng, ⟨false, 0, 0⟩⟩ from HTT.out)
        clear HTT HT hwe
        go_upto_region 9 with (fail)
        have B5' := Lib.hid (B5.out.put3 (.bool true))
        have B3' := Lib.hid (B3.out.other (p := ⟨q, 3, none⟩) hqne (.bool true))
        have HB' := Lib.hid (HB.out.setCell (p := ⟨q, 3, none⟩) hqw (.bool true))
        clear B1 B2 B3 B5 HB k0 k1 k2 k3 k4 k5 k6 y0 y1 y2 y3 y4 y5 y6 z0 z1 z2 z3 z4 z5 z6 z7 zf
        generalize W3.setCell ⟨q, 3, none⟩ (.bool true) = X at *
        obtain ⟨z0, z1, z2, z3, z4, z5, z6, z7⟩ := B5'.out.eight
        obtain ⟨s0, s1, s2, s3, s4, s5, s6, s7⟩ := (show Bx X (w.heap.size + 1 + 1) #[.bool false, .bool false, .bool false, .bool false, .bool false, .bool false, .slice none 0 0, .int .i64 0] from B3'.out).eight
        have sf : ∀ j, X.frozen? ⟨w.heap.size + 1 + 1, j, none⟩ = false := fun j => (B3'.out).free j
        go_wp2_with fail
        obtain ⟨q0, q1, q2, q3, q4, q5, q6, q7⟩ := ((show Bx X (w.heap.size + 1 + 1) #[.bool false, .bool false, .bool false, .bool false, .bool false, .bool false, .slice none 0 0, .int .i64 0] from B3'.out).set8 (.bool false) (.bool false) (.bool ss) (.bool true) (.bool ng) (.bool false) (.slice none 0 0) (.int .i64 0)).eight
        refine bodyPost_ret (v := .agg #[.bool false, .bool false, .bool ss, .bool true, .bool ng, .bool false, .slice none 0 0, .int .i64 0]) (by simp [results, Try.results49, go_sem, q0, q1, q2, q3, q4, q5, q6, q7]) rfl ?_
        have hbf := below_set8 HB'.out (show w.heap.size ≤ w.heap.size + 1 + 1 by omega) (.bool false) (.bool false) (.bool ss) (.bool true) (.bool ng) (.bool false) (.slice none 0 0) (.int .i64 0)
        rw [E.out]
        exact ⟨_, rfl, ⟨_, _, rfl, Rd.nil_⟩, hbf⟩
      have E' := Lib.hid (show T = ⟨false, false, ss, false, ng, ⟨ng, NN, E⟩⟩ from HTT.out)
      have HP := Lib.hid (fun wx (hb : Below W3.heap.size W3 wx) => HT.out wx (keep_belowB HB.out hb (by have := HB.out.size; omega)))
      clear HTT HT
      go_upto_region 10 with (fail)
      have hn0 : w.heap.size ≠ q := by have := HWs.out; omega
      have hn1 : w.heap.size + 1 ≠ q := by have := HWs.out; omega
      go_region_held3 (fun v => v.cell? ⟨q, 4, none⟩ = some (.bool ng) ∧ v.cell? ⟨w.heap.size, 5, none⟩ = some (.slice A (nd 32 x.d.n) c) ∧ v.cell? ⟨w.heap.size, 6, none⟩ = some (.int .i64 x.d.e) ∧ v.cell? ⟨w.heap.size + 1, 5, none⟩ = some (.slice A' (nd 32 y.d.n) c') ∧ v.cell? ⟨w.heap.size + 1, 6, none⟩ = some (.int .i64 y.d.e))
        (first | exact ⟨z4, k5, k6, y5, y6⟩ | exact ⟨keep_cell hb1 z4, keep_cell hb1 k5, keep_cell hb1 k6, keep_cell hb1 y5, keep_cell hb1 y6⟩ | exact s5_store hn0 hn1 ⟨keep_cell hb1 z4, keep_cell hb1 k5, keep_cell hb1 k6, keep_cell hb1 y5, keep_cell hb1 y6⟩)
        ((go_at_call 61; refine (HP.out _ (Below.refl _ _).drew).mono ?_; rintro _ wz ⟨v2, rfl, ⟨hr2, hf2⟩, hb1⟩; obtain ⟨Ax, cx, rfl, -, -⟩ := hr2.form; have b5w := B5.out.below (keep_below (Below.refl _ _).drew hb1); obtain ⟨r0, r1, r2, r3, r4, r5, r6, r7⟩ := b5w.eight; have rf : ∀ j, wz.frozen? ⟨q, j, none⟩ = false := fun j => b5w.free j; clear b5w))
      have hbz : Below W3.heap.size W3 wz := keep_below (Below.refl _ _).drew hb1
      have hF := ProdF.of (w := w) (wx := wz) (B := W3.heap.size) (q := q) (g := w.heap.size + 1 + 1) (ss := ss) (ng := ng) (N := NN) (E := E) (B5.out.below hbz) (B3.out.below hbz) ⟨hr2, hf2⟩ hq2.out hqw hqne (keep_belowB HB.out hbz (by have := HB.out.size; omega))
      obtain ⟨b5x, b3x, hrx, hBx⟩ := hF
      have B5x := Lib.hid b5x
      have B3x := Lib.hid b3x
      have HRx := Lib.hid hrx
      have HBx := Lib.hid hBx
      clear b5x b3x hrx hBx hbz hb1 hr2 hf2 r0 r1 r2 r3 r4 r5 r6 r7 rf B1 B2 B3 B5 HB HP k0 k1 k2 k3 k4 k5 k6 y0 y1 y2 y3 y4 y5 y6 z0 z1 z2 z3 z4 z5 z6 z7 zf hwe hn0 hn1
      generalize ((wz.setCell ⟨q, 5, none⟩ (.bool ng)).setCell ⟨q, 6, none⟩ (.slice Ax (nd 32 NN) cx)).setCell ⟨q, 7, none⟩ (.int .i64 E) = wx at *
      obtain ⟨z0, z1, z2, z3, z4, z5, z6, z7⟩ := B5x.out.eight
      obtain ⟨s0, s1, s2, s3, s4, s5, s6, s7⟩ := (show Bx wx (w.heap.size + 1 + 1) #[.bool false, .bool false, .bool false, .bool false, .bool false, .bool false, .slice none 0 0, .int .i64 0] from B3x.out).eight
      have sf : ∀ j, wx.frozen? ⟨w.heap.size + 1 + 1, j, none⟩ = false := fun j => (B3x.out).free j
      go_wp2_with fail
      obtain ⟨q0, q1, q2, q3, q4, q5, q6, q7⟩ := ((show Bx wx (w.heap.size + 1 + 1) #[.bool false, .bool false, .bool false, .bool false, .bool false, .bool false, .slice none 0 0, .int .i64 0] from B3x.out).set8 (.bool false) (.bool false) (.bool ss) (.bool false) (.bool ng) (.bool ng) (.slice Ax (nd 32 NN) cx) (.int .i64 E)).eight
      refine bodyPost_ret (v := .agg #[.bool false, .bool false, .bool ss, .bool false, .bool ng, .bool ng, .slice Ax (nd 32 NN) cx, .int .i64 E]) (by simp [results, Try.results49, go_sem, q0, q1, q2, q3, q4, q5, q6, q7]) rfl ?_
      have hbf := below_set8 HBx.out (show w.heap.size ≤ w.heap.size + 1 + 1 by omega) (.bool false) (.bool false) (.bool ss) (.bool false) (.bool ng) (.bool ng) (.slice Ax (nd 32 NN) cx) (.int .i64 E)
      rw [E'.out]
      exact ⟨_, rfl, ⟨_, _, rfl, rf_set8 HRx.out (show w.heap.size + 1 + 1 < W3.heap.size by have := HWs.out; have := hq2.out; omega) _ _ _ _ _ _ _ _⟩, hbf⟩

end Go.Proofs.Ytebmogdojpcmfaa
