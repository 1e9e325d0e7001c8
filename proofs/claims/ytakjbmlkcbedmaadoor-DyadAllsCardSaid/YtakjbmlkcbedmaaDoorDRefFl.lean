/- The walk of vernierref03.Floor. -/
import Derived.Deep.DeepCutAuto
import Derived.Test.YtakjbmlkcbedmaaDoorDRefS2
namespace Go.Proofs.YtakjbmlkcbedmaaDoor
set_option linter.unusedVariables false
set_option linter.unusedSimpArgs false
open Go.RowKit

theorem box3_put1 {w : World} {g : Nat} {a b c : Value} (h : Box3 w g a b c) (x : Value) : Box3 (w.setCell ⟨g, 1, none⟩ x) g a x c := by
  obtain ⟨t, h⟩ := h
  refine ⟨t, ?_⟩
  simp [World.setCell, Array.getElem?_modify, h]

theorem box3_other {w : World} {g g' : Nat} {a b c : Value} (h : Box3 w g a b c) (hne : g' ≠ g) (o : Nat) (x : Value) : Box3 (w.setCell ⟨g', o, none⟩ x) g a b c := by
  obtain ⟨t, h⟩ := h
  exact ⟨t, (Below.heap_setCell w ⟨g', o, none⟩ x g (Ne.symm hne)).trans h⟩

theorem nd_succ32 {D : Nat} (h : nd 32 D ≤ 10000) : nd 32 (D + 1) ≤ 20000 := by
  refine Nat.le_trans (nd_le 32 (D + 1) (nd 32 D + 1) (by decide) ?_) (by omega)
  have h1 := lt_nd 32 D (by decide)
  have h2 : 2 ^ (32 * nd 32 D) < 2 ^ (32 * (nd 32 D + 1)) := Nat.pow_lt_pow_right (by decide) (by omega)
  omega

set_option maxRecDepth 100000 in
set_option maxHeartbeats 4000000 in
theorem rFloor_any (s : Bool) (A : Option Addr) (N n c : Nat) (e : Int) (w : World) (hv : Rd 64 w (.slice A n c) N n) :
    Calls Tryd.prog 52 #[.agg #[.bool s, .slice A n c, .int .i64 e]] w fun e' w' => ∃ x, e' = .returned (.tuple #[x, .int .i64 (floorD n ⟨s, N, e⟩).2]) ∧ DV w.heap.size w' x (floorD n ⟨s, N, e⟩).1 ∧ Below w.heap.size w w' := by
  have hb0 := below2 w (.cells #[.bool s, .slice A n c, .int .i64 e] 26) (.cells #[.bool false, .slice none 0 0, .int .i64 0] 26)
  have b1 := (Box3.new w (.bool s) (.slice A n c) (.int .i64 e) 26).alloc (.cells #[.bool false, .slice none 0 0, .int .i64 0] 26)
  have b2 := Box3.new1 w (.cells #[.bool s, .slice A n c, .int .i64 e] 26) (.bool false) (.slice none 0 0) (.int .i64 0) 26
  obtain ⟨W, hW⟩ : ∃ W, W = (w.alloc (.cells #[.bool s, .slice A n c, .int .i64 e] 26)).alloc (.cells #[.bool false, .slice none 0 0, .int .i64 0] 26) := ⟨_, rfl⟩
  have hWs : w.heap.size + 1 < W.heap.size := by rw [hW]; simp
  have hvW : Rd 64 W (.slice A n c) N n := by rw [hW]; exact hv.below hb0
  rw [← hW] at hb0 b1 b2
  have HBad := Lib.hid (rBad_any s A n c e W hvW.len)
  have HB := Lib.hid hb0
  have B1 := Lib.hid b1
  have B3 := Lib.hid b2
  have HWs := Lib.hid hWs
  have R := Lib.hid hvW
  obtain ⟨p0, p1, p2, -, -⟩ := b1.cells
  obtain ⟨S, hS⟩ : ∃ S, S = floorD n ⟨s, N, e⟩ := ⟨_, rfl⟩
  rw [← hS]
  have hlt := hvW.lt
  clear hb0 b1 b2 hWs hv hvW
  go_enter Tryd.func52, Tryd.ntmps52
  go_upto_region 1 with (fail)
  rw [← hW]
  clear hW
  go_wp2_with fail
  refine HBad.out.mono ?_
  rintro _ w1 ⟨rfl, hb⟩
  replace HB := Lib.hid (keep_belowB HB.out hb (by have := HB.out.size; omega))
  replace B1 := Lib.hid (B1.out.keep hb)
  replace B3 := Lib.hid (B3.out.keep hb)
  replace R := Lib.hid (R.out.below hb)
  have hsz := hb.size
  replace HWs := Lib.hid (show w.heap.size + 1 < w1.heap.size by have := HWs.out; omega)
  clear hb HBad p0 p1 p2 hsz
  obtain ⟨p0, p1, p2, -, -⟩ := B1.out.cells
  obtain ⟨y0, y1, y2, yf, -⟩ := B3.out.cells
  by_cases hr : refD n e = 0
  · rw [hr]
    rw [floor_ref (d := ⟨s, N, e⟩) hr] at hS
    obtain ⟨r1, r2, r3⟩ := refD_zero hr
    have hnd := nd32_of hlt r1
    have HO := Lib.hid (rOf_any s A N n c e w1 R.out (by omega))
    clear hr
    go_wp2_with fail
    refine HO.out.mono ?_
    rintro _ w2 ⟨_, rfl, ⟨V, rfl, rv⟩, hb'⟩
    obtain ⟨A3, c3, rfl, -, -⟩ := rv.form
    have hb2 := below1 w2 (.cells #[.bool s, .slice A3 (nd 32 N) c3, .int .i64 e] 53)
    have B4 := Lib.hid (Box3.new w2 (.bool s) (.slice A3 (nd 32 N) c3) (.int .i64 e) 53)
    have hb := hb'.trans (hb2.mono hb'.size)
    have R4 := Lib.hid (rv.below hb2)
    have F4 := Lib.hid rv
    have HB0 := Lib.hid (keep_belowB HB.out hb' (Nat.le_refl _))
    have B30 := Lib.hid (B3.out.keep hb')
    replace HB := Lib.hid (keep_belowB HB.out hb (by have := HB.out.size; omega))
    replace B3 := Lib.hid (B3.out.keep hb)
    have hg4 := Lib.hid (show w.heap.size + 1 < w2.heap.size by have h1 := hb'.size; have h2 := HWs.out; omega)
    clear hb hb' hb2 HO p0 p1 p2 y0 y1 y2 yf rv R B1
    obtain ⟨p0, p1, p2, pf, -⟩ := B4.out.cells
    have HN := Lib.hid (show nd 32 N ≤ 20000 by omega)
    have HE := Lib.hid (show -10000000 ≤ e ∧ e ≤ 10000000 by omega)
    by_cases hw : 0 ≤ e ∨ N = 0
    · have hfl : floorR ⟨s, N, e⟩ = ⟨s, N, e⟩ := by unfold floorR; exact if_pos hw
      rw [hfl] at hS
      have hAn := rAnswer_any _ ⟨s, N, e⟩ _ (numV_of R4.out) HN.out HE.out
      rw [← hS] at hAn
      have HAn := Lib.hid hAn
      clear hS hAn R4 F4 B4 hfl HB0 B30
      by_cases he : 0 ≤ e
      · have t1 : decide (0 ≤ e) = true := decide_eq_true he
        go_wp2_with fail
        refine HAn.out.mono ?_
        rintro _ w5 ⟨_, rfl, hdv, hb⟩
        obtain ⟨A2, c2, rfl, -⟩ := id hdv
        have HBn := Lib.hid (keep_belowB HB.out hb (Nat.le_refl _))
        have B3n := Lib.hid (B3.out.keep hb)
        have HD := Lib.hid hdv
        have hg := Lib.hid (show w.heap.size + 1 < (w2.alloc (.cells #[.bool s, .slice A3 (nd 32 N) c3, .int .i64 e] 53)).heap.size from Nat.lt_of_lt_of_le hg4.out (below1 w2 _).size)
        clear hb hdv HAn HB B3 p0 p1 p2 pf
        obtain ⟨y0, y1, y2, yf, -⟩ := B3n.out.cells
        go_wp2_with fail
        obtain ⟨q0, q1, q2, -, -⟩ := (B3n.out.setAll (.bool S.1.s) (.slice A2 (nd 64 S.1.n) c2) (.int .i64 S.1.e)).cells
        refine bodyPost_ret (v := .tuple #[.agg #[.bool S.1.s, .slice A2 (nd 64 S.1.n) c2, .int .i64 S.1.e], .int .i64 S.2]) (by simp [results, Tryd.results52, go_sem, q0, q1, q2]) rfl ?_
        exact ⟨_, rfl, (HD.out.setBox hg.out _ _ _).mono (Nat.le_trans (Nat.le_succ _) (Nat.le_of_lt hg.out)), below_box HBn.out (by omega) _ _ _⟩
      · have t1 : decide (0 ≤ e) = false := decide_eq_false he
        have h0 : N = 0 := hw.resolve_left he
        have hz : nd 32 N = 0 := by rw [h0]; exact nd_zero 32
        rw [hz] at HAn HB B3 p0 p1 p2 ⊢
        clear h0 hw hz
        go_wp2_with fail
        refine HAn.out.mono ?_
        rintro _ w5 ⟨_, rfl, hdv, hb⟩
        obtain ⟨A2, c2, rfl, -⟩ := id hdv
        have HBn := Lib.hid (keep_belowB HB.out hb (Nat.le_refl _))
        have B3n := Lib.hid (B3.out.keep hb)
        have HD := Lib.hid hdv
        have hg := Lib.hid (show w.heap.size + 1 < (w2.alloc (.cells #[.bool s, .slice A3 0 c3, .int .i64 e] 53)).heap.size from Nat.lt_of_lt_of_le hg4.out (below1 w2 _).size)
        clear hb hdv HAn HB B3 p0 p1 p2 pf
        obtain ⟨y0, y1, y2, yf, -⟩ := B3n.out.cells
        go_wp2_with fail
        obtain ⟨q0, q1, q2, -, -⟩ := (B3n.out.setAll (.bool S.1.s) (.slice A2 (nd 64 S.1.n) c2) (.int .i64 S.1.e)).cells
        refine bodyPost_ret (v := .tuple #[.agg #[.bool S.1.s, .slice A2 (nd 64 S.1.n) c2, .int .i64 S.1.e], .int .i64 S.2]) (by simp [results, Tryd.results52, go_sem, q0, q1, q2]) rfl ?_
        exact ⟨_, rfl, (HD.out.setBox hg.out _ _ _).mono (Nat.le_trans (Nat.le_succ _) (Nat.le_of_lt hg.out)), below_box HBn.out (by omega) _ _ _⟩
    · have he : e < 0 := by omega
      have h0 : N ≠ 0 := fun h => hw (Or.inr h)
      have hp := nd_pos 32 N h0
      have hz : (((nd 32 N : Nat) : Int) == 0) = false := by rw [beq_eq_false_iff_ne]; omega
      have t1 : decide (0 ≤ e) = false := decide_eq_false (by omega)
      obtain ⟨k, hk⟩ : ∃ k : Nat, k = (-e).toNat := ⟨_, rfl⟩
      have hfl : floorR ⟨s, N, e⟩ = ⟨s, N / 2 ^ k + (if s = true ∧ N / 2 ^ k * 2 ^ k ≠ N then 1 else 0), 0⟩ := by unfold floorR; rw [hk]; exact if_neg hw
      rw [hfl] at hS
      have hne' : IntKind.i64.wrap (-e) = (k : Int) := by rw [IntKind.wrap_i64]; omega
      have HRt := Lib.hid (fun wx h => rRight_any (.slice A3 (nd 32 N) c3) N (nd 32 N) k wx h (by omega) (by omega))
      have hkk : k ≤ 40000 := by omega
      have hnN : nd 32 N ≤ 20000 := HN.out
      obtain ⟨X, hX⟩ : ∃ X, X = w2.alloc (.cells #[.bool s, .slice A3 (nd 32 N) c3, .int .i64 e] 53) := ⟨_, rfl⟩
      have hXs : w2.heap.size < X.heap.size := by rw [hX]; simp
      have hwX : w.heap.size + 1 < X.heap.size := by have := hg4.out; omega
      rw [← hX] at p0 p1 p2 pf B4 HB B3 R4
      obtain ⟨D1, hD1⟩ : ∃ D1, D1 = N / 2 ^ k := ⟨_, rfl⟩
      obtain ⟨gX, hgX⟩ : ∃ gX, gX = w2.heap.size := ⟨_, rfl⟩
      have nD1 : nd 32 D1 ≤ 10000 := by
        refine Nat.le_trans (nd_le 32 D1 (nd 32 N) (by decide) (Nat.lt_of_le_of_lt (by rw [hD1]; exact Nat.div_le_self _ _) (lt_nd 32 N (by decide)))) (by omega)
      have HnD1 := Lib.hid nD1
      have HnN := Lib.hid (show nd 32 N ≤ 2048 by omega)
      have Hk := Lib.hid hkk
      have HSe := Lib.hid hS
      rw [← hD1] at HRt HSe
      have HXs := Lib.hid hXs
      have HwX := Lib.hid hwX
      clear h0 hw hfl hkk hnN nD1 hXs hwX hS hnd HN hD1 hk r1 r2 r3 he HE F4 HB0 B30 hg4 hlt HWs
      go_upto_region 7 with (fail)
      rw [← hX, ← hgX]
      rw [← hgX] at p0 p1 p2 B4 pf
      clear hX
      have HgX := Lib.hid (show gX < X.heap.size by have := HXs.out; omega)
      clear hgX HXs
      go_cut [6] from 28 (fun v6 wx => ∃ g Aw cw, v6 = .pointer (some ⟨g, 0, none⟩) ∧ Hid (Box3 wx g (.bool s) (.slice Aw (nd 32 D1) cw) (.int .i64 0)) ∧ Hid (Rd 32 wx (.slice Aw (nd 32 D1) cw) D1 (nd 32 D1)) ∧ Hid (X.heap.size ≤ g) ∧ Hid (Below X.heap.size X wx))
      case first =>
        have hgX := HgX.out
        have hgne : gX ≠ X.heap.size := by omega
        replace p0 : X.drew.cell? ⟨gX, 0, none⟩ = _ := p0
        replace p1 : X.drew.cell? ⟨gX, 1, none⟩ = _ := p1
        replace p2 : X.drew.cell? ⟨gX, 2, none⟩ = _ := p2
        have hBd : Below X.heap.size X X.drew := (Below.refl _ _).drew
        clear HnD1 HnN Hk HSe HwX HB B3 B4
        go_region_held3 (fun w' => w'.cell? ⟨gX, 0, none⟩ = some (.bool s) ∧ w'.cell? ⟨gX, 1, none⟩ = some (.slice A3 (nd 32 N) c3) ∧ w'.cell? ⟨gX, 2, none⟩ = some (.int .i64 e) ∧ Below X.heap.size X w')
          (first | exact ⟨p0, p1, p2, hBd⟩ | exact ⟨keep_cell (below1 _ _) p0, keep_cell (below1 _ _) p1, keep_cell (below1 _ _) p2, below_alloc' hBd _⟩ | exact ⟨keep_cell hx1 (keep_cell (below1 _ _) p0), keep_cell hx1 (keep_cell (below1 _ _) p1), keep_cell hx1 (keep_cell (below1 _ _) p2), keep_below (below_alloc' hBd _) hx1⟩ | exact ⟨keep_cell hx1 p0, keep_cell hx1 p1, keep_cell hx1 p2, keep_below hBd hx1⟩ | exact ⟨keep_cell (below1 _ _) (keep_cell hx1 p0), keep_cell (below1 _ _) (keep_cell hx1 p1), keep_cell (below1 _ _) (keep_cell hx1 p2), below_alloc' (keep_below hBd hx1) _⟩ | exact ⟨cell_box_other hgne (keep_cell hx1 (keep_cell (below1 _ _) p0)), cell_box_other hgne (keep_cell hx1 (keep_cell (below1 _ _) p1)), cell_box_other hgne (keep_cell hx1 (keep_cell (below1 _ _) p2)), below_box (keep_below (below_alloc' hBd _) hx1) (Nat.le_refl _) _ _ _⟩)
          (first | (go_at_call 69; (try go_split_ands); (with_reducible refine (HRt.out _ ?_).mono ?_); ((try go_split_ands); exact R4.out.below ‹Below X.heap.size X _›); rintro e w7 ⟨v7, rfl, ⟨hV7, hF7⟩, hx1⟩; obtain ⟨A5, c5, rfl, -, -⟩ := hV7.form; (try (have bx : Box3 w7 X.heap.size (.bool false) (.slice none 0 0) (.int .i64 0) := (Box3.new X.drew (.bool false) (.slice none 0 0) (.int .i64 0) 53).keep hx1; obtain ⟨z0, z1, z2, zf, -⟩ := bx.cells))))
        all_goals go_wp2
        all_goals go_meet
        all_goals (first | exact ⟨w7.heap.size, A5, c5, rfl, Lib.hid (Box3.new ..), Lib.hid (hV7.alloc _), Lib.hid (keep_below hBd hx1).size, Lib.hid (below_alloc' (keep_below hBd hx1) _)⟩ | exact ⟨X.heap.size, A5, c5, rfl, Lib.hid (bx.setAll _ _ _), Lib.hid (rf_set32 (rf_set32 (rf_set32 ⟨hV7, hF7⟩ (p := ⟨X.heap.size, 0, none⟩) (by simp) _) (p := ⟨X.heap.size, 1, none⟩) (by simp) _) (p := ⟨X.heap.size, 2, none⟩) (by simp) _).1, Lib.hid (Nat.le_refl _), Lib.hid (below_box (keep_below (below_alloc' hBd _) hx1) (Nat.le_refl _) _ _ _)⟩)
      case rest =>
        obtain ⟨g, Aw, cw, rfl, BG, RG, HLg, HBg⟩ := hcut
        have HBw := Lib.hid (keep_belowB HB.out HBg.out (by have := HB.out.size; omega))
        have B3w := Lib.hid (B3.out.keep HBg.out)
        have B4w := Lib.hid (B4.out.keep HBg.out)
        have R4w := Lib.hid (R4.out.below HBg.out)
        have Hwg := Lib.hid (show w.heap.size + 1 < g by have h1 := HwX.out; have h2 := HLg.out; omega)
        have Hww := Lib.hid (show w.heap.size + 1 < wc.heap.size by have h1 := HwX.out; have h2 := HBg.out.size; omega)
        clear R4 B3 HB p0 p1 p2 pf B4 HRt HwX HgX HLg HBg
        obtain ⟨p0, p1, p2, -, -⟩ := B4w.out.cells
        obtain ⟨g0, g1, g2, gf, gl⟩ := BG.out.cells
        cases s with
        | false =>
          rw [if_neg (by simp)] at HSe
          rw [Nat.add_zero] at HSe
          go_wp2_with fail
          go_quiet (fail)
          have hq : Below wc.heap.size wc (wc.drewN nq) := below_drewN (Below.refl _ _) nq
          have BGq := Lib.hid (BG.out.keep hq)
          have RGq := Lib.hid (RG.out.below hq)
          have B3q := Lib.hid (B3w.out.keep hq)
          have HBq := Lib.hid (keep_belowB HBw.out hq (by have := HBw.out.size; omega))
          have Hwq := Lib.hid (show w.heap.size + 1 < (wc.drewN nq).heap.size by have h1 := hq.size; have h2 := Hww.out; omega)
          clear hq p0 p1 p2 g0 g1 g2 gf BG RG B3w HBw R4w B4w Hww
          obtain ⟨p0, p1, p2, -, -⟩ := BGq.out.cells
          have hAn := rAnswer_any (.agg #[.bool false, .slice Aw (nd 32 (D1)) cw, .int .i64 0]) ⟨false, D1, 0⟩ (wc.drewN nq) (numV_of RGq.out) (show nd 32 (D1) ≤ 20000 from (by have := HnD1.out; omega)) ⟨show (-10000000 : Int) ≤ 0 by decide, show (0 : Int) ≤ 10000000 by decide⟩
          rw [← HSe.out] at hAn
          have HAn := Lib.hid hAn
          clear hAn BGq RGq HSe
          go_wp2_with fail
          refine HAn.out.mono ?_
          rintro _ w9 ⟨_, rfl, hdv, hb⟩
          obtain ⟨A9, c9, rfl, -⟩ := id hdv
          have HBn := Lib.hid (keep_belowB HBq.out hb (by have := HBq.out.size; omega))
          have B3n := Lib.hid (B3q.out.keep hb)
          have HD := Lib.hid hdv
          clear hb hdv HAn HBq B3q p0 p1 p2
          obtain ⟨y0, y1, y2, yf, -⟩ := B3n.out.cells
          go_wp2_with fail
          obtain ⟨q0, q1, q2, -, -⟩ := (B3n.out.setAll (.bool S.1.s) (.slice A9 (nd 64 S.1.n) c9) (.int .i64 S.1.e)).cells
          refine bodyPost_ret (v := .tuple #[.agg #[.bool S.1.s, .slice A9 (nd 64 S.1.n) c9, .int .i64 S.1.e], .int .i64 S.2]) (by simp [results, Tryd.results52, go_sem, q0, q1, q2]) rfl ?_
          exact ⟨_, rfl, (HD.out.setBox Hwq.out _ _ _).mono (Nat.le_trans (Nat.le_succ _) (Nat.le_of_lt Hwq.out)), below_box HBn.out (by omega) _ _ _⟩
        | true =>
          obtain ⟨y, hy⟩ : ∃ y, y = D1 * 2 ^ k := ⟨_, rfl⟩
          have hny : nd 32 y ≤ 1000000 := by rw [hy]; exact Nat.le_trans (nd_shift D1 k _ HnD1.out) (by have := Hk.out; omega)
          have HL := Lib.hid (fun (wx : World) h => rLeft_any (.slice Aw (nd 32 D1) cw) D1 (nd 32 D1) k wx h (by have := HnD1.out; omega) (by have := Hk.out; omega))
          rw [← hy] at HL HSe
          have HC := Lib.hid (fun (v : Value) (wx : World) h1 h2 => rCmp_any v (.slice A3 (nd 32 N) c3) y N wx h1 h2)
          replace p0 : wc.drew.cell? ⟨gX, 0, none⟩ = _ := p0
          replace p1 : wc.drew.cell? ⟨gX, 1, none⟩ = _ := p1
          replace p2 : wc.drew.cell? ⟨gX, 2, none⟩ = _ := p2
          replace g0 : wc.drew.cell? ⟨g, 0, none⟩ = _ := g0
          replace g1 : wc.drew.cell? ⟨g, 1, none⟩ = _ := g1
          replace g2 : wc.drew.cell? ⟨g, 2, none⟩ = _ := g2
          have hBd : Below wc.heap.size wc wc.drew := (Below.refl _ _).drew
          obtain ⟨cc, hcc⟩ : ∃ cc, cc = cmpN y N := ⟨_, rfl⟩
          rw [← hcc] at HC
          have hcz : (cc != 0) = decide (y ≠ N) := by
            rw [hcc]
            unfold cmpN
            by_cases h1 : y < N
            · rw [if_pos h1, decide_eq_true (by omega)]; rfl
            · rw [if_neg h1]
              by_cases h2 : N < y
              · rw [if_pos h2, decide_eq_true (by omega)]; rfl
              · rw [if_neg h2, decide_eq_false (by omega)]; rfl
          have HCZ := Lib.hid hcz
          clear hcc hy hny gl hcz
          go_wp2_with fail
          go_region_held3 (fun w' => w'.cell? ⟨gX, 0, none⟩ = some (.bool true) ∧ w'.cell? ⟨gX, 1, none⟩ = some (.slice A3 (nd 32 N) c3) ∧ w'.cell? ⟨gX, 2, none⟩ = some (.int .i64 e) ∧ w'.cell? ⟨g, 0, none⟩ = some (.bool true) ∧ w'.cell? ⟨g, 1, none⟩ = some (.slice Aw (nd 32 D1) cw) ∧ w'.cell? ⟨g, 2, none⟩ = some (.int .i64 0) ∧ Below wc.heap.size wc w')
            (first | exact ⟨p0, p1, p2, g0, g1, g2, hBd⟩ | exact ⟨keep_cell hx1 p0, keep_cell hx1 p1, keep_cell hx1 p2, keep_cell hx1 g0, keep_cell hx1 g1, keep_cell hx1 g2, keep_below hBd hx1⟩ | exact ⟨keep_cell hx9 p0, keep_cell hx9 p1, keep_cell hx9 p2, keep_cell hx9 g0, keep_cell hx9 g1, keep_cell hx9 g2, keep_below hBd hx9⟩)
            (first | (go_at_call 27; (refine (HL.out _ RG.out.drew).mono ?_); rintro e8 w8 ⟨v8, rfl, ⟨hV8, -⟩, hx1⟩; obtain ⟨A8, c8, rfl, -, -⟩ := hV8.form) | (go_at_call 62; (refine (HC.out _ _ hV8 ((R4w.out.below hBd).below hx1)).mono ?_); rintro e9 _ ⟨rfl, d9, rfl⟩; have hx9 := below_drewN hx1 d9))
          go_split_ands
          have hq := keep_below hBd hx9
          have BGq := Lib.hid (BG.out.keep hq)
          have RGq := Lib.hid (RG.out.below hq)
          have B3q := Lib.hid (B3w.out.keep hq)
          have HBq := Lib.hid (keep_belowB HBw.out hq (by have := HBw.out.size; omega))
          have Hwq := Lib.hid (show w.heap.size + 1 < (w8.drewN d9).heap.size by have h1 := hq.size; have h2 := Hww.out; omega)
          clear hq hx9 hx1 hV8 HL HC hBd p0 p1 p2 g0 g1 g2 gf BG RG B3w HBw R4w B4w Hww
          generalize w8.drewN d9 = wq at *
          go_split_ands
          by_cases hyN : y = N
          · have hcz' : (cc != 0) = false := by rw [HCZ.out, decide_eq_false (by simpa using hyN)]
            have hyd : (cc == 0) = true := by simpa using hcz'
            rw [if_neg (by simpa using hyN), Nat.add_zero] at HSe
            clear HCZ hyN
            obtain ⟨p0, p1, p2, -, -⟩ := BGq.out.cells
            have hAn := rAnswer_any (.agg #[.bool true, .slice Aw (nd 32 (D1)) cw, .int .i64 0]) ⟨true, D1, 0⟩ wq (numV_of RGq.out) (show nd 32 (D1) ≤ 20000 from (by have := HnD1.out; omega)) ⟨show (-10000000 : Int) ≤ 0 by decide, show (0 : Int) ≤ 10000000 by decide⟩
            rw [← HSe.out] at hAn
            have HAn := Lib.hid hAn
            clear hAn BGq RGq HSe
            go_wp2_with fail
            refine HAn.out.mono ?_
            rintro _ w9 ⟨_, rfl, hdv, hb⟩
            obtain ⟨A9, c9, rfl, -⟩ := id hdv
            have HBn := Lib.hid (keep_belowB HBq.out hb (by have := HBq.out.size; omega))
            have B3n := Lib.hid (B3q.out.keep hb)
            have HD := Lib.hid hdv
            clear hb hdv HAn HBq B3q p0 p1 p2
            obtain ⟨y0, y1, y2, yf, -⟩ := B3n.out.cells
            go_wp2_with fail
            obtain ⟨q0, q1, q2, -, -⟩ := (B3n.out.setAll (.bool S.1.s) (.slice A9 (nd 64 S.1.n) c9) (.int .i64 S.1.e)).cells
            refine bodyPost_ret (v := .tuple #[.agg #[.bool S.1.s, .slice A9 (nd 64 S.1.n) c9, .int .i64 S.1.e], .int .i64 S.2]) (by simp [results, Tryd.results52, go_sem, q0, q1, q2]) rfl ?_
            exact ⟨_, rfl, (HD.out.setBox Hwq.out _ _ _).mono (Nat.le_trans (Nat.le_succ _) (Nat.le_of_lt Hwq.out)), below_box HBn.out (by omega) _ _ _⟩
          · have hcz' : (cc != 0) = true := by rw [HCZ.out, decide_eq_true hyN]
            have hyd : (cc == 0) = false := by simpa using hcz'
            rw [if_pos ⟨by simp, hyN⟩] at HSe
            clear HCZ hyN
            have HP := Lib.hid (fun (wx : World) (h : Rd 32 wx (.slice Aw (nd 32 D1) cw) D1 (nd 32 D1)) => rPlus_any (.slice Aw (nd 32 D1) cw) (.slice (some ⟨wx.heap.size, 0, none⟩) 1 1) D1 (nd 32 D1) 1 1 (wx.alloc (.cells #[.int .u64 ((1 : Nat) : Int)] 42)) (h.alloc _) (Rd.one32 wx 1 (by decide)) (by have := HnD1.out; omega) (by decide))
            obtain ⟨g0, g1, g2, gf, -⟩ := BGq.out.cells
            go_wp2_with fail
            refine (HP.out wq RGq.out).mono ?_
            rintro _ w10 ⟨_, rfl, ⟨hV, hF⟩, hb⟩
            obtain ⟨A10, c10, rfl, -, -⟩ := hV.form
            have hb1 := (below1 wq (.cells #[.int .u64 ((1 : Nat) : Int)] 42)).trans (hb.mono (by simp))
            have hgl : g < wq.heap.size := (BGq.out.cells).2.2.2.2
            have B10 := BGq.out.keep hb1
            have BGz := Lib.hid (box3_put1 B10 (.slice A10 (nd 32 (D1 + 1)) c10))
            have RGz := Lib.hid (rf_set32 ⟨hV, hF⟩ (p := ⟨g, 1, none⟩) (show g < _ by simp; omega) (.slice A10 (nd 32 (D1 + 1)) c10)).1
            have B3z := Lib.hid (box3_other (B3q.out.keep hb1) (show g ≠ w.heap.size + 1 by have := Hwg.out; omega) 1 (.slice A10 (nd 32 (D1 + 1)) c10))
            have HBz := Lib.hid ((keep_belowB HBq.out hb1 (by have := HBq.out.size; omega)).setCell (p := ⟨g, 1, none⟩) (show w.heap.size ≤ g by have := Hwg.out; omega) (.slice A10 (nd 32 (D1 + 1)) c10))
            have Hwz := Lib.hid (show w.heap.size + 1 < (w10.setCell ⟨g, 1, none⟩ (.slice A10 (nd 32 (D1 + 1)) c10)).heap.size by have h1 := hb1.size; have h2 := Hwq.out; simp; omega)
            have HnD2 := Lib.hid (show nd 32 (D1 + 1) ≤ 20000 from nd_succ32 HnD1.out)
            clear g0 g1 g2 gf HP
            obtain ⟨g0, g1, g2, gf, -⟩ := B10.cells
            clear hV hF hb hb1 hgl B10 BGq RGq B3q HBq Hwq
            go_upto_region 10 with (fail)
            generalize w10.setCell ⟨g, 1, none⟩ (.slice A10 (nd 32 (D1 + 1)) c10) = wz at *
            clear g0 g1 g2 gf
            obtain ⟨p0, p1, p2, -, -⟩ := BGz.out.cells
            have hAn := rAnswer_any (.agg #[.bool true, .slice A10 (nd 32 (D1 + 1)) c10, .int .i64 0]) ⟨true, D1 + 1, 0⟩ wz (numV_of RGz.out) (show nd 32 (D1 + 1) ≤ 20000 from HnD2.out) ⟨show (-10000000 : Int) ≤ 0 by decide, show (0 : Int) ≤ 10000000 by decide⟩
            rw [← HSe.out] at hAn
            have HAn := Lib.hid hAn
            clear hAn BGz RGz HSe
            go_wp2_with fail
            refine HAn.out.mono ?_
            rintro _ w9 ⟨_, rfl, hdv, hb⟩
            obtain ⟨A9, c9, rfl, -⟩ := id hdv
            have HBn := Lib.hid (keep_belowB HBz.out hb (by have := HBz.out.size; omega))
            have B3n := Lib.hid (B3z.out.keep hb)
            have HD := Lib.hid hdv
            clear hb hdv HAn HBz B3z p0 p1 p2
            obtain ⟨y0, y1, y2, yf, -⟩ := B3n.out.cells
            go_wp2_with fail
            obtain ⟨q0, q1, q2, -, -⟩ := (B3n.out.setAll (.bool S.1.s) (.slice A9 (nd 64 S.1.n) c9) (.int .i64 S.1.e)).cells
            refine bodyPost_ret (v := .tuple #[.agg #[.bool S.1.s, .slice A9 (nd 64 S.1.n) c9, .int .i64 S.1.e], .int .i64 S.2]) (by simp [results, Tryd.results52, go_sem, q0, q1, q2]) rfl ?_
            exact ⟨_, rfl, (HD.out.setBox Hwz.out _ _ _).mono (Nat.le_trans (Nat.le_succ _) (Nat.le_of_lt Hwz.out)), below_box HBn.out (by omega) _ _ _⟩
  · have hne : (refD n e != 0) = true := by simpa using hr
    have hS' : S = (D.zero, refD n e) := by rw [hS]; unfold floorD; exact if_neg hr
    have HS := Lib.hid hS'
    generalize refD n e = rr at *
    clear hS hr hS'
    go_wp2_with fail
    obtain ⟨q0, q1, q2, -, -⟩ := (B3.out.setAll (.bool false) (.slice none 0 0) (.int .i64 0)).cells
    refine bodyPost_ret (v := .tuple #[.agg #[.bool false, .slice none 0 0, .int .i64 0], .int .i64 rr]) (by simp [results, Tryd.results52, go_sem, y0, y1, y2, q0, q1, q2]) rfl ?_
    exact ⟨_, by rw [HS.out], by rw [HS.out]; exact DV.zero, by first | exact HB.out | exact below_box HB.out (by omega) _ _ _⟩

end Go.Proofs.YtakjbmlkcbedmaaDoor
