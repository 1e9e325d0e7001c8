/- The walks of vernierref03.both, Add, Sub, Mul, Compare. Printed by gen/dreff.py. -/
import Derived.Test.YtakjbmlkcbedmaaDoorDRefE
namespace Go.Proofs.YtakjbmlkcbedmaaDoor
set_option linter.unusedVariables false
set_option linter.unusedSimpArgs false
open Go.RowKit


set_option maxRecDepth 100000 in
theorem rBoth_any (s1 s2 : Bool) (A1 A2 : Option Addr) (N n1 c1 M n2 c2 : Nat) (e1 e2 : Int) (w : World) (hv : Rd 64 w (.slice A1 n1 c1) N n1) (hu : Rd 64 w (.slice A2 n2 c2) M n2) :
    Calls Tryd.prog 34 #[.agg #[.bool s1, .slice A1 n1 c1, .int .i64 e1], .agg #[.bool s2, .slice A2 n2 c2, .int .i64 e2]] w fun e' w' => e' = .returned (.int .i64 (twoD n1 e1 n2 e2)) ∧ Below w.heap.size w w' := by
  have hb0 := below2 w (.cells #[.bool s1, .slice A1 n1 c1, .int .i64 e1] 26) (.cells #[.bool s2, .slice A2 n2 c2, .int .i64 e2] 26)
  have b1 := (Box3.new w (.bool s1) (.slice A1 n1 c1) (.int .i64 e1) 26).alloc (.cells #[.bool s2, .slice A2 n2 c2, .int .i64 e2] 26)
  have b2 := Box3.new1 w (.cells #[.bool s1, .slice A1 n1 c1, .int .i64 e1] 26) (.bool s2) (.slice A2 n2 c2) (.int .i64 e2) 26
  obtain ⟨W, hW⟩ : ∃ W, W = (w.alloc (.cells #[.bool s1, .slice A1 n1 c1, .int .i64 e1] 26)).alloc (.cells #[.bool s2, .slice A2 n2 c2, .int .i64 e2] 26) := ⟨_, rfl⟩
  rw [← hW] at hb0 b1 b2
  have H1 := Lib.hid (fun wx => rBad_any s1 A1 n1 c1 e1 wx hv.len)
  have H2 := Lib.hid (fun wx => rBad_any s2 A2 n2 c2 e2 wx hu.len)
  have HB := Lib.hid hb0
  have B2 := Lib.hid b2
  obtain ⟨p0, p1, p2, -, -⟩ := b1.cells
  obtain ⟨S, hS⟩ : ∃ S, S = twoD n1 e1 n2 e2 := ⟨_, rfl⟩
  rw [← hS]
  unfold twoD at hS
  clear hb0 b1 b2 hv hu
  go_enter Tryd.func34, Tryd.ntmps34
  go_upto_region 1 with (fail)
  rw [← hW]
  clear hW
  go_wp2_with fail
  refine (H1.out _).mono ?_
  rintro _ w1 ⟨rfl, hb⟩
  replace HB := Lib.hid (keep_belowB HB.out hb (by have := HB.out.size; omega))
  replace B2 := Lib.hid (B2.out.keep hb)
  clear hb H1 p0 p1 p2
  obtain ⟨p0, p1, p2, -, -⟩ := B2.out.cells
  by_cases hr : refD n1 e1 = 0
  · rw [if_pos hr] at hS
    rw [hr]
    have HS := Lib.hid hS
    clear hr hS
    go_wp2_with fail
    refine (H2.out _).mono ?_
    rintro _ w2 ⟨rfl, hb⟩
    replace HB := Lib.hid (keep_belowB HB.out hb (by have := HB.out.size; omega))
    clear hb H2 p0 p1 p2
    go_wp2_with fail
    go_ret
    exact ⟨by rw [HS.out]; rfl, HB.out⟩
  · have hne : (refD n1 e1 != 0) = true := by simpa using hr
    rw [if_neg hr] at hS
    have HS := Lib.hid hS
    generalize refD n1 e1 = rr at *
    clear hr hS
    go_wp2_with fail
    go_ret
    exact ⟨by rw [HS.out]; rfl, HB.out⟩


theorem sumR_size {d e : D} (h1 : nd 32 d.n ≤ 2048) (h2 : nd 32 e.n ≤ 2048) (he1 : -40000 ≤ d.e ∧ d.e ≤ 40000) (he2 : -40000 ≤ e.e ∧ e.e ≤ 40000) : nd 32 (sumR d e).n ≤ 20000 ∧ -10000000 ≤ (sumR d e).e ∧ (sumR d e).e ≤ 10000000 := by
  obtain ⟨T, hT⟩ : ∃ T : Nat, T = 4600 := ⟨_, rfl⟩
  have sh : ∀ n k : Nat, nd 32 n ≤ 2048 → k ≤ 80000 → n * 2 ^ k < 2 ^ (32 * T) := by
    intro n k hn hk
    have h3 : n < 2 ^ (32 * nd 32 n) := lt_nd 32 n (by decide)
    have h4 : n * 2 ^ k < 2 ^ (32 * nd 32 n) * 2 ^ k := Nat.mul_lt_mul_of_pos_right h3 (pow_pos2 k)
    rw [← Nat.pow_add] at h4
    exact Nat.lt_of_lt_of_le h4 (Nat.pow_le_pow_right (by decide) (by omega))
  have le : ∀ n : Nat, n < 2 ^ (32 * (T + 1)) → nd 32 n ≤ 20000 := fun n h => Nat.le_trans (nd_le 32 n (T + 1) (by decide) h) (by omega)
  have up : ∀ n : Nat, n < 2 ^ (32 * T) → n < 2 ^ (32 * (T + 1)) := fun n h => Nat.lt_of_lt_of_le h (Nat.pow_le_pow_right (by decide) (by omega))
  unfold sumR
  split
  · exact ⟨by omega, by omega⟩
  split
  · exact ⟨by omega, by omega⟩
  have a1 := sh d.n (d.e - min d.e e.e).toNat h1 (by omega)
  have a2 := sh e.n (e.e - min d.e e.e).toNat h2 (by omega)
  generalize d.n * 2 ^ (d.e - min d.e e.e).toNat = X at *
  generalize e.n * 2 ^ (e.e - min d.e e.e).toNat = Y at *
  split
  · refine ⟨le _ ?_, by simp only; omega, by simp only; omega⟩
    have e2 : (2 : Nat) ^ (32 * (T + 1)) = 2 ^ (32 * T) * 2 ^ 32 := by rw [← Nat.pow_add]; congr 1
    show X + Y < _
    rw [e2]
    generalize (2 : Nat) ^ (32 * T) = B at *
    have : (2 : Nat) ≤ 2 ^ 32 := by decide
    have := Nat.mul_le_mul_left B this
    omega
  · split
    · exact ⟨le _ (up _ (Nat.lt_of_le_of_lt (Nat.sub_le _ _) a1)), by simp only; omega, by simp only; omega⟩
    · exact ⟨le _ (up _ (Nat.lt_of_le_of_lt (Nat.sub_le _ _) a2)), by simp only; omega, by simp only; omega⟩


set_option maxRecDepth 100000 in
set_option maxHeartbeats 4000000 in
theorem rAdd_any (s1 s2 : Bool) (A1 A2 : Option Addr) (N n1 c1 M n2 c2 : Nat) (e1 e2 : Int) (w : World) (hv : Rd 64 w (.slice A1 n1 c1) N n1) (hu : Rd 64 w (.slice A2 n2 c2) M n2) :
    Calls Tryd.prog 44 #[.agg #[.bool s1, .slice A1 n1 c1, .int .i64 e1], .agg #[.bool s2, .slice A2 n2 c2, .int .i64 e2]] w fun e' w' => ∃ x, e' = .returned (.tuple #[x, .int .i64 (addD n1 ⟨s1, N, e1⟩ n2 ⟨s2, M, e2⟩).2]) ∧ DV w.heap.size w' x (addD n1 ⟨s1, N, e1⟩ n2 ⟨s2, M, e2⟩).1 ∧ Below w.heap.size w w' := by
  have hb0 := below3 w (.cells #[.bool s1, .slice A1 n1 c1, .int .i64 e1] 26) (.cells #[.bool s2, .slice A2 n2 c2, .int .i64 e2] 26) (.cells #[.bool false, .slice none 0 0, .int .i64 0] 26)
  have b1 := ((Box3.new w (.bool s1) (.slice A1 n1 c1) (.int .i64 e1) 26).alloc (.cells #[.bool s2, .slice A2 n2 c2, .int .i64 e2] 26)).alloc (.cells #[.bool false, .slice none 0 0, .int .i64 0] 26)
  have b2 := (Box3.new1 w (.cells #[.bool s1, .slice A1 n1 c1, .int .i64 e1] 26) (.bool s2) (.slice A2 n2 c2) (.int .i64 e2) 26).alloc (.cells #[.bool false, .slice none 0 0, .int .i64 0] 26)
  have b3 := Box3.new2 w (.cells #[.bool s1, .slice A1 n1 c1, .int .i64 e1] 26) (.cells #[.bool s2, .slice A2 n2 c2, .int .i64 e2] 26) (.bool false) (.slice none 0 0) (.int .i64 0) 26
  obtain ⟨W, hW⟩ : ∃ W, W = ((w.alloc (.cells #[.bool s1, .slice A1 n1 c1, .int .i64 e1] 26)).alloc (.cells #[.bool s2, .slice A2 n2 c2, .int .i64 e2] 26)).alloc (.cells #[.bool false, .slice none 0 0, .int .i64 0] 26) := ⟨_, rfl⟩
  have hWs : w.heap.size + 1 + 1 < W.heap.size := by rw [hW]; simp
  have hvW : Rd 64 W (.slice A1 n1 c1) N n1 := by rw [hW]; exact hv.below hb0
  have huW : Rd 64 W (.slice A2 n2 c2) M n2 := by rw [hW]; exact hu.below hb0
  rw [← hW] at hb0 b1 b2 b3
  have HBt := Lib.hid (rBoth_any s1 s2 A1 A2 N n1 c1 M n2 c2 e1 e2 W hvW huW)
  have HB := Lib.hid hb0
  have B1 := Lib.hid b1
  have B2 := Lib.hid b2
  have B3 := Lib.hid b3
  have HWs := Lib.hid hWs
  have R1 := Lib.hid hvW
  have R2 := Lib.hid huW
  obtain ⟨p0, p1, p2, -, -⟩ := b1.cells
  obtain ⟨q0, q1, q2, -, -⟩ := b2.cells
  obtain ⟨S, hS⟩ : ∃ S, S = addD n1 ⟨s1, N, e1⟩ n2 ⟨s2, M, e2⟩ := ⟨_, rfl⟩
  rw [← hS]
  have hlt1 := hvW.lt
  have hlt2 := huW.lt
  clear hb0 b1 b2 b3 hWs hv hvW hu huW
  go_enter Tryd.func44, Tryd.ntmps44
  go_upto_region 1 with (fail)
  rw [← hW]
  clear hW
  go_wp2_with fail
  refine HBt.out.mono ?_
  rintro _ w1 ⟨rfl, hb⟩
  replace HB := Lib.hid (keep_belowB HB.out hb (by have := HB.out.size; omega))
  replace B1 := Lib.hid (B1.out.keep hb)
  replace B2 := Lib.hid (B2.out.keep hb)
  replace B3 := Lib.hid (B3.out.keep hb)
  replace R1 := Lib.hid (R1.out.below hb)
  replace R2 := Lib.hid (R2.out.below hb)
  have hsz := hb.size
  replace HWs := Lib.hid (show w.heap.size + 1 + 1 < w1.heap.size by have := HWs.out; omega)
  clear hb HBt p0 p1 p2 q0 q1 q2 hsz
  obtain ⟨p0, p1, p2, -, -⟩ := B1.out.cells
  obtain ⟨q0, q1, q2, -, -⟩ := B2.out.cells
  obtain ⟨y0, y1, y2, yf, -⟩ := B3.out.cells
  by_cases hr : twoD n1 e1 n2 e2 = 0
  · rw [hr]
    rw [add_ref hr] at hS
    obtain ⟨ra, rb⟩ := twoD_zero hr
    obtain ⟨r1, r2, r3⟩ := refD_zero ra
    obtain ⟨t1, t2, t3⟩ := refD_zero rb
    have hnd1 := nd32_of hlt1 r1
    have hnd2 := nd32_of hlt2 t1
    have hHS := Lib.hid hS
    have L1 := Lib.hid (show n1 ≤ 1000000 by omega)
    have L2 := Lib.hid (show n2 ≤ 1000000 by omega)
    have G1 := Lib.hid (show nd 32 N ≤ 10000 by omega)
    have G2 := Lib.hid (show nd 32 M ≤ 10000 by omega)
    have G3 := Lib.hid (show -100000 ≤ e1 ∧ e1 ≤ 100000 by omega)
    have G4 := Lib.hid (show -100000 ≤ e2 ∧ e2 ≤ 100000 by omega)
    have GS := sumR_size (d := ⟨s1, N, e1⟩) (e := ⟨s2, M, e2⟩) (show nd 32 N ≤ 2048 by omega) (show nd 32 M ≤ 2048 by omega) (show -40000 ≤ e1 ∧ e1 ≤ 40000 by omega) (show -40000 ≤ e2 ∧ e2 ≤ 40000 by omega)
    have GA := Lib.hid GS.1
    have GB := Lib.hid GS.2
    clear GS
    have hBW1 := HB.out
    have b2w := B3.out
    have hle2 : w.heap.size ≤ w.heap.size + 1 + 1 := by omega
    have hz1 := HWs.out
    have hv1 := R1.out
    have hu1 := R2.out
    clear hr ra rb hS hnd1 hnd2 r1 r2 r3 t1 t2 t3 hlt1 hlt2 HB B1 B2 B3 HWs R1 R2 y0 y1 y2 yf
    go_wp2_with fail
    go_region_held3 (fun w' => w'.cell? ⟨w.heap.size, 0, none⟩ = some (.bool s1) ∧ w'.cell? ⟨w.heap.size, 1, none⟩ = some (.slice A1 n1 c1) ∧ w'.cell? ⟨w.heap.size, 2, none⟩ = some (.int .i64 e1) ∧
        w'.cell? ⟨w.heap.size + 1, 0, none⟩ = some (.bool s2) ∧ w'.cell? ⟨w.heap.size + 1, 1, none⟩ = some (.slice A2 n2 c2) ∧ w'.cell? ⟨w.heap.size + 1, 2, none⟩ = some (.int .i64 e2) ∧ Below w.heap.size w w')
      (first | exact ⟨p0, p1, p2, q0, q1, q2, hBW1.drew⟩ | exact ⟨keep_cell hx1 p0, keep_cell hx1 p1, keep_cell hx1 p2, keep_cell hx1 q0, keep_cell hx1 q1, keep_cell hx1 q2, keep_belowB hBW1.drew hx1 (Nat.le_refl _)⟩ | ((try go_split_ands); refine ⟨keep_cell hx4 ?_, keep_cell hx4 ?_, keep_cell hx4 ?_, keep_cell hx4 ?_, keep_cell hx4 ?_, keep_cell hx4 ?_, keep_belowB ?_ hx4 (Nat.le_refl _)⟩ <;> assumption) | ((try go_split_ands); refine ⟨keep_cell hx3 ?_, keep_cell hx3 ?_, keep_cell hx3 ?_, keep_cell hx3 ?_, keep_cell hx3 ?_, keep_cell hx3 ?_, keep_belowB ?_ hx3 (Nat.le_refl _)⟩ <;> assumption) | ((try go_split_ands); refine ⟨keep_cell hx2 ?_, keep_cell hx2 ?_, keep_cell hx2 ?_, keep_cell hx2 ?_, keep_cell hx2 ?_, keep_cell hx2 ?_, keep_belowB ?_ hx2 (Nat.le_refl _)⟩ <;> assumption) | ((try go_split_ands); refine ⟨cell_box_other (by omega) ?_, cell_box_other (by omega) ?_, cell_box_other (by omega) ?_, cell_box_other (by omega) ?_, cell_box_other (by omega) ?_, cell_box_other (by omega) ?_, below_box ?_ hle2 _ _ _⟩ <;> assumption))
      (first | (go_at_call 26; (with_reducible refine (rOf_any s1 A1 N n1 c1 e1 _ ?_ L1.out).mono ?_); exact hv1.drew; rintro e w2 ⟨v2, rfl, hV2, hx1⟩; have hu2 := (hu1.drew).below hx1; have b2x := (b2w.keep (Below.refl _ _).drew).keep hx1; have hz2 := hx1.size) | (go_at_call 26; (with_reducible refine (rOf_any s2 A2 M n2 c2 e2 _ hu2 L2.out).mono ?_); rintro e w3 ⟨v3, rfl, hV3, hx2⟩; have b2y := b2x.keep hx2; have hz3 := hx2.size) | (go_at_call 30; (with_reducible refine (rSum_any v2 v3 ⟨s1, N, e1⟩ ⟨s2, M, e2⟩ _ (hV2.belowB hx2 (Nat.le_refl _)) hV3 G1.out G2.out G3.out G4.out).mono ?_); rintro e w4 ⟨v4, rfl, hV4, hx3⟩; have b2z := b2y.keep hx3; have hz4 := hx3.size) | (go_at_call 29; (with_reducible refine (rAnswer_any v4 (sumR ⟨s1, N, e1⟩ ⟨s2, M, e2⟩) _ hV4 GA.out GB.out).mono ?_); rw [← hHS.out]; rintro e w5 ⟨x5, rfl, hVL, hx4⟩; obtain ⟨A6, c6, rfl, hc6, hcm6, hR6, hF6⟩ := id hVL; have b2L := b2z.keep hx4; obtain ⟨z1, z2, z3, z4, z5⟩ := b2L.cells))
    obtain ⟨z6, z7, z8, -, -⟩ := (b2L.setAll (.bool S.1.s) (.slice A6 (nd 64 S.1.n) c6) (.int .i64 S.1.e)).cells
    go_wp2
    refine bodyPost_ret (v := .tuple #[.agg #[.bool S.1.s, .slice A6 (nd 64 S.1.n) c6, .int .i64 S.1.e], .int .i64 S.2]) (by simp [results, Tryd.results44, go_sem, z6, z7, z8]) rfl ?_
    have h2 : w1.heap.size ≤ w2.heap.size := hz2
    exact ⟨_, rfl, (hVL.setBox (show w.heap.size + 1 + 1 < w4.heap.size by omega) _ _ _).mono (by omega), below_box (keep_belowB (keep_belowB (keep_belowB (keep_belowB (hBW1.drew) hx1 (Nat.le_refl _)) hx2 (Nat.le_refl _)) hx3 (Nat.le_refl _)) hx4 (Nat.le_refl _)) hle2 _ _ _⟩
  · have hne : (twoD n1 e1 n2 e2 != 0) = true := by simpa using hr
    have hS' : S = (D.zero, twoD n1 e1 n2 e2) := by rw [hS]; first | (show addD _ _ _ _ = _; unfold addD; exact if_neg hr) | (unfold mulD; exact if_neg hr)
    have HS := Lib.hid hS'
    generalize twoD n1 e1 n2 e2 = rr at *
    clear hS hr hS'
    go_wp2_with fail
    obtain ⟨q0, q1, q2, -, -⟩ := (B3.out.setAll (.bool false) (.slice none 0 0) (.int .i64 0)).cells
    refine bodyPost_ret (v := .tuple #[.agg #[.bool false, .slice none 0 0, .int .i64 0], .int .i64 rr]) (by simp [results, Tryd.results44, go_sem, y0, y1, y2, q0, q1, q2]) rfl ?_
    exact ⟨_, by rw [HS.out], by rw [HS.out]; exact DV.zero, by first | exact HB.out | exact below_box HB.out (by omega) _ _ _⟩


set_option maxRecDepth 100000 in
set_option maxHeartbeats 4000000 in
theorem rSub_any (s1 s2 : Bool) (A1 A2 : Option Addr) (N n1 c1 M n2 c2 : Nat) (e1 e2 : Int) (w : World) (hv : Rd 64 w (.slice A1 n1 c1) N n1) (hu : Rd 64 w (.slice A2 n2 c2) M n2) :
    Calls Tryd.prog 46 #[.agg #[.bool s1, .slice A1 n1 c1, .int .i64 e1], .agg #[.bool s2, .slice A2 n2 c2, .int .i64 e2]] w fun e' w' => ∃ x, e' = .returned (.tuple #[x, .int .i64 (subD n1 ⟨s1, N, e1⟩ n2 ⟨s2, M, e2⟩).2]) ∧ DV w.heap.size w' x (subD n1 ⟨s1, N, e1⟩ n2 ⟨s2, M, e2⟩).1 ∧ Below w.heap.size w w' := by
  have hb0 := below3 w (.cells #[.bool s1, .slice A1 n1 c1, .int .i64 e1] 26) (.cells #[.bool s2, .slice A2 n2 c2, .int .i64 e2] 26) (.cells #[.bool false, .slice none 0 0, .int .i64 0] 26)
  have b1 := ((Box3.new w (.bool s1) (.slice A1 n1 c1) (.int .i64 e1) 26).alloc (.cells #[.bool s2, .slice A2 n2 c2, .int .i64 e2] 26)).alloc (.cells #[.bool false, .slice none 0 0, .int .i64 0] 26)
  have b2 := (Box3.new1 w (.cells #[.bool s1, .slice A1 n1 c1, .int .i64 e1] 26) (.bool s2) (.slice A2 n2 c2) (.int .i64 e2) 26).alloc (.cells #[.bool false, .slice none 0 0, .int .i64 0] 26)
  have b3 := Box3.new2 w (.cells #[.bool s1, .slice A1 n1 c1, .int .i64 e1] 26) (.cells #[.bool s2, .slice A2 n2 c2, .int .i64 e2] 26) (.bool false) (.slice none 0 0) (.int .i64 0) 26
  obtain ⟨W, hW⟩ : ∃ W, W = ((w.alloc (.cells #[.bool s1, .slice A1 n1 c1, .int .i64 e1] 26)).alloc (.cells #[.bool s2, .slice A2 n2 c2, .int .i64 e2] 26)).alloc (.cells #[.bool false, .slice none 0 0, .int .i64 0] 26) := ⟨_, rfl⟩
  have hWs : w.heap.size + 1 + 1 < W.heap.size := by rw [hW]; simp
  have hvW : Rd 64 W (.slice A1 n1 c1) N n1 := by rw [hW]; exact hv.below hb0
  have huW : Rd 64 W (.slice A2 n2 c2) M n2 := by rw [hW]; exact hu.below hb0
  rw [← hW] at hb0 b1 b2 b3
  have HBt := Lib.hid (rBoth_any s1 s2 A1 A2 N n1 c1 M n2 c2 e1 e2 W hvW huW)
  have HB := Lib.hid hb0
  have B1 := Lib.hid b1
  have B2 := Lib.hid b2
  have B3 := Lib.hid b3
  have HWs := Lib.hid hWs
  have R1 := Lib.hid hvW
  have R2 := Lib.hid huW
  obtain ⟨p0, p1, p2, -, -⟩ := b1.cells
  obtain ⟨q0, q1, q2, -, -⟩ := b2.cells
  obtain ⟨S, hS⟩ : ∃ S, S = subD n1 ⟨s1, N, e1⟩ n2 ⟨s2, M, e2⟩ := ⟨_, rfl⟩
  rw [← hS]
  have hlt1 := hvW.lt
  have hlt2 := huW.lt
  clear hb0 b1 b2 b3 hWs hv hvW hu huW
  go_enter Tryd.func46, Tryd.ntmps46
  go_upto_region 1 with (fail)
  rw [← hW]
  clear hW
  go_wp2_with fail
  refine HBt.out.mono ?_
  rintro _ w1 ⟨rfl, hb⟩
  replace HB := Lib.hid (keep_belowB HB.out hb (by have := HB.out.size; omega))
  replace B1 := Lib.hid (B1.out.keep hb)
  replace B2 := Lib.hid (B2.out.keep hb)
  replace B3 := Lib.hid (B3.out.keep hb)
  replace R1 := Lib.hid (R1.out.below hb)
  replace R2 := Lib.hid (R2.out.below hb)
  have hsz := hb.size
  replace HWs := Lib.hid (show w.heap.size + 1 + 1 < w1.heap.size by have := HWs.out; omega)
  clear hb HBt p0 p1 p2 q0 q1 q2 hsz
  obtain ⟨p0, p1, p2, -, -⟩ := B1.out.cells
  obtain ⟨q0, q1, q2, -, -⟩ := B2.out.cells
  obtain ⟨y0, y1, y2, yf, -⟩ := B3.out.cells
  by_cases hr : twoD n1 e1 n2 e2 = 0
  · rw [hr]
    rw [sub_ref hr] at hS
    obtain ⟨ra, rb⟩ := twoD_zero hr
    obtain ⟨r1, r2, r3⟩ := refD_zero ra
    obtain ⟨t1, t2, t3⟩ := refD_zero rb
    have hnd1 := nd32_of hlt1 r1
    have hnd2 := nd32_of hlt2 t1
    have hHS := Lib.hid hS
    have L1 := Lib.hid (show n1 ≤ 1000000 by omega)
    have L2 := Lib.hid (show n2 ≤ 1000000 by omega)
    have G1 := Lib.hid (show nd 32 N ≤ 10000 by omega)
    have G2 := Lib.hid (show nd 32 (oppD ⟨s2, M, e2⟩).n ≤ 10000 by show nd 32 M ≤ 10000; omega)
    have G3 := Lib.hid (show -100000 ≤ e1 ∧ e1 ≤ 100000 by omega)
    have G4 := Lib.hid (show -100000 ≤ (oppD ⟨s2, M, e2⟩).e ∧ (oppD ⟨s2, M, e2⟩).e ≤ 100000 by show -100000 ≤ e2 ∧ e2 ≤ 100000; omega)
    have GS := sumR_size (d := ⟨s1, N, e1⟩) (e := oppD ⟨s2, M, e2⟩) (show nd 32 N ≤ 2048 by omega) (show nd 32 M ≤ 2048 by omega) (show -40000 ≤ e1 ∧ e1 ≤ 40000 by omega) (show -40000 ≤ e2 ∧ e2 ≤ 40000 by omega)
    have GA := Lib.hid GS.1
    have GB := Lib.hid GS.2
    clear GS
    have hBW1 := HB.out
    have b2w := B3.out
    have hle2 : w.heap.size ≤ w.heap.size + 1 + 1 := by omega
    have hz1 := HWs.out
    have hv1 := R1.out
    have hu1 := R2.out
    clear hr ra rb hS hnd1 hnd2 r1 r2 r3 t1 t2 t3 hlt1 hlt2 HB B1 B2 B3 HWs R1 R2 y0 y1 y2 yf
    go_wp2_with fail
    go_region_held3 (fun w' => w'.cell? ⟨w.heap.size, 0, none⟩ = some (.bool s1) ∧ w'.cell? ⟨w.heap.size, 1, none⟩ = some (.slice A1 n1 c1) ∧ w'.cell? ⟨w.heap.size, 2, none⟩ = some (.int .i64 e1) ∧
        w'.cell? ⟨w.heap.size + 1, 0, none⟩ = some (.bool s2) ∧ w'.cell? ⟨w.heap.size + 1, 1, none⟩ = some (.slice A2 n2 c2) ∧ w'.cell? ⟨w.heap.size + 1, 2, none⟩ = some (.int .i64 e2) ∧ Below w.heap.size w w')
      (first | exact ⟨p0, p1, p2, q0, q1, q2, hBW1.drew⟩ | exact ⟨keep_cell hx1 p0, keep_cell hx1 p1, keep_cell hx1 p2, keep_cell hx1 q0, keep_cell hx1 q1, keep_cell hx1 q2, keep_belowB hBW1.drew hx1 (Nat.le_refl _)⟩ | ((try go_split_ands); refine ⟨keep_cell hx5 ?_, keep_cell hx5 ?_, keep_cell hx5 ?_, keep_cell hx5 ?_, keep_cell hx5 ?_, keep_cell hx5 ?_, keep_belowB ?_ hx5 (Nat.le_refl _)⟩ <;> assumption) | ((try go_split_ands); refine ⟨keep_cell hx4 ?_, keep_cell hx4 ?_, keep_cell hx4 ?_, keep_cell hx4 ?_, keep_cell hx4 ?_, keep_cell hx4 ?_, keep_belowB ?_ hx4 (Nat.le_refl _)⟩ <;> assumption) | ((try go_split_ands); refine ⟨keep_cell hx3 ?_, keep_cell hx3 ?_, keep_cell hx3 ?_, keep_cell hx3 ?_, keep_cell hx3 ?_, keep_cell hx3 ?_, keep_belowB ?_ hx3 (Nat.le_refl _)⟩ <;> assumption) | ((try go_split_ands); refine ⟨keep_cell hx2 ?_, keep_cell hx2 ?_, keep_cell hx2 ?_, keep_cell hx2 ?_, keep_cell hx2 ?_, keep_cell hx2 ?_, keep_belowB ?_ hx2 (Nat.le_refl _)⟩ <;> assumption) | ((try go_split_ands); refine ⟨cell_box_other (by omega) ?_, cell_box_other (by omega) ?_, cell_box_other (by omega) ?_, cell_box_other (by omega) ?_, cell_box_other (by omega) ?_, cell_box_other (by omega) ?_, below_box ?_ hle2 _ _ _⟩ <;> assumption))
      (first | (go_at_call 26; (with_reducible refine (rOf_any s1 A1 N n1 c1 e1 _ ?_ L1.out).mono ?_); exact hv1.drew; rintro e w2 ⟨v2, rfl, hV2, hx1⟩; have hu2 := (hu1.drew).below hx1; have b2x := (b2w.keep (Below.refl _ _).drew).keep hx1; have hz2 := hx1.size) | (go_at_call 26; (with_reducible refine (rOf_any s2 A2 M n2 c2 e2 _ hu2 L2.out).mono ?_); rintro e w3 ⟨v3, rfl, hV3, hx2⟩; have b2y := b2x.keep hx2; have hz3 := hx2.size) | (go_at_call 36; (with_reducible refine (rOpp_any v3 ⟨s2, M, e2⟩ _ hV3).mono ?_); rintro e w4 ⟨v4, rfl, hV4, hx3⟩; have b2z := b2y.keep hx3; have hz4 := hx3.size) | (go_at_call 30; (with_reducible refine (rSum_any v2 v4 ⟨s1, N, e1⟩ (oppD ⟨s2, M, e2⟩) _ ((hV2.belowB hx2 (Nat.le_refl _)).belowB hx3 (Nat.le_refl _)) hV4 G1.out G2.out G3.out G4.out).mono ?_); rintro e w5 ⟨v5, rfl, hV5, hx4⟩; have b2u := b2z.keep hx4; have hz5 := hx4.size) | (go_at_call 29; (with_reducible refine (rAnswer_any v5 (sumR ⟨s1, N, e1⟩ (oppD ⟨s2, M, e2⟩)) _ hV5 GA.out GB.out).mono ?_); rw [← hHS.out]; rintro e w6 ⟨x6, rfl, hVL, hx5⟩; obtain ⟨A6, c6, rfl, hc6, hcm6, hR6, hF6⟩ := id hVL; have b2L := b2u.keep hx5; obtain ⟨z1, z2, z3, z4, z5⟩ := b2L.cells))
    obtain ⟨z6, z7, z8, -, -⟩ := (b2L.setAll (.bool S.1.s) (.slice A6 (nd 64 S.1.n) c6) (.int .i64 S.1.e)).cells
    go_wp2
    refine bodyPost_ret (v := .tuple #[.agg #[.bool S.1.s, .slice A6 (nd 64 S.1.n) c6, .int .i64 S.1.e], .int .i64 S.2]) (by simp [results, Tryd.results46, go_sem, z6, z7, z8]) rfl ?_
    have h2 : w1.heap.size ≤ w2.heap.size := hz2
    exact ⟨_, rfl, (hVL.setBox (show w.heap.size + 1 + 1 < w5.heap.size by omega) _ _ _).mono (by omega), below_box (keep_belowB (keep_belowB (keep_belowB (keep_belowB (keep_belowB (hBW1.drew) hx1 (Nat.le_refl _)) hx2 (Nat.le_refl _)) hx3 (Nat.le_refl _)) hx4 (Nat.le_refl _)) hx5 (Nat.le_refl _)) hle2 _ _ _⟩
  · have hne : (twoD n1 e1 n2 e2 != 0) = true := by simpa using hr
    have hS' : S = (D.zero, twoD n1 e1 n2 e2) := by rw [hS]; first | (show addD _ _ _ _ = _; unfold addD; exact if_neg hr) | (unfold mulD; exact if_neg hr)
    have HS := Lib.hid hS'
    generalize twoD n1 e1 n2 e2 = rr at *
    clear hS hr hS'
    go_wp2_with fail
    obtain ⟨q0, q1, q2, -, -⟩ := (B3.out.setAll (.bool false) (.slice none 0 0) (.int .i64 0)).cells
    refine bodyPost_ret (v := .tuple #[.agg #[.bool false, .slice none 0 0, .int .i64 0], .int .i64 rr]) (by simp [results, Tryd.results46, go_sem, y0, y1, y2, q0, q1, q2]) rfl ?_
    exact ⟨_, by rw [HS.out], by rw [HS.out]; exact DV.zero, by first | exact HB.out | exact below_box HB.out (by omega) _ _ _⟩


set_option maxRecDepth 100000 in
set_option maxHeartbeats 4000000 in
theorem rCompare_any (s1 s2 : Bool) (A1 A2 : Option Addr) (N n1 c1 M n2 c2 : Nat) (e1 e2 : Int) (w : World) (hv : Rd 64 w (.slice A1 n1 c1) N n1) (hu : Rd 64 w (.slice A2 n2 c2) M n2) :
    Calls Tryd.prog 18 #[.agg #[.bool s1, .slice A1 n1 c1, .int .i64 e1], .agg #[.bool s2, .slice A2 n2 c2, .int .i64 e2]] w fun e' w' => e' = .returned (.tuple #[.int .i64 (cmpD n1 ⟨s1, N, e1⟩ n2 ⟨s2, M, e2⟩).1, .int .i64 (cmpD n1 ⟨s1, N, e1⟩ n2 ⟨s2, M, e2⟩).2]) ∧ Below w.heap.size w w' := by
  have hb0 := below2 w (.cells #[.bool s1, .slice A1 n1 c1, .int .i64 e1] 26) (.cells #[.bool s2, .slice A2 n2 c2, .int .i64 e2] 26)
  have b1 := (Box3.new w (.bool s1) (.slice A1 n1 c1) (.int .i64 e1) 26).alloc (.cells #[.bool s2, .slice A2 n2 c2, .int .i64 e2] 26)
  have b2 := Box3.new1 w (.cells #[.bool s1, .slice A1 n1 c1, .int .i64 e1] 26) (.bool s2) (.slice A2 n2 c2) (.int .i64 e2) 26
  obtain ⟨W, hW⟩ : ∃ W, W = (w.alloc (.cells #[.bool s1, .slice A1 n1 c1, .int .i64 e1] 26)).alloc (.cells #[.bool s2, .slice A2 n2 c2, .int .i64 e2] 26) := ⟨_, rfl⟩
  have hvW : Rd 64 W (.slice A1 n1 c1) N n1 := by rw [hW]; exact hv.below hb0
  have huW : Rd 64 W (.slice A2 n2 c2) M n2 := by rw [hW]; exact hu.below hb0
  rw [← hW] at hb0 b1 b2
  have HBt := Lib.hid (rBoth_any s1 s2 A1 A2 N n1 c1 M n2 c2 e1 e2 W hvW huW)
  have HB := Lib.hid hb0
  have B1 := Lib.hid b1
  have B2 := Lib.hid b2
  have R1 := Lib.hid hvW
  have R2 := Lib.hid huW
  obtain ⟨p0, p1, p2, -, -⟩ := b1.cells
  obtain ⟨q0, q1, q2, -, -⟩ := b2.cells
  obtain ⟨S, hS⟩ : ∃ S, S = cmpD n1 ⟨s1, N, e1⟩ n2 ⟨s2, M, e2⟩ := ⟨_, rfl⟩
  rw [← hS]
  have hlt1 := hvW.lt
  have hlt2 := huW.lt
  clear hb0 b1 b2 hv hvW hu huW
  go_enter Tryd.func18, Tryd.ntmps18
  go_upto_region 1 with (fail)
  rw [← hW]
  clear hW
  go_wp2_with fail
  refine HBt.out.mono ?_
  rintro _ w1 ⟨rfl, hb⟩
  replace HB := Lib.hid (keep_belowB HB.out hb (by have := HB.out.size; omega))
  replace B1 := Lib.hid (B1.out.keep hb)
  replace B2 := Lib.hid (B2.out.keep hb)
  replace R1 := Lib.hid (R1.out.below hb)
  replace R2 := Lib.hid (R2.out.below hb)
  clear hb HBt p0 p1 p2 q0 q1 q2
  obtain ⟨p0, p1, p2, -, -⟩ := B1.out.cells
  obtain ⟨q0, q1, q2, -, -⟩ := B2.out.cells
  by_cases hr : twoD n1 e1 n2 e2 = 0
  · rw [hr]
    rw [cmp_ref hr] at hS
    obtain ⟨ra, rb⟩ := twoD_zero hr
    obtain ⟨r1, r2, r3⟩ := refD_zero ra
    obtain ⟨t1, t2, t3⟩ := refD_zero rb
    have hnd1 := nd32_of hlt1 r1
    have hnd2 := nd32_of hlt2 t1
    have hHS := Lib.hid hS
    have L1 := Lib.hid (show n1 ≤ 1000000 by omega)
    have L2 := Lib.hid (show n2 ≤ 1000000 by omega)
    have G1 := Lib.hid (show nd 32 N ≤ 10000 by omega)
    have G2 := Lib.hid (show nd 32 (oppD ⟨s2, M, e2⟩).n ≤ 10000 by show nd 32 M ≤ 10000; omega)
    have G3 := Lib.hid (show -100000 ≤ e1 ∧ e1 ≤ 100000 by omega)
    have G4 := Lib.hid (show -100000 ≤ (oppD ⟨s2, M, e2⟩).e ∧ (oppD ⟨s2, M, e2⟩).e ≤ 100000 by show -100000 ≤ e2 ∧ e2 ≤ 100000; omega)
    have GS := sumR_size (d := ⟨s1, N, e1⟩) (e := oppD ⟨s2, M, e2⟩) (show nd 32 N ≤ 2048 by omega) (show nd 32 M ≤ 2048 by omega) (show -40000 ≤ e1 ∧ e1 ≤ 40000 by omega) (show -40000 ≤ e2 ∧ e2 ≤ 40000 by omega)
    have GA := Lib.hid GS.1
    have GB := Lib.hid GS.2
    clear GS
    have hBW1 := HB.out
    have hv1 := R1.out
    have hu1 := R2.out
    clear hr ra rb hS hnd1 hnd2 r1 r2 r3 t1 t2 t3 hlt1 hlt2 HB B1 B2 R1 R2
    go_wp2_with fail
    go_region_held3 (fun w' => w'.cell? ⟨w.heap.size, 0, none⟩ = some (.bool s1) ∧ w'.cell? ⟨w.heap.size, 1, none⟩ = some (.slice A1 n1 c1) ∧ w'.cell? ⟨w.heap.size, 2, none⟩ = some (.int .i64 e1) ∧
        w'.cell? ⟨w.heap.size + 1, 0, none⟩ = some (.bool s2) ∧ w'.cell? ⟨w.heap.size + 1, 1, none⟩ = some (.slice A2 n2 c2) ∧ w'.cell? ⟨w.heap.size + 1, 2, none⟩ = some (.int .i64 e2) ∧ Below w.heap.size w w')
      (first | exact ⟨p0, p1, p2, q0, q1, q2, hBW1.drew⟩ | exact ⟨keep_cell hx1 p0, keep_cell hx1 p1, keep_cell hx1 p2, keep_cell hx1 q0, keep_cell hx1 q1, keep_cell hx1 q2, keep_belowB hBW1.drew hx1 (Nat.le_refl _)⟩ | ((try go_split_ands); refine ⟨keep_cell hx5 ?_, keep_cell hx5 ?_, keep_cell hx5 ?_, keep_cell hx5 ?_, keep_cell hx5 ?_, keep_cell hx5 ?_, keep_belowB ?_ hx5 (Nat.le_refl _)⟩ <;> assumption) | ((try go_split_ands); refine ⟨keep_cell hx4 ?_, keep_cell hx4 ?_, keep_cell hx4 ?_, keep_cell hx4 ?_, keep_cell hx4 ?_, keep_cell hx4 ?_, keep_belowB ?_ hx4 (Nat.le_refl _)⟩ <;> assumption) | ((try go_split_ands); refine ⟨keep_cell hx3 ?_, keep_cell hx3 ?_, keep_cell hx3 ?_, keep_cell hx3 ?_, keep_cell hx3 ?_, keep_cell hx3 ?_, keep_belowB ?_ hx3 (Nat.le_refl _)⟩ <;> assumption) | ((try go_split_ands); refine ⟨keep_cell hx2 ?_, keep_cell hx2 ?_, keep_cell hx2 ?_, keep_cell hx2 ?_, keep_cell hx2 ?_, keep_cell hx2 ?_, keep_belowB ?_ hx2 (Nat.le_refl _)⟩ <;> assumption))
      (first | (go_at_call 26; (with_reducible refine (rOf_any s1 A1 N n1 c1 e1 _ ?_ L1.out).mono ?_); exact hv1.drew; rintro e w2 ⟨v2, rfl, hV2, hx1⟩; have hu2 := (hu1.drew).below hx1; have hz2 := hx1.size) | (go_at_call 26; (with_reducible refine (rOf_any s2 A2 M n2 c2 e2 _ hu2 L2.out).mono ?_); rintro e w3 ⟨v3, rfl, hV3, hx2⟩; have hz3 := hx2.size) | (go_at_call 36; (with_reducible refine (rOpp_any v3 ⟨s2, M, e2⟩ _ hV3).mono ?_); rintro e w4 ⟨v4, rfl, hV4, hx3⟩; have hz4 := hx3.size) | (go_at_call 30; (with_reducible refine (rSum_any v2 v4 ⟨s1, N, e1⟩ (oppD ⟨s2, M, e2⟩) _ ((hV2.belowB hx2 (Nat.le_refl _)).belowB hx3 (Nat.le_refl _)) hV4 G1.out G2.out G3.out G4.out).mono ?_); rintro e w5 ⟨v5, rfl, hV5, hx4⟩; have hz5 := hx4.size) | (go_at_call 35; (with_reducible refine (rSignOf_any v5 (sumR ⟨s1, N, e1⟩ (oppD ⟨s2, M, e2⟩)) _ hV5).mono ?_); rintro e w6 ⟨rfl, hx5⟩))
    go_wp2
    refine bodyPost_ret (v := .tuple #[.int .i64 (sgnD (sumR ⟨s1, N, e1⟩ (oppD ⟨s2, M, e2⟩))), .int .i64 0]) (by simp [results, Tryd.results18, go_sem]) rfl ?_
    exact ⟨by rw [hHS.out], keep_belowB (keep_belowB (keep_belowB (keep_belowB (keep_belowB (hBW1.drew) hx1 (Nat.le_refl _)) hx2 (Nat.le_refl _)) hx3 (Nat.le_refl _)) hx4 (Nat.le_refl _)) hx5 (Nat.le_refl _)⟩
  · have hne : (twoD n1 e1 n2 e2 != 0) = true := by simpa using hr
    have hS' : S = (0, twoD n1 e1 n2 e2) := by rw [hS]; unfold cmpD; exact if_neg hr
    have HS := Lib.hid hS'
    generalize twoD n1 e1 n2 e2 = rr at *
    clear hS hr hS'
    go_wp2_with fail
    refine bodyPost_ret (v := .tuple #[.int .i64 0, .int .i64 rr]) (by simp [results, Tryd.results18, go_sem]) rfl ?_
    exact ⟨by rw [HS.out], HB.out⟩


end Go.Proofs.YtakjbmlkcbedmaaDoor
