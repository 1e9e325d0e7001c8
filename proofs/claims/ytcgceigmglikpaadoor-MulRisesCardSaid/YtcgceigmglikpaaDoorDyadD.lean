/- Walks of layer 3: sum. -/
import Derived.Test.YtcgceigmglikpaaDoorBase2
namespace Go.Proofs.YtcgceigmglikpaaDoor
set_option linter.unusedVariables false
open Go.RowKit

theorem below_drewN {B : Nat} {w0 w : World} (h : Below B w0 w) (n : Nat) : Below B w0 (w.drewN n) := ⟨h.os, h.tape, h.output, h.size, h.block⟩

theorem nd_shift_le (N s : Nat) {L : Nat} (h : nd 64 N + s ≤ L) : nd 64 (N * 2 ^ s) ≤ L := by
  refine nd_le 64 _ L (by decide) ?_
  have h1 := lt_nd 64 N (by decide)
  have h2 := Nat.mul_lt_mul_of_pos_right h1 (pow_pos2 s)
  rw [← Nat.pow_add] at h2
  exact Nat.lt_of_lt_of_le h2 (Nat.pow_le_pow_right (by decide) (by omega))

set_option maxRecDepth 100000 in
set_option maxHeartbeats 2000000 in
theorem sum_any (B : Nat) (s1 s2 : Bool) (A1 A2 : Option Addr) (c1 c2 N M : Nat) (e1 e2 : Int) (w : World) (hG : Gl w)
    (hv : Rd 64 w (.slice A1 (nd 64 N) c1) N (nd 64 N)) (hu : Rd 64 w (.slice A2 (nd 64 M) c2) M (nd 64 M)) (hf1 : Fr B w (.slice A1 (nd 64 N) c1)) (hf2 : Fr B w (.slice A2 (nd 64 M) c2)) (hBw : B ≤ w.heap.size)
    (he1 : -100000000000 ≤ e1 ∧ e1 ≤ 100000000000) (he2 : -100000000000 ≤ e2 ∧ e2 ≤ 100000000000) (hn : nd 64 N ≤ 100000000000) (hm : nd 64 M ≤ 100000000000) :
    Calls Tryd.prog 87 #[.agg #[.bool s1, .slice A1 (nd 64 N) c1, .int .i64 e1], .agg #[.bool s2, .slice A2 (nd 64 M) c2, .int .i64 e2]] w fun e' w' =>
      ∃ x, e' = .returned x ∧ DV B w' x (sumD ⟨s1, N, e1⟩ ⟨s2, M, e2⟩) ∧ Below w.heap.size w w' := by
  have hcc1 := hv.at_.2
  have hcc2 := hu.at_.2
  by_cases hN : N = 0
  · have E : Hid (sumD ⟨s1, N, e1⟩ ⟨s2, M, e2⟩ = ⟨s2, M, e2⟩) := by show _ = _; simp [sumD, hN]
    have hn0 : nd 64 N = 0 := by rw [hN, nd_zero]
    rw [hn0]
    have hV : DV B w (.agg #[.bool s2, .slice A2 (nd 64 M) c2, .int .i64 e2]) ⟨s2, M, e2⟩ := ⟨A2, c2, rfl, hcc2.1, hcc2.2.1, hu, hf2⟩
    clear hn0 hN hn hm
    go_enter Tryd.func87, Tryd.ntmps87
    go_wp2
    refine bodyPost_ret (v := .agg #[.bool s2, .slice A2 (nd 64 M) c2, .int .i64 e2]) (by simp [results, Tryd.results87, go_sem]) rfl ?_
    rw [E.out]
    exact ⟨_, rfl, hV.below (below3 ..), below3 ..⟩
  · by_cases hM : M = 0
    · have E : Hid (sumD ⟨s1, N, e1⟩ ⟨s2, M, e2⟩ = ⟨s1, N, e1⟩) := by show _ = _; simp [sumD, hN, hM]
      have hn0 : nd 64 M = 0 := by rw [hM, nd_zero]
      have hp := nd_pos 64 N hN
      have hz : (((nd 64 N : Nat) : Int) == 0) = false := by rw [beq_eq_false_iff_ne]; omega
      rw [hn0]
      have hV : DV B w (.agg #[.bool s1, .slice A1 (nd 64 N) c1, .int .i64 e1]) ⟨s1, N, e1⟩ := ⟨A1, c1, rfl, hcc1.1, hcc1.2.1, hv, hf1⟩
      clear hn0 hN hM hn hm hcc1 hcc2
      generalize nd 64 N = a at *
      go_enter Tryd.func87, Tryd.ntmps87
      go_wp2
      refine bodyPost_ret (v := .agg #[.bool s1, .slice A1 a c1, .int .i64 e1]) (by simp [results, Tryd.results87, go_sem]) rfl ?_
      rw [E.out]
      exact ⟨_, rfl, hV.below (below3 ..), below3 ..⟩
    · have hp := nd_pos 64 N hN
      have hp2 := nd_pos 64 M hM
      have hz : (((nd 64 N : Nat) : Int) == 0) = false := by rw [beq_eq_false_iff_ne]; omega
      have hz2 : (((nd 64 M : Nat) : Int) == 0) = false := by rw [beq_eq_false_iff_ne]; omega
      have hl1 : nd 64 (N * 2 ^ (e1 - min e1 e2).toNat) ≤ 10000000000000 := nd_shift_le N _ (by omega)
      have hl2 : nd 64 (M * 2 ^ (e2 - min e1 e2).toNat) ≤ 10000000000000 := nd_shift_le M _ (by omega)
      have HE : Hid (sumD ⟨s1, N, e1⟩ ⟨s2, M, e2⟩ = addXY s1 s2 (N * 2 ^ (e1 - min e1 e2).toNat) (M * 2 ^ (e2 - min e1 e2).toNat) (min e1 e2)) := sumD_nz hN hM
      have hmB : -100000000000 ≤ min e1 e2 ∧ min e1 e2 ≤ 100000000000 := by omega
      have HN := Lib.hid hN
      clear hN hM
      obtain ⟨W, hW⟩ : ∃ W, W = (((w.alloc (Obj.cells #[Value.bool s1, Value.slice A1 (nd 64 N) c1, Value.int IntKind.i64 e1] 53)).alloc (Obj.cells #[Value.bool s2, Value.slice A2 (nd 64 M) c2, Value.int IntKind.i64 e2] 53)).alloc
        (Obj.cells #[Value.bool false, Value.slice none 0 0, Value.int IntKind.i64 0] 53)) := ⟨_, rfl⟩
      have hB : Below w.heap.size w W := by rw [hW]; exact below3 ..
      have b0 : Box3 W w.heap.size (.bool s1) (.slice A1 (nd 64 N) c1) (.int .i64 e1) := by rw [hW]; exact ((Box3.new ..).alloc _).alloc _
      have b1 : Box3 W (w.heap.size + 1) (.bool s2) (.slice A2 (nd 64 M) c2) (.int .i64 e2) := by rw [hW]; exact (Box3.new1 ..).alloc _
      have b2 : Box3 W (w.heap.size + 1 + 1) (.bool false) (.slice none 0 0) (.int .i64 0) := by rw [hW]; exact Box3.new2 ..
      have hWs : W.heap.size = w.heap.size + 3 := by rw [hW]; simp
      have HWs := Lib.hid hWs
      go_enter Tryd.func87, Tryd.ntmps87
      go_wp2_with fail
      rw [← hW]
      clear hW hWs
      refine (aligned_any s1 s2 A1 A2 c1 c2 N (nd 64 N) M (nd 64 M) e1 e2 W (hv.below hB) (hu.below hB) (by omega) (by omega) (by omega) (by omega)).mono ?_
      rintro e' w1 ⟨v1, v2, rfl, h1, h2, hF1, hF2, hb1⟩
      generalize N * 2 ^ (e1 - min e1 e2).toNat = X at *
      generalize M * 2 ^ (e2 - min e1 e2).toNat = Y at *
      have hBW1 : Below w.heap.size w w1 := hB.trans (hb1.mono hB.size)
      have b0' := b0.keep hb1
      have b1' := b1.keep hb1
      have b2' := b2.keep hb1
      obtain ⟨k0, k1, k2, f0, _⟩ := b0'.cells
      obtain ⟨k3, k4, k5, f1, _⟩ := b1'.cells
      obtain ⟨k6, k7, k8, f2, _⟩ := b2'.cells
      have hG1 := hG.below hBW1
      have hF1' := hF1.mono (B' := w.heap.size) hB.size
      have hz1 : w.heap.size + 3 ≤ w1.heap.size := by have := hb1.size; have := HWs.out; omega
      clear hv hu hf1 hf2 hcc1 hcc2
      by_cases hs : s1 = s2
      · have E : Hid (sumD ⟨s1, N, e1⟩ ⟨s2, M, e2⟩ = oddD ⟨s1, X + Y, min e1 e2⟩) := by show _ = _; rw [HE.out]; unfold addXY; rw [if_pos hs]
        have hs' : (s1 == s2) = true := by simpa using hs
        clear hs HE
        have hne : w.heap.size ≠ w.heap.size + 1 + 1 := by omega
        have hle2 : w.heap.size ≤ w.heap.size + 1 + 1 := by omega
        go_wp2_with fail
        go_region_held3 (fun w' => w'.cell? ⟨w.heap.size, 0, none⟩ = some (.bool s1) ∧ Below w.heap.size w w')
          (first | exact ⟨k0, hBW1.drew⟩ | exact ⟨keep_cell hb2 k0, keep_belowB hBW1.drew hb2 (Nat.le_refl _)⟩ | ((try go_split_ands); refine ⟨keep_cell hb3 ?_, keep_belowB ?_ hb3 (Nat.le_refl _)⟩ <;> assumption) | ((try go_split_ands); refine ⟨cell_box_other hne ?_, below_box ?_ hle2 _ _ _⟩ <;> assumption))
          (first | (go_at_call 132; (with_reducible refine (Add_any v1 v2 X _ Y _ _ (h1.drew) (h2.drew) ?_ ?_).mono ?_); omega; omega; rintro e w2 ⟨v3, rfl, h3, hF3, hb2⟩; obtain ⟨A3, c3, rfl, hc3, hcm3⟩ := h3.form; have hGx := (hG1.below (Below.refl _ _).drew).below hb2; have b2x := (b2'.keep (Below.refl _ _).drew).keep hb2; have hz2x := hb2.size) | (go_at_call 84; (with_reducible refine (odd_any s1 (.slice A3 (nd 64 (X + Y)) c3) (X + Y) _ (min e1 e2) _ h3 hGx ?_).mono ?_); omega; rintro e w3 ⟨x4, rfl, hV4, hb3⟩; obtain ⟨A4, c4, rfl, hV4'⟩ := id hV4; obtain ⟨q1, q2, q3, q4, q5⟩ := (b2x.keep hb3).cells))
        go_wp2
        have hz2y : w.heap.size + 1 + 1 < w2.heap.size := by simp at hz2x; omega
        refine bodyPost_ret (v := .agg #[.bool (oddD ⟨s1, X + Y, min e1 e2⟩).s, .slice A4 (nd 64 (oddD ⟨s1, X + Y, min e1 e2⟩).n) c4, .int .i64 (oddD ⟨s1, X + Y, min e1 e2⟩).e]) (by simp [results, Tryd.results87, go_sem, q1, q2, q3]) rfl ?_
        rw [E.out]
        exact ⟨_, rfl, (hV4.setBox hz2y _ _ _).mono (by omega), below_box (keep_belowB (keep_belowB hBW1.drew hb2 (Nat.le_refl _)) hb3 (Nat.le_refl _)) hle2 _ _ _⟩
      · have hs' : (s1 == s2) = false := by simpa using hs
        have hle2 : w.heap.size ≤ w.heap.size + 1 + 1 := by omega
        by_cases hXY : X < Y
        · have E : Hid (sumD ⟨s1, N, e1⟩ ⟨s2, M, e2⟩ = oddD ⟨s2, Y - X, min e1 e2⟩) := by show _ = _; rw [HE.out]; unfold addXY; rw [if_neg hs, if_pos hXY]
          have hc := cmpN_lt hXY
          have hXY' : X ≤ Y := by omega
          clear hs HE hXY
          go_wp2_with fail
          refine (Cmp_any v1 v2 X _ Y _ w1 h1 h2).mono ?_
          rintro e' w2 ⟨rfl, d, rfl⟩
          rw [hc]
          go_wp2_with fail
          go_quiet (fail)
          go_wp2_with fail
          refine (Sub_ok v2 v1 Y _ X _ _ (h2.drewN _) (h1.drewN _) hXY').mono ?_
          rintro e' w3 ⟨v3, rfl, h3, hF3, hb3⟩
          obtain ⟨A3, c3, rfl, hc3, hcm3⟩ := h3.form
          go_wp2_with fail
          refine (odd_any s2 (.slice A3 (nd 64 (Y - X)) c3) (Y - X) _ (min e1 e2) w3 h3 ?_ (by omega)).mono ?_
          · exact Gl.below (w := World.drewN _ _) hG1 hb3
          rintro e' w4 ⟨x4, rfl, hV4, hb4⟩
          obtain ⟨A4, c4, rfl, hV4'⟩ := id hV4
          have hb3z := hb3.size
          have b2x := (Box3.keep (w := World.drewN _ _) b2' hb3).keep hb4
          obtain ⟨q1, q2, q3, q4, q5⟩ := b2x.cells
          go_wp2
          refine bodyPost_ret (v := .agg #[.bool (oddD ⟨s2, Y - X, min e1 e2⟩).s, .slice A4 (nd 64 (oddD ⟨s2, Y - X, min e1 e2⟩).n) c4, .int .i64 (oddD ⟨s2, Y - X, min e1 e2⟩).e]) (by simp [results, Tryd.results87, go_sem, q1, q2, q3]) rfl ?_
          rw [E.out]
          have hz2y : w.heap.size + 1 + 1 < w3.heap.size := by simp at hb3z; omega
          exact ⟨_, rfl, (hV4.setBox hz2y _ _ _).mono (by omega), below_box (keep_belowB (keep_belowB (below_drewN hBW1 _) hb3 (Nat.le_refl _)) hb4 (Nat.le_refl _)) hle2 _ _ _⟩
        · have E : Hid (sumD ⟨s1, N, e1⟩ ⟨s2, M, e2⟩ = oddD ⟨s1, X - Y, min e1 e2⟩) := by show _ = _; rw [HE.out]; unfold addXY; rw [if_neg hs, if_neg hXY]
          have hXY' : Y ≤ X := by omega
          have hcc : decide (cmpN X Y < 0) = false := by unfold cmpN; rw [if_neg hXY]; simp; split <;> omega
          clear hs HE hXY
          go_wp2_with fail
          refine (Cmp_any v1 v2 X _ Y _ w1 h1 h2).mono ?_
          rintro e' w2 ⟨rfl, d, rfl⟩
          generalize cmpN X Y = cc at *
          go_wp2_with fail
          refine (Sub_ok v1 v2 X _ Y _ _ (h1.drewN _) (h2.drewN _) hXY').mono ?_
          rintro e' w3 ⟨v3, rfl, h3, hF3, hb3⟩
          obtain ⟨A3, c3, rfl, hc3, hcm3⟩ := h3.form
          go_wp2_with fail
          refine (odd_any s1 (.slice A3 (nd 64 (X - Y)) c3) (X - Y) _ (min e1 e2) w3 h3 ?_ (by omega)).mono ?_
          · exact Gl.below (w := World.drewN _ _) hG1 hb3
          rintro e' w4 ⟨x4, rfl, hV4, hb4⟩
          obtain ⟨A4, c4, rfl, hV4'⟩ := id hV4
          have hb3z := hb3.size
          have b2x := (Box3.keep (w := World.drewN _ _) b2' hb3).keep hb4
          obtain ⟨q1, q2, q3, q4, q5⟩ := b2x.cells
          go_wp2
          refine bodyPost_ret (v := .agg #[.bool (oddD ⟨s1, X - Y, min e1 e2⟩).s, .slice A4 (nd 64 (oddD ⟨s1, X - Y, min e1 e2⟩).n) c4, .int .i64 (oddD ⟨s1, X - Y, min e1 e2⟩).e]) (by simp [results, Tryd.results87, go_sem, q1, q2, q3]) rfl ?_
          rw [E.out]
          have hz2y : w.heap.size + 1 + 1 < w3.heap.size := by simp at hb3z; omega
          exact ⟨_, rfl, (hV4.setBox hz2y _ _ _).mono (by omega), below_box (keep_belowB (keep_belowB (below_drewN hBW1 _) hb3 (Nat.le_refl _)) hb4 (Nat.le_refl _)) hle2 _ _ _⟩

end Go.Proofs.YtcgceigmglikpaaDoor
