/- The walk of vernierref03.Sum. Printed by gen/refsum.py. -/
import Derived.Outline
import Derived.Deep.CutBlock
import Derived.Test.YtakjbmlkcbedmaaDoorDRF
import Derived.Test.YtakjbmlkcbedmaaDoorDRS
import Derived.Test.YtakjbmlkcbedmaaDoorReady
namespace Go.Proofs.YtakjbmlkcbedmaaDoor
set_option linter.unusedVariables false
set_option linter.unusedSimpArgs false
open Go.RowKit

/-- a number under way: its struct -/
def NumV (w : World) (v : Value) (d : D) : Prop := ∃ V, v = .agg #[.bool d.s, V, .int .i64 d.e] ∧ Rd 32 w V d.n (nd 32 d.n)

theorem NumV.belowB {w w' : World} {v : Value} {d : D} {B : Nat} (h : NumV w v d) (hb : Below B w w') (hB : w.heap.size ≤ B) : NumV w' v d := by
  obtain ⟨V, e, r⟩ := h; exact ⟨V, e, r.belowB hb hB⟩

theorem nd_shift (n k a : Nat) (h : nd 32 n ≤ a) : nd 32 (n * 2 ^ k) ≤ a + k / 32 + 1 := by
  refine nd_le 32 _ _ (by decide) ?_
  have h1 := lt_nd 32 n (by decide)
  have h2 : n * 2 ^ k < 2 ^ (32 * nd 32 n) * 2 ^ k := Nat.mul_lt_mul_of_pos_right h1 (pow_pos2 k)
  rw [← Nat.pow_add] at h2
  exact Nat.lt_of_lt_of_le h2 (Nat.pow_le_pow_right (by decide) (by omega))

theorem rf_set32 {B : Nat} {w : World} {v : Value} {N n : Nat} (h : Rd 32 w v N n ∧ Fr B w v) {p : Addr} (hp : p.block < B) (u : Value) : Rd 32 (w.setCell p u) v N n ∧ Fr B (w.setCell p u) v := ⟨h.1.setCell_fr h.2 hp u, h.2.setCell hp u⟩

/-- the end of Sum: a struct in the result's box -/
def SumF (w : World) (g : Nat) (s : Bool) (N : Nat) (E : Int) (wx : World) : Prop :=
  ∃ A c, Box3 wx g (.bool s) (.slice A (nd 32 N) c) (.int .i64 E) ∧ Rd 32 wx (.slice A (nd 32 N) c) N (nd 32 N) ∧ Below w.heap.size w wx

theorem SumF.of {w W wx : World} {g : Nat} {s : Bool} {N : Nat} {E : Int} {a b c0 : Value} {A : Option Addr} {c : Nat} (hb : Box3 wx g a b c0) (hr : Rd 32 wx (.slice A (nd 32 N) c) N (nd 32 N) ∧ Fr W.heap.size wx (.slice A (nd 32 N) c)) (hg : g < W.heap.size) (hw : w.heap.size ≤ g) (hbw : Below w.heap.size w wx) :
    SumF w g s N E (((wx.setCell ⟨g, 0, none⟩ (.bool s)).setCell ⟨g, 1, none⟩ (.slice A (nd 32 N) c)).setCell ⟨g, 2, none⟩ (.int .i64 E)) :=
  ⟨A, c, hb.setAll _ _ _, (rf_set32 (rf_set32 (rf_set32 hr (p := ⟨g, 0, none⟩) hg _) (p := ⟨g, 1, none⟩) hg _) (p := ⟨g, 2, none⟩) hg _).1, below_box hbw hw _ _ _⟩

set_option maxRecDepth 100000 in
set_option maxHeartbeats 8000000 in
theorem rSum_any (x y : Value) (d e : D) (w : World) (hx : NumV w x d) (hy : NumV w y e) (hd : nd 32 d.n ≤ 10000) (he : nd 32 e.n ≤ 10000) (hde : -100000 ≤ d.e ∧ d.e ≤ 100000) (hee : -100000 ≤ e.e ∧ e.e ≤ 100000) :
    Calls Tryd.prog 30 #[x, y] w fun e' w' => ∃ v, e' = .returned v ∧ NumV w' v (sumR d e) ∧ Below w.heap.size w w' := by
  obtain ⟨V1, rfl, r1⟩ := hx
  obtain ⟨V2, rfl, r2⟩ := hy
  obtain ⟨A1, c1, rfl, -, -⟩ := r1.form
  obtain ⟨A2, c2, rfl, -, -⟩ := r2.form
  have hb0 := below3 w (.cells #[.bool d.s, .slice A1 (nd 32 d.n) c1, .int .i64 d.e] 53) (.cells #[.bool e.s, .slice A2 (nd 32 e.n) c2, .int .i64 e.e] 53) (.cells #[.bool false, .slice none 0 0, .int .i64 0] 53)
  have b1 := ((Box3.new w (.bool d.s) (.slice A1 (nd 32 d.n) c1) (.int .i64 d.e) 53).alloc (.cells #[.bool e.s, .slice A2 (nd 32 e.n) c2, .int .i64 e.e] 53)).alloc (.cells #[.bool false, .slice none 0 0, .int .i64 0] 53)
  have b2 := (Box3.new1 w (.cells #[.bool d.s, .slice A1 (nd 32 d.n) c1, .int .i64 d.e] 53) (.bool e.s) (.slice A2 (nd 32 e.n) c2) (.int .i64 e.e) 53).alloc (.cells #[.bool false, .slice none 0 0, .int .i64 0] 53)
  have b3 := Box3.new2 w (.cells #[.bool d.s, .slice A1 (nd 32 d.n) c1, .int .i64 d.e] 53) (.cells #[.bool e.s, .slice A2 (nd 32 e.n) c2, .int .i64 e.e] 53) (.bool false) (.slice none 0 0) (.int .i64 0) 53
  obtain ⟨W, hW⟩ : ∃ W, W = ((w.alloc (.cells #[.bool d.s, .slice A1 (nd 32 d.n) c1, .int .i64 d.e] 53)).alloc (.cells #[.bool e.s, .slice A2 (nd 32 e.n) c2, .int .i64 e.e] 53)).alloc (.cells #[.bool false, .slice none 0 0, .int .i64 0] 53) := ⟨_, rfl⟩
  have hWs : w.heap.size + 2 < W.heap.size := by rw [hW]; simp
  rw [← hW] at hb0 b1 b2 b3
  have HWs := Lib.hid hWs
  have HB := Lib.hid hb0
  have B1 := Lib.hid b1
  have B2 := Lib.hid b2
  have B3 := Lib.hid b3
  have R1 := Lib.hid r1
  have R2 := Lib.hid r2
  have HD := Lib.hid (And.intro hd (And.intro he (And.intro hde hee)))
  obtain ⟨S, hS⟩ : ∃ S, S = sumR d e := ⟨_, rfl⟩
  rw [← hS]
  unfold sumR at hS
  have HS := Lib.hid hS
  obtain ⟨E, hE⟩ : ∃ E, E = min d.e e.e := ⟨_, rfl⟩
  have hmn : min d.e e.e = E := hE.symm
  obtain ⟨x0, x1, x2, xf, -⟩ := b1.cells
  obtain ⟨y0, y1, y2, yf, -⟩ := b2.cells
  obtain ⟨z0, z1, z2, zf, -⟩ := b3.cells
  have HE := Lib.hid hE
  clear hb0 b1 b2 b3 r1 r2 hd he hde hee hWs hS hE
  go_enter Tryd.func30, Tryd.ntmps30
  go_upto_region 1 with (fail)
  rw [← hW]
  clear hW
  by_cases hd0 : d.n = 0
  · have hs := HS.out
    rw [if_pos hd0] at hs
    have hn0 : nd 32 d.n = 0 := by rw [hd0]; rfl
    rw [hn0] at x1
    have Hs := Lib.hid hs
    clear hs HS hd0 hn0
    go_wp2_with fail
    obtain ⟨q0, q1, q2, -, -⟩ := (B3.out.setAll (.bool e.s) (.slice A2 (nd 32 e.n) c2) (.int .i64 e.e)).cells
    refine bodyPost_ret (v := .agg #[.bool e.s, .slice A2 (nd 32 e.n) c2, .int .i64 e.e]) (by simp [results, Tryd.results30, go_sem, q0, q1, q2]) rfl ?_
    have hbf := below_box HB.out (show w.heap.size ≤ w.heap.size + 1 + 1 by omega) (.bool e.s) (.slice A2 (nd 32 e.n) c2) (.int .i64 e.e)
    rw [Hs.out]
    exact ⟨_, rfl, ⟨_, rfl, R2.out.belowB hbf (Nat.le_refl _)⟩, hbf⟩
  have hdp : nd 32 d.n ≠ 0 := by have := nd_pos 32 d.n hd0; omega
  have td : (((nd 32 d.n : Nat) : Int) == 0) = false := by rw [beq_eq_false_iff_ne]; omega
  have td' : (nd 32 d.n == 0) = false := by rw [beq_eq_false_iff_ne]; omega
  by_cases he0 : e.n = 0
  · have hs := HS.out
    rw [if_neg hd0, if_pos he0] at hs
    have hn0 : nd 32 e.n = 0 := by rw [he0]; rfl
    rw [hn0] at y1
    have Hs := Lib.hid hs
    clear hs HS he0 hn0 hd0 hdp
    go_wp2_with fail
    obtain ⟨q0, q1, q2, -, -⟩ := (B3.out.setAll (.bool d.s) (.slice A1 (nd 32 d.n) c1) (.int .i64 d.e)).cells
    refine bodyPost_ret (v := .agg #[.bool d.s, .slice A1 (nd 32 d.n) c1, .int .i64 d.e]) (by simp [results, Tryd.results30, go_sem, q0, q1, q2]) rfl ?_
    have hbf := below_box HB.out (show w.heap.size ≤ w.heap.size + 1 + 1 by omega) (.bool d.s) (.slice A1 (nd 32 d.n) c1) (.int .i64 d.e)
    rw [Hs.out]
    exact ⟨_, rfl, ⟨_, rfl, R1.out.belowB hbf (Nat.le_refl _)⟩, hbf⟩
  have hep : nd 32 e.n ≠ 0 := by have := nd_pos 32 e.n he0; omega
  have te : (((nd 32 e.n : Nat) : Int) == 0) = false := by rw [beq_eq_false_iff_ne]; omega
  have te' : (nd 32 e.n == 0) = false := by rw [beq_eq_false_iff_ne]; omega
  have hs := HS.out
  rw [if_neg hd0, if_neg he0, ← HE.out] at hs
  obtain ⟨h1, h2, h3, h4⟩ := HD.out
  have hEe := HE.out
  obtain ⟨k1, hk1⟩ : ∃ k, k = (d.e - E).toNat := ⟨_, rfl⟩
  obtain ⟨k2, hk2⟩ : ∃ k, k = (e.e - E).toNat := ⟨_, rfl⟩
  rw [← hk1, ← hk2] at hs
  have hw1 : IntKind.i64.wrap (d.e - E) = (k1 : Int) := by rw [IntKind.wrap_i64]; omega
  have hw2 : IntKind.i64.wrap (e.e - E) = (k2 : Int) := by rw [IntKind.wrap_i64]; omega
  have hkl : k1 ≤ 200000 ∧ k2 ≤ 200000 := by omega
  have n1 := nd_shift d.n k1 10000 h1
  have n2 := nd_shift e.n k2 10000 h2
  have L1 := Lib.hid (fun wx (hb : Below w.heap.size w wx) => rLeft_any (.slice A1 (nd 32 d.n) c1) d.n (nd 32 d.n) k1 wx (R1.out.belowB hb (Nat.le_refl _)) (by omega) (by omega))
  have L2 := Lib.hid (fun wx (hb : Below w.heap.size w wx) => rLeft_any (.slice A2 (nd 32 e.n) c2) e.n (nd 32 e.n) k2 wx (R2.out.belowB hb (Nat.le_refl _)) (by omega) (by omega))
  generalize d.n * 2 ^ k1 = a at *
  generalize e.n * 2 ^ k2 = b at *
  have Hn := Lib.hid (show nd 32 a ≤ 1000000 ∧ nd 32 b ≤ 1000000 by omega)
  have Hs := Lib.hid hs
  clear hs h1 h2 h3 h4 hEe hk1 hk2 hkl n1 n2 hd0 he0 hdp hep HS HD HE
  go_wp2_with fail
  refine (L1.out _ HB.out).mono ?_
  rintro _ w1 ⟨u1, rfl, ⟨s1, f1⟩, hb⟩
  obtain ⟨A3, c3, rfl, -, -⟩ := s1.form
  have hbW := Lib.hid hb
  replace HB := Lib.hid (keep_belowB HB.out hb (by have := HB.out.size; omega))
  replace B1 := Lib.hid (B1.out.keep hb)
  replace B2 := Lib.hid (B2.out.keep hb)
  replace B3 := Lib.hid (B3.out.keep hb)
  have S1 := Lib.hid s1
  have hsz := Lib.hid hb.size
  clear hb s1 f1 L1 hw1 x0 x1 x2 xf y0 y1 y2 yf z0 z1 z2 zf hmn
  obtain ⟨x0, x1, x2, xf, -⟩ := B1.out.cells
  obtain ⟨y0, y1, y2, yf, -⟩ := B2.out.cells
  go_wp2_with fail
  refine (L2.out _ HB.out).mono ?_
  rintro _ w2 ⟨u2, rfl, ⟨s2, f2⟩, hb⟩
  obtain ⟨A4, c4, rfl, -, -⟩ := s2.form
  have hsz2 := Lib.hid (show w.heap.size + 2 < w2.heap.size by have := HWs.out; have := hsz.out; have := hb.size; omega)
  replace HB := Lib.hid (keep_belowB HB.out hb (by have := HB.out.size; omega))
  replace B1 := Lib.hid (B1.out.keep hb)
  replace B2 := Lib.hid (B2.out.keep hb)
  replace B3 := Lib.hid (B3.out.keep hb)
  replace S1 := Lib.hid (S1.out.below hb)
  have S2 := Lib.hid s2
  clear hb s2 f2 L2 hw2 x0 x1 x2 xf y0 y1 y2 yf hbW hsz HWs
  obtain ⟨x0, x1, x2, xf, -⟩ := B1.out.cells
  obtain ⟨y0, y1, y2, yf, -⟩ := B2.out.cells
  obtain ⟨n1, n2⟩ := Hn.out
  go_upto_region 8 with (fail)
  by_cases hss : d.s = e.s
  · have hs := Hs.out
    rw [if_pos hss] at hs
    have Hs := Lib.hid hs
    have t1 : (d.s == e.s) = true := by rw [hss]; simp
    have HP := Lib.hid (fun wx (hb : Below w2.heap.size w2 wx) => rPlus_any (.slice A3 (nd 32 a) c3) (.slice A4 (nd 32 b) c4) a (nd 32 a) b (nd 32 b) wx (S1.out.below hb) (S2.out.below hb) n1 n2)
    clear hs hss
    go_upto_region 9 with (fail)
    refine wp_region_J0R [42, 43, 44, 45, 46, 47, 48] (fun l vs wx => ∃ l0 l1 l2 l3 l4 l5 l6 l7 v42 v43 v44 v45 v46 v47 v48, l = [l0, l1, l2, l3, l4, l5, l6, l7] ∧ vs = [v42, v43, v44, v45, v46, v47, v48] ∧ (l7 = false → Below w2.heap.size w2 wx) ∧ (l7 = true → SumF w (w.heap.size + 1 + 1) d.s (a + b) E wx) ∧ (l7 = true → l0 = true) ∧ (l7 = true → l1 = true) ∧ (l7 = true → l2 = true) ∧ (l7 = true → l3 = true) ∧ (l7 = true → l4 = true) ∧ (l7 = true → l5 = true) ∧ (l7 = true → l6 = true) ∧ (l0 = true → v42 = Value.pointer (some ⟨w.heap.size, 0, none⟩)) ∧ (l1 = true → v43 = Value.bool d.s) ∧ (l1 = true → l0 = true) ∧ (l2 = true → v44 = Value.slice A3 (nd 32 a) c3) ∧ (l3 = true → v45 = Value.slice A4 (nd 32 b) c4) ∧ (l4 = true → l7 = false → Rd 32 wx v46 (a + b) (nd 32 (a + b)) ∧ Fr w2.heap.size wx v46) ∧ (l4 = true → l2 = true) ∧ (l4 = true → l3 = true) ∧ (l5 = true → v47 = Value.int IntKind.i64 E) ∧ (l6 = true → v48 = Value.agg #[.bool d.s, v46, .int .i64 E]) ∧ (l6 = true → l1 = true) ∧ (l6 = true → l4 = true) ∧ (l6 = true → l5 = true) ∧ (l7 = true → l6 = true)) (by kernel_rfl) (by kernel_rfl) ?_ ?_ ?_ ?_
    · refine ⟨false, false, false, false, false, false, false, false, _, _, _, _, _, _, _, rfl, rfl, fun _ => (Below.refl _ _).drew, nofun, nofun, nofun, nofun, nofun, nofun, nofun, nofun, nofun, nofun, nofun, nofun, nofun, nofun, nofun, nofun, nofun, nofun, nofun, nofun, nofun, nofun⟩
    · refine ⟨?_, ?_, ?_, ?_, ?_, ?_, ?_, ?_, trivial⟩
      · rintro _ _ wx ⟨l0, l1, l2, l3, l4, l5, l6, l7, v42, v43, v44, v45, v46, v47, v48, rfl, rfl, hPre, hFin, hs0, hs1, hs2, hs3, hs4, hs5, hs6, h0, h1, hd1_0, h2, h3, h4, hd4_2, hd4_3, h5, h6, hd6_1, hd6_4, hd6_5, hd7_6⟩ hl hall K' hK
        have e0l : l0 = false := by simpa using hl
        clear hall hl
        subst e0l
        have esl : l7 = false := by cases l7 with | false => rfl | true => exact absurd (hs0 rfl) (by decide)
        subst esl
        have hB := hPre rfl
        simp only [putL, Act.put, List.setIfInBounds_toArray, List.set_cons_zero, List.set_cons_succ]
        go_simp
        have hh := hK.out [Value.pointer (some ⟨w.heap.size, 0, none⟩), v43, v44, v45, v46, v47, v48] wx ⟨true, l1, l2, l3, l4, l5, l6, false, Value.pointer (some ⟨w.heap.size, 0, none⟩), v43, v44, v45, v46, v47, v48, rfl, rfl, fun _ => hB, nofun, fun _ => rfl, nofun, nofun, nofun, nofun, nofun, nofun, fun _ => rfl, h1, fun _ => rfl, h2, h3, h4, hd4_2, hd4_3, h5, h6, hd6_1, hd6_4, hd6_5, hd7_6⟩
        simp only [putL, Act.put, List.setIfInBounds_toArray, List.set_cons_zero, List.set_cons_succ] at hh
        exact hh
      · rintro _ _ wx ⟨l0, l1, l2, l3, l4, l5, l6, l7, v42, v43, v44, v45, v46, v47, v48, rfl, rfl, hPre, hFin, hs0, hs1, hs2, hs3, hs4, hs5, hs6, h0, h1, hd1_0, h2, h3, h4, hd4_2, hd4_3, h5, h6, hd6_1, hd6_4, hd6_5, hd7_6⟩ hl hall K' hK
        have e0l : l0 = true := hall ⟨0, .data⟩ (by simp) (by rfl)
        have e1l : l1 = false := by simpa using hl
        clear hall hl
        subst e0l e1l
        have esl : l7 = false := by cases l7 with | false => rfl | true => exact absurd (hs1 rfl) (by decide)
        subst esl
        have hB := hPre rfl
        have q0 := keep_cell hB x0
        simp only [putL, Act.put, List.setIfInBounds_toArray, List.set_cons_zero, List.set_cons_succ]
        have e0 := h0 rfl
        simp only [e0]
        go_simp
        have hh := hK.out [v42, Value.bool d.s, v44, v45, v46, v47, v48] wx ⟨true, true, l2, l3, l4, l5, l6, false, v42, Value.bool d.s, v44, v45, v46, v47, v48, rfl, rfl, fun _ => hB, nofun, fun _ => rfl, fun _ => rfl, nofun, nofun, nofun, nofun, nofun, h0, fun _ => rfl, fun _ => rfl, h2, h3, h4, hd4_2, hd4_3, h5, h6, fun _ => rfl, hd6_4, hd6_5, hd7_6⟩
        simp only [putL, Act.put, List.setIfInBounds_toArray, List.set_cons_zero, List.set_cons_succ] at hh
        simp only [e0] at hh
        exact hh
      · rintro _ _ wx ⟨l0, l1, l2, l3, l4, l5, l6, l7, v42, v43, v44, v45, v46, v47, v48, rfl, rfl, hPre, hFin, hs0, hs1, hs2, hs3, hs4, hs5, hs6, h0, h1, hd1_0, h2, h3, h4, hd4_2, hd4_3, h5, h6, hd6_1, hd6_4, hd6_5, hd7_6⟩ hl hall K' hK
        have e2l : l2 = false := by simpa using hl
        clear hall hl
        subst e2l
        have esl : l7 = false := by cases l7 with | false => rfl | true => exact absurd (hs2 rfl) (by decide)
        subst esl
        have hB := hPre rfl
        simp only [putL, Act.put, List.setIfInBounds_toArray, List.set_cons_zero, List.set_cons_succ]
        go_simp
        have hh := hK.out [v42, v43, Value.slice A3 (nd 32 a) c3, v45, v46, v47, v48] wx ⟨l0, l1, true, l3, l4, l5, l6, false, v42, v43, Value.slice A3 (nd 32 a) c3, v45, v46, v47, v48, rfl, rfl, fun _ => hB, nofun, nofun, nofun, fun _ => rfl, nofun, nofun, nofun, nofun, h0, h1, hd1_0, fun _ => rfl, h3, h4, fun _ => rfl, hd4_3, h5, h6, hd6_1, hd6_4, hd6_5, hd7_6⟩
        simp only [putL, Act.put, List.setIfInBounds_toArray, List.set_cons_zero, List.set_cons_succ] at hh
        exact hh
      · rintro _ _ wx ⟨l0, l1, l2, l3, l4, l5, l6, l7, v42, v43, v44, v45, v46, v47, v48, rfl, rfl, hPre, hFin, hs0, hs1, hs2, hs3, hs4, hs5, hs6, h0, h1, hd1_0, h2, h3, h4, hd4_2, hd4_3, h5, h6, hd6_1, hd6_4, hd6_5, hd7_6⟩ hl hall K' hK
        have e3l : l3 = false := by simpa using hl
        clear hall hl
        subst e3l
        have esl : l7 = false := by cases l7 with | false => rfl | true => exact absurd (hs3 rfl) (by decide)
        subst esl
        have hB := hPre rfl
        simp only [putL, Act.put, List.setIfInBounds_toArray, List.set_cons_zero, List.set_cons_succ]
        go_simp
        have hh := hK.out [v42, v43, v44, Value.slice A4 (nd 32 b) c4, v46, v47, v48] wx ⟨l0, l1, l2, true, l4, l5, l6, false, v42, v43, v44, Value.slice A4 (nd 32 b) c4, v46, v47, v48, rfl, rfl, fun _ => hB, nofun, nofun, nofun, nofun, fun _ => rfl, nofun, nofun, nofun, h0, h1, hd1_0, h2, fun _ => rfl, h4, hd4_2, fun _ => rfl, h5, h6, hd6_1, hd6_4, hd6_5, hd7_6⟩
        simp only [putL, Act.put, List.setIfInBounds_toArray, List.set_cons_zero, List.set_cons_succ] at hh
        exact hh
      · rintro _ _ wx ⟨l0, l1, l2, l3, l4, l5, l6, l7, v42, v43, v44, v45, v46, v47, v48, rfl, rfl, hPre, hFin, hs0, hs1, hs2, hs3, hs4, hs5, hs6, h0, h1, hd1_0, h2, h3, h4, hd4_2, hd4_3, h5, h6, hd6_1, hd6_4, hd6_5, hd7_6⟩ hl hall K' hK
        have e2l : l2 = true := hall ⟨2, .data⟩ (by simp) (by rfl)
        have e3l : l3 = true := hall ⟨3, .data⟩ (by simp) (by rfl)
        have e4l : l4 = false := by simpa using hl
        clear hall hl
        subst e2l e3l e4l
        have esl : l7 = false := by cases l7 with | false => rfl | true => exact absurd (hs4 rfl) (by decide)
        subst esl
        have hB := hPre rfl
        have eag6 : l6 = false := by cases l6 with | false => rfl | true => exact absurd (hd6_4 rfl) (by decide)
        subst eag6
        simp only [putL, Act.put, List.setIfInBounds_toArray, List.set_cons_zero, List.set_cons_succ]
        have e2 := h2 rfl
        have e3 := h3 rfl
        simp only [e2, e3]
        go_simp
        refine (HP.out wx hB).mono ?_
        rintro e w2 ⟨x2, rfl, hV2, hx1⟩
        go_simp
        have hh := hK.out [v42, v43, v44, v45, x2, v47, v48] w2 ⟨l0, l1, true, true, true, l5, false, false, v42, v43, v44, v45, x2, v47, v48, rfl, rfl, fun _ => keep_below hB hx1, nofun, nofun, nofun, fun _ => rfl, fun _ => rfl, fun _ => rfl, nofun, nofun, h0, h1, hd1_0, h2, h3, fun _ _ => ⟨hV2.1, hV2.2.mono hB.size⟩, fun _ => rfl, fun _ => rfl, h5, nofun, hd6_1, fun _ => rfl, hd6_5, hd7_6⟩
        simp only [putL, Act.put, List.setIfInBounds_toArray, List.set_cons_zero, List.set_cons_succ] at hh
        simp only [e2, e3] at hh
        exact hh
      · rintro _ _ wx ⟨l0, l1, l2, l3, l4, l5, l6, l7, v42, v43, v44, v45, v46, v47, v48, rfl, rfl, hPre, hFin, hs0, hs1, hs2, hs3, hs4, hs5, hs6, h0, h1, hd1_0, h2, h3, h4, hd4_2, hd4_3, h5, h6, hd6_1, hd6_4, hd6_5, hd7_6⟩ hl hall K' hK
        have e5l : l5 = false := by simpa using hl
        clear hall hl
        subst e5l
        have esl : l7 = false := by cases l7 with | false => rfl | true => exact absurd (hs5 rfl) (by decide)
        subst esl
        have hB := hPre rfl
        simp only [putL, Act.put, List.setIfInBounds_toArray, List.set_cons_zero, List.set_cons_succ]
        go_simp
        have hh := hK.out [v42, v43, v44, v45, v46, Value.int IntKind.i64 E, v48] wx ⟨l0, l1, l2, l3, l4, true, l6, false, v42, v43, v44, v45, v46, Value.int IntKind.i64 E, v48, rfl, rfl, fun _ => hB, nofun, nofun, nofun, nofun, nofun, nofun, fun _ => rfl, nofun, h0, h1, hd1_0, h2, h3, h4, hd4_2, hd4_3, fun _ => rfl, h6, hd6_1, hd6_4, fun _ => rfl, hd7_6⟩
        simp only [putL, Act.put, List.setIfInBounds_toArray, List.set_cons_zero, List.set_cons_succ] at hh
        exact hh
      · rintro _ _ wx ⟨l0, l1, l2, l3, l4, l5, l6, l7, v42, v43, v44, v45, v46, v47, v48, rfl, rfl, hPre, hFin, hs0, hs1, hs2, hs3, hs4, hs5, hs6, h0, h1, hd1_0, h2, h3, h4, hd4_2, hd4_3, h5, h6, hd6_1, hd6_4, hd6_5, hd7_6⟩ hl hall K' hK
        have e1l : l1 = true := hall ⟨1, .data⟩ (by simp) (by rfl)
        have e4l : l4 = true := hall ⟨4, .data⟩ (by simp) (by rfl)
        have e5l : l5 = true := hall ⟨5, .data⟩ (by simp) (by rfl)
        have e6l : l6 = false := by simpa using hl
        clear hall hl
        subst e1l e4l e5l e6l
        have esl : l7 = false := by cases l7 with | false => rfl | true => exact absurd (hs6 rfl) (by decide)
        subst esl
        have hB := hPre rfl
        have ed0 := hd1_0 rfl
        subst ed0
        have ed2 := hd4_2 rfl
        subst ed2
        have ed3 := hd4_3 rfl
        subst ed3
        simp only [putL, Act.put, List.setIfInBounds_toArray, List.set_cons_zero, List.set_cons_succ]
        have e1 := h1 rfl
        have e5 := h5 rfl
        have e0 := h0 rfl
        have e2 := h2 rfl
        have e3 := h3 rfl
        have hR4 := h4 rfl rfl
        obtain ⟨Ac, cc, ec, -⟩ := hR4.1.form
        simp only [e1, e5, e0, e2, e3, ec]
        go_simp
        have hh := hK.out [v42, v43, v44, v45, v46, v47, Value.agg #[.bool d.s, v46, .int .i64 E]] wx ⟨true, true, true, true, true, true, true, false, v42, v43, v44, v45, v46, v47, Value.agg #[.bool d.s, v46, .int .i64 E], rfl, rfl, fun _ => hB, nofun, fun _ => rfl, fun _ => rfl, fun _ => rfl, fun _ => rfl, fun _ => rfl, fun _ => rfl, fun _ => rfl, h0, h1, fun _ => rfl, h2, h3, h4, fun _ => rfl, fun _ => rfl, h5, fun _ => rfl, fun _ => rfl, fun _ => rfl, fun _ => rfl, fun _ => rfl⟩
        simp only [putL, Act.put, List.setIfInBounds_toArray, List.set_cons_zero, List.set_cons_succ] at hh
        simp only [e1, e5, e0, e2, e3, ec] at hh
        exact hh
      · rintro _ _ wx ⟨l0, l1, l2, l3, l4, l5, l6, l7, v42, v43, v44, v45, v46, v47, v48, rfl, rfl, hPre, hFin, hs0, hs1, hs2, hs3, hs4, hs5, hs6, h0, h1, hd1_0, h2, h3, h4, hd4_2, hd4_3, h5, h6, hd6_1, hd6_4, hd6_5, hd7_6⟩ hl hall K' hK
        have e6l : l6 = true := hall ⟨6, .data⟩ (by simp) (by rfl)
        have e7l : l7 = false := by simpa using hl
        clear hall hl
        subst e6l e7l
        have hB := hPre rfl
        have ed1 := hd6_1 rfl
        subst ed1
        have ed4 := hd6_4 rfl
        subst ed4
        have ed5 := hd6_5 rfl
        subst ed5
        have ed0 := hd1_0 rfl
        subst ed0
        have ed2 := hd4_2 rfl
        subst ed2
        have ed3 := hd4_3 rfl
        subst ed3
        simp only [putL, Act.put, List.setIfInBounds_toArray, List.set_cons_zero, List.set_cons_succ]
        have e6 := h6 rfl
        have e1 := h1 rfl
        have e5 := h5 rfl
        have e0 := h0 rfl
        have e2 := h2 rfl
        have e3 := h3 rfl
        have hR4 := h4 rfl rfl
        obtain ⟨Ac, cc, ec, -⟩ := hR4.1.form
        rw [ec] at hR4
        have b3' := B3.out.keep hB
        obtain ⟨z0, z1, z2, zf, -⟩ := b3'.cells
        simp only [e6, e1, e5, e0, e2, e3, ec]
        go_simp
        have hh := hK.out [v42, v43, v44, v45, v46, v47, v48] (((wx.setCell ⟨w.heap.size + 1 + 1, 0, none⟩ (.bool d.s)).setCell ⟨w.heap.size + 1 + 1, 1, none⟩ (.slice Ac (nd 32 (a + b)) cc)).setCell ⟨w.heap.size + 1 + 1, 2, none⟩ (.int .i64 E)) ⟨true, true, true, true, true, true, true, true, v42, v43, v44, v45, v46, v47, v48, rfl, rfl, nofun, fun _ => SumF.of (W := w2) b3' hR4 (by have := hsz2.out; omega) (by omega) (keep_belowB HB.out hB (by have := HB.out.size; omega)), fun _ => rfl, fun _ => rfl, fun _ => rfl, fun _ => rfl, fun _ => rfl, fun _ => rfl, fun _ => rfl, h0, h1, fun _ => rfl, h2, h3, fun _ h => absurd h (by decide), fun _ => rfl, fun _ => rfl, h5, h6, fun _ => rfl, fun _ => rfl, fun _ => rfl, fun _ => rfl⟩
        simp only [putL, Act.put, List.setIfInBounds_toArray, List.set_cons_zero, List.set_cons_succ] at hh
        simp only [e6, e1, e5, e0, e2, e3, ec] at hh
        exact hh
    · rintro vs wx ⟨l0, l1, l2, l3, l4, l5, l6, l7, v42, v43, v44, v45, v46, v47, v48, hl, rfl, hPre, hFin, hs0, hs1, hs2, hs3, hs4, hs5, hs6, h0, h1, hd1_0, h2, h3, h4, hd4_2, hd4_3, h5, h6, hd6_1, hd6_4, hd6_5, hd7_6⟩
      obtain ⟨rfl, rfl, rfl, rfl, rfl, rfl, rfl, rfl⟩ : true = l0 ∧ true = l1 ∧ true = l2 ∧ true = l3 ∧ true = l4 ∧ true = l5 ∧ true = l6 ∧ true = l7 := by simpa using hl
      simp only [putL, Act.put, List.setIfInBounds_toArray, List.set_cons_zero, List.set_cons_succ]
      have hF := Lib.hid (hFin rfl)
      clear hPre hFin hs0 hs1 hs2 hs3 hs4 hs5 hs6 h0 h1 hd1_0 h2 h3 h4 hd4_2 hd4_3 h5 h6 hd6_1 hd6_4 hd6_5 hd7_6
      obtain ⟨Ax, cx, hbx, hrx, hBx⟩ := hF.out
      obtain ⟨q0, q1, q2, -, -⟩ := hbx.cells
      clear hF
      go_wp2_with fail
      refine bodyPost_ret (v := .agg #[.bool d.s, .slice Ax (nd 32 (a + b)) cx, .int .i64 E]) (by simp [results, Tryd.results30, go_sem, q0, q1, q2]) rfl ?_
      rw [Hs.out]
      exact ⟨_, rfl, ⟨_, rfl, hrx⟩, hBx⟩
    · rintro _ vs wx ⟨l0, l1, l2, l3, l4, l5, l6, l7, v42, v43, v44, v45, v46, v47, v48, rfl, _⟩
      rfl

  have t1 : (d.s == e.s) = false := by rw [beq_eq_false_iff_ne]; exact hss
  have hs := Hs.out
  rw [if_neg hss] at hs
  have HC := Lib.hid (rCmp_any (.slice A3 (nd 32 a) c3) (.slice A4 (nd 32 b) c4) a b w2 S1.out S2.out)
  have Hs := Lib.hid hs
  clear hs hss
  by_cases hle : b ≤ a
  · have hs := Hs.out
    rw [if_pos hle] at hs
    have Hs := Lib.hid hs
    have hc : 0 ≤ cmpN a b := by unfold cmpN; split <;> (try split) <;> omega
    have hcm := HC.out
    have HP := Lib.hid (fun wx (hb : Below w2.heap.size w2 wx) => rMinus_any (.slice A3 (nd 32 a) c3) (.slice A4 (nd 32 b) c4) a (nd 32 a) b (nd 32 b) wx (S1.out.below hb) (S2.out.below hb) hle)
    generalize cmpN a b = cm at *
    have HC' := Lib.hid hcm
    clear hs hle hcm HC
    go_wp2_with fail
    refine HC'.out.mono ?_
    rintro _ _ ⟨rfl, dn, rfl⟩
    have B3' := Lib.hid (show Box3 (w2.drewN dn) (w.heap.size + 1 + 1) _ _ _ from B3.out)
    have HB' := Lib.hid (below_drewN HB.out dn)
    have hsz2' := Lib.hid (show w.heap.size + 2 < (w2.drewN dn).heap.size from hsz2.out)
    have HP' := Lib.hid (fun wx (hb : Below (w2.drewN dn).heap.size (w2.drewN dn) wx) => HP.out wx ⟨hb.os, hb.tape, hb.output, hb.size, hb.block⟩)
    have x0' : (w2.drewN dn).cell? ⟨w.heap.size, 0, none⟩ = some (.bool d.s) := x0
    clear HC' x0 x1 x2 xf y0 y1 y2 yf B3 HB hsz2 HP B1 B2 S1 S2
    generalize w2.drewN dn = w3 at *
    go_upto_region 11 with (fail)
    refine wp_region_J0R [53, 54, 55, 56, 57, 58, 59] (fun l vs wx => ∃ l0 l1 l2 l3 l4 l5 l6 l7 v53 v54 v55 v56 v57 v58 v59, l = [l0, l1, l2, l3, l4, l5, l6, l7] ∧ vs = [v53, v54, v55, v56, v57, v58, v59] ∧ (l7 = false → Below w3.heap.size w3 wx) ∧ (l7 = true → SumF w (w.heap.size + 1 + 1) d.s (a - b) E wx) ∧ (l7 = true → l0 = true) ∧ (l7 = true → l1 = true) ∧ (l7 = true → l2 = true) ∧ (l7 = true → l3 = true) ∧ (l7 = true → l4 = true) ∧ (l7 = true → l5 = true) ∧ (l7 = true → l6 = true) ∧ (l0 = true → v53 = Value.pointer (some ⟨w.heap.size, 0, none⟩)) ∧ (l1 = true → v54 = Value.bool d.s) ∧ (l1 = true → l0 = true) ∧ (l2 = true → v55 = Value.slice A3 (nd 32 a) c3) ∧ (l3 = true → v56 = Value.slice A4 (nd 32 b) c4) ∧ (l4 = true → l7 = false → Rd 32 wx v57 (a - b) (nd 32 (a - b)) ∧ Fr w3.heap.size wx v57) ∧ (l4 = true → l2 = true) ∧ (l4 = true → l3 = true) ∧ (l5 = true → v58 = Value.int IntKind.i64 E) ∧ (l6 = true → v59 = Value.agg #[.bool d.s, v57, .int .i64 E]) ∧ (l6 = true → l1 = true) ∧ (l6 = true → l4 = true) ∧ (l6 = true → l5 = true) ∧ (l7 = true → l6 = true)) (by kernel_rfl) (by kernel_rfl) ?_ ?_ ?_ ?_
    · refine ⟨false, false, false, false, false, false, false, false, _, _, _, _, _, _, _, rfl, rfl, fun _ => (Below.refl _ _).drew, nofun, nofun, nofun, nofun, nofun, nofun, nofun, nofun, nofun, nofun, nofun, nofun, nofun, nofun, nofun, nofun, nofun, nofun, nofun, nofun, nofun, nofun⟩
    · refine ⟨?_, ?_, ?_, ?_, ?_, ?_, ?_, ?_, trivial⟩
      · rintro _ _ wx ⟨l0, l1, l2, l3, l4, l5, l6, l7, v53, v54, v55, v56, v57, v58, v59, rfl, rfl, hPre, hFin, hs0, hs1, hs2, hs3, hs4, hs5, hs6, h0, h1, hd1_0, h2, h3, h4, hd4_2, hd4_3, h5, h6, hd6_1, hd6_4, hd6_5, hd7_6⟩ hl hall K' hK
        have e0l : l0 = false := by simpa using hl
        clear hall hl
        subst e0l
        have esl : l7 = false := by cases l7 with | false => rfl | true => exact absurd (hs0 rfl) (by decide)
        subst esl
        have hB := hPre rfl
        simp only [putL, Act.put, List.setIfInBounds_toArray, List.set_cons_zero, List.set_cons_succ]
        go_simp
        have hh := hK.out [Value.pointer (some ⟨w.heap.size, 0, none⟩), v54, v55, v56, v57, v58, v59] wx ⟨true, l1, l2, l3, l4, l5, l6, false, Value.pointer (some ⟨w.heap.size, 0, none⟩), v54, v55, v56, v57, v58, v59, rfl, rfl, fun _ => hB, nofun, fun _ => rfl, nofun, nofun, nofun, nofun, nofun, nofun, fun _ => rfl, h1, fun _ => rfl, h2, h3, h4, hd4_2, hd4_3, h5, h6, hd6_1, hd6_4, hd6_5, hd7_6⟩
        simp only [putL, Act.put, List.setIfInBounds_toArray, List.set_cons_zero, List.set_cons_succ] at hh
        exact hh
      · rintro _ _ wx ⟨l0, l1, l2, l3, l4, l5, l6, l7, v53, v54, v55, v56, v57, v58, v59, rfl, rfl, hPre, hFin, hs0, hs1, hs2, hs3, hs4, hs5, hs6, h0, h1, hd1_0, h2, h3, h4, hd4_2, hd4_3, h5, h6, hd6_1, hd6_4, hd6_5, hd7_6⟩ hl hall K' hK
        have e0l : l0 = true := hall ⟨0, .data⟩ (by simp) (by rfl)
        have e1l : l1 = false := by simpa using hl
        clear hall hl
        subst e0l e1l
        have esl : l7 = false := by cases l7 with | false => rfl | true => exact absurd (hs1 rfl) (by decide)
        subst esl
        have hB := hPre rfl
        have q0 := keep_cell hB x0'
        simp only [putL, Act.put, List.setIfInBounds_toArray, List.set_cons_zero, List.set_cons_succ]
        have e0 := h0 rfl
        simp only [e0]
        go_simp
        have hh := hK.out [v53, Value.bool d.s, v55, v56, v57, v58, v59] wx ⟨true, true, l2, l3, l4, l5, l6, false, v53, Value.bool d.s, v55, v56, v57, v58, v59, rfl, rfl, fun _ => hB, nofun, fun _ => rfl, fun _ => rfl, nofun, nofun, nofun, nofun, nofun, h0, fun _ => rfl, fun _ => rfl, h2, h3, h4, hd4_2, hd4_3, h5, h6, fun _ => rfl, hd6_4, hd6_5, hd7_6⟩
        simp only [putL, Act.put, List.setIfInBounds_toArray, List.set_cons_zero, List.set_cons_succ] at hh
        simp only [e0] at hh
        exact hh
      · rintro _ _ wx ⟨l0, l1, l2, l3, l4, l5, l6, l7, v53, v54, v55, v56, v57, v58, v59, rfl, rfl, hPre, hFin, hs0, hs1, hs2, hs3, hs4, hs5, hs6, h0, h1, hd1_0, h2, h3, h4, hd4_2, hd4_3, h5, h6, hd6_1, hd6_4, hd6_5, hd7_6⟩ hl hall K' hK
        have e2l : l2 = false := by simpa using hl
        clear hall hl
        subst e2l
        have esl : l7 = false := by cases l7 with | false => rfl | true => exact absurd (hs2 rfl) (by decide)
        subst esl
        have hB := hPre rfl
        simp only [putL, Act.put, List.setIfInBounds_toArray, List.set_cons_zero, List.set_cons_succ]
        go_simp
        have hh := hK.out [v53, v54, Value.slice A3 (nd 32 a) c3, v56, v57, v58, v59] wx ⟨l0, l1, true, l3, l4, l5, l6, false, v53, v54, Value.slice A3 (nd 32 a) c3, v56, v57, v58, v59, rfl, rfl, fun _ => hB, nofun, nofun, nofun, fun _ => rfl, nofun, nofun, nofun, nofun, h0, h1, hd1_0, fun _ => rfl, h3, h4, fun _ => rfl, hd4_3, h5, h6, hd6_1, hd6_4, hd6_5, hd7_6⟩
        simp only [putL, Act.put, List.setIfInBounds_toArray, List.set_cons_zero, List.set_cons_succ] at hh
        exact hh
      · rintro _ _ wx ⟨l0, l1, l2, l3, l4, l5, l6, l7, v53, v54, v55, v56, v57, v58, v59, rfl, rfl, hPre, hFin, hs0, hs1, hs2, hs3, hs4, hs5, hs6, h0, h1, hd1_0, h2, h3, h4, hd4_2, hd4_3, h5, h6, hd6_1, hd6_4, hd6_5, hd7_6⟩ hl hall K' hK
        have e3l : l3 = false := by simpa using hl
        clear hall hl
        subst e3l
        have esl : l7 = false := by cases l7 with | false => rfl | true => exact absurd (hs3 rfl) (by decide)
        subst esl
        have hB := hPre rfl
        simp only [putL, Act.put, List.setIfInBounds_toArray, List.set_cons_zero, List.set_cons_succ]
        go_simp
        have hh := hK.out [v53, v54, v55, Value.slice A4 (nd 32 b) c4, v57, v58, v59] wx ⟨l0, l1, l2, true, l4, l5, l6, false, v53, v54, v55, Value.slice A4 (nd 32 b) c4, v57, v58, v59, rfl, rfl, fun _ => hB, nofun, nofun, nofun, nofun, fun _ => rfl, nofun, nofun, nofun, h0, h1, hd1_0, h2, fun _ => rfl, h4, hd4_2, fun _ => rfl, h5, h6, hd6_1, hd6_4, hd6_5, hd7_6⟩
        simp only [putL, Act.put, List.setIfInBounds_toArray, List.set_cons_zero, List.set_cons_succ] at hh
        exact hh
      · rintro _ _ wx ⟨l0, l1, l2, l3, l4, l5, l6, l7, v53, v54, v55, v56, v57, v58, v59, rfl, rfl, hPre, hFin, hs0, hs1, hs2, hs3, hs4, hs5, hs6, h0, h1, hd1_0, h2, h3, h4, hd4_2, hd4_3, h5, h6, hd6_1, hd6_4, hd6_5, hd7_6⟩ hl hall K' hK
        have e2l : l2 = true := hall ⟨2, .data⟩ (by simp) (by rfl)
        have e3l : l3 = true := hall ⟨3, .data⟩ (by simp) (by rfl)
        have e4l : l4 = false := by simpa using hl
        clear hall hl
        subst e2l e3l e4l
        have esl : l7 = false := by cases l7 with | false => rfl | true => exact absurd (hs4 rfl) (by decide)
        subst esl
        have hB := hPre rfl
        have eag6 : l6 = false := by cases l6 with | false => rfl | true => exact absurd (hd6_4 rfl) (by decide)
        subst eag6
        simp only [putL, Act.put, List.setIfInBounds_toArray, List.set_cons_zero, List.set_cons_succ]
        have e2 := h2 rfl
        have e3 := h3 rfl
        simp only [e2, e3]
        go_simp
        refine (HP'.out wx hB).mono ?_
        rintro e w2 ⟨x2, rfl, hV2, hx1⟩
        go_simp
        have hh := hK.out [v53, v54, v55, v56, x2, v58, v59] w2 ⟨l0, l1, true, true, true, l5, false, false, v53, v54, v55, v56, x2, v58, v59, rfl, rfl, fun _ => keep_below hB hx1, nofun, nofun, nofun, fun _ => rfl, fun _ => rfl, fun _ => rfl, nofun, nofun, h0, h1, hd1_0, h2, h3, fun _ _ => ⟨hV2.1, hV2.2.mono hB.size⟩, fun _ => rfl, fun _ => rfl, h5, nofun, hd6_1, fun _ => rfl, hd6_5, hd7_6⟩
        simp only [putL, Act.put, List.setIfInBounds_toArray, List.set_cons_zero, List.set_cons_succ] at hh
        simp only [e2, e3] at hh
        exact hh
      · rintro _ _ wx ⟨l0, l1, l2, l3, l4, l5, l6, l7, v53, v54, v55, v56, v57, v58, v59, rfl, rfl, hPre, hFin, hs0, hs1, hs2, hs3, hs4, hs5, hs6, h0, h1, hd1_0, h2, h3, h4, hd4_2, hd4_3, h5, h6, hd6_1, hd6_4, hd6_5, hd7_6⟩ hl hall K' hK
        have e5l : l5 = false := by simpa using hl
        clear hall hl
        subst e5l
        have esl : l7 = false := by cases l7 with | false => rfl | true => exact absurd (hs5 rfl) (by decide)
        subst esl
        have hB := hPre rfl
        simp only [putL, Act.put, List.setIfInBounds_toArray, List.set_cons_zero, List.set_cons_succ]
        go_simp
        have hh := hK.out [v53, v54, v55, v56, v57, Value.int IntKind.i64 E, v59] wx ⟨l0, l1, l2, l3, l4, true, l6, false, v53, v54, v55, v56, v57, Value.int IntKind.i64 E, v59, rfl, rfl, fun _ => hB, nofun, nofun, nofun, nofun, nofun, nofun, fun _ => rfl, nofun, h0, h1, hd1_0, h2, h3, h4, hd4_2, hd4_3, fun _ => rfl, h6, hd6_1, hd6_4, fun _ => rfl, hd7_6⟩
        simp only [putL, Act.put, List.setIfInBounds_toArray, List.set_cons_zero, List.set_cons_succ] at hh
        exact hh
      · rintro _ _ wx ⟨l0, l1, l2, l3, l4, l5, l6, l7, v53, v54, v55, v56, v57, v58, v59, rfl, rfl, hPre, hFin, hs0, hs1, hs2, hs3, hs4, hs5, hs6, h0, h1, hd1_0, h2, h3, h4, hd4_2, hd4_3, h5, h6, hd6_1, hd6_4, hd6_5, hd7_6⟩ hl hall K' hK
        have e1l : l1 = true := hall ⟨1, .data⟩ (by simp) (by rfl)
        have e4l : l4 = true := hall ⟨4, .data⟩ (by simp) (by rfl)
        have e5l : l5 = true := hall ⟨5, .data⟩ (by simp) (by rfl)
        have e6l : l6 = false := by simpa using hl
        clear hall hl
        subst e1l e4l e5l e6l
        have esl : l7 = false := by cases l7 with | false => rfl | true => exact absurd (hs6 rfl) (by decide)
        subst esl
        have hB := hPre rfl
        have ed0 := hd1_0 rfl
        subst ed0
        have ed2 := hd4_2 rfl
        subst ed2
        have ed3 := hd4_3 rfl
        subst ed3
        simp only [putL, Act.put, List.setIfInBounds_toArray, List.set_cons_zero, List.set_cons_succ]
        have e1 := h1 rfl
        have e5 := h5 rfl
        have e0 := h0 rfl
        have e2 := h2 rfl
        have e3 := h3 rfl
        have hR4 := h4 rfl rfl
        obtain ⟨Ac, cc, ec, -⟩ := hR4.1.form
        simp only [e1, e5, e0, e2, e3, ec]
        go_simp
        have hh := hK.out [v53, v54, v55, v56, v57, v58, Value.agg #[.bool d.s, v57, .int .i64 E]] wx ⟨true, true, true, true, true, true, true, false, v53, v54, v55, v56, v57, v58, Value.agg #[.bool d.s, v57, .int .i64 E], rfl, rfl, fun _ => hB, nofun, fun _ => rfl, fun _ => rfl, fun _ => rfl, fun _ => rfl, fun _ => rfl, fun _ => rfl, fun _ => rfl, h0, h1, fun _ => rfl, h2, h3, h4, fun _ => rfl, fun _ => rfl, h5, fun _ => rfl, fun _ => rfl, fun _ => rfl, fun _ => rfl, fun _ => rfl⟩
        simp only [putL, Act.put, List.setIfInBounds_toArray, List.set_cons_zero, List.set_cons_succ] at hh
        simp only [e1, e5, e0, e2, e3, ec] at hh
        exact hh
      · rintro _ _ wx ⟨l0, l1, l2, l3, l4, l5, l6, l7, v53, v54, v55, v56, v57, v58, v59, rfl, rfl, hPre, hFin, hs0, hs1, hs2, hs3, hs4, hs5, hs6, h0, h1, hd1_0, h2, h3, h4, hd4_2, hd4_3, h5, h6, hd6_1, hd6_4, hd6_5, hd7_6⟩ hl hall K' hK
        have e6l : l6 = true := hall ⟨6, .data⟩ (by simp) (by rfl)
        have e7l : l7 = false := by simpa using hl
        clear hall hl
        subst e6l e7l
        have hB := hPre rfl
        have ed1 := hd6_1 rfl
        subst ed1
        have ed4 := hd6_4 rfl
        subst ed4
        have ed5 := hd6_5 rfl
        subst ed5
        have ed0 := hd1_0 rfl
        subst ed0
        have ed2 := hd4_2 rfl
        subst ed2
        have ed3 := hd4_3 rfl
        subst ed3
        simp only [putL, Act.put, List.setIfInBounds_toArray, List.set_cons_zero, List.set_cons_succ]
        have e6 := h6 rfl
        have e1 := h1 rfl
        have e5 := h5 rfl
        have e0 := h0 rfl
        have e2 := h2 rfl
        have e3 := h3 rfl
        have hR4 := h4 rfl rfl
        obtain ⟨Ac, cc, ec, -⟩ := hR4.1.form
        rw [ec] at hR4
        have b3' := B3'.out.keep hB
        obtain ⟨z0, z1, z2, zf, -⟩ := b3'.cells
        simp only [e6, e1, e5, e0, e2, e3, ec]
        go_simp
        have hh := hK.out [v53, v54, v55, v56, v57, v58, v59] (((wx.setCell ⟨w.heap.size + 1 + 1, 0, none⟩ (.bool d.s)).setCell ⟨w.heap.size + 1 + 1, 1, none⟩ (.slice Ac (nd 32 (a - b)) cc)).setCell ⟨w.heap.size + 1 + 1, 2, none⟩ (.int .i64 E)) ⟨true, true, true, true, true, true, true, true, v53, v54, v55, v56, v57, v58, v59, rfl, rfl, nofun, fun _ => SumF.of (W := w3) b3' hR4 (by have := hsz2'.out; omega) (by omega) (keep_belowB HB'.out hB (by have := HB'.out.size; omega)), fun _ => rfl, fun _ => rfl, fun _ => rfl, fun _ => rfl, fun _ => rfl, fun _ => rfl, fun _ => rfl, h0, h1, fun _ => rfl, h2, h3, fun _ h => absurd h (by decide), fun _ => rfl, fun _ => rfl, h5, h6, fun _ => rfl, fun _ => rfl, fun _ => rfl, fun _ => rfl⟩
        simp only [putL, Act.put, List.setIfInBounds_toArray, List.set_cons_zero, List.set_cons_succ] at hh
        simp only [e6, e1, e5, e0, e2, e3, ec] at hh
        exact hh
    · rintro vs wx ⟨l0, l1, l2, l3, l4, l5, l6, l7, v53, v54, v55, v56, v57, v58, v59, hl, rfl, hPre, hFin, hs0, hs1, hs2, hs3, hs4, hs5, hs6, h0, h1, hd1_0, h2, h3, h4, hd4_2, hd4_3, h5, h6, hd6_1, hd6_4, hd6_5, hd7_6⟩
      obtain ⟨rfl, rfl, rfl, rfl, rfl, rfl, rfl, rfl⟩ : true = l0 ∧ true = l1 ∧ true = l2 ∧ true = l3 ∧ true = l4 ∧ true = l5 ∧ true = l6 ∧ true = l7 := by simpa using hl
      simp only [putL, Act.put, List.setIfInBounds_toArray, List.set_cons_zero, List.set_cons_succ]
      have hF := Lib.hid (hFin rfl)
      clear hPre hFin hs0 hs1 hs2 hs3 hs4 hs5 hs6 h0 h1 hd1_0 h2 h3 h4 hd4_2 hd4_3 h5 h6 hd6_1 hd6_4 hd6_5 hd7_6
      obtain ⟨Ax, cx, hbx, hrx, hBx⟩ := hF.out
      obtain ⟨q0, q1, q2, -, -⟩ := hbx.cells
      clear hF
      go_wp2_with fail
      refine bodyPost_ret (v := .agg #[.bool d.s, .slice Ax (nd 32 (a - b)) cx, .int .i64 E]) (by simp [results, Tryd.results30, go_sem, q0, q1, q2]) rfl ?_
      rw [Hs.out]
      exact ⟨_, rfl, ⟨_, rfl, hrx⟩, hBx⟩
    · rintro _ vs wx ⟨l0, l1, l2, l3, l4, l5, l6, l7, v53, v54, v55, v56, v57, v58, v59, rfl, _⟩
      rfl

  · have hs := Hs.out
    rw [if_neg hle] at hs
    have Hs := Lib.hid hs
    have hc : cmpN a b < 0 := by unfold cmpN; rw [if_pos (by omega)]; decide
    have hcm := HC.out
    have HP := Lib.hid (fun wx (hb : Below w2.heap.size w2 wx) => rMinus_any (.slice A4 (nd 32 b) c4) (.slice A3 (nd 32 a) c3) b (nd 32 b) a (nd 32 a) wx (S2.out.below hb) (S1.out.below hb) (by omega))
    generalize cmpN a b = cm at *
    have HC' := Lib.hid hcm
    have t2 : decide (0 ≤ cm) = false := decide_eq_false (by omega)
    clear hs hle hcm HC hc
    go_wp2_with fail
    refine HC'.out.mono ?_
    rintro _ _ ⟨rfl, dn, rfl⟩
    have B3' := Lib.hid (show Box3 (w2.drewN dn) (w.heap.size + 1 + 1) _ _ _ from B3.out)
    have HB' := Lib.hid (below_drewN HB.out dn)
    have hsz2' := Lib.hid (show w.heap.size + 2 < (w2.drewN dn).heap.size from hsz2.out)
    have HP' := Lib.hid (fun wx (hb : Below (w2.drewN dn).heap.size (w2.drewN dn) wx) => HP.out wx ⟨hb.os, hb.tape, hb.output, hb.size, hb.block⟩)
    have y0' : (w2.drewN dn).cell? ⟨w.heap.size + 1, 0, none⟩ = some (.bool e.s) := y0
    clear HC' x0 x1 x2 xf y0 y1 y2 yf B3 HB hsz2 HP B1 B2 S1 S2
    generalize w2.drewN dn = w3 at *
    go_upto_region 12 with (fail)
    refine wp_region_J0R [60, 61, 62, 63, 64, 65, 66] (fun l vs wx => ∃ l0 l1 l2 l3 l4 l5 l6 l7 v60 v61 v62 v63 v64 v65 v66, l = [l0, l1, l2, l3, l4, l5, l6, l7] ∧ vs = [v60, v61, v62, v63, v64, v65, v66] ∧ (l7 = false → Below w3.heap.size w3 wx) ∧ (l7 = true → SumF w (w.heap.size + 1 + 1) e.s (b - a) E wx) ∧ (l7 = true → l0 = true) ∧ (l7 = true → l1 = true) ∧ (l7 = true → l2 = true) ∧ (l7 = true → l3 = true) ∧ (l7 = true → l4 = true) ∧ (l7 = true → l5 = true) ∧ (l7 = true → l6 = true) ∧ (l0 = true → v60 = Value.pointer (some ⟨w.heap.size + 1, 0, none⟩)) ∧ (l1 = true → v61 = Value.bool e.s) ∧ (l1 = true → l0 = true) ∧ (l2 = true → v62 = Value.slice A4 (nd 32 b) c4) ∧ (l3 = true → v63 = Value.slice A3 (nd 32 a) c3) ∧ (l4 = true → l7 = false → Rd 32 wx v64 (b - a) (nd 32 (b - a)) ∧ Fr w3.heap.size wx v64) ∧ (l4 = true → l2 = true) ∧ (l4 = true → l3 = true) ∧ (l5 = true → v65 = Value.int IntKind.i64 E) ∧ (l6 = true → v66 = Value.agg #[.bool e.s, v64, .int .i64 E]) ∧ (l6 = true → l1 = true) ∧ (l6 = true → l4 = true) ∧ (l6 = true → l5 = true) ∧ (l7 = true → l6 = true)) (by kernel_rfl) (by kernel_rfl) ?_ ?_ ?_ ?_
    · refine ⟨false, false, false, false, false, false, false, false, _, _, _, _, _, _, _, rfl, rfl, fun _ => (Below.refl _ _).drew, nofun, nofun, nofun, nofun, nofun, nofun, nofun, nofun, nofun, nofun, nofun, nofun, nofun, nofun, nofun, nofun, nofun, nofun, nofun, nofun, nofun, nofun⟩
    · refine ⟨?_, ?_, ?_, ?_, ?_, ?_, ?_, ?_, trivial⟩
      · rintro _ _ wx ⟨l0, l1, l2, l3, l4, l5, l6, l7, v60, v61, v62, v63, v64, v65, v66, rfl, rfl, hPre, hFin, hs0, hs1, hs2, hs3, hs4, hs5, hs6, h0, h1, hd1_0, h2, h3, h4, hd4_2, hd4_3, h5, h6, hd6_1, hd6_4, hd6_5, hd7_6⟩ hl hall K' hK
        have e0l : l0 = false := by simpa using hl
        clear hall hl
        subst e0l
        have esl : l7 = false := by cases l7 with | false => rfl | true => exact absurd (hs0 rfl) (by decide)
        subst esl
        have hB := hPre rfl
        simp only [putL, Act.put, List.setIfInBounds_toArray, List.set_cons_zero, List.set_cons_succ]
        go_simp
        have hh := hK.out [Value.pointer (some ⟨w.heap.size + 1, 0, none⟩), v61, v62, v63, v64, v65, v66] wx ⟨true, l1, l2, l3, l4, l5, l6, false, Value.pointer (some ⟨w.heap.size + 1, 0, none⟩), v61, v62, v63, v64, v65, v66, rfl, rfl, fun _ => hB, nofun, fun _ => rfl, nofun, nofun, nofun, nofun, nofun, nofun, fun _ => rfl, h1, fun _ => rfl, h2, h3, h4, hd4_2, hd4_3, h5, h6, hd6_1, hd6_4, hd6_5, hd7_6⟩
        simp only [putL, Act.put, List.setIfInBounds_toArray, List.set_cons_zero, List.set_cons_succ] at hh
        exact hh
      · rintro _ _ wx ⟨l0, l1, l2, l3, l4, l5, l6, l7, v60, v61, v62, v63, v64, v65, v66, rfl, rfl, hPre, hFin, hs0, hs1, hs2, hs3, hs4, hs5, hs6, h0, h1, hd1_0, h2, h3, h4, hd4_2, hd4_3, h5, h6, hd6_1, hd6_4, hd6_5, hd7_6⟩ hl hall K' hK
        have e0l : l0 = true := hall ⟨0, .data⟩ (by simp) (by rfl)
        have e1l : l1 = false := by simpa using hl
        clear hall hl
        subst e0l e1l
        have esl : l7 = false := by cases l7 with | false => rfl | true => exact absurd (hs1 rfl) (by decide)
        subst esl
        have hB := hPre rfl
        have q0 := keep_cell hB y0'
        simp only [putL, Act.put, List.setIfInBounds_toArray, List.set_cons_zero, List.set_cons_succ]
        have e0 := h0 rfl
        simp only [e0]
        go_simp
        have hh := hK.out [v60, Value.bool e.s, v62, v63, v64, v65, v66] wx ⟨true, true, l2, l3, l4, l5, l6, false, v60, Value.bool e.s, v62, v63, v64, v65, v66, rfl, rfl, fun _ => hB, nofun, fun _ => rfl, fun _ => rfl, nofun, nofun, nofun, nofun, nofun, h0, fun _ => rfl, fun _ => rfl, h2, h3, h4, hd4_2, hd4_3, h5, h6, fun _ => rfl, hd6_4, hd6_5, hd7_6⟩
        simp only [putL, Act.put, List.setIfInBounds_toArray, List.set_cons_zero, List.set_cons_succ] at hh
        simp only [e0] at hh
        exact hh
      · rintro _ _ wx ⟨l0, l1, l2, l3, l4, l5, l6, l7, v60, v61, v62, v63, v64, v65, v66, rfl, rfl, hPre, hFin, hs0, hs1, hs2, hs3, hs4, hs5, hs6, h0, h1, hd1_0, h2, h3, h4, hd4_2, hd4_3, h5, h6, hd6_1, hd6_4, hd6_5, hd7_6⟩ hl hall K' hK
        have e2l : l2 = false := by simpa using hl
        clear hall hl
        subst e2l
        have esl : l7 = false := by cases l7 with | false => rfl | true => exact absurd (hs2 rfl) (by decide)
        subst esl
        have hB := hPre rfl
        simp only [putL, Act.put, List.setIfInBounds_toArray, List.set_cons_zero, List.set_cons_succ]
        go_simp
        have hh := hK.out [v60, v61, Value.slice A4 (nd 32 b) c4, v63, v64, v65, v66] wx ⟨l0, l1, true, l3, l4, l5, l6, false, v60, v61, Value.slice A4 (nd 32 b) c4, v63, v64, v65, v66, rfl, rfl, fun _ => hB, nofun, nofun, nofun, fun _ => rfl, nofun, nofun, nofun, nofun, h0, h1, hd1_0, fun _ => rfl, h3, h4, fun _ => rfl, hd4_3, h5, h6, hd6_1, hd6_4, hd6_5, hd7_6⟩
        simp only [putL, Act.put, List.setIfInBounds_toArray, List.set_cons_zero, List.set_cons_succ] at hh
        exact hh
      · rintro _ _ wx ⟨l0, l1, l2, l3, l4, l5, l6, l7, v60, v61, v62, v63, v64, v65, v66, rfl, rfl, hPre, hFin, hs0, hs1, hs2, hs3, hs4, hs5, hs6, h0, h1, hd1_0, h2, h3, h4, hd4_2, hd4_3, h5, h6, hd6_1, hd6_4, hd6_5, hd7_6⟩ hl hall K' hK
        have e3l : l3 = false := by simpa using hl
        clear hall hl
        subst e3l
        have esl : l7 = false := by cases l7 with | false => rfl | true => exact absurd (hs3 rfl) (by decide)
        subst esl
        have hB := hPre rfl
        simp only [putL, Act.put, List.setIfInBounds_toArray, List.set_cons_zero, List.set_cons_succ]
        go_simp
        have hh := hK.out [v60, v61, v62, Value.slice A3 (nd 32 a) c3, v64, v65, v66] wx ⟨l0, l1, l2, true, l4, l5, l6, false, v60, v61, v62, Value.slice A3 (nd 32 a) c3, v64, v65, v66, rfl, rfl, fun _ => hB, nofun, nofun, nofun, nofun, fun _ => rfl, nofun, nofun, nofun, h0, h1, hd1_0, h2, fun _ => rfl, h4, hd4_2, fun _ => rfl, h5, h6, hd6_1, hd6_4, hd6_5, hd7_6⟩
        simp only [putL, Act.put, List.setIfInBounds_toArray, List.set_cons_zero, List.set_cons_succ] at hh
        exact hh
      · rintro _ _ wx ⟨l0, l1, l2, l3, l4, l5, l6, l7, v60, v61, v62, v63, v64, v65, v66, rfl, rfl, hPre, hFin, hs0, hs1, hs2, hs3, hs4, hs5, hs6, h0, h1, hd1_0, h2, h3, h4, hd4_2, hd4_3, h5, h6, hd6_1, hd6_4, hd6_5, hd7_6⟩ hl hall K' hK
        have e2l : l2 = true := hall ⟨2, .data⟩ (by simp) (by rfl)
        have e3l : l3 = true := hall ⟨3, .data⟩ (by simp) (by rfl)
        have e4l : l4 = false := by simpa using hl
        clear hall hl
        subst e2l e3l e4l
        have esl : l7 = false := by cases l7 with | false => rfl | true => exact absurd (hs4 rfl) (by decide)
        subst esl
        have hB := hPre rfl
        have eag6 : l6 = false := by cases l6 with | false => rfl | true => exact absurd (hd6_4 rfl) (by decide)
        subst eag6
        simp only [putL, Act.put, List.setIfInBounds_toArray, List.set_cons_zero, List.set_cons_succ]
        have e2 := h2 rfl
        have e3 := h3 rfl
        simp only [e2, e3]
        go_simp
        refine (HP'.out wx hB).mono ?_
        rintro e w2 ⟨x2, rfl, hV2, hx1⟩
        go_simp
        have hh := hK.out [v60, v61, v62, v63, x2, v65, v66] w2 ⟨l0, l1, true, true, true, l5, false, false, v60, v61, v62, v63, x2, v65, v66, rfl, rfl, fun _ => keep_below hB hx1, nofun, nofun, nofun, fun _ => rfl, fun _ => rfl, fun _ => rfl, nofun, nofun, h0, h1, hd1_0, h2, h3, fun _ _ => ⟨hV2.1, hV2.2.mono hB.size⟩, fun _ => rfl, fun _ => rfl, h5, nofun, hd6_1, fun _ => rfl, hd6_5, hd7_6⟩
        simp only [putL, Act.put, List.setIfInBounds_toArray, List.set_cons_zero, List.set_cons_succ] at hh
        simp only [e2, e3] at hh
        exact hh
      · rintro _ _ wx ⟨l0, l1, l2, l3, l4, l5, l6, l7, v60, v61, v62, v63, v64, v65, v66, rfl, rfl, hPre, hFin, hs0, hs1, hs2, hs3, hs4, hs5, hs6, h0, h1, hd1_0, h2, h3, h4, hd4_2, hd4_3, h5, h6, hd6_1, hd6_4, hd6_5, hd7_6⟩ hl hall K' hK
        have e5l : l5 = false := by simpa using hl
        clear hall hl
        subst e5l
        have esl : l7 = false := by cases l7 with | false => rfl | true => exact absurd (hs5 rfl) (by decide)
        subst esl
        have hB := hPre rfl
        simp only [putL, Act.put, List.setIfInBounds_toArray, List.set_cons_zero, List.set_cons_succ]
        go_simp
        have hh := hK.out [v60, v61, v62, v63, v64, Value.int IntKind.i64 E, v66] wx ⟨l0, l1, l2, l3, l4, true, l6, false, v60, v61, v62, v63, v64, Value.int IntKind.i64 E, v66, rfl, rfl, fun _ => hB, nofun, nofun, nofun, nofun, nofun, nofun, fun _ => rfl, nofun, h0, h1, hd1_0, h2, h3, h4, hd4_2, hd4_3, fun _ => rfl, h6, hd6_1, hd6_4, fun _ => rfl, hd7_6⟩
        simp only [putL, Act.put, List.setIfInBounds_toArray, List.set_cons_zero, List.set_cons_succ] at hh
        exact hh
      · rintro _ _ wx ⟨l0, l1, l2, l3, l4, l5, l6, l7, v60, v61, v62, v63, v64, v65, v66, rfl, rfl, hPre, hFin, hs0, hs1, hs2, hs3, hs4, hs5, hs6, h0, h1, hd1_0, h2, h3, h4, hd4_2, hd4_3, h5, h6, hd6_1, hd6_4, hd6_5, hd7_6⟩ hl hall K' hK
        have e1l : l1 = true := hall ⟨1, .data⟩ (by simp) (by rfl)
        have e4l : l4 = true := hall ⟨4, .data⟩ (by simp) (by rfl)
        have e5l : l5 = true := hall ⟨5, .data⟩ (by simp) (by rfl)
        have e6l : l6 = false := by simpa using hl
        clear hall hl
        subst e1l e4l e5l e6l
        have esl : l7 = false := by cases l7 with | false => rfl | true => exact absurd (hs6 rfl) (by decide)
        subst esl
        have hB := hPre rfl
        have ed0 := hd1_0 rfl
        subst ed0
        have ed2 := hd4_2 rfl
        subst ed2
        have ed3 := hd4_3 rfl
        subst ed3
        simp only [putL, Act.put, List.setIfInBounds_toArray, List.set_cons_zero, List.set_cons_succ]
        have e1 := h1 rfl
        have e5 := h5 rfl
        have e0 := h0 rfl
        have e2 := h2 rfl
        have e3 := h3 rfl
        have hR4 := h4 rfl rfl
        obtain ⟨Ac, cc, ec, -⟩ := hR4.1.form
        simp only [e1, e5, e0, e2, e3, ec]
        go_simp
        have hh := hK.out [v60, v61, v62, v63, v64, v65, Value.agg #[.bool e.s, v64, .int .i64 E]] wx ⟨true, true, true, true, true, true, true, false, v60, v61, v62, v63, v64, v65, Value.agg #[.bool e.s, v64, .int .i64 E], rfl, rfl, fun _ => hB, nofun, fun _ => rfl, fun _ => rfl, fun _ => rfl, fun _ => rfl, fun _ => rfl, fun _ => rfl, fun _ => rfl, h0, h1, fun _ => rfl, h2, h3, h4, fun _ => rfl, fun _ => rfl, h5, fun _ => rfl, fun _ => rfl, fun _ => rfl, fun _ => rfl, fun _ => rfl⟩
        simp only [putL, Act.put, List.setIfInBounds_toArray, List.set_cons_zero, List.set_cons_succ] at hh
        simp only [e1, e5, e0, e2, e3, ec] at hh
        exact hh
      · rintro _ _ wx ⟨l0, l1, l2, l3, l4, l5, l6, l7, v60, v61, v62, v63, v64, v65, v66, rfl, rfl, hPre, hFin, hs0, hs1, hs2, hs3, hs4, hs5, hs6, h0, h1, hd1_0, h2, h3, h4, hd4_2, hd4_3, h5, h6, hd6_1, hd6_4, hd6_5, hd7_6⟩ hl hall K' hK
        have e6l : l6 = true := hall ⟨6, .data⟩ (by simp) (by rfl)
        have e7l : l7 = false := by simpa using hl
        clear hall hl
        subst e6l e7l
        have hB := hPre rfl
        have ed1 := hd6_1 rfl
        subst ed1
        have ed4 := hd6_4 rfl
        subst ed4
        have ed5 := hd6_5 rfl
        subst ed5
        have ed0 := hd1_0 rfl
        subst ed0
        have ed2 := hd4_2 rfl
        subst ed2
        have ed3 := hd4_3 rfl
        subst ed3
        simp only [putL, Act.put, List.setIfInBounds_toArray, List.set_cons_zero, List.set_cons_succ]
        have e6 := h6 rfl
        have e1 := h1 rfl
        have e5 := h5 rfl
        have e0 := h0 rfl
        have e2 := h2 rfl
        have e3 := h3 rfl
        have hR4 := h4 rfl rfl
        obtain ⟨Ac, cc, ec, -⟩ := hR4.1.form
        rw [ec] at hR4
        have b3' := B3'.out.keep hB
        obtain ⟨z0, z1, z2, zf, -⟩ := b3'.cells
        simp only [e6, e1, e5, e0, e2, e3, ec]
        go_simp
        have hh := hK.out [v60, v61, v62, v63, v64, v65, v66] (((wx.setCell ⟨w.heap.size + 1 + 1, 0, none⟩ (.bool e.s)).setCell ⟨w.heap.size + 1 + 1, 1, none⟩ (.slice Ac (nd 32 (b - a)) cc)).setCell ⟨w.heap.size + 1 + 1, 2, none⟩ (.int .i64 E)) ⟨true, true, true, true, true, true, true, true, v60, v61, v62, v63, v64, v65, v66, rfl, rfl, nofun, fun _ => SumF.of (W := w3) b3' hR4 (by have := hsz2'.out; omega) (by omega) (keep_belowB HB'.out hB (by have := HB'.out.size; omega)), fun _ => rfl, fun _ => rfl, fun _ => rfl, fun _ => rfl, fun _ => rfl, fun _ => rfl, fun _ => rfl, h0, h1, fun _ => rfl, h2, h3, fun _ h => absurd h (by decide), fun _ => rfl, fun _ => rfl, h5, h6, fun _ => rfl, fun _ => rfl, fun _ => rfl, fun _ => rfl⟩
        simp only [putL, Act.put, List.setIfInBounds_toArray, List.set_cons_zero, List.set_cons_succ] at hh
        simp only [e6, e1, e5, e0, e2, e3, ec] at hh
        exact hh
    · rintro vs wx ⟨l0, l1, l2, l3, l4, l5, l6, l7, v60, v61, v62, v63, v64, v65, v66, hl, rfl, hPre, hFin, hs0, hs1, hs2, hs3, hs4, hs5, hs6, h0, h1, hd1_0, h2, h3, h4, hd4_2, hd4_3, h5, h6, hd6_1, hd6_4, hd6_5, hd7_6⟩
      obtain ⟨rfl, rfl, rfl, rfl, rfl, rfl, rfl, rfl⟩ : true = l0 ∧ true = l1 ∧ true = l2 ∧ true = l3 ∧ true = l4 ∧ true = l5 ∧ true = l6 ∧ true = l7 := by simpa using hl
      simp only [putL, Act.put, List.setIfInBounds_toArray, List.set_cons_zero, List.set_cons_succ]
      have hF := Lib.hid (hFin rfl)
      clear hPre hFin hs0 hs1 hs2 hs3 hs4 hs5 hs6 h0 h1 hd1_0 h2 h3 h4 hd4_2 hd4_3 h5 h6 hd6_1 hd6_4 hd6_5 hd7_6
      obtain ⟨Ax, cx, hbx, hrx, hBx⟩ := hF.out
      obtain ⟨q0, q1, q2, -, -⟩ := hbx.cells
      clear hF
      go_wp2_with fail
      refine bodyPost_ret (v := .agg #[.bool e.s, .slice Ax (nd 32 (b - a)) cx, .int .i64 E]) (by simp [results, Tryd.results30, go_sem, q0, q1, q2]) rfl ?_
      rw [Hs.out]
      exact ⟨_, rfl, ⟨_, rfl, hrx⟩, hBx⟩
    · rintro _ vs wx ⟨l0, l1, l2, l3, l4, l5, l6, l7, v60, v61, v62, v63, v64, v65, v66, rfl, _⟩
      rfl


end Go.Proofs.YtakjbmlkcbedmaaDoor
