/- Walks of vernierref06.Add, Sub, vernierref18.Plus, Minus. Printed by gen/eftref.py. -/
import Derived.Outline
import Derived.Test.YtebmogdojpcmfaaRefU
import Derived.Test.YtebmogdojpcmfaaPackU
namespace Go.Proofs.Ytebmogdojpcmfaa
set_option linter.unusedVariables false
set_option linter.unusedSimpArgs false
open Go.RowKit

/-- vernierref06.Add of what is opened -/
def addFl (F : Fm) (m a b : Nat) (x y : Fl) : Nat × Nat :=
  if x.sig || y.sig then (F.nan, 1)
  else if x.nan || y.nan then (F.nan, 0)
  else if x.inf && y.inf && (x.neg != y.neg) then (F.nan, 1)
  else if x.inf then (a, 0)
  else if y.inf then (b, 0)
  else finR F m (sumR x.d y.d) (if x.zero && y.zero && (x.neg == y.neg) then x.neg else m == 4)

theorem addFl_eq {F : Fm} (ok : F.Ok) (m : Nat) {a b : Nat} (ha : a < 2 ^ F.w) (hb : b < 2 ^ F.w) : addFl F m a b (openF F a) (openF F b) = addS F m a b := by
  have la := opD_lo ok a
  have lb := opD_lo ok b
  have h := term_z (F := F) m (x := oneT (openF F a)) (y := oneT (openF F b)) (show -5000 ≤ (opD F a).e by omega) (show -5000 ≤ (opD F b).e by omega)
  have qa : (oneT (openF F a)).q = oneZ F a := one_q ok a false
  have qb : (oneT (openF F b)).q = oneZ F b := one_q ok b false
  rw [qa, qb, sum_z ok m ha hb] at h
  rw [← h]
  have pa : (openF F a).inf = true → a = F.inf + F.sg (openF F a).neg := by
    intro h
    have h1 : F.isInf a = true := h
    have h2 : F.abs a = F.inf := by unfold Fm.isInf at h1; simpa using h1
    have h3 := parts_mk ok ha
    rw [h2] at h3; exact h3
  have pb : (openF F b).inf = true → b = F.inf + F.sg (openF F b).neg := by
    intro h
    have h1 : F.isInf b = true := h
    have h2 : F.abs b = F.inf := by unfold Fm.isInf at h1; simpa using h1
    have h3 := parts_mk ok hb
    rw [h2] at h3; exact h3
  generalize openF F a = x at *
  generalize openF F b = y at *
  unfold addFl termS oneT Tm.zero Fl.zero
  simp only [Bool.or_false, Bool.not_false, Bool.true_and]
  split
  · rfl
  split
  · rfl
  split
  · rfl
  split
  · rename_i h; rw [← pa h]
  split
  · rename_i h; rw [← pb h]
  rfl

theorem eopen_fl (n a : Nat) (w : World) (hn : n < 4) (ha : a < 2 ^ (fm n).w) :
    Calls Try.prog 50 #[.int .i64 n, .int .u64 a] w fun e w' => ∃ A c, e = .returned (.agg (flA (openF (fm n) a) A c)) ∧ Rd 32 w' (.slice A (nd 32 (openF (fm n) a).d.n) c) (openF (fm n) a).d.n (nd 32 (openF (fm n) a).d.n) ∧ Below w.heap.size w w' := by
  refine (ropen_ok n a w hn ha).mono ?_
  rintro e w' ⟨v, rfl, V, rfl, hr, hb⟩
  obtain ⟨A, c, rfl, -, -⟩ := hr.form
  exact ⟨A, c, rfl, hr, hb⟩

theorem fl_bd (n a : Nat) : (openF (fm n) a).d.n < 2 ^ 53 ∧ -2500 ≤ (openF (fm n) a).d.e ∧ (openF (fm n) a).d.e ≤ 1100 := by
  have h := opD_lo (fm_ok n) a
  exact ⟨h.2.2, h.1, h.2.1⟩

theorem fl_nd {x : D} (h : x.n < 2 ^ 53) : nd 32 x.n ≤ 10000 := Nat.le_trans (nd_le 32 _ 4 (by decide) (Nat.lt_of_lt_of_le h (Nat.pow_le_pow_right (by decide) (by decide)))) (by decide)

theorem w64 {n a : Nat} (h : a < 2 ^ (fm n).w) : a < 18446744073709551616 := Nat.lt_of_lt_of_le h (Nat.le_trans (Nat.pow_le_pow_right (by decide) (fm_ok n).w64) (by decide))

set_option maxRecDepth 100000 in
set_option maxHeartbeats 8000000 in
theorem rAdd_any (n m a b : Nat) (w : World) (hn : n < 4) (hm : m ≤ 5) (la : a < 2 ^ (fm n).w) (lb : b < 2 ^ (fm n).w) :
    Calls Try.prog 43 #[.int .i64 n, .int .i64 m, .int .u64 a, .int .u64 b] w fun e w' => e = .returned (.tuple #[.int .u64 ((addS (fm n) m a b).1 : Int), .int .i64 ((addS (fm n) m a b).2 : Int), .int .i64 0]) ∧ Below w.heap.size w w' := by
  have hK := rknown_any n m w
  rw [show rfS n m = 0 by unfold rfS; rw [if_neg (by omega), if_neg (by omega)]] at hK
  have hFa := rfits_ok n a w hn (w64 la)
  have hFb := rfits_ok n b w hn (w64 lb)
  rw [decide_eq_true la] at hFa
  rw [decide_eq_true lb] at hFb
  have hOa := eopen_fl n a w hn la
  have HOb := Lib.hid (fun wx => eopen_fl n b wx hn lb)
  rw [← addFl_eq (fm_ok n) m la lb]
  obtain ⟨x1, x2, x3⟩ := fl_bd n a
  obtain ⟨y1, y2, y3⟩ := fl_bd n b
  have HQ := Lib.hid (fun wx => rquiet_ok n wx hn)
  obtain ⟨sb1, sb2⟩ := sumR_bounds (x := (openF (fm n) a).d) (y := (openF (fm n) b).d) (Nat.lt_of_lt_of_le x1 (Nat.pow_le_pow_right (by decide) (by decide))) (Nat.lt_of_lt_of_le y1 (Nat.pow_le_pow_right (by decide) (by decide))) ⟨by omega, by omega⟩ ⟨by omega, by omega⟩
  have HF := Lib.hid (fun z neg wx hz => rFinal_any n m z (sumR (openF (fm n) a).d (openF (fm n) b).d) neg wx hn hm hz sb1 sb2)
  have HX := Lib.hid (And.intro (fl_nd x1) (And.intro x2 x3))
  have HY := Lib.hid (And.intro (fl_nd y1) (And.intro y2 y3))
  generalize openF (fm n) a = x at *
  generalize openF (fm n) b = y at *
  generalize fm n = F at *
  obtain ⟨r, hr⟩ : ∃ r, r = addFl F m a b x y := ⟨_, rfl⟩
  rw [← hr]
  unfold addFl at hr
  obtain ⟨m4, t4⟩ : ∃ b, ((m : Int) == 4) = b := ⟨_, rfl⟩
  have t4' : (m == 4) = m4 := by
    rw [← t4]
    by_cases h : m = 4
    · subst h; rfl
    · rw [show (m == 4) = false by rw [beq_eq_false_iff_ne]; exact h, show ((m : Int) == 4) = false by rw [beq_eq_false_iff_ne]; omega]
  rw [t4'] at hr
  have HRR := Lib.hid hr
  have T4 := Lib.hid t4
  clear x1 x2 x3 y1 y2 y3 sb1 sb2 hr t4 t4' la lb hn hm
  go_enter Try.func43, Try.ntmps43
  go_wp2_with fail
  refine hK.mono ?_
  rintro _ _ ⟨rfl, rfl⟩
  clear hK
  go_wp2_with fail
  refine hFa.mono ?_
  rintro _ _ ⟨rfl, rfl⟩
  clear hFa
  go_wp2_with fail
  refine hFb.mono ?_
  rintro _ _ ⟨rfl, rfl⟩
  clear hFb
  go_wp2_with fail
  refine hOa.mono ?_
  rintro _ w1 ⟨A, c, rfl, r1, hb1⟩
  clear hOa
  have R1 := Lib.hid r1
  have HB1 := Lib.hid hb1
  clear r1 hb1
  unfold flA
  go_wp2_with fail
  refine (HOb.out _).mono ?_
  rintro _ w2 ⟨A', c', rfl, r2, hb2⟩
  clear HOb
  have B1 := (Bx.new w1 (flA x A c) 78).below hb2
  have hbA : Below w.heap.size w w2 := keep_belowB (HB1.out.alloc HB1.out.size (.cells (flA x A c) 78)) hb2 (by have := HB1.out.size; simp <;> omega)
  have r1 := R1.out.belowB ((below1 w1 (.cells (flA x A c) 78)).trans (hb2.mono (by simp))) (Nat.le_refl _)
  have hs12 : w1.heap.size < w2.heap.size := B1.lt
  have hs0 := HB1.out.size
  clear R1 HB1 hb2
  have B1' := B1.below (below1 w2 (.cells (flA y A' c') 78))
  have B2' := Bx.new w2 (flA y A' c') 78
  have hbB : Below w.heap.size w (w2.alloc (.cells (flA y A' c') 78)) := hbA.alloc hbA.size _
  have r1' := r1.belowB (below1 w2 (.cells (flA y A' c') 78)) (Nat.le_refl _)
  have r2' := r2.belowB (below1 w2 (.cells (flA y A' c') 78)) (Nat.le_refl _)
  clear r1 r2 B1 hbA
  obtain ⟨W, hW⟩ : ∃ W, W = w2.alloc (.cells (flA y A' c') 78) := ⟨_, rfl⟩
  rw [← hW] at B1' B2' hbB r1' r2'
  have hs2 : w2.heap.size < W.heap.size := B2'.lt
  generalize hg1 : w1.heap.size = g1 at *
  generalize hg2 : w2.heap.size = g2 at *
  have HZx := Lib.hid (fun wx => fzero_any x A c wx)
  have HZy := Lib.hid (fun wx => fzero_any y A' c' wx)
  have HS := Lib.hid (fun wx (hb : Below W.heap.size W wx) => rSum_any (.agg #[.bool x.d.s, .slice A (nd 32 x.d.n) c, .int .i64 x.d.e]) (.agg #[.bool y.d.s, .slice A' (nd 32 y.d.n) c', .int .i64 y.d.e]) x.d y.d wx ⟨_, rfl, r1'.belowB hb (Nat.le_refl _)⟩ ⟨_, rfl, r2'.belowB hb (Nat.le_refl _)⟩ HX.out.1 HY.out.1 ⟨by have := HX.out.2; omega, by have := HX.out.2; omega⟩ ⟨by have := HY.out.2; omega, by have := HY.out.2; omega⟩)
  have HB := Lib.hid hbB
  have HBW := Lib.hid (Below.refl W.heap.size W)
  have hgw : w.heap.size ≤ W.heap.size := hbB.size
  have HGW := Lib.hid hgw
  unfold flA at hW HZx HZy B1' B2'
  unfold flA
  obtain ⟨k0, k1, k2, k3, k4, k5, k6⟩ := B1'.seven
  obtain ⟨y0, y1, y2, y3, y4, y5, y6⟩ := B2'.seven
  have B1 := Lib.hid B1'
  have B2 := Lib.hid B2'
  have HN1 := Lib.hid (And.intro hs0 (And.intro hs12 hs2))
  clear B1' B2' hbB r1' r2' hgw hs0 hs12 hs2 HX HY
  generalize x.zero = zx at *
  generalize y.zero = zy at *
  generalize x.nan = xn at *
  generalize y.nan = yn at *
  generalize x.sig = xs at *
  generalize y.sig = ys at *
  generalize x.inf = xi at *
  generalize y.inf = yi at *
  generalize x.neg = xg at *
  generalize y.neg = yg at *
  obtain ⟨N, hN⟩ : ∃ N, N = F.nan := ⟨_, rfl⟩
  rw [← hN] at HRR HQ
  clear hN
  go_upto_region 8 with (fail)
  rw [← hW]
  clear hW hg1 hg2
  cases xs
  rotate_left
  · skip
    have e := Lib.hid (show r = (N, 1) from HRR.out)
    clear HRR HZx HZy HS HF B1 B2 T4 HBW
    go_wp2_with fail
    refine (HQ.out _).mono ?_
    rintro _ _ ⟨rfl, rfl⟩
    go_wp2_with fail
    refine bodyPost_ret (v := .tuple #[.int .u64 N, .int .i64 1, .int .i64 0]) (by simp [results, Try.results43, go_sem]) rfl ?_
    exact ⟨by rw [e.out]; rfl, HB.out⟩
  cases ys
  rotate_left
  · skip
    have e := Lib.hid (show r = (N, 1) from HRR.out)
    clear HRR HZx HZy HS HF B1 B2 T4 HBW
    go_wp2_with fail
    refine (HQ.out _).mono ?_
    rintro _ _ ⟨rfl, rfl⟩
    go_wp2_with fail
    refine bodyPost_ret (v := .tuple #[.int .u64 N, .int .i64 1, .int .i64 0]) (by simp [results, Try.results43, go_sem]) rfl ?_
    exact ⟨by rw [e.out]; rfl, HB.out⟩
  cases xn
  rotate_left
  · skip
    have e := Lib.hid (show r = (N, 0) from HRR.out)
    clear HRR HZx HZy HS HF B1 B2 T4 HBW
    go_wp2_with fail
    refine (HQ.out _).mono ?_
    rintro _ _ ⟨rfl, rfl⟩
    go_wp2_with fail
    refine bodyPost_ret (v := .tuple #[.int .u64 N, .int .i64 0, .int .i64 0]) (by simp [results, Try.results43, go_sem]) rfl ?_
    exact ⟨by rw [e.out]; rfl, HB.out⟩
  cases yn
  rotate_left
  · skip
    have e := Lib.hid (show r = (N, 0) from HRR.out)
    clear HRR HZx HZy HS HF B1 B2 T4 HBW
    go_wp2_with fail
    refine (HQ.out _).mono ?_
    rintro _ _ ⟨rfl, rfl⟩
    go_wp2_with fail
    refine bodyPost_ret (v := .tuple #[.int .u64 N, .int .i64 0, .int .i64 0]) (by simp [results, Try.results43, go_sem]) rfl ?_
    exact ⟨by rw [e.out]; rfl, HB.out⟩
  obtain ⟨ne, tne⟩ : ∃ b, (xg != yg) = b := ⟨_, rfl⟩
  have tne2 : (!(xg == yg)) = ne := tne
  have hr1 := HRR.out
  rw [tne] at hr1
  have HRR := Lib.hid hr1
  clear hr1
  cases xi
  rotate_left
  · cases yi
    · skip
      have e := Lib.hid (show r = (a, 0) from HRR.out)
      clear HRR HQ HZx HZy HS HF B1 B2 T4 HBW
      go_wp2_with fail
      refine bodyPost_ret (v := .tuple #[.int .u64 a, .int .i64 0, .int .i64 0]) (by simp [results, Try.results43, go_sem]) rfl ?_
      exact ⟨by rw [e.out]; rfl, HB.out⟩
    · cases ne
      · skip
        have e := Lib.hid (show r = (a, 0) from HRR.out)
        clear HRR HQ HZx HZy HS HF B1 B2 T4 HBW
        go_wp2_with fail
        refine bodyPost_ret (v := .tuple #[.int .u64 a, .int .i64 0, .int .i64 0]) (by simp [results, Try.results43, go_sem]) rfl ?_
        exact ⟨by rw [e.out]; rfl, HB.out⟩
      · skip
        have e := Lib.hid (show r = (N, 1) from HRR.out)
        clear HRR HZx HZy HS HF B1 B2 T4 HBW
        go_wp2_with fail
        refine (HQ.out _).mono ?_
        rintro _ _ ⟨rfl, rfl⟩
        go_wp2_with fail
        refine bodyPost_ret (v := .tuple #[.int .u64 N, .int .i64 1, .int .i64 0]) (by simp [results, Try.results43, go_sem]) rfl ?_
        exact ⟨by rw [e.out]; rfl, HB.out⟩
  cases yi
  rotate_left
  · skip
    have e := Lib.hid (show r = (b, 0) from HRR.out)
    clear HRR HQ HZx HZy HS HF B1 B2 T4 HBW
    go_wp2_with fail
    refine bodyPost_ret (v := .tuple #[.int .u64 b, .int .i64 0, .int .i64 0]) (by simp [results, Try.results43, go_sem]) rfl ?_
    exact ⟨by rw [e.out]; rfl, HB.out⟩
  clear tne HQ
  have HR2 := Lib.hid (show r = finR F m (sumR x.d y.d) (if zx && zy && (xg == yg) then xg else m4) from HRR.out)
  obtain ⟨eq, teq⟩ : ∃ b, (xg == yg) = b := ⟨_, rfl⟩
  have hr2 := HR2.out
  rw [teq] at hr2
  have HR3 := Lib.hid hr2
  clear hr2 HR2 HRR tne2
  have t4 := T4.out
  go_wp2_with fail
  refine (HZx.out _).mono ?_
  rintro _ w6 ⟨rfl, hb⟩
  replace HB := Lib.hid (keep_belowB HB.out hb (by have := HB.out.size; omega))
  replace HBW := Lib.hid (keep_belowB HBW.out hb (by have := HBW.out.size; omega))
  replace B1 := Lib.hid (B1.out.below hb)
  replace B2 := Lib.hid (B2.out.below hb)
  clear hb HZx k0 k1 k2 k3 k4 k5 k6 y0 y1 y2 y3 y4 y5 y6
  obtain ⟨k0, k1, k2, k3, k4, k5, k6⟩ := B1.out.seven
  obtain ⟨y0, y1, y2, y3, y4, y5, y6⟩ := B2.out.seven
  cases zx
  · clear HZy
    have e := Lib.hid (show r = finR F m (sumR x.d y.d) m4 from HR3.out)
    clear HR3
    go_wp2_with fail
    refine (HS.out _ HBW.out).mono ?_
    rintro _ w8 ⟨vz, rfl, hz, hb⟩
    replace HB := Lib.hid (keep_belowB HB.out hb (by have := HB.out.size; omega))
    have HF' := HF.out vz m4 w8 hz
    rw [← e.out] at HF'
    have HF2 := Lib.hid HF'
    clear hb HF HF' hz HS B1 B2 k0 k1 k2 k3 k4 k5 k6 y0 y1 y2 y3 y4 y5 y6 HBW
    go_wp2_with fail
    refine HF2.out.mono ?_
    rintro _ w9 ⟨rfl, hb⟩
    replace HB := Lib.hid (keep_belowB HB.out hb (by have := HB.out.size; omega))
    clear hb HF2
    go_wp2_with fail
    refine bodyPost_ret (v := .tuple #[.int .u64 r.1, .int .i64 r.2, .int .i64 0]) (by simp [results, Try.results43, go_sem]) rfl ?_
    exact ⟨rfl, HB.out⟩
  go_wp2_with fail
  refine (HZy.out _).mono ?_
  rintro _ w7 ⟨rfl, hb⟩
  replace HB := Lib.hid (keep_belowB HB.out hb (by have := HB.out.size; omega))
  replace HBW := Lib.hid (keep_belowB HBW.out hb (by have := HBW.out.size; omega))
  replace B1 := Lib.hid (B1.out.below hb)
  replace B2 := Lib.hid (B2.out.below hb)
  clear hb HZy k0 k1 k2 k3 k4 k5 k6 y0 y1 y2 y3 y4 y5 y6
  obtain ⟨k0, k1, k2, k3, k4, k5, k6⟩ := B1.out.seven
  obtain ⟨y0, y1, y2, y3, y4, y5, y6⟩ := B2.out.seven
  cases zy
  · skip
    have e := Lib.hid (show r = finR F m (sumR x.d y.d) m4 from HR3.out)
    clear HR3
    go_wp2_with fail
    refine (HS.out _ HBW.out).mono ?_
    rintro _ w8 ⟨vz, rfl, hz, hb⟩
    replace HB := Lib.hid (keep_belowB HB.out hb (by have := HB.out.size; omega))
    have HF' := HF.out vz m4 w8 hz
    rw [← e.out] at HF'
    have HF2 := Lib.hid HF'
    clear hb HF HF' hz HS B1 B2 k0 k1 k2 k3 k4 k5 k6 y0 y1 y2 y3 y4 y5 y6 HBW
    go_wp2_with fail
    refine HF2.out.mono ?_
    rintro _ w9 ⟨rfl, hb⟩
    replace HB := Lib.hid (keep_belowB HB.out hb (by have := HB.out.size; omega))
    clear hb HF2
    go_wp2_with fail
    refine bodyPost_ret (v := .tuple #[.int .u64 r.1, .int .i64 r.2, .int .i64 0]) (by simp [results, Try.results43, go_sem]) rfl ?_
    exact ⟨rfl, HB.out⟩
  cases eq
  · skip
    have e := Lib.hid (show r = finR F m (sumR x.d y.d) m4 from HR3.out)
    clear HR3
    go_wp2_with fail
    refine (HS.out _ HBW.out).mono ?_
    rintro _ w8 ⟨vz, rfl, hz, hb⟩
    replace HB := Lib.hid (keep_belowB HB.out hb (by have := HB.out.size; omega))
    have HF' := HF.out vz m4 w8 hz
    rw [← e.out] at HF'
    have HF2 := Lib.hid HF'
    clear hb HF HF' hz HS B1 B2 k0 k1 k2 k3 k4 k5 k6 y0 y1 y2 y3 y4 y5 y6 HBW
    go_wp2_with fail
    refine HF2.out.mono ?_
    rintro _ w9 ⟨rfl, hb⟩
    replace HB := Lib.hid (keep_belowB HB.out hb (by have := HB.out.size; omega))
    clear hb HF2
    go_wp2_with fail
    refine bodyPost_ret (v := .tuple #[.int .u64 r.1, .int .i64 r.2, .int .i64 0]) (by simp [results, Try.results43, go_sem]) rfl ?_
    exact ⟨rfl, HB.out⟩
  · skip
    have e := Lib.hid (show r = finR F m (sumR x.d y.d) xg from HR3.out)
    clear HR3
    go_wp2_with fail
    refine (HS.out _ HBW.out).mono ?_
    rintro _ w8 ⟨vz, rfl, hz, hb⟩
    replace HB := Lib.hid (keep_belowB HB.out hb (by have := HB.out.size; omega))
    have HF' := HF.out vz xg w8 hz
    rw [← e.out] at HF'
    have HF2 := Lib.hid HF'
    clear hb HF HF' hz HS B1 B2 k0 k1 k2 k3 k4 k5 k6 y0 y1 y2 y3 y4 y5 y6 HBW
    go_wp2_with fail
    refine HF2.out.mono ?_
    rintro _ w9 ⟨rfl, hb⟩
    replace HB := Lib.hid (keep_belowB HB.out hb (by have := HB.out.size; omega))
    clear hb HF2
    go_wp2_with fail
    refine bodyPost_ret (v := .tuple #[.int .u64 r.1, .int .i64 r.2, .int .i64 0]) (by simp [results, Try.results43, go_sem]) rfl ?_
    exact ⟨rfl, HB.out⟩

set_option maxRecDepth 100000 in
set_option maxHeartbeats 4000000 in
theorem rSub_any (n m a b : Nat) (w : World) (hn : n < 4) (hm : m ≤ 5) (la : a < 2 ^ (fm n).w) (lb : b < 2 ^ (fm n).w) :
    Calls Try.prog 44 #[.int .i64 n, .int .i64 m, .int .u64 a, .int .u64 b] w fun e w' => e = .returned (.tuple #[.int .u64 ((addS (fm n) m a ((fm n).flip b)).1 : Int), .int .i64 ((addS (fm n) m a ((fm n).flip b)).2 : Int), .int .i64 0]) ∧ Below w.heap.size w w' := by
  have hP := rparams_ok n w hn
  have hFb := rfits_ok n b w hn (w64 lb)
  rw [decide_eq_true lb] at hFb
  have hO := ropposite_ok n b w hn lb
  have hA := rAdd_any n m a ((fm n).flip b) w hn hm la (flip_lt (fm_ok n) b)
  have t0 : (((fm n).w : Int) == 0) = false := by
    have h1 := (fm_ok n).pw
    rw [beq_eq_false_iff_ne]; omega
  generalize addS (fm n) m a ((fm n).flip b) = r at *
  generalize (fm n).flip b = b' at *
  generalize (fm n).w = wd at *
  generalize (fm n).p = pp at *
  generalize (fm n).emin = em at *
  clear la lb hn hm
  go_enter Try.func44, Try.ntmps44
  go_wp2_with fail
  refine hP.mono ?_
  rintro _ _ ⟨rfl, rfl⟩
  go_wp2_with fail
  refine hFb.mono ?_
  rintro _ _ ⟨rfl, rfl⟩
  go_wp2_with fail
  refine hO.mono ?_
  rintro _ _ ⟨rfl, rfl⟩
  go_wp2_with fail
  refine hA.mono ?_
  rintro _ w1 ⟨rfl, hb⟩
  clear hP hFb hO hA t0
  go_wp2_with fail
  refine bodyPost_ret (v := .tuple #[.int .u64 r.1, .int .i64 r.2, .int .i64 0]) (by simp [results, Try.results44, go_sem]) rfl ?_
  exact ⟨rfl, hb⟩


set_option maxRecDepth 100000 in
theorem rPlus18 (n a b : Nat) (w : World) (hn : n < 4) (la : a < 2 ^ (fm n).w) (lb : b < 2 ^ (fm n).w) :
    Calls Try.prog 21 #[.int .i64 n, .int .u64 a, .int .u64 b] w fun e w' => e = .returned (.int .u64 ((addS (fm n) 0 a b).1 : Int)) ∧ Below w.heap.size w w' := by
  have hA := rAdd_any n 0 a b w hn (by decide) la lb
  generalize addS (fm n) 0 a b = r at *
  clear la lb hn
  go_enter Try.func21, Try.ntmps21
  go_wp2_with fail
  refine hA.mono ?_
  rintro _ w1 ⟨rfl, hb⟩
  clear hA
  go_wp2_with fail
  go_ret
  exact ⟨rfl, hb⟩


set_option maxRecDepth 100000 in
theorem rMinus18 (n a b : Nat) (w : World) (hn : n < 4) (la : a < 2 ^ (fm n).w) (lb : b < 2 ^ (fm n).w) :
    Calls Try.prog 22 #[.int .i64 n, .int .u64 a, .int .u64 b] w fun e w' => e = .returned (.int .u64 ((addS (fm n) 0 a ((fm n).flip b)).1 : Int)) ∧ Below w.heap.size w w' := by
  have hA := rSub_any n 0 a b w hn (by decide) la lb
  generalize addS (fm n) 0 a ((fm n).flip b) = r at *
  clear la lb hn
  go_enter Try.func22, Try.ntmps22
  go_wp2_with fail
  refine hA.mono ?_
  rintro _ w1 ⟨rfl, hb⟩
  clear hA
  go_wp2_with fail
  go_ret
  exact ⟨rfl, hb⟩


end Go.Proofs.Ytebmogdojpcmfaa
