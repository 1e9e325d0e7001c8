/- Walks of vernierref09: fit, three, Fma, Fms, Fnma, Dot2. Printed by gen/refthree.py. -/
import Derived.Outline
import Derived.Deep.CutBlock
import Derived.Deep.RegionHeld3
import Derived.Test.YtdbfkfbncmbfcaaGreatDoorRefY
import Derived.Test.YtdbfkfbncmbfcaaGreatDoorFusX
namespace Go.Proofs.YtdbfkfbncmbfcaaGreatDoor
set_option linter.unusedVariables false
set_option linter.unusedSimpArgs false
open Go.RowKit

theorem open_fl (n a : Nat) (w : World) (hn : n < 4) (ha : a < 2 ^ (fm n).w) :
    Calls Tryz.prog 50 #[.int .i64 n, .int .u64 a] w fun e w' => ∃ A c, e = .returned (.agg (flA (openF (fm n) a) A c)) ∧ Rd 32 w' (.slice A (nd 32 (openF (fm n) a).d.n) c) (openF (fm n) a).d.n (nd 32 (openF (fm n) a).d.n) ∧ Below w.heap.size w w' := by
  refine (ropen_ok n a w hn ha).mono ?_
  rintro e w' ⟨v, rfl, V, rfl, hr, hb⟩
  obtain ⟨A, c, rfl, -, -⟩ := hr.form
  exact ⟨A, c, rfl, hr, hb⟩

theorem turned_fl (x : Fl) (t : Bool) (A : Option Addr) (c : Nat) (w : World) (h : Rd 32 w (.slice A (nd 32 x.d.n) c) x.d.n (nd 32 x.d.n)) : Calls Tryz.prog 70 #[.agg (flA x A c), .bool t] w fun e w' => ∃ A' c', e = .returned (.agg (flA (x.turn t) A' c')) ∧ Rd 32 w' (.slice A' (nd 32 (x.turn t).d.n) c') (x.turn t).d.n (nd 32 (x.turn t).d.n) ∧ Below w.heap.size w w' := by
  refine (turned_any _ x t w ⟨A, c, rfl, h⟩).mono ?_
  rintro e w' ⟨v', rfl, ⟨A', c', rfl, hr⟩, hb⟩
  exact ⟨A', c', rfl, hr, hb⟩

set_option maxRecDepth 100000 in
set_option maxHeartbeats 4000000 in
theorem rfit_any (f m : Int) (b : Nat) (xs : List Nat) (w : World) (hxs : ∀ x ∈ xs, x < 18446744073709551616) (hn : xs.length ≤ 100) (hb : b < w.heap.size) (hc : ∀ j, j < xs.length → w.cell? ⟨b, j, none⟩ = some (.int .u64 (xs.getD j 0 : Nat))) :
    Calls Tryz.prog 48 #[.int .i64 f, .int .i64 m, .slice (some ⟨b, 0, none⟩) xs.length xs.length] w fun e w' => e = .returned (.int .i64 (errL f m xs)) ∧ w = w' := by
  have HK := Lib.hid (rknown_any f m w)
  by_cases hr : rfS f m ≠ 0
  · have e1 : errL f m xs = rfS f m := by unfold errL; rw [if_pos hr]
    have te : (rfS f m != 0) = true := by simpa using hr
    rw [e1]
    generalize xs.length = n at *
    generalize rfS f m = c at *
    clear e1 hr hxs hc
    go_enter Tryz.func48, Tryz.ntmps48
    go_wp2_with fail
    refine HK.out.mono ?_
    rintro _ _ ⟨rfl, rfl⟩
    go_wp2_with fail
    go_ret
    exact ⟨rfl, rfl⟩
  have hr0 : rfS f m = 0 := by simpa using hr
  obtain ⟨n0, k0, rfl, hn0, rfl, hk0⟩ := rfS_ok hr0
  have hmem : ∀ j, j < xs.length → xs.getD j 0 ∈ xs := by
    intro j hj
    have e : xs.getD j 0 = xs[j] := by simp [List.getD, hj]
    rw [e]
    exact List.getElem_mem hj
  have hck := fun (j : Nat) (hj : j < xs.length) => rfits_ok n0 (xs.getD j 0) w hn0 (hxs _ (hmem j hj))
  have e1 : errL n0 k0 xs = if (xs.all fun a => decide (a < 2 ^ (fm n0).w)) = true then 0 else 4 := by
    unfold errL
    rw [hr0, if_neg (by simp)]
    rfl
  have hall : (∀ j, j < xs.length → xs.getD j 0 < 2 ^ (fm n0).w) → errL n0 k0 xs = 0 := by
    intro h
    rw [e1, if_pos]
    rw [List.all_eq_true]
    intro x hx
    obtain ⟨j, hj, rfl⟩ := List.getElem_of_mem hx
    have := h j hj
    rw [show xs.getD j 0 = xs[j] by simp [List.getD, hj]] at this
    simpa using this
  have hbad : ∀ j, j < xs.length → ¬ xs.getD j 0 < 2 ^ (fm n0).w → errL n0 k0 xs = 4 := by
    intro j hj h
    rw [e1, if_neg]
    intro h2
    have := List.all_eq_true.1 h2 _ (hmem j hj)
    exact h (by simpa using this)
  obtain ⟨n, hnl⟩ : ∃ n, n = xs.length := ⟨_, rfl⟩
  rw [← hnl] at hn hc hck hall hbad ⊢
  have Hck := Lib.hid hck
  have Hc := Lib.hid hc
  have Hb := Lib.hid hb
  have Hall := Lib.hid hall
  have Hbad := Lib.hid hbad
  rw [hr0] at HK
  generalize errL (n0 : Int) (k0 : Int) xs = R at *
  generalize (fm n0).w = wd at *
  clear hck hc hnl hxs hb hall hbad hmem e1 hr hr0 hn0 hk0
  go_enter Tryz.func48, Tryz.ntmps48
  go_wp2_with fail
  refine HK.out.mono ?_
  rintro _ _ ⟨rfl, rfl⟩
  go_wp2
  go_loopw [8] (fun v wr => ∃ j : Nat, j ≤ n ∧ v = .int .i64 j ∧ (∀ i, i < j → xs.getD i 0 < 2 ^ wd) ∧ w = wr) (fun v _ => n - (intOf v).toNat)
  case atStart => exact ⟨0, Nat.zero_le _, rfl, fun i hi => absurd hi (Nat.not_lt_zero _), rfl⟩
  case round =>
    obtain ⟨j, hj, rfl, hpre, rfl⟩ := hrel
    have Hpre := Lib.hid hpre
    clear hpre
    by_cases hjn : j < n
    · obtain ⟨x, hx⟩ : ∃ x, x = xs.getD j 0 := ⟨_, rfl⟩
      have hcj := Hc.out j hjn
      have hcall := Hck.out j hjn
      rw [← hx] at hcj hcall
      have hjn' : (j : Int) < n := by omega
      have Hx := Lib.hid hx
      by_cases hlt : x < 2 ^ wd
      · rw [decide_eq_true hlt] at hcall
        have Hcall := Lib.hid hcall
        have Hlt := Lib.hid hlt
        clear hx hcall Hck Hc hlt Hall Hbad
        go_wp2_with fail
        refine Hcall.out.mono ?_
        rintro _ _ ⟨rfl, rfl⟩
        clear Hcall hcj
        go_wp2_with fail
        go_roundw
        case rel =>
          refine ⟨j + 1, by omega, by go_num, ?_, trivial⟩
          intro i hi
          rcases Nat.lt_succ_iff_lt_or_eq.1 hi with h | h
          · exact Hpre.out i h
          · rw [h, ← Hx.out]; exact Hlt.out
        case measure => simp [intOf]; omega
      · rw [decide_eq_false hlt] at hcall
        have Hcall := Lib.hid hcall
        have H4 := Lib.hid (Hbad.out j hjn (by rw [← hx]; exact hlt))
        clear hx hcall Hck Hc hlt Hall Hx Hpre Hbad
        go_wp2_with fail
        refine Hcall.out.mono ?_
        rintro _ _ ⟨rfl, rfl⟩
        clear Hcall hcj
        go_wp2_with fail
        go_ret
        exact ⟨by rw [H4.out]; rfl, rfl⟩
    · obtain rfl : j = n := by omega
      have H0 := Lib.hid (Hall.out Hpre.out)
      clear Hck Hc Hall Hbad Hpre
      go_wp2_with fail
      go_ret
      exact ⟨by rw [H0.out]; rfl, rfl⟩

/-- what three answers -/
def threeR (f m : Int) (a b c : Nat) (ta tc : Bool) : Nat × Nat × Int :=
  if errL f m [a, b, c] = 0 then ((termS (fm f.toNat) m.toNat (prodT ((openF (fm f.toNat) a).turn ta) (openF (fm f.toNat) b)) (oneT ((openF (fm f.toNat) c).turn tc))).1, (termS (fm f.toNat) m.toNat (prodT ((openF (fm f.toNat) a).turn ta) (openF (fm f.toNat) b)) (oneT ((openF (fm f.toNat) c).turn tc))).2, 0) else (0, 0, errL f m [a, b, c])
def dotR (f m : Int) (a b c d : Nat) : Nat × Nat × Int :=
  if errL f m [a, b, c, d] = 0 then ((termS (fm f.toNat) m.toNat (prodT (openF (fm f.toNat) a) (openF (fm f.toNat) b)) (prodT (openF (fm f.toNat) c) (openF (fm f.toNat) d))).1, (termS (fm f.toNat) m.toNat (prodT (openF (fm f.toNat) a) (openF (fm f.toNat) b)) (prodT (openF (fm f.toNat) c) (openF (fm f.toNat) d))).2, 0) else (0, 0, errL f m [a, b, c, d])

theorem open_bd (n a : Nat) (t : Bool) : ((openF (fm n) a).turn t).d.n < 2 ^ 55 ∧ -3000 ≤ ((openF (fm n) a).turn t).d.e ∧ ((openF (fm n) a).turn t).d.e ≤ 3000 := by
  have h := opD_lo (fm_ok n) a
  have h2 : (2 : Nat) ^ 53 < 2 ^ 55 := by decide
  have e1 : ((openF (fm n) a).turn t).d.n = (opD (fm n) a).n := by unfold Fl.turn; cases t <;> rfl
  have e2 : ((openF (fm n) a).turn t).d.e = (opD (fm n) a).e := by unfold Fl.turn; cases t <;> rfl
  rw [e1, e2]
  omega

theorem one_tmb (n a : Nat) (t : Bool) : TmB (oneT ((openF (fm n) a).turn t)) := by
  have h := open_bd n a t
  refine ⟨Nat.lt_of_lt_of_le h.1 (by decide), ?_, ?_⟩
  · show -5100 ≤ ((openF (fm n) a).turn t).d.e; omega
  · show ((openF (fm n) a).turn t).d.e ≤ 5100; omega

theorem opD_lo' (n a : Nat) (t : Bool) : -2500 ≤ ((openF (fm n) a).turn t).d.e ∧ ((openF (fm n) a).turn t).d.e ≤ 1100 ∧ ((openF (fm n) a).turn t).d.n < 2 ^ 53 := by
  have h := opD_lo (fm_ok n) a
  have e1 : ((openF (fm n) a).turn t).d.n = (opD (fm n) a).n := by unfold Fl.turn; cases t <;> rfl
  have e2 : ((openF (fm n) a).turn t).d.e = (opD (fm n) a).e := by unfold Fl.turn; cases t <;> rfl
  rw [e1, e2]; exact h

theorem tmb_zero (x : Tm) (h : x.d = ⟨false, 0, 0⟩) : TmB x ∧ -5000 ≤ x.d.e := by
  unfold TmB; rw [h]; exact ⟨⟨by decide, by decide, by decide⟩, by decide⟩

theorem prod_tmb (n a b : Nat) (t : Bool) : TmB (prodT ((openF (fm n) a).turn t) (openF (fm n) b)) ∧ -5000 ≤ (prodT ((openF (fm n) a).turn t) (openF (fm n) b)).d.e := by
  have h := opD_lo' n a t
  have h2 := opD_lo' n b false
  unfold prodT
  split
  · exact tmb_zero _ rfl
  split
  · exact tmb_zero _ rfl
  split
  · exact tmb_zero _ rfl
  · refine ⟨⟨?_, ?_, ?_⟩, ?_⟩
    · show ((openF (fm n) a).turn t).d.n * (openF (fm n) b).d.n < 2 ^ 110
      refine Nat.lt_of_le_of_lt (Nat.mul_le_mul (Nat.le_of_lt h.2.2) (Nat.le_of_lt h2.2.2)) (by decide)
    · show -5100 ≤ ((openF (fm n) a).turn t).d.e + (openF (fm n) b).d.e
      have e : ((openF (fm n) b).turn false).d.e = (openF (fm n) b).d.e := rfl
      omega
    · show ((openF (fm n) a).turn t).d.e + (openF (fm n) b).d.e ≤ 5100
      have e : ((openF (fm n) b).turn false).d.e = (openF (fm n) b).d.e := rfl
      omega
    · show -5000 ≤ ((openF (fm n) a).turn t).d.e + (openF (fm n) b).d.e
      have e : ((openF (fm n) b).turn false).d.e = (openF (fm n) b).d.e := rfl
      omega


set_option maxRecDepth 100000 in
set_option maxHeartbeats 8000000 in
theorem three_any (f m : Int) (a b c : Nat) (ta tc : Bool) (w : World) (ha : a < 18446744073709551616) (hb : b < 18446744073709551616) (hc : c < 18446744073709551616) :
    Calls Tryz.prog 46 #[.int .i64 f, .int .i64 m, .int .u64 a, .int .u64 b, .int .u64 c, .bool ta, .bool tc] w fun e w' => e = .returned (.tuple #[.int .u64 ((threeR f m a b c ta tc).1 : Int), .int .i64 ((threeR f m a b c ta tc).2.1 : Int), .int .i64 (threeR f m a b c ta tc).2.2]) ∧ Below w.heap.size w w' := by
  have hb0 := below1 w (.cells #[.int .u64 a, .int .u64 b, .int .u64 c] 25)
  have bs := Bx.new w #[.int .u64 a, .int .u64 b, .int .u64 c] 25
  have HB := Lib.hid hb0
  have hrf := rfit_any f m w.heap.size [a, b, c] (w.alloc (.cells #[.int .u64 a, .int .u64 b, .int .u64 c] 25)) (by intro x hx; simp at hx; rcases hx with rfl | rfl | rfl <;> assumption) (by simp) (by simp) (by
    intro j hj
    have hj' : j = 0 ∨ j = 1 ∨ j = 2 := by simp at hj; omega
    rcases hj' with rfl | rfl | rfl
    · exact bs.cell 0 rfl
    · exact bs.cell 1 rfl
    · exact bs.cell 2 rfl
    )
  have Hrf := Lib.hid hrf
  obtain ⟨R, hR⟩ : ∃ R, R = threeR f m a b c ta tc := ⟨_, rfl⟩
  rw [← hR]
  unfold threeR at hR
  by_cases he : errL f m [a, b, c] = 0
  rotate_left
  · rw [if_neg he] at hR
    have te : (errL f m [a, b, c] != 0) = true := by simpa using he
    generalize errL f m [a, b, c] = c0 at *
    have HR := Lib.hid hR
    clear hrf hb0 bs he ha hb hc hR
    go_enter Tryz.func46, Tryz.ntmps46
    go_wp2_with fail
    refine Hrf.out.mono ?_
    rintro _ _ ⟨rfl, rfl⟩
    go_wp2_with fail
    refine bodyPost_ret (v := .tuple #[.int .u64 0, .int .i64 0, .int .i64 c0]) (by simp [results, Tryz.results46, go_sem]) rfl ?_
    exact ⟨by rw [HR.out]; rfl, HB.out⟩
  rw [if_pos he] at hR
  have hrf0 := Hrf.out
  rw [he] at hrf0
  have Hrf := Lib.hid hrf0
  obtain ⟨n, k, rfl, hn, rfl, hk, hall⟩ := errL_ok he
  have la := hall a (by simp)
  have lb := hall b (by simp)
  have lc := hall c (by simp)
  simp only [Int.toNat_natCast] at hR
  have Oa := Lib.hid (fun wx => open_fl n a wx hn la)
  have Ob := Lib.hid (fun wx => open_fl n b wx hn lb)
  have Oc := Lib.hid (fun wx => open_fl n c wx hn lc)
  obtain ⟨b1, b2, b3⟩ := open_bd n a ta
  obtain ⟨c1, c2, c3⟩ := open_bd n b false
  have hpt := (prod_tmb n a b ta).1
  have hot := one_tmb n c tc
  have HPd := Lib.hid (fun wx v u hv hu => tprod_any v u ((openF (fm n) a).turn ta) (openF (fm n) b) wx hv hu b1 c1 ⟨b2, b3⟩ ⟨c2, c3⟩)
  have HOn := Lib.hid (fun wx v hv => tone_any v ((openF (fm n) c).turn tc) wx hv)
  have HSm := Lib.hid (fun wx v u hv hu => tsum_any n k v u (prodT ((openF (fm n) a).turn ta) (openF (fm n) b)) (oneT ((openF (fm n) c).turn tc)) wx hn hk hv hu hpt hot)
  obtain ⟨S, hS⟩ : ∃ S, S = termS (fm n) k (prodT ((openF (fm n) a).turn ta) (openF (fm n) b)) (oneT ((openF (fm n) c).turn tc)) := ⟨_, rfl⟩
  rw [← hS] at hR HSm
  have HR := Lib.hid hR
  generalize openF (fm n) a = fa at *
  generalize openF (fm n) b = fb at *
  generalize openF (fm n) c = fc at *
  clear hrf hrf0 hb0 bs he ha hb hc hR hall la lb lc hn hk hS b1 b2 b3 c1 c2 c3 hpt hot
  go_enter Tryz.func46, Tryz.ntmps46
  go_wp2_with fail
  refine Hrf.out.mono ?_
  rintro _ _ ⟨rfl, rfl⟩
  clear Hrf
  generalize w.alloc (.cells #[.int .u64 a, .int .u64 b, .int .u64 c] 25) = W at *
  go_wp2_with fail
  refine (Oa.out _).mono ?_
  rintro _ w1 ⟨A1, k1, rfl, r1, hb⟩
  replace HB := Lib.hid (keep_belowB HB.out hb (by have := HB.out.size; omega))
  have HT1 := Lib.hid (turned_fl fa ta A1 k1 w1 r1)
  clear hb r1 Oa
  go_wp2_with fail
  refine HT1.out.mono ?_
  rintro _ w2 ⟨A2, k2, rfl, r2, hb⟩
  replace HB := Lib.hid (keep_belowB HB.out hb (by have := HB.out.size; omega))
  have R1 := Lib.hid r2
  generalize fa.turn ta = ga at *
  clear hb r2 HT1
  have X1 := Lib.hid (Bx.new w2 (flA ga A2 k2) 91)
  have ha' := below1 w2 (.cells (flA ga A2 k2) 91)
  obtain ⟨U1, hU1⟩ : ∃ g, g = w2.alloc (.cells (flA ga A2 k2) 91) := ⟨_, rfl⟩
  rw [← hU1] at X1 ha'
  unfold flA at hU1
  replace HB := Lib.hid (keep_belowB HB.out ha' (by have := HB.out.size; omega))
  replace R1 := Lib.hid (R1.out.below ha')
  clear ha'
  unfold flA
  go_upto_region 5 with (fail)
  rw [← hU1]
  clear hU1
  go_wp2_with fail
  refine (Ob.out _).mono ?_
  rintro _ w3 ⟨A3, k3, rfl, r3, hb⟩
  replace HB := Lib.hid (keep_belowB HB.out hb (by have := HB.out.size; omega))
  replace R1 := Lib.hid (R1.out.below hb)
  replace X1 := Lib.hid (X1.out.below hb)
  have R2 := Lib.hid r3
  clear hb r3 Ob
  have X2 := Lib.hid (Bx.new w3 (flA fb A3 k3) 91)
  have ha' := below1 w3 (.cells (flA fb A3 k3) 91)
  obtain ⟨U2, hU2⟩ : ∃ g, g = w3.alloc (.cells (flA fb A3 k3) 91) := ⟨_, rfl⟩
  rw [← hU2] at X2 ha'
  unfold flA at hU2
  replace HB := Lib.hid (keep_belowB HB.out ha' (by have := HB.out.size; omega))
  replace R1 := Lib.hid (R1.out.below ha')
  replace R2 := Lib.hid (R2.out.below ha')
  replace X1 := Lib.hid (X1.out.below ha')
  clear ha'
  unfold flA
  go_upto_region 6 with (fail)
  rw [← hU2]
  clear hU2
  go_wp2_with fail
  refine (Oc.out _).mono ?_
  rintro _ w4 ⟨A4, k4, rfl, r4, hb⟩
  replace HB := Lib.hid (keep_belowB HB.out hb (by have := HB.out.size; omega))
  replace R1 := Lib.hid (R1.out.below hb)
  replace R2 := Lib.hid (R2.out.below hb)
  replace X1 := Lib.hid (X1.out.below hb)
  replace X2 := Lib.hid (X2.out.below hb)
  have HT2 := Lib.hid (turned_fl fc tc A4 k4 w4 r4)
  clear hb r4 Oc
  go_wp2_with fail
  refine HT2.out.mono ?_
  rintro _ w5 ⟨A5, k5, rfl, r5, hb⟩
  replace HB := Lib.hid (keep_belowB HB.out hb (by have := HB.out.size; omega))
  replace R1 := Lib.hid (R1.out.below hb)
  replace R2 := Lib.hid (R2.out.below hb)
  replace X1 := Lib.hid (X1.out.below hb)
  replace X2 := Lib.hid (X2.out.below hb)
  have R3 := Lib.hid r5
  generalize fc.turn tc = gc at *
  clear hb r5 HT2
  have X3 := Lib.hid (Bx.new w5 (flA gc A5 k5) 91)
  have ha' := below1 w5 (.cells (flA gc A5 k5) 91)
  obtain ⟨U3, hU3⟩ : ∃ g, g = w5.alloc (.cells (flA gc A5 k5) 91) := ⟨_, rfl⟩
  rw [← hU3] at X3 ha'
  unfold flA at hU3
  replace HB := Lib.hid (keep_belowB HB.out ha' (by have := HB.out.size; omega))
  replace R1 := Lib.hid (R1.out.below ha')
  replace R2 := Lib.hid (R2.out.below ha')
  replace R3 := Lib.hid (R3.out.below ha')
  replace X1 := Lib.hid (X1.out.below ha')
  replace X2 := Lib.hid (X2.out.below ha')
  clear ha'
  unfold flA
  go_upto_region 7 with (fail)
  rw [← hU3]
  clear hU3
  unfold flA at X1 X2 X3
  generalize w2.heap.size = g1 at *
  generalize w3.heap.size = g2 at *
  generalize w5.heap.size = g3 at *
  obtain ⟨p0, p1, p2, p3, p4, p5, p6⟩ := X1.out.seven
  obtain ⟨q0, q1, q2, q3, q4, q5, q6⟩ := X2.out.seven
  obtain ⟨s0, s1, s2, s3, s4, s5, s6⟩ := X3.out.seven
  have HPd' := Lib.hid (fun wx (hb : Below U3.heap.size U3 wx) => HPd.out wx (.agg (flA ga A2 k2)) (.agg (flA fb A3 k3)) ⟨_, _, rfl, R1.out.below hb⟩ ⟨_, _, rfl, R2.out.below hb⟩)
  have HOn' := Lib.hid (fun wx (hb : Below U3.heap.size U3 wx) => HOn.out wx (.agg (flA gc A5 k5)) ⟨_, _, rfl, R3.out.below hb⟩)
  unfold flA at HPd' HOn'
  clear HPd HOn
  go_region_held3 (fun v => v.cell? ⟨g1, 0, none⟩ = some (.bool ga.nan) ∧ v.cell? ⟨g1, 1, none⟩ = some (.bool ga.sig) ∧ v.cell? ⟨g1, 2, none⟩ = some (.bool ga.inf) ∧ v.cell? ⟨g1, 3, none⟩ = some (.bool ga.neg) ∧ v.cell? ⟨g1, 4, none⟩ = some (.bool ga.d.s) ∧ v.cell? ⟨g1, 5, none⟩ = some (.slice A2 (nd 32 ga.d.n) k2) ∧ v.cell? ⟨g1, 6, none⟩ = some (.int .i64 ga.d.e) ∧ v.cell? ⟨g2, 0, none⟩ = some (.bool fb.nan) ∧ v.cell? ⟨g2, 1, none⟩ = some (.bool fb.sig) ∧ v.cell? ⟨g2, 2, none⟩ = some (.bool fb.inf) ∧ v.cell? ⟨g2, 3, none⟩ = some (.bool fb.neg) ∧ v.cell? ⟨g2, 4, none⟩ = some (.bool fb.d.s) ∧ v.cell? ⟨g2, 5, none⟩ = some (.slice A3 (nd 32 fb.d.n) k3) ∧ v.cell? ⟨g2, 6, none⟩ = some (.int .i64 fb.d.e) ∧ v.cell? ⟨g3, 0, none⟩ = some (.bool gc.nan) ∧ v.cell? ⟨g3, 1, none⟩ = some (.bool gc.sig) ∧ v.cell? ⟨g3, 2, none⟩ = some (.bool gc.inf) ∧ v.cell? ⟨g3, 3, none⟩ = some (.bool gc.neg) ∧ v.cell? ⟨g3, 4, none⟩ = some (.bool gc.d.s) ∧ v.cell? ⟨g3, 5, none⟩ = some (.slice A5 (nd 32 gc.d.n) k5) ∧ v.cell? ⟨g3, 6, none⟩ = some (.int .i64 gc.d.e) ∧ Below U3.heap.size U3 v)
    (first | exact ⟨p0, p1, p2, p3, p4, p5, p6, q0, q1, q2, q3, q4, q5, q6, s0, s1, s2, s3, s4, s5, s6, (Below.refl _ _).drew⟩ | exact ⟨keep_cell hb1 p0, keep_cell hb1 p1, keep_cell hb1 p2, keep_cell hb1 p3, keep_cell hb1 p4, keep_cell hb1 p5, keep_cell hb1 p6, keep_cell hb1 q0, keep_cell hb1 q1, keep_cell hb1 q2, keep_cell hb1 q3, keep_cell hb1 q4, keep_cell hb1 q5, keep_cell hb1 q6, keep_cell hb1 s0, keep_cell hb1 s1, keep_cell hb1 s2, keep_cell hb1 s3, keep_cell hb1 s4, keep_cell hb1 s5, keep_cell hb1 s6, keep_below (Below.refl _ _).drew hb1⟩ | ((try go_split_ands); (try dsimp only); refine ⟨keep_cell hb1 ?_, keep_cell hb1 ?_, keep_cell hb1 ?_, keep_cell hb1 ?_, keep_cell hb1 ?_, keep_cell hb1 ?_, keep_cell hb1 ?_, keep_cell hb1 ?_, keep_cell hb1 ?_, keep_cell hb1 ?_, keep_cell hb1 ?_, keep_cell hb1 ?_, keep_cell hb1 ?_, keep_cell hb1 ?_, keep_cell hb1 ?_, keep_cell hb1 ?_, keep_cell hb1 ?_, keep_cell hb1 ?_, keep_cell hb1 ?_, keep_cell hb1 ?_, keep_cell hb1 ?_, keep_below ?_ hb1⟩ <;> assumption))
    ((first | (go_at_call 49; refine (HPd'.out _ ?_).mono ?_; (first | exact (Below.refl _ _).drew | (go_split_ands; assumption)); rintro _ wz ⟨vp, rfl, hvp, hb1⟩) | (go_at_call 71; refine (HOn'.out _ ?_).mono ?_; (go_split_ands; assumption); rintro _ wz ⟨vo, rfl, hvo, hb1⟩; have hvp2 := hvp.belowB hb1 (Nat.le_refl _)) | (go_at_call 51; refine (HSm.out _ _ _ hvp2 hvo).mono ?_; rintro _ wz ⟨rfl, hb1⟩)))
  have hbz : Below U3.heap.size U3 wz := by
    go_split_ands
    assumption
  have HBz := Lib.hid (keep_belowB HB.out hbz (by have := HB.out.size; omega))
  clear hbz hb1 hvp hvo hvp2 HPd' HOn' HSm X1 X2 X3 R1 R2 R3 HB p0 p1 p2 p3 p4 p5 p6 q0 q1 q2 q3 q4 q5 q6 s0 s1 s2 s3 s4 s5 s6
  go_wp2_with fail
  refine bodyPost_ret (v := .tuple #[.int .u64 S.1, .int .i64 S.2, .int .i64 0]) (by simp [results, Tryz.results46, go_sem]) rfl ?_
  exact ⟨by rw [HR.out], HBz.out⟩


set_option maxRecDepth 100000 in
theorem rFma_any (f m : Int) (a b c : Nat) (w : World) (ha : a < 18446744073709551616) (hb : b < 18446744073709551616) (hc : c < 18446744073709551616) :
    Calls Tryz.prog 20 #[.int .i64 f, .int .i64 m, .int .u64 a, .int .u64 b, .int .u64 c] w fun e w' => e = .returned (.tuple #[.int .u64 ((threeR f m a b c false false).1 : Int), .int .i64 ((threeR f m a b c false false).2.1 : Int), .int .i64 (threeR f m a b c false false).2.2]) ∧ Below w.heap.size w w' := by
  have H := Lib.hid (three_any f m a b c false false w ha hb hc)
  generalize threeR f m a b c false false = r at *
  obtain ⟨r1, r2, r3⟩ := r
  clear ha hb hc
  go_enter Tryz.func20, Tryz.ntmps20
  go_wp2_with fail
  refine H.out.mono ?_
  rintro _ w1 ⟨rfl, hb⟩
  go_wp2_with fail
  refine bodyPost_ret (v := .tuple #[.int .u64 r1, .int .i64 r2, .int .i64 r3]) (by simp [results, Tryz.results20, go_sem]) rfl ?_
  exact ⟨rfl, hb⟩

set_option maxRecDepth 100000 in
theorem rFms_any (f m : Int) (a b c : Nat) (w : World) (ha : a < 18446744073709551616) (hb : b < 18446744073709551616) (hc : c < 18446744073709551616) :
    Calls Tryz.prog 22 #[.int .i64 f, .int .i64 m, .int .u64 a, .int .u64 b, .int .u64 c] w fun e w' => e = .returned (.tuple #[.int .u64 ((threeR f m a b c false true).1 : Int), .int .i64 ((threeR f m a b c false true).2.1 : Int), .int .i64 (threeR f m a b c false true).2.2]) ∧ Below w.heap.size w w' := by
  have H := Lib.hid (three_any f m a b c false true w ha hb hc)
  generalize threeR f m a b c false true = r at *
  obtain ⟨r1, r2, r3⟩ := r
  clear ha hb hc
  go_enter Tryz.func22, Tryz.ntmps22
  go_wp2_with fail
  refine H.out.mono ?_
  rintro _ w1 ⟨rfl, hb⟩
  go_wp2_with fail
  refine bodyPost_ret (v := .tuple #[.int .u64 r1, .int .i64 r2, .int .i64 r3]) (by simp [results, Tryz.results22, go_sem]) rfl ?_
  exact ⟨rfl, hb⟩

set_option maxRecDepth 100000 in
theorem rFnma_any (f m : Int) (a b c : Nat) (w : World) (ha : a < 18446744073709551616) (hb : b < 18446744073709551616) (hc : c < 18446744073709551616) :
    Calls Tryz.prog 24 #[.int .i64 f, .int .i64 m, .int .u64 a, .int .u64 b, .int .u64 c] w fun e w' => e = .returned (.tuple #[.int .u64 ((threeR f m a b c true false).1 : Int), .int .i64 ((threeR f m a b c true false).2.1 : Int), .int .i64 (threeR f m a b c true false).2.2]) ∧ Below w.heap.size w w' := by
  have H := Lib.hid (three_any f m a b c true false w ha hb hc)
  generalize threeR f m a b c true false = r at *
  obtain ⟨r1, r2, r3⟩ := r
  clear ha hb hc
  go_enter Tryz.func24, Tryz.ntmps24
  go_wp2_with fail
  refine H.out.mono ?_
  rintro _ w1 ⟨rfl, hb⟩
  go_wp2_with fail
  refine bodyPost_ret (v := .tuple #[.int .u64 r1, .int .i64 r2, .int .i64 r3]) (by simp [results, Tryz.results24, go_sem]) rfl ?_
  exact ⟨rfl, hb⟩

end Go.Proofs.YtdbfkfbncmbfcaaGreatDoor
