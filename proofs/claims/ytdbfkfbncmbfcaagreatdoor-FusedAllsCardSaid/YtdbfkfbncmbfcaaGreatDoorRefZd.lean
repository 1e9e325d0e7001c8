/- The walk of vernierref09.Dot2. Printed by gen/refdot.py. -/
import Derived.Outline
import Derived.Test.YtdbfkfbncmbfcaaGreatDoorRefZ
namespace Go.Proofs.YtdbfkfbncmbfcaaGreatDoor
set_option linter.unusedVariables false
set_option linter.unusedSimpArgs false
open Go.RowKit

theorem tprod_fl (x y : Fl) (A A' : Option Addr) (c c' : Nat) (w : World) (hx : Rd 32 w (.slice A (nd 32 x.d.n) c) x.d.n (nd 32 x.d.n)) (hy : Rd 32 w (.slice A' (nd 32 y.d.n) c') y.d.n (nd 32 y.d.n)) (nx : x.d.n < 2 ^ 55) (ny : y.d.n < 2 ^ 55) (ex : -3000 ≤ x.d.e ∧ x.d.e ≤ 3000) (ey : -3000 ≤ y.d.e ∧ y.d.e ≤ 3000) :
    Calls Tryz.prog 49 #[.agg (flA x A c), .agg (flA y A' c')] w fun e w' => ∃ A2 c2, e = .returned (.agg (tmA (prodT x y) A2 c2)) ∧ Rd 32 w' (.slice A2 (nd 32 (prodT x y).d.n) c2) (prodT x y).d.n (nd 32 (prodT x y).d.n) ∧ Below w.heap.size w w' := by
  refine (tprod_any _ _ x y w ⟨A, c, rfl, hx⟩ ⟨A', c', rfl, hy⟩ nx ny ex ey).mono ?_
  rintro e w' ⟨v, rfl, ⟨A2, c2, rfl, hr⟩, hb⟩
  exact ⟨A2, c2, rfl, hr, hb⟩

set_option maxRecDepth 100000 in
set_option maxHeartbeats 8000000 in
theorem rDot2_any (f m : Int) (a b c d : Nat) (w : World) (ha : a < 18446744073709551616) (hb : b < 18446744073709551616) (hc : c < 18446744073709551616) (hd : d < 18446744073709551616) :
    Calls Tryz.prog 25 #[.int .i64 f, .int .i64 m, .int .u64 a, .int .u64 b, .int .u64 c, .int .u64 d] w fun e w' => e = .returned (.tuple #[.int .u64 ((dotR f m a b c d).1 : Int), .int .i64 ((dotR f m a b c d).2.1 : Int), .int .i64 (dotR f m a b c d).2.2]) ∧ Below w.heap.size w w' := by
  have hb0 := below1 w (.cells #[.int .u64 a, .int .u64 b, .int .u64 c, .int .u64 d] 25)
  have bs := Bx.new w #[.int .u64 a, .int .u64 b, .int .u64 c, .int .u64 d] 25
  have HB := Lib.hid hb0
  have hrf := rfit_any f m w.heap.size [a, b, c, d] (w.alloc (.cells #[.int .u64 a, .int .u64 b, .int .u64 c, .int .u64 d] 25)) (by intro x hx; simp at hx; rcases hx with rfl | rfl | rfl | rfl <;> assumption) (by simp) (by simp) (by
    intro j hj
    have hj' : j = 0 ∨ j = 1 ∨ j = 2 ∨ j = 3 := by simp at hj; omega
    rcases hj' with rfl | rfl | rfl | rfl
    · exact bs.cell 0 rfl
    · exact bs.cell 1 rfl
    · exact bs.cell 2 rfl
    · exact bs.cell 3 rfl
    )
  have Hrf := Lib.hid hrf
  obtain ⟨R, hR⟩ : ∃ R, R = dotR f m a b c d := ⟨_, rfl⟩
  rw [← hR]
  unfold dotR at hR
  by_cases he : errL f m [a, b, c, d] = 0
  rotate_left
  · rw [if_neg he] at hR
    have te : (errL f m [a, b, c, d] != 0) = true := by simpa using he
    generalize errL f m [a, b, c, d] = c0 at *
    have HR := Lib.hid hR
    clear hrf hb0 bs he ha hb hc hd hR
    go_enter Tryz.func25, Tryz.ntmps25
    go_wp2_with fail
    refine Hrf.out.mono ?_
    rintro _ _ ⟨rfl, rfl⟩
    go_wp2_with fail
    refine bodyPost_ret (v := .tuple #[.int .u64 0, .int .i64 0, .int .i64 c0]) (by simp [results, Tryz.results25, go_sem]) rfl ?_
    exact ⟨by rw [HR.out]; rfl, HB.out⟩
  rw [if_pos he] at hR
  have hrf0 := Hrf.out
  rw [he] at hrf0
  have Hrf := Lib.hid hrf0
  obtain ⟨n, k, rfl, hn, rfl, hk, hall⟩ := errL_ok he
  have la := hall a (by simp)
  have lb := hall b (by simp)
  have lc := hall c (by simp)
  have ld := hall d (by simp)
  simp only [Int.toNat_natCast] at hR
  have Oa := Lib.hid (fun wx => open_fl n a wx hn la)
  have Ob := Lib.hid (fun wx => open_fl n b wx hn lb)
  have Oc := Lib.hid (fun wx => open_fl n c wx hn lc)
  have Od := Lib.hid (fun wx => open_fl n d wx hn ld)
  obtain ⟨a1, a2, a3⟩ := open_bd n a false
  obtain ⟨b1, b2, b3⟩ := open_bd n b false
  obtain ⟨c1, c2, c3⟩ := open_bd n c false
  obtain ⟨d1, d2, d3⟩ := open_bd n d false
  have hpt : TmB (prodT (openF (fm n) a) (openF (fm n) b)) := (prod_tmb n a b false).1
  have hqt : TmB (prodT (openF (fm n) c) (openF (fm n) d)) := (prod_tmb n c d false).1
  have HP1 := Lib.hid (fun A A' c' c'' wx hv hu => tprod_fl (openF (fm n) a) (openF (fm n) b) A A' c' c'' wx hv hu a1 b1 ⟨a2, a3⟩ ⟨b2, b3⟩)
  have HP2 := Lib.hid (fun A A' c' c'' wx hv hu => tprod_fl (openF (fm n) c) (openF (fm n) d) A A' c' c'' wx hv hu c1 d1 ⟨c2, c3⟩ ⟨d2, d3⟩)
  have HSm := Lib.hid (fun wx v u hv hu => tsum_any n k v u (prodT (openF (fm n) a) (openF (fm n) b)) (prodT (openF (fm n) c) (openF (fm n) d)) wx hn hk hv hu hpt hqt)
  obtain ⟨S, hS⟩ : ∃ S, S = termS (fm n) k (prodT (openF (fm n) a) (openF (fm n) b)) (prodT (openF (fm n) c) (openF (fm n) d)) := ⟨_, rfl⟩
  rw [← hS] at hR HSm
  have HR := Lib.hid hR
  generalize openF (fm n) a = fa at *
  generalize openF (fm n) b = fb at *
  generalize openF (fm n) c = fc at *
  generalize openF (fm n) d = fd at *
  generalize prodT fa fb = t1 at *
  generalize prodT fc fd = t2 at *
  clear hrf hrf0 hb0 bs he ha hb hc hd hR hall la lb lc ld hn hk hS a1 a2 a3 b1 b2 b3 c1 c2 c3 d1 d2 d3 hpt hqt
  go_enter Tryz.func25, Tryz.ntmps25
  go_wp2_with fail
  refine Hrf.out.mono ?_
  rintro _ _ ⟨rfl, rfl⟩
  clear Hrf
  generalize w.alloc (.cells #[.int .u64 a, .int .u64 b, .int .u64 c, .int .u64 d] 25) = W at *
  go_wp2_with fail
  refine (Oa.out _).mono ?_
  rintro _ v1p ⟨A1p, k1p, rfl, r1, hb⟩
  replace HB := Lib.hid (keep_belowB HB.out hb (by have := HB.out.size; omega))
  have R1 := Lib.hid r1
  clear hb r1 Oa
  go_wp2_with fail
  refine (Ob.out _).mono ?_
  rintro _ v2p ⟨A2p, k2p, rfl, r2, hb⟩
  replace HB := Lib.hid (keep_belowB HB.out hb (by have := HB.out.size; omega))
  replace R1 := Lib.hid (R1.out.below hb)
  have R2 := Lib.hid r2
  clear hb r2 Ob
  have HPx := Lib.hid (HP1.out A1p A2p k1p k2p v2p R1.out R2.out)
  clear HP1 R1 R2
  go_wp2_with fail
  refine HPx.out.mono ?_
  rintro _ v3p ⟨A3p, k3p, rfl, r3, hb⟩
  replace HB := Lib.hid (keep_belowB HB.out hb (by have := HB.out.size; omega))
  have Rp := Lib.hid r3
  clear hb r3 HPx
  have Xp := Lib.hid (Bx.new v3p (tmA t1 A3p k3p) 88)
  have ha' := below1 v3p (.cells (tmA t1 A3p k3p) 88)
  obtain ⟨Up, hUp⟩ : ∃ g, g = v3p.alloc (.cells (tmA t1 A3p k3p) 88) := ⟨_, rfl⟩
  rw [← hUp] at Xp ha'
  unfold tmA at hUp
  replace HB := Lib.hid (keep_belowB HB.out ha' (by have := HB.out.size; omega))
  replace Rp := Lib.hid (Rp.out.below ha')
  clear ha'
  unfold tmA
  go_upto_region 5 with (fail)
  rw [← hUp]
  clear hUp
  unfold tmA at Xp
  go_wp2_with fail
  refine (Oc.out _).mono ?_
  rintro _ v1q ⟨A1q, k1q, rfl, r1, hb⟩
  replace HB := Lib.hid (keep_belowB HB.out hb (by have := HB.out.size; omega))
  have R1 := Lib.hid r1
  replace Rp := Lib.hid (Rp.out.below hb)
  replace Xp := Lib.hid (Xp.out.below hb)
  clear hb r1 Oc
  go_wp2_with fail
  refine (Od.out _).mono ?_
  rintro _ v2q ⟨A2q, k2q, rfl, r2, hb⟩
  replace HB := Lib.hid (keep_belowB HB.out hb (by have := HB.out.size; omega))
  replace R1 := Lib.hid (R1.out.below hb)
  have R2 := Lib.hid r2
  replace Rp := Lib.hid (Rp.out.below hb)
  replace Xp := Lib.hid (Xp.out.below hb)
  clear hb r2 Od
  have HPx := Lib.hid (HP2.out A1q A2q k1q k2q v2q R1.out R2.out)
  clear HP2 R1 R2
  go_wp2_with fail
  refine HPx.out.mono ?_
  rintro _ v3q ⟨A3q, k3q, rfl, r3, hb⟩
  replace HB := Lib.hid (keep_belowB HB.out hb (by have := HB.out.size; omega))
  have Rq := Lib.hid r3
  replace Rp := Lib.hid (Rp.out.below hb)
  replace Xp := Lib.hid (Xp.out.below hb)
  clear hb r3 HPx
  have Xq := Lib.hid (Bx.new v3q (tmA t2 A3q k3q) 88)
  have ha' := below1 v3q (.cells (tmA t2 A3q k3q) 88)
  obtain ⟨Uq, hUq⟩ : ∃ g, g = v3q.alloc (.cells (tmA t2 A3q k3q) 88) := ⟨_, rfl⟩
  rw [← hUq] at Xq ha'
  unfold tmA at hUq
  replace HB := Lib.hid (keep_belowB HB.out ha' (by have := HB.out.size; omega))
  replace Rq := Lib.hid (Rq.out.below ha')
  replace Rp := Lib.hid (Rp.out.below ha')
  replace Xp := Lib.hid (Xp.out.below ha')
  clear ha'
  unfold tmA
  go_upto_region 6 with (fail)
  rw [← hUq]
  clear hUq
  unfold tmA at Xq
  obtain ⟨p0, p1, p2, p3, p4, p5, p6, p7⟩ := Xp.out.eight
  obtain ⟨q0, q1, q2, q3, q4, q5, q6, q7⟩ := Xq.out.eight
  have HSx := Lib.hid (HSm.out Uq (.agg (tmA t1 A3p k3p)) (.agg (tmA t2 A3q k3q)) ⟨_, _, rfl, Rp.out⟩ ⟨_, _, rfl, Rq.out⟩)
  unfold tmA at HSx
  clear HSm Rp Rq Xp Xq
  go_wp2_with fail
  refine HSx.out.mono ?_
  rintro _ wz ⟨rfl, hb⟩
  replace HB := Lib.hid (keep_belowB HB.out hb (by have := HB.out.size; omega))
  clear hb HSx p0 p1 p2 p3 p4 p5 p6 p7 q0 q1 q2 q3 q4 q5 q6 q7
  go_wp2_with fail
  refine bodyPost_ret (v := .tuple #[.int .u64 S.1, .int .i64 S.2, .int .i64 0]) (by simp [results, Tryz.results25, go_sem]) rfl ?_
  exact ⟨by rw [HR.out], HB.out⟩

end Go.Proofs.YtdbfkfbncmbfcaaGreatDoor
