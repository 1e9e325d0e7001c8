/- The walk of FusedModes. Printed by gen/fusm.py. -/
import Derived.BigQuiet
import Derived.Deep.QuietTactic
import Derived.Deep.LoopGhost
import Derived.Test.YtcgceigmglikpaaDoorFusK
namespace Go.Proofs.YtcgceigmglikpaaDoor
set_option linter.unusedVariables false
set_option linter.unusedSimpArgs false
open Go.RowKit

section
variable {F : Fm}
theorem fin_nan {a : Nat} (h : F.abs a < F.inf) : F.isNan a = false ∧ F.isInf a = false := by
  unfold Fm.isNan Fm.isInf
  simp
  omega
theorem prodZ_fin {a b : Nat} (fa : F.abs a < F.inf) (fb : F.abs b < F.inf) : (prodZ F a b).sig = false ∧ (prodZ F a b).inv = false ∧ (prodZ F a b).nan = false ∧ (prodZ F a b).inf = false := by
  obtain ⟨n1, i1⟩ := fin_nan fa
  obtain ⟨n2, i2⟩ := fin_nan fb
  unfold prodZ
  simp [n1, n2, i1, i2, sig_nan]
theorem oneZ_fin {a : Nat} (fa : F.abs a < F.inf) : (oneZ F a).sig = false ∧ (oneZ F a).inv = false ∧ (oneZ F a).nan = false ∧ (oneZ F a).inf = false := by
  obtain ⟨n1, i1⟩ := fin_nan fa
  unfold oneZ
  simp [n1, i1, sig_nan]
end

theorem flag_bits {k : Nat} (h : k = 0 ∨ k = 16 ∨ k = 20 ∨ k = 24) : (bits .and .i64 (k : Int) 16 == 0) = ((k : Int) == 0) ∧ (bits .and .i64 (k : Int) 3 != 0) = false := by
  rcases h with rfl | rfl | rfl | rfl <;> exact ⟨by decide +kernel, by decide +kernel⟩

theorem rankZ_bd (n : Nat) (z : Nat) : -9223372036854775808 < rankZ (fm n) z ∧ rankZ (fm n) z < 9223372036854775808 := by
  have h1 := abs_lt (F := fm n) z
  have h2 : (2 : Nat) ^ ((fm n).w - 1) ≤ 2 ^ 63 := Nat.pow_le_pow_right (by decide) (by have := (fm_ok n).w64; omega)
  unfold rankZ sI
  split <;> omega

set_option maxRecDepth 100000 in
set_option maxHeartbeats 32000000 in
theorem modes_any (f m : Int) (a b c d : Nat) (w : World) (hf : -9223372036854775808 ≤ f ∧ f ≤ 9223372036854775807) (hm : -9223372036854775808 ≤ m ∧ m ≤ 9223372036854775807) (ha : a < 18446744073709551616) (hb : b < 18446744073709551616) (hc : c < 18446744073709551616) (hd : d < 18446744073709551616) (hG : Gl w) (hR : GlR w) :
    Calls Tryd.prog 11 #[.agg (fourA f m a b c d)] w fun e w' => e = .returned (.bool true) ∧ Below w.heap.size w w' := by
  have hst := fun wx => four_start f m a b c d wx hf hm ha hb hc hd
  have hb0 := below1 w (.cells (fourA f m a b c d) 68)
  have hx := Bx.new w (fourA f m a b c d) 68
  obtain ⟨W, hW⟩ : ∃ W, W = w.alloc (.cells (fourA f m a b c d) 68) := ⟨_, rfl⟩
  rw [← hW] at hb0 hx
  have HS := Lib.hid (show St w.heap.size w w.heap.size (fourA f m a b c d) W from ⟨hb0, hG.below hb0, hR.below hb0, hx⟩)
  have HGB := Lib.hid (fun (u : World) (h : Below w.heap.size w u) => hG.below h)
  have HRB := Lib.hid (fun (u : World) (h : Below w.heap.size w u) => hR.below h)
  have Hst := Lib.hid hst
  clear hst hb0 hx hG hR hf hm ha hb hc hd
  unfold fourA at hW HS Hst
  unfold fourA
  go_enter Tryd.func11, Tryd.ntmps11
  go_upto_region 1 with (fail)
  rw [← hW]
  clear hW
  go_wp2_with fail
  refine (fawake_any W HS.out.gl HS.out.glr).mono ?_
  rintro _ w1 ⟨rfl, hb1⟩
  replace HS := Lib.hid (HS.out.below hb1 (Nat.le_refl _))
  clear hb1
  obtain ⟨k0, k1, k2, k3, k4, k5⟩ := HS.out.bx.six
  have xf : ∀ j, w1.frozen? ⟨w.heap.size, j, none⟩ = false := fun j => HS.out.bx.free j
  go_wp2_with fail
  refine (Hst.out w1).mono ?_
  rintro _ w2 ⟨n, k, a, b, c, d, hin, rfl, hb2⟩
  replace HS := Lib.hid (HS.out.below hb2 (Nat.le_refl _))
  clear hb2 k0 k1 k2 k3 k4 k5 xf Hst
  have HI := Lib.hid hin
  clear hin
  obtain ⟨k0, k1, k2, k3, k4, k5⟩ := HS.out.bx.six
  have xf : ∀ j, w2.frozen? ⟨w.heap.size, j, none⟩ = false := fun j => HS.out.bx.free j
  go_upto_region 4 with (fail)
  replace HS := Lib.hid (HS.out.set6 HGB.out HRB.out (.int .i64 n) (.int .i64 k) (.int .u64 a) (.int .u64 b) (.int .u64 c) (.int .u64 d))
  clear k0 k1 k2 k3 k4 k5 xf
  generalize (((((w2.setCell ⟨w.heap.size, 0, none⟩ (.int .i64 n)).setCell ⟨w.heap.size, 1, none⟩ (.int .i64 k)).setCell ⟨w.heap.size, 2, none⟩ (.int .u64 a)).setCell ⟨w.heap.size, 3, none⟩ (.int .u64 b)).setCell ⟨w.heap.size, 4, none⟩ (.int .u64 c)).setCell ⟨w.heap.size, 5, none⟩ (.int .u64 d) = W3 at *
  obtain ⟨k0, k1, k2, k3, k4, k5⟩ := HS.out.bx.six
  obtain ⟨hn, hk, hal, hbl, hcl, hdl⟩ := HI.out
  have ok := fm_ok n
  have qa := fun wx => lfinite_ok n a wx hn hal
  have Qa := Lib.hid qa
  have qb := fun wx => lfinite_ok n b wx hn hbl
  have Qb := Lib.hid qb
  have qc := fun wx => lfinite_ok n c wx hn hcl
  have Qc := Lib.hid qc
  clear qa qb qc
  have HN := Lib.hid (And.intro hn (And.intro hk (And.intro hal (And.intro hbl (And.intro hcl hdl)))))
  clear hn hk hal hbl hcl hdl ok HI
  by_cases fa : (fm n).abs a < (fm n).inf
  rotate_left
  · have q := Qa.out
    rw [decide_eq_false fa] at q
    have Q := Lib.hid q
    clear q fa
    go_wp2_with fail
    refine (Q.out _).mono ?_
    rintro _ wq ⟨rfl, hb⟩
    replace HS := Lib.hid (HS.out.below hb (Nat.le_refl _))
    clear hb k0 k1 k2 k3 k4 k5 Q
    go_wp2_with fail
    go_ret
    exact ⟨rfl, HS.out.bl⟩
  have q := Qa.out
  rw [decide_eq_true fa] at q
  have Q := Lib.hid q
  have Fa := Lib.hid fa
  clear q fa Qa
  go_wp2_with fail
  refine (Q.out _).mono ?_
  rintro _ W4 ⟨rfl, hb⟩
  replace HS := Lib.hid (HS.out.below hb (Nat.le_refl _))
  clear hb k0 k1 k2 k3 k4 k5 Q
  obtain ⟨k0, k1, k2, k3, k4, k5⟩ := HS.out.bx.six
  by_cases fb : (fm n).abs b < (fm n).inf
  rotate_left
  · have q := Qb.out
    rw [decide_eq_false fb] at q
    have Q := Lib.hid q
    clear q fb Fa
    go_wp2_with fail
    refine (Q.out _).mono ?_
    rintro _ wq ⟨rfl, hb⟩
    replace HS := Lib.hid (HS.out.below hb (Nat.le_refl _))
    clear hb k0 k1 k2 k3 k4 k5 Q
    go_wp2_with fail
    go_ret
    exact ⟨rfl, HS.out.bl⟩
  have q := Qb.out
  rw [decide_eq_true fb] at q
  have Q := Lib.hid q
  have Fb := Lib.hid fb
  clear q fb Qb
  go_wp2_with fail
  refine (Q.out _).mono ?_
  rintro _ W4 ⟨rfl, hb⟩
  replace HS := Lib.hid (HS.out.below hb (Nat.le_refl _))
  clear hb k0 k1 k2 k3 k4 k5 Q
  obtain ⟨k0, k1, k2, k3, k4, k5⟩ := HS.out.bx.six
  by_cases fc : (fm n).abs c < (fm n).inf
  rotate_left
  · have q := Qc.out
    rw [decide_eq_false fc] at q
    have Q := Lib.hid q
    clear q fc Fa Fb
    go_wp2_with fail
    refine (Q.out _).mono ?_
    rintro _ wq ⟨rfl, hb⟩
    replace HS := Lib.hid (HS.out.below hb (Nat.le_refl _))
    clear hb k0 k1 k2 k3 k4 k5 Q
    go_wp2_with fail
    go_ret
    exact ⟨rfl, HS.out.bl⟩
  have q := Qc.out
  rw [decide_eq_true fc] at q
  have Q := Lib.hid q
  have Fc := Lib.hid fc
  clear q fc Qc
  go_wp2_with fail
  refine (Q.out _).mono ?_
  rintro _ W4 ⟨rfl, hb⟩
  replace HS := Lib.hid (HS.out.below hb (Nat.le_refl _))
  clear hb k0 k1 k2 k3 k4 k5 Q
  obtain ⟨k0, k1, k2, k3, k4, k5⟩ := HS.out.bx.six
  obtain ⟨hn, hk, hal, hbl, hcl, hdl⟩ := HN.out
  have ok := fm_ok n
  have fa := Fa.out
  have fb := Fb.out
  have fc := Fc.out
  clear HN Fa Fb Fc
  have hx := prodZ_fin fa fb
  have hy := oneZ_fin fc
  have mf := fun m => modes_fin ok hx hy m
  have vl := fun m => fuseZ_lt ok m (prodZ (fm n) a b) (oneZ (fm n) c)
  simp only [← fmaZ ok] at mf vl
  have cm := fun (m : Nat) (h : m ≤ 5) wx h1 h2 => lfma_ok n m a b c d wx hn h hal hbl hcl hdl h1 h2
  have cn := fun z (h : z < 2 ^ (fm n).w) wx => lnan_ok n z wx hn h
  have cr := fun z (h : z < 2 ^ (fm n).w) wx => rank_ok n z wx hn h
  have cb := fun z (h : z < 2 ^ (fm n).w) wx => lrank_ok n z wx hn h
  have rb := fun z => rankZ_bd n z
  unfold fourA at cm
  obtain ⟨rk, hrk⟩ : ∃ f, f = rankZ (fm n) := ⟨_, rfl⟩
  obtain ⟨nb, hnb⟩ : ∃ f, f = (fm n).isNan := ⟨_, rfl⟩
  have hrk' : rankS (fm n) = rk := by rw [hrk]; rfl
  rw [hrk'] at cr
  rw [← hrk] at cb rb
  simp only [← hrk, ← hnb] at mf
  rw [← hnb] at cn
  obtain ⟨xf, hxf⟩ : ∃ f : Nat → Nat, f = fun m => (fmaS (fm n) m a b c).1 := ⟨_, rfl⟩
  obtain ⟨gf, hgf⟩ : ∃ f : Nat → Nat, f = fun m => (fmaS (fm n) m a b c).2 := ⟨_, rfl⟩
  have ex : ∀ m, (fmaS (fm n) m a b c).1 = xf m := fun m => by rw [hxf]
  have eg : ∀ m, (fmaS (fm n) m a b c).2 = gf m := fun m => by rw [hgf]
  simp only [ex, eg] at mf vl cm
  have CM := Lib.hid cm
  have CN := Lib.hid (fun z h wx => cn z h wx)
  have CR := Lib.hid cr
  have CB := Lib.hid cb
  have MF := Lib.hid mf
  have VL := Lib.hid vl
  have RB := Lib.hid rb
  obtain ⟨lo, hlo⟩ : ∃ z, z = xf 4 := ⟨_, rfl⟩
  obtain ⟨hi, hhi⟩ : ∃ z, z = xf 3 := ⟨_, rfl⟩
  obtain ⟨g, hg⟩ : ∃ z, z = gf 4 := ⟨_, rfl⟩
  obtain ⟨h, hh⟩ : ∃ z, z = gf 3 := ⟨_, rfl⟩
  have c4 := fun wx h1 h2 => cm 4 (by decide) wx h1 h2
  have c3 := fun wx h1 h2 => cm 3 (by decide) wx h1 h2
  rw [← hlo, ← hg] at c4
  rw [← hhi, ← hh] at c3
  have C4 := Lib.hid c4
  have C3 := Lib.hid c3
  have m4 := mf 4
  have m3 := mf 3
  rw [← hhi, ← hlo, ← hg] at m4
  rw [← hhi, ← hh, ← hg] at m3
  have lol := (vl 4).1
  have hil := (vl 3).1
  rw [← hlo] at lol
  rw [← hhi] at hil
  have nlo := fun wx => cn lo lol wx
  have nhi := fun wx => cn hi hil wx
  rw [m4.1] at nlo
  rw [m3.1] at nhi
  have NLO := Lib.hid nlo
  have NHI := Lib.hid nhi
  have rq := fun z (hz : z = lo ∨ z = hi) wx => cr z (by rcases hz with rfl | rfl; exact lol; exact hil) wx
  have RQ := Lib.hid rq
  have ez : ((h : Int) == 0) = ((g : Int) == 0) := by
    have := m3.2.2.2.1
    rw [Bool.eq_iff_iff]
    simp
    exact this
  have gap := m4.2.2.2.2.1
  have rb1 := rb lo
  have rb2 := rb hi
  have HLO := Lib.hid hlo
  have HHI := Lib.hid hhi
  have HGF := Lib.hid hg
  have LOL := Lib.hid lol
  have HIL := Lib.hid hil
  have M4 := Lib.hid m4.2.2.2.2.2
  have hw : wrap64 (rk hi - rk lo) = if g = 0 then 0 else 1 := by
    rw [gap]; split <;> (unfold wrap64; omega)
  have HW := Lib.hid hw
  have EZ := Lib.hid ez
  clear hx hy mf vl cm cn cr cb rb hrk hnb hrk' hxf hgf ex eg hlo hhi hg hh c4 c3 m4 m3 lol hil nlo nhi rq gap rb1 rb2 hw ez hn hk hal hbl hcl hdl ok fa fb fc
  have xz : ∀ j, W4.frozen? ⟨w.heap.size, j, none⟩ = false := fun j => HS.out.bx.free j
  go_upto_region 7 with (fail)
  replace HS := Lib.hid (HS.out.put1 HGB.out HRB.out (.int .i64 4))
  clear k0 k1 k2 k3 k4 k5 xz
  generalize W4.setCell ⟨w.heap.size, 1, none⟩ (.int .i64 4) = W5 at *
  obtain ⟨k0, k1, k2, k3, k4, k5⟩ := HS.out.bx.six
  go_wp2_with fail
  refine (C4.out _ HS.out.gl HS.out.glr).mono ?_
  rintro _ W6 ⟨rfl, hb⟩
  replace HS := Lib.hid (HS.out.below hb (Nat.le_refl _))
  clear hb k0 k1 k2 k3 k4 k5 C4
  obtain ⟨k0, k1, k2, k3, k4, k5⟩ := HS.out.bx.six
  have xz : ∀ j, W6.frozen? ⟨w.heap.size, j, none⟩ = false := fun j => HS.out.bx.free j
  go_upto_region 9 with (fail)
  replace HS := Lib.hid (HS.out.put1 HGB.out HRB.out (.int .i64 3))
  clear k0 k1 k2 k3 k4 k5 xz
  generalize W6.setCell ⟨w.heap.size, 1, none⟩ (.int .i64 3) = W7 at *
  obtain ⟨k0, k1, k2, k3, k4, k5⟩ := HS.out.bx.six
  go_wp2_with fail
  refine (C3.out _ HS.out.gl HS.out.glr).mono ?_
  rintro _ W8 ⟨rfl, hb⟩
  replace HS := Lib.hid (HS.out.below hb (Nat.le_refl _))
  clear hb k0 k1 k2 k3 k4 k5 C3
  obtain ⟨k0, k1, k2, k3, k4, k5⟩ := HS.out.bx.six
  go_wp2_with fail
  refine (NLO.out _).mono ?_
  rintro _ W9 ⟨rfl, hb⟩
  replace HS := Lib.hid (HS.out.below hb (Nat.le_refl _))
  clear hb k0 k1 k2 k3 k4 k5 NLO
  obtain ⟨k0, k1, k2, k3, k4, k5⟩ := HS.out.bx.six
  have ez := EZ.out
  go_wp2_with fail
  refine (NHI.out _).mono ?_
  rintro _ W10 ⟨rfl, hb⟩
  replace HS := Lib.hid (HS.out.below hb (Nat.le_refl _))
  clear hb k0 k1 k2 k3 k4 k5 NHI
  obtain ⟨k0, k1, k2, k3, k4, k5⟩ := HS.out.bx.six
  go_upto_region 12 with (fail)
  go_quiet ((go_at_call 42; refine quiet_eq (RQ.out _ ?_ _); (first | exact Or.inl rfl | exact Or.inr rfl)))
  have HS2 := Lib.hid (show St w.heap.size w w.heap.size _ (W10.drewN nq) from ⟨below_drewN HS.out.bl nq, HS.out.gl, HS.out.glr, HS.out.bx⟩)
  clear HS k0 k1 k2 k3 k4 k5 RQ
  rw [HW.out]
  by_cases g0 : g = 0
  · have e1 : ((g : Int) == 0) = true := by simpa using g0
    have e2 : ((g : Int) != 0) = false := by simpa using g0
    rw [if_pos g0, e1]
    have G0 := Lib.hid g0
    clear g0 HW ez EZ
    go_upto_region 15 with (fail)
    generalize W10.drewN nq = W11 at *
    go_wp2_with fail
    go_loopw [10] (fun v wr => ∃ j : Nat, j ≤ 6 ∧ v = .int .i64 j ∧ ∃ u : Int, St w.heap.size w w.heap.size #[.int .i64 n, .int .i64 u, .int .u64 a, .int .u64 b, .int .u64 c, .int .u64 d] wr) (fun v _ => 6 - (intOf v).toNat)
    case atStart => exact ⟨0, by decide, rfl, 3, HS2.out⟩
    case round =>
      obtain ⟨j, hj, rfl, u, hS⟩ := hrel
      by_cases hj6 : j < 6
      · have cj := fun wx h1 h2 => CM.out j (by omega) wx h1 h2
        obtain ⟨x, hx⟩ : ∃ x, x = xf j := ⟨_, rfl⟩
        obtain ⟨k', hk'⟩ : ∃ x, x = gf j := ⟨_, rfl⟩
        rw [← hx, ← hk'] at cj
        have mj := MF.out j
        rw [← hx, ← hk', ← HLO.out, ← HHI.out, ← HGF.out] at mj
        have xl := (VL.out j).1
        rw [← hx] at xl
        obtain ⟨p1, p2, p3, p4, p5, p6⟩ := mj
        have t1 : decide (rk x < rk lo) = false := by rw [decide_eq_false_iff_not]; omega
        have t2 : decide (rk x > rk hi) = false := by rw [decide_eq_false_iff_not]; omega
        obtain ⟨b1, b2⟩ := flag_bits p6
        have kz : ((k' : Int) == 0) = true := by
          have g0 := G0.out
          rw [beq_iff_eq]
          omega
        have kz2 : ((k' : Int) != 0) = false := by
          have g0 := G0.out
          rw [bne_eq_false_iff_eq]
          omega
        rw [kz] at b1
        have hx3 := fun z (hz : z = x ∨ z = lo ∨ z = hi) wx => CB.out z (by rcases hz with rfl | rfl | rfl; exact xl; exact LOL.out; exact HIL.out) wx
        have hnx := fun wx => CN.out x xl wx
        rw [p1] at hnx
        have CX := Lib.hid hx3
        have NX := Lib.hid hnx
        have CJ := Lib.hid cj
        have HSr := Lib.hid hS
        clear hx hk' xl p1 p2 p3 p4 p5 p6 hx3 hnx cj hS HS2
        obtain ⟨k0, k1, k2, k3, k4, k5⟩ := HSr.out.bx.six
        have xz : ∀ j, wr.frozen? ⟨w.heap.size, j, none⟩ = false := fun j => HSr.out.bx.free j
        go_upto_region 19 with (fail)
        replace HSr := Lib.hid (HSr.out.put1 HGB.out HRB.out (.int .i64 j))
        clear k0 k1 k2 k3 k4 k5 xz
        generalize wr.setCell ⟨w.heap.size, 1, none⟩ (.int .i64 j) = V1 at *
        obtain ⟨k0, k1, k2, k3, k4, k5⟩ := HSr.out.bx.six
        go_wp2_with fail
        refine (CJ.out _ HSr.out.gl HSr.out.glr).mono ?_
        rintro _ V2 ⟨rfl, hb⟩
        replace HSr := Lib.hid (HSr.out.below hb (Nat.le_refl _))
        clear hb k0 k1 k2 k3 k4 k5 CJ
        obtain ⟨k0, k1, k2, k3, k4, k5⟩ := HSr.out.bx.six
        go_upto_region 20 with (fail)
        go_region_held3 (fun v => v.cell? ⟨w.heap.size, 0, none⟩ = some (.int .i64 n) ∧ Below V2.heap.size V2 v)
          (first | exact ⟨k0, (Below.refl _ _).drew⟩ | exact ⟨keep_cell hb1 k0, keep_below (Below.refl _ _).drew hb1⟩ | ((try go_split_ands); (try dsimp only); refine ⟨keep_cell hb1 ?_, keep_below ?_ hb1⟩ <;> assumption))
          ((first | (go_at_call 44; refine (NX.out _).mono ?_; rintro _ wz ⟨rfl, hb1⟩) | (go_at_call 42; refine (CX.out _ ?_ _).mono ?_; (first | exact Or.inl rfl | exact Or.inr (Or.inl rfl) | exact Or.inr (Or.inr rfl)); rintro _ wz ⟨rfl, hb1⟩)))
        rename_i hHold
        replace HSr := Lib.hid (HSr.out.below hHold.2 (Nat.le_refl _))
        clear hHold hb1 k0 k1 k2 k3 k4 k5 CX NX
        go_wp2_with fail
        go_roundw
        case rel => exact ⟨j + 1, by omega, by go_num, j, HSr.out⟩
        case measure => simp [intOf]; omega
      · have hS' := Lib.hid hS
        clear hS HS2
        go_wp2_with fail
        go_ret
        exact ⟨rfl, hS'.out.bl⟩
  · have e1 : ((g : Int) == 0) = false := by simpa using g0
    have e2 : ((g : Int) != 0) = true := by simpa using g0
    rw [if_neg g0, e1]
    have G0 := Lib.hid g0
    clear g0 HW ez EZ
    go_upto_region 15 with (fail)
    generalize W10.drewN nq = W11 at *
    go_wp2_with fail
    go_loopw [10] (fun v wr => ∃ j : Nat, j ≤ 6 ∧ v = .int .i64 j ∧ ∃ u : Int, St w.heap.size w w.heap.size #[.int .i64 n, .int .i64 u, .int .u64 a, .int .u64 b, .int .u64 c, .int .u64 d] wr) (fun v _ => 6 - (intOf v).toNat)
    case atStart => exact ⟨0, by decide, rfl, 3, HS2.out⟩
    case round =>
      obtain ⟨j, hj, rfl, u, hS⟩ := hrel
      by_cases hj6 : j < 6
      · have cj := fun wx h1 h2 => CM.out j (by omega) wx h1 h2
        obtain ⟨x, hx⟩ : ∃ x, x = xf j := ⟨_, rfl⟩
        obtain ⟨k', hk'⟩ : ∃ x, x = gf j := ⟨_, rfl⟩
        rw [← hx, ← hk'] at cj
        have mj := MF.out j
        rw [← hx, ← hk', ← HLO.out, ← HHI.out, ← HGF.out] at mj
        have xl := (VL.out j).1
        rw [← hx] at xl
        obtain ⟨p1, p2, p3, p4, p5, p6⟩ := mj
        have t1 : decide (rk x < rk lo) = false := by rw [decide_eq_false_iff_not]; omega
        have t2 : decide (rk x > rk hi) = false := by rw [decide_eq_false_iff_not]; omega
        obtain ⟨b1, b2⟩ := flag_bits p6
        have kz : ((k' : Int) == 0) = false := by
          have g0 := G0.out
          rw [beq_eq_false_iff_ne]
          omega
        have kz2 : ((k' : Int) != 0) = true := by
          have g0 := G0.out
          rw [bne_iff_ne]
          omega
        rw [kz] at b1
        have hx3 := fun z (hz : z = x ∨ z = lo ∨ z = hi) wx => CB.out z (by rcases hz with rfl | rfl | rfl; exact xl; exact LOL.out; exact HIL.out) wx
        have hnx := fun wx => CN.out x xl wx
        rw [p1] at hnx
        have CX := Lib.hid hx3
        have NX := Lib.hid hnx
        have CJ := Lib.hid cj
        have HSr := Lib.hid hS
        clear hx hk' xl p1 p2 p3 p4 p5 p6 hx3 hnx cj hS HS2
        obtain ⟨k0, k1, k2, k3, k4, k5⟩ := HSr.out.bx.six
        have xz : ∀ j, wr.frozen? ⟨w.heap.size, j, none⟩ = false := fun j => HSr.out.bx.free j
        go_upto_region 19 with (fail)
        replace HSr := Lib.hid (HSr.out.put1 HGB.out HRB.out (.int .i64 j))
        clear k0 k1 k2 k3 k4 k5 xz
        generalize wr.setCell ⟨w.heap.size, 1, none⟩ (.int .i64 j) = V1 at *
        obtain ⟨k0, k1, k2, k3, k4, k5⟩ := HSr.out.bx.six
        go_wp2_with fail
        refine (CJ.out _ HSr.out.gl HSr.out.glr).mono ?_
        rintro _ V2 ⟨rfl, hb⟩
        replace HSr := Lib.hid (HSr.out.below hb (Nat.le_refl _))
        clear hb k0 k1 k2 k3 k4 k5 CJ
        obtain ⟨k0, k1, k2, k3, k4, k5⟩ := HSr.out.bx.six
        go_upto_region 20 with (fail)
        go_region_held3 (fun v => v.cell? ⟨w.heap.size, 0, none⟩ = some (.int .i64 n) ∧ Below V2.heap.size V2 v)
          (first | exact ⟨k0, (Below.refl _ _).drew⟩ | exact ⟨keep_cell hb1 k0, keep_below (Below.refl _ _).drew hb1⟩ | ((try go_split_ands); (try dsimp only); refine ⟨keep_cell hb1 ?_, keep_below ?_ hb1⟩ <;> assumption))
          ((first | (go_at_call 44; refine (NX.out _).mono ?_; rintro _ wz ⟨rfl, hb1⟩) | (go_at_call 42; refine (CX.out _ ?_ _).mono ?_; (first | exact Or.inl rfl | exact Or.inr (Or.inl rfl) | exact Or.inr (Or.inr rfl)); rintro _ wz ⟨rfl, hb1⟩)))
        rename_i hHold
        replace HSr := Lib.hid (HSr.out.below hHold.2 (Nat.le_refl _))
        clear hHold hb1 k0 k1 k2 k3 k4 k5 CX NX
        go_wp2_with fail
        go_roundw
        case rel => exact ⟨j + 1, by omega, by go_num, j, HSr.out⟩
        case measure => simp [intOf]; omega
      · have hS' := Lib.hid hS
        clear hS HS2
        go_wp2_with fail
        go_ret
        exact ⟨rfl, hS'.out.bl⟩

end Go.Proofs.YtcgceigmglikpaaDoor
