/- vernierlaw09.one: the call and the document's answer are one. -/
import Derived.Outline
import Derived.Deep.CutBlock
import Derived.Test.YtdbfkfbncmbfcaaGreatDoorRefZd
import Derived.Test.YtdbfkfbncmbfcaaGreatDoorFusF
namespace Go.Proofs.YtdbfkfbncmbfcaaGreatDoor
set_option linter.unusedVariables false
set_option linter.unusedSimpArgs false
open Go.RowKit

theorem fma_ref (n k a b c : Nat) : fmaS (fm n) k a b c = termS (fm n) k (prodT ((openF (fm n) a).turn false) (openF (fm n) b)) (oneT ((openF (fm n) c).turn false)) := by
  have ok := fm_ok n
  have h1 := (prod_tmb n a b false).2
  have h2 : -5000 ≤ (oneT ((openF (fm n) c).turn false)).d.e := by have := (open_bd n c false).2.1; show -5000 ≤ ((openF (fm n) c).turn false).d.e; omega
  obtain ⟨p1, p2⟩ := prod_q ok a b false
  have o1 := one_q ok c false
  simp only [Bool.false_eq_true, if_false] at p1 p2 o1
  rw [term_z k h1 h2, show fmaS (fm n) k a b c = fuseZ (fm n) k (prodZ (fm n) a b) (oneZ (fm n) c) from fma_z ok k a b c]
  exact fuse_congr k p1.symm (fun h => (p2 (by rw [p1]; exact h)).symm) (by rw [o1]) (fun _ => o1.symm)

theorem fms_ref (n k a b c : Nat) : fmaS (fm n) k a b ((fm n).flip c) = termS (fm n) k (prodT ((openF (fm n) a).turn false) (openF (fm n) b)) (oneT ((openF (fm n) c).turn true)) := by
  have ok := fm_ok n
  have h1 := (prod_tmb n a b false).2
  have h2 : -5000 ≤ (oneT ((openF (fm n) c).turn true)).d.e := by have := (open_bd n c true).2.1; show -5000 ≤ ((openF (fm n) c).turn true).d.e; omega
  obtain ⟨p1, p2⟩ := prod_q ok a b false
  have o1 := one_q ok c true
  simp only [Bool.false_eq_true, if_false, if_true] at p1 p2 o1
  rw [term_z k h1 h2, show fmaS (fm n) k a b ((fm n).flip c) = fuseZ (fm n) k (prodZ (fm n) a b) (oneZ (fm n) ((fm n).flip c)) from fma_z ok k a b _, oneZ_flip]
  exact fuse_congr k p1.symm (fun h => (p2 (by rw [p1]; exact h)).symm) (by rw [o1]) (fun _ => o1.symm)

theorem fnma_ref (n k a b c : Nat) : fmaS (fm n) k ((fm n).flip a) b c = termS (fm n) k (prodT ((openF (fm n) a).turn true) (openF (fm n) b)) (oneT ((openF (fm n) c).turn false)) := by
  have ok := fm_ok n
  have h1 := (prod_tmb n a b true).2
  have h2 : -5000 ≤ (oneT ((openF (fm n) c).turn false)).d.e := by have := (open_bd n c false).2.1; show -5000 ≤ ((openF (fm n) c).turn false).d.e; omega
  obtain ⟨p1, p2⟩ := prod_q ok a b true
  have o1 := one_q ok c false
  simp only [Bool.false_eq_true, if_false, if_true] at p1 p2 o1
  rw [term_z k h1 h2, show fmaS (fm n) k ((fm n).flip a) b c = fuseZ (fm n) k (prodZ (fm n) ((fm n).flip a) b) (oneZ (fm n) c) from fma_z ok k _ b c, prodZ_flip]
  exact fuse_congr k p1.symm (fun h => (p2 (by rw [p1]; exact h)).symm) (by rw [o1]) (fun _ => o1.symm)

theorem dot_ref (n k a b c d : Nat) : dot2S (fm n) k a b c d = termS (fm n) k (prodT (openF (fm n) a) (openF (fm n) b)) (prodT (openF (fm n) c) (openF (fm n) d)) := by
  have ok := fm_ok n
  have h1 : -5000 ≤ (prodT (openF (fm n) a) (openF (fm n) b)).d.e := (prod_tmb n a b false).2
  have h2 : -5000 ≤ (prodT (openF (fm n) c) (openF (fm n) d)).d.e := (prod_tmb n c d false).2
  obtain ⟨p1, p2⟩ := prod_q ok a b false
  obtain ⟨q1, q2⟩ := prod_q ok c d false
  simp only [Bool.false_eq_true, if_false] at p1 p2 q1 q2
  rw [term_z k h1 h2, show dot2S (fm n) k a b c d = fuseZ (fm n) k (prodZ (fm n) a b) (prodZ (fm n) c d) from dot_z ok k a b c d]
  exact fuse_congr k p1.symm (fun h => (p2 (by rw [p1]; exact h)).symm) q1.symm (fun h => (q2 (by rw [q1]; exact h)).symm)

theorem fmaA_ref (f m : Int) (a b c : Nat) : fmaA f m a b c = threeR f m a b c false false := by
  unfold fmaA threeR; rw [fma_ref]
theorem fmsA_ref (f m : Int) (a b c : Nat) : fmsA f m a b c = threeR f m a b c false true := by
  unfold fmsA threeR; rw [fms_ref]
theorem fnmaA_ref (f m : Int) (a b c : Nat) : fnmaA f m a b c = threeR f m a b c true false := by
  unfold fnmaA threeR; rw [fnma_ref]
theorem dotA_ref (f m : Int) (a b c d : Nat) : dotA f m a b c d = dotR f m a b c d := by
  unfold dotA dotR; rw [dot_ref]

def opArr (kd f m : Int) (a b c d : Nat) : Array Value := #[.int .i64 kd, .int .i64 f, .int .i64 m, .int .u64 a, .int .u64 b, .int .u64 c, .int .u64 d]

set_option maxRecDepth 100000 in
set_option maxHeartbeats 8000000 in
theorem lone_any (kd f m : Int) (a b c d : Nat) (w : World) (ha : a < 18446744073709551616) (hb : b < 18446744073709551616) (hc : c < 18446744073709551616) (hd : d < 18446744073709551616) (hG : Gl w) (hR : GlR w) :
    Calls Tryz.prog 6 #[.agg (opArr kd f m a b c d)] w fun e w' => e = .returned (.bool true) ∧ Below w.heap.size w w' := by
  have hb0 := below1 w (.cells (opArr kd f m a b c d) 27)
  have b1 := Bx.new w (opArr kd f m a b c d) 27
  obtain ⟨W, hW⟩ : ∃ W, W = w.alloc (.cells (opArr kd f m a b c d) 27) := ⟨_, rfl⟩
  rw [← hW] at hb0 b1
  have HB := Lib.hid hb0
  have HG := Lib.hid (hG.below hb0)
  have HR := Lib.hid (hR.below hb0)
  have B1 := Lib.hid b1
  unfold opArr at hW B1
  unfold opArr
  have F1 := Lib.hid (fun wx h1 h2 => Fma_all f m a b c wx ha hb hc h1 h2)
  have F2 := Lib.hid (fun wx h1 h2 => Fms_all f m a b c wx ha hb hc h1 h2)
  have F3 := Lib.hid (fun wx h1 h2 => Fnma_all f m a b c wx ha hb hc h1 h2)
  have F4 := Lib.hid (fun wx h1 h2 => Dot2_all f m a b c d wx ha hb hc hd h1 h2)
  have R1 := Lib.hid (fun wx => rFma_any f m a b c wx ha hb hc)
  have R2 := Lib.hid (fun wx => rFms_any f m a b c wx ha hb hc)
  have R3 := Lib.hid (fun wx => rFnma_any f m a b c wx ha hb hc)
  have R4 := Lib.hid (fun wx => rDot2_any f m a b c d wx ha hb hc hd)
  rw [fmaA_ref] at F1
  rw [fmsA_ref] at F2
  rw [fnmaA_ref] at F3
  rw [dotA_ref] at F4
  generalize threeR f m a b c false false = x1 at *
  generalize threeR f m a b c false true = x2 at *
  generalize threeR f m a b c true false = x3 at *
  generalize dotR f m a b c d = x4 at *
  obtain ⟨p1, q1, r1⟩ := x1
  obtain ⟨p2, q2, r2⟩ := x2
  obtain ⟨p3, q3, r3⟩ := x3
  obtain ⟨p4, q4, r4⟩ := x4
  dsimp only at F1 F2 F3 F4 R1 R2 R3 R4
  obtain ⟨k0, k1, k2, k3, k4, k5, k6⟩ := B1.out.seven
  clear hb0 b1 hG hR ha hb hc hd
  by_cases h1 : kd = 1
  · subst h1
    clear F2 F3 F4 R2 R3 R4
    go_enter Tryz.func6, Tryz.ntmps6
    go_upto_region 1 with (fail)
    rw [← hW]
    clear hW
    go_wp2_with fail
    refine (F1.out _ HG.out HR.out).mono ?_
    rintro _ w1 ⟨rfl, hb⟩
    replace HB := Lib.hid (keep_belowB HB.out hb (by have := HB.out.size; omega))
    replace B1 := Lib.hid (B1.out.below hb)
    clear hb F1 k0 k1 k2 k3 k4 k5 k6
    obtain ⟨k0, k1, k2, k3, k4, k5, k6⟩ := B1.out.seven
    go_wp2_with fail
    refine (R1.out _).mono ?_
    rintro _ w2 ⟨rfl, hb⟩
    replace HB := Lib.hid (keep_belowB HB.out hb (by have := HB.out.size; omega))
    clear hb R1 k0 k1 k2 k3 k4 k5 k6
    go_wp2_with fail
    go_ret
    exact ⟨rfl, HB.out⟩
  by_cases h2 : kd = 2
  · subst h2
    clear F1 F3 F4 R1 R3 R4
    go_enter Tryz.func6, Tryz.ntmps6
    go_upto_region 1 with (fail)
    rw [← hW]
    clear hW
    go_wp2_with fail
    refine (F2.out _ HG.out HR.out).mono ?_
    rintro _ w1 ⟨rfl, hb⟩
    replace HB := Lib.hid (keep_belowB HB.out hb (by have := HB.out.size; omega))
    replace B1 := Lib.hid (B1.out.below hb)
    clear hb F2 k0 k1 k2 k3 k4 k5 k6
    obtain ⟨k0, k1, k2, k3, k4, k5, k6⟩ := B1.out.seven
    go_wp2_with fail
    refine (R2.out _).mono ?_
    rintro _ w2 ⟨rfl, hb⟩
    replace HB := Lib.hid (keep_belowB HB.out hb (by have := HB.out.size; omega))
    clear hb R2 k0 k1 k2 k3 k4 k5 k6
    go_wp2_with fail
    go_ret
    exact ⟨rfl, HB.out⟩
  by_cases h3 : kd = 3
  · subst h3
    clear F1 F2 F4 R1 R2 R4
    go_enter Tryz.func6, Tryz.ntmps6
    go_upto_region 1 with (fail)
    rw [← hW]
    clear hW
    go_wp2_with fail
    refine (F3.out _ HG.out HR.out).mono ?_
    rintro _ w1 ⟨rfl, hb⟩
    replace HB := Lib.hid (keep_belowB HB.out hb (by have := HB.out.size; omega))
    replace B1 := Lib.hid (B1.out.below hb)
    clear hb F3 k0 k1 k2 k3 k4 k5 k6
    obtain ⟨k0, k1, k2, k3, k4, k5, k6⟩ := B1.out.seven
    go_wp2_with fail
    refine (R3.out _).mono ?_
    rintro _ w2 ⟨rfl, hb⟩
    replace HB := Lib.hid (keep_belowB HB.out hb (by have := HB.out.size; omega))
    clear hb R3 k0 k1 k2 k3 k4 k5 k6
    go_wp2_with fail
    go_ret
    exact ⟨rfl, HB.out⟩
  by_cases h4 : kd = 4
  · subst h4
    clear F1 F2 F3 R1 R2 R3
    go_enter Tryz.func6, Tryz.ntmps6
    go_upto_region 1 with (fail)
    rw [← hW]
    clear hW
    go_wp2_with fail
    refine (F4.out _ HG.out HR.out).mono ?_
    rintro _ w1 ⟨rfl, hb⟩
    replace HB := Lib.hid (keep_belowB HB.out hb (by have := HB.out.size; omega))
    replace B1 := Lib.hid (B1.out.below hb)
    clear hb F4 k0 k1 k2 k3 k4 k5 k6
    obtain ⟨k0, k1, k2, k3, k4, k5, k6⟩ := B1.out.seven
    go_wp2_with fail
    refine (R4.out _).mono ?_
    rintro _ w2 ⟨rfl, hb⟩
    replace HB := Lib.hid (keep_belowB HB.out hb (by have := HB.out.size; omega))
    clear hb R4 k0 k1 k2 k3 k4 k5 k6
    go_wp2_with fail
    go_ret
    exact ⟨rfl, HB.out⟩
  have t1 : (kd == 1) = false := by rw [beq_eq_false_iff_ne]; exact h1
  have t2 : (kd == 2) = false := by rw [beq_eq_false_iff_ne]; exact h2
  have t3 : (kd == 3) = false := by rw [beq_eq_false_iff_ne]; exact h3
  have t4 : (kd == 4) = false := by rw [beq_eq_false_iff_ne]; exact h4
  clear h1 h2 h3 h4 F1 F2 F3 F4 R1 R2 R3 R4
  go_enter Tryz.func6, Tryz.ntmps6
  go_upto_region 1 with (fail)
  rw [← hW]
  clear hW
  go_wp2_with fail
  go_ret
  exact ⟨rfl, HB.out⟩

end Go.Proofs.YtdbfkfbncmbfcaaGreatDoor
