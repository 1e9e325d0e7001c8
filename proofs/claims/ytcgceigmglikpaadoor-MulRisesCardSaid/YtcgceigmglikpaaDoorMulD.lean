/- Walks of layer 7: Mul's errors, Square. -/
import Derived.Test.YtcgceigmglikpaaDoorMulC
namespace Go.Proofs.YtcgceigmglikpaaDoor
set_option linter.unusedVariables false
open Go.RowKit

set_option maxHeartbeats 1000000 in
theorem open_err (f a : Nat) (w : World) (hf : f < 4) (ha : a < 18446744073709551616) (he : chkS f a ≠ 0) (hG : GlR w) : Calls Tryd.prog 53 #[.int .i64 f, PV (fm f), .int .u64 a] w fun e w' => e = .returned (.tuple #[.agg #[.int .i64 0, .bool false, .int .u64 0, .int .i64 0], .int .i64 (chkS f a)]) ∧ Below w.heap.size w w' := by
  have hcl := fun wx hx => Class_err f a wx ha he hx
  have t1 : (chkS f a != 0) = true := by simpa using he
  generalize chkS f a = c at *
  generalize fm f = F at *
  have HC := Lib.hid hcl
  have hbp := below2 w (.cells #[.int .i64 F.w, .int .i64 F.p, .int .i64 F.emin, .int .i64 F.emax] 58) (.cells #[.int .i64 0, .bool false, .int .u64 0, .int .i64 0] 88)
  have br := Bx.new (w.alloc (.cells #[.int .i64 F.w, .int .i64 F.p, .int .i64 F.emin, .int .i64 F.emax] 58)) #[.int .i64 0, .bool false, .int .u64 0, .int .i64 0] 88
  rw [World.size_alloc] at br
  have HG := Lib.hid (hG.below hbp)
  clear hcl he hG
  unfold PV
  go_enter Tryd.func53, Tryd.ntmps53
  go_wp2_with fail
  refine (HC.out _ HG.out).mono ?_
  rintro _ w1 ⟨rfl, hb1⟩
  have HB := Lib.hid (keep_belowB hbp hb1 (Nat.le_refl _))
  replace br := br.below hb1
  have r0 := br.cell 0 (show (#[Value.int .i64 0, .bool false, .int .u64 0, .int .i64 0] : Array Value)[0]? = some (.int .i64 0) from rfl)
  have r1 := br.cell 1 (show (#[Value.int .i64 0, .bool false, .int .u64 0, .int .i64 0] : Array Value)[1]? = some (.bool false) from rfl)
  have r2 := br.cell 2 (show (#[Value.int .i64 0, .bool false, .int .u64 0, .int .i64 0] : Array Value)[2]? = some (.int .u64 0) from rfl)
  have r3 := br.cell 3 (show (#[Value.int .i64 0, .bool false, .int .u64 0, .int .i64 0] : Array Value)[3]? = some (.int .i64 0) from rfl)
  have f0 := br.free 0
  have f1 := br.free 1
  have f2 := br.free 2
  have f3 := br.free 3
  have b4 := br.set4 (.int .i64 0) (.bool false) (.int .u64 0) (.int .i64 0)
  have s0 := b4.cell 0 (show (#[Value.int .i64 0, .bool false, .int .u64 0, .int .i64 0] : Array Value)[0]? = some (.int .i64 0) from rfl)
  have s1 := b4.cell 1 (show (#[Value.int .i64 0, .bool false, .int .u64 0, .int .i64 0] : Array Value)[1]? = some (.bool false) from rfl)
  have s2 := b4.cell 2 (show (#[Value.int .i64 0, .bool false, .int .u64 0, .int .i64 0] : Array Value)[2]? = some (.int .u64 0) from rfl)
  have s3 := b4.cell 3 (show (#[Value.int .i64 0, .bool false, .int .u64 0, .int .i64 0] : Array Value)[3]? = some (.int .i64 0) from rfl)
  clear hb1 hbp HC HG b4 br
  go_wp2_with fail
  refine bodyPost_ret (v := .tuple #[.agg #[.int .i64 0, .bool false, .int .u64 0, .int .i64 0], .int .i64 c]) (by simp [results, Tryd.results53, go_sem, s0, s1, s2, s3]) rfl ?_
  exact ⟨rfl, (((HB.out.setCell (Nat.le_succ _) _).setCell (Nat.le_succ _) _).setCell (Nat.le_succ _) _).setCell (Nat.le_succ _) _⟩

/-- the error of format, mode and two patterns -/
def errS (f m : Int) (a b : Nat) : Int := if rfS f m ≠ 0 then rfS f m else if chkS f a ≠ 0 then chkS f a else chkS f b

theorem errS_ok {f m : Int} {a b : Nat} (h : errS f m a b = 0) : ∃ n k : Nat, f = n ∧ n < 4 ∧ m = k ∧ k ≤ 5 ∧ a < 2 ^ (fm n).w ∧ b < 2 ^ (fm n).w := by
  unfold errS at h
  by_cases h1 : rfS f m = 0
  · rw [if_neg (by simpa using h1)] at h
    obtain ⟨n, k, rfl, hn, rfl, hk⟩ := rfS_ok h1
    by_cases h2 : chkS (n : Int) a = 0
    · rw [if_neg (by simpa using h2)] at h
      obtain ⟨n1, e1, _, ha⟩ := chkS_ok h2
      obtain ⟨n2, e2, _, hb⟩ := chkS_ok h
      obtain rfl : n1 = n := by omega
      obtain rfl : n2 = n1 := by omega
      exact ⟨n2, k, rfl, hn, rfl, hk, ha, hb⟩
    · rw [if_pos h2] at h; exact absurd h h2
  · rw [if_pos h1] at h; exact absurd h h1

theorem errS_of {n k a b : Nat} (hn : n < 4) (hk : k ≤ 5) (ha : a < 2 ^ (fm n).w) (hb : b < 2 ^ (fm n).w) : errS n k a b = 0 := by
  unfold errS
  rw [rfS_of hn hk, chkS_of hn ha, chkS_of hn hb]; rfl

set_option maxRecDepth 100000 in
set_option maxHeartbeats 4000000 in
theorem Mul_err (f m : Int) (a b : Nat) (w : World) (ha : a < 18446744073709551616) (hb : b < 18446744073709551616) (he : errS f m a b ≠ 0) (hR : GlR w) :
    Calls Tryd.prog 15 #[.int .i64 f, .int .i64 m, .int .u64 a, .int .u64 b] w fun e w' => e = .returned (.tuple #[.int .u64 0, .int .i64 0, .int .i64 (errS f m a b)]) ∧ Below w.heap.size w w' := by
  by_cases hf : f < 0 ∨ 4 ≤ f
  · have e1 : errS f m a b = 2 := by
      have : rfS f m = 2 := by unfold rfS; rw [if_pos hf]
      unfold errS; rw [this]; rfl
    rw [e1]
    clear e1 he
    go_enter Tryd.func15, Tryd.ntmps15
    go_wp2_with fail
    refine (Params_bad f _ hf).mono ?_
    rintro _ w1 ⟨rfl, hb1⟩
    unfold PV0
    have HB := Lib.hid (hb1.trans ((below1 w1 (.cells #[.int .i64 0, .int .i64 0, .int .i64 0, .int .i64 0] 58)).mono hb1.size))
    clear hf hb1
    go_wp2_with fail
    refine bodyPost_ret (v := .tuple #[.int .u64 0, .int .i64 0, .int .i64 2]) (by simp [results, Tryd.results15, go_sem]) rfl ⟨rfl, HB.out⟩
  obtain ⟨n, rfl⟩ := Int.eq_ofNat_of_zero_le (show 0 ≤ f by omega)
  have hn : n < 4 := by omega
  have hPar := fun wx hx => Params_ok n wx hn hx
  have HPar := Lib.hid hPar
  by_cases hm : m < 0 ∨ 5 < m
  · have e1 : errS n m a b = 3 := by
      have : rfS n m = 3 := by unfold rfS; rw [if_neg hf, if_pos hm]
      unfold errS; rw [this]; rfl
    rw [e1]
    generalize fm n = F at *
    clear e1 he hf hPar
    go_enter Tryd.func15, Tryd.ntmps15
    go_wp2_with fail
    refine (HPar.out _ hR).mono ?_
    rintro _ w1 ⟨rfl, hb1⟩
    unfold PV
    have HB := Lib.hid (hb1.trans ((below1 w1 (.cells #[.int .i64 F.w, .int .i64 F.p, .int .i64 F.emin, .int .i64 F.emax] 58)).mono hb1.size))
    clear hb1 HPar
    by_cases hm0 : m < 0
    · clear hm
      go_wp2_with fail
      refine bodyPost_ret (v := .tuple #[.int .u64 0, .int .i64 0, .int .i64 3]) (by simp [results, Tryd.results15, go_sem]) rfl ⟨rfl, HB.out⟩
    · have hm5 : 5 < m := by omega
      have t1 : decide (m < 0) = false := by simpa using hm0
      clear hm hm0
      go_wp2_with fail
      refine bodyPost_ret (v := .tuple #[.int .u64 0, .int .i64 0, .int .i64 3]) (by simp [results, Tryd.results15, go_sem]) rfl ⟨rfl, HB.out⟩
  have t1 : decide (m < 0) = false := decide_eq_false (by omega)
  have t2 : decide (5 < m) = false := decide_eq_false (by omega)
  have hrf : rfS n m = 0 := by unfold rfS; rw [if_neg hf, if_neg hm]
  by_cases hca : chkS n a ≠ 0
  · have e1 : errS n m a b = chkS n a := by unfold errS; rw [hrf, if_neg (by simp), if_pos hca]
    have hop := fun wx hx => open_err n a wx hn ha hca hx
    have t3 : (chkS n a != 0) = true := by simpa using hca
    rw [e1]
    generalize chkS n a = c at *
    generalize fm n = F at *
    have HOp := Lib.hid hop
    clear e1 he hf hPar hrf hca hop hm
    go_enter Tryd.func15, Tryd.ntmps15
    go_wp2_with fail
    refine (HPar.out _ hR).mono ?_
    rintro _ w1 ⟨rfl, hb1⟩
    unfold PV
    have ha1 := below1 w1 (.cells #[.int .i64 F.w, .int .i64 F.p, .int .i64 F.emin, .int .i64 F.emax] 58)
    have HB := Lib.hid (hb1.trans (ha1.mono hb1.size))
    have HR := Lib.hid (hR.below HB.out)
    obtain ⟨q0, q1, q2, q3⟩ := (BxP.new F w1 58).cells
    clear hb1 HPar ha1 hR
    go_wp2_with fail
    refine (HOp.out _ HR.out).mono ?_
    rintro _ w2 ⟨rfl, hb2⟩
    replace HB := Lib.hid (HB.out.trans (hb2.mono HB.out.size))
    replace HB := Lib.hid (HB.out.trans ((below1 w2 (.cells #[.int .i64 0, .bool false, .int .u64 0, .int .i64 0] 88)).mono HB.out.size))
    clear hb2 HOp q0 q1 q2 q3
    go_wp2_with fail
    refine bodyPost_ret (v := .tuple #[.int .u64 0, .int .i64 0, .int .i64 c]) (by simp [results, Tryd.results15, go_sem]) rfl ⟨rfl, HB.out⟩
  have hca0 : chkS n a = 0 := by simpa using hca
  obtain ⟨n', e', _, ha'⟩ := chkS_ok hca0
  obtain rfl : n' = n := by omega
  have e1 : errS n' m a b = chkS n' b := by unfold errS; rw [hrf, if_neg (by simp), if_neg hca]
  rw [e1] at he ⊢
  have hopA := fun wx hx => open_ok n' a wx hn ha' hx
  have hop := fun wx hx => open_err n' b wx hn hb he hx
  have t3 : (chkS n' b != 0) = true := by simpa using he
  generalize chkS n' b = c at *
  generalize fm n' = F at *
  unfold opA at hopA
  generalize clsF F a = z1 at *
  generalize F.neg a = z2 at *
  generalize F.mag a = z3 at *
  generalize F.ex a = z4 at *
  have HOp := Lib.hid hop
  have HOpA := Lib.hid hopA
  clear e1 he hf hPar hrf hca hop hm hopA hca0 e' ha'
  go_enter Tryd.func15, Tryd.ntmps15
  go_wp2_with fail
  refine (HPar.out _ hR).mono ?_
  rintro _ w1 ⟨rfl, hb1⟩
  unfold PV
  have ha1 := below1 w1 (.cells #[.int .i64 F.w, .int .i64 F.p, .int .i64 F.emin, .int .i64 F.emax] 58)
  have HB := Lib.hid (hb1.trans (ha1.mono hb1.size))
  have HR := Lib.hid (hR.below HB.out)
  have BP := BxP.new F w1 58
  obtain ⟨q0, q1, q2, q3⟩ := BP.cells
  clear hb1 HPar ha1 hR
  go_wp2_with fail
  refine (HOpA.out _ HR.out).mono ?_
  rintro _ w2 ⟨rfl, hb2⟩
  have ha2 := below1 w2 (.cells #[.int .i64 z1, .bool z2, .int .u64 z3, .int .i64 z4] 88)
  replace HB := Lib.hid (HB.out.trans (hb2.mono HB.out.size))
  replace HR := Lib.hid ((HR.out.below hb2).below ha2)
  replace BP := (BP.below hb2).below ha2
  replace HB := Lib.hid (HB.out.trans (ha2.mono HB.out.size))
  clear hb2 HOpA q0 q1 q2 q3 ha2
  obtain ⟨q0, q1, q2, q3⟩ := BP.cells
  go_wp2_with fail
  refine (HOp.out _ HR.out).mono ?_
  rintro _ w3 ⟨rfl, hb3⟩
  replace HB := Lib.hid (HB.out.trans (hb3.mono HB.out.size))
  replace HB := Lib.hid (HB.out.trans ((below1 w3 (.cells #[.int .i64 0, .bool false, .int .u64 0, .int .i64 0] 88)).mono HB.out.size))
  clear hb3 HOp q0 q1 q2 q3 BP
  go_wp2_with fail
  refine bodyPost_ret (v := .tuple #[.int .u64 0, .int .i64 0, .int .i64 c]) (by simp [results, Tryd.results15, go_sem]) rfl ⟨rfl, HB.out⟩

/-- what Mul answers -/
def mulA (f m : Int) (a b : Nat) : Nat × Nat × Int := if errS f m a b = 0 then ((mulS (fm f.toNat) m.toNat a b).1, (mulS (fm f.toNat) m.toNat a b).2, 0) else (0, 0, errS f m a b)

theorem Mul_any' (f m : Int) (a b : Nat) (w : World) (ha : a < 18446744073709551616) (hb : b < 18446744073709551616) (hG : Gl w) (hR : GlR w) :
    Calls Tryd.prog 15 #[.int .i64 f, .int .i64 m, .int .u64 a, .int .u64 b] w fun e w' => e = .returned (.tuple #[.int .u64 ((mulA f m a b).1 : Int), .int .i64 ((mulA f m a b).2.1 : Int), .int .i64 (mulA f m a b).2.2]) ∧ Below w.heap.size w w' := by
  unfold mulA
  by_cases h : errS f m a b = 0
  · rw [if_pos h]
    obtain ⟨n, k, rfl, hn, rfl, hk, ha', hb'⟩ := errS_ok h
    exact Mul_ok n k a b w hn hk ha' hb' hG hR
  · rw [if_neg h]; exact Mul_err f m a b w ha hb h hR

set_option maxHeartbeats 1000000 in
theorem Square_any (f m : Int) (a : Nat) (w : World) (ha : a < 18446744073709551616) (hG : Gl w) (hR : GlR w) :
    Calls Tryd.prog 22 #[.int .i64 f, .int .i64 m, .int .u64 a] w fun e w' => e = .returned (.tuple #[.int .u64 ((mulA f m a a).1 : Int), .int .i64 ((mulA f m a a).2.1 : Int), .int .i64 (mulA f m a a).2.2]) ∧ Below w.heap.size w w' := by
  have h := Lib.hid (Mul_any' f m a a w ha ha hG hR)
  generalize mulA f m a a = q at *
  clear hG hR
  go_enter Tryd.func22, Tryd.ntmps22
  go_wp2_with fail
  refine h.out.mono ?_
  rintro _ w1 ⟨rfl, hb1⟩
  clear h
  go_wp2_with fail
  refine bodyPost_ret (v := .tuple #[.int .u64 q.1, .int .i64 q.2.1, .int .i64 q.2.2]) (by simp [results, Tryd.results22, go_sem]) rfl ⟨rfl, hb1⟩

end Go.Proofs.YtcgceigmglikpaaDoor
