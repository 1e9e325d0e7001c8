/- Walks of layer 6: Add's errors. -/
import Derived.Test.YtcgceigmglikpaaDoorAddC
import Derived.Test.YtcgceigmglikpaaDoorPackM
namespace Go.Proofs.YtcgceigmglikpaaDoor
set_option linter.unusedVariables false
open Go.RowKit

set_option maxRecDepth 100000 in
set_option maxHeartbeats 4000000 in
theorem Add_err (f m : Int) (a b : Nat) (w : World) (ha : a < 18446744073709551616) (hb : b < 18446744073709551616) (he : errS f m a b ≠ 0) (hR : GlR w) :
    Calls Tryd.prog 30 #[.int .i64 f, .int .i64 m, .int .u64 a, .int .u64 b] w fun e w' => e = .returned (.tuple #[.int .u64 0, .int .i64 0, .int .i64 (errS f m a b)]) ∧ Below w.heap.size w w' := by
  by_cases hf : f < 0 ∨ 4 ≤ f
  · have e1 : errS f m a b = 2 := by
      have : rfS f m = 2 := by unfold rfS; rw [if_pos hf]
      unfold errS; rw [this]; rfl
    rw [e1]
    clear e1 he
    go_enter Tryd.func30, Tryd.ntmps30
    go_wp2_with fail
    refine (Params_bad f _ hf).mono ?_
    rintro _ w1 ⟨rfl, hb1⟩
    unfold PV0
    have HB := Lib.hid (hb1.trans ((below1 w1 (.cells #[.int .i64 0, .int .i64 0, .int .i64 0, .int .i64 0] 58)).mono hb1.size))
    clear hf hb1
    go_wp2_with fail
    refine bodyPost_ret (v := .tuple #[.int .u64 0, .int .i64 0, .int .i64 2]) (by simp [results, Tryd.results30, go_sem]) rfl ⟨rfl, HB.out⟩
  obtain ⟨n, rfl⟩ := Int.eq_ofNat_of_zero_le (show 0 ≤ f by omega)
  have hn : n < 4 := by omega
  have hPar := fun wx hx => Params_ok n wx hn hx
  have HPar := Lib.hid hPar
  by_cases hm : m < 0 ∨ 5 < m
  · have e1 : errS n m a b = 3 := by
      have : rfS n m = 3 := by unfold rfS; rw [if_neg hf, if_pos hm]
      unfold errS; rw [this]; rfl
    rw [e1]
    generalize fm n = F at *
    clear e1 he hf hPar
    go_enter Tryd.func30, Tryd.ntmps30
    go_wp2_with fail
    refine (HPar.out _ hR).mono ?_
    rintro _ w1 ⟨rfl, hb1⟩
    unfold PV
    have HB := Lib.hid (hb1.trans ((below1 w1 (.cells #[.int .i64 F.w, .int .i64 F.p, .int .i64 F.emin, .int .i64 F.emax] 58)).mono hb1.size))
    clear hb1 HPar
    by_cases hm0 : m < 0
    · clear hm
      go_wp2_with fail
      refine bodyPost_ret (v := .tuple #[.int .u64 0, .int .i64 0, .int .i64 3]) (by simp [results, Tryd.results30, go_sem]) rfl ⟨rfl, HB.out⟩
    · have hm5 : 5 < m := by omega
      have t1 : decide (m < 0) = false := by simpa using hm0
      clear hm hm0
      go_wp2_with fail
      refine bodyPost_ret (v := .tuple #[.int .u64 0, .int .i64 0, .int .i64 3]) (by simp [results, Tryd.results30, go_sem]) rfl ⟨rfl, HB.out⟩
  have t1 : decide (m < 0) = false := decide_eq_false (by omega)
  have t2 : decide (5 < m) = false := decide_eq_false (by omega)
  have hrf : rfS n m = 0 := by unfold rfS; rw [if_neg hf, if_neg hm]
  by_cases hca : chkS n a ≠ 0
  · have e1 : errS n m a b = chkS n a := by unfold errS; rw [hrf, if_neg (by simp), if_pos hca]
    have hop := fun wx hx => Class_err n a wx ha hca hx
    have t3 : (chkS n a != 0) = true := by simpa using hca
    rw [e1]
    generalize chkS n a = c at *
    generalize fm n = F at *
    have HOp := Lib.hid hop
    clear e1 he hf hPar hrf hca hop hm
    go_enter Tryd.func30, Tryd.ntmps30
    go_wp2_with fail
    refine (HPar.out _ hR).mono ?_
    rintro _ w1 ⟨rfl, hb1⟩
    unfold PV
    have ha1 := below1 w1 (.cells #[.int .i64 F.w, .int .i64 F.p, .int .i64 F.emin, .int .i64 F.emax] 58)
    have HB := Lib.hid (hb1.trans (ha1.mono hb1.size))
    have HR := Lib.hid (hR.below HB.out)
    clear hb1 HPar ha1 hR
    go_wp2_with fail
    refine (HOp.out _ HR.out).mono ?_
    rintro _ w2 ⟨rfl, hb2⟩
    replace HB := Lib.hid (HB.out.trans (hb2.mono HB.out.size))
    clear hb2 HOp
    go_wp2_with fail
    refine bodyPost_ret (v := .tuple #[.int .u64 0, .int .i64 0, .int .i64 c]) (by simp [results, Tryd.results30, go_sem]) rfl ⟨rfl, HB.out⟩
  have hca0 : chkS n a = 0 := by simpa using hca
  obtain ⟨n', e', _, ha'⟩ := chkS_ok hca0
  obtain rfl : n' = n := by omega
  have e1 : errS n' m a b = chkS n' b := by unfold errS; rw [hrf, if_neg (by simp), if_neg hca]
  rw [e1] at he ⊢
  have hopA := fun wx hx => Class_ok n' a wx hn ha' hx
  have hop := fun wx hx => Class_err n' b wx hb he hx
  have t3 : (chkS n' b != 0) = true := by simpa using he
  generalize chkS n' b = c at *
  generalize fm n' = F at *
  generalize clsF F a = z1 at *
  have HOp := Lib.hid hop
  have HOpA := Lib.hid hopA
  clear e1 he hf hPar hrf hca hop hm hopA hca0 e' ha'
  go_enter Tryd.func30, Tryd.ntmps30
  go_wp2_with fail
  refine (HPar.out _ hR).mono ?_
  rintro _ w1 ⟨rfl, hb1⟩
  unfold PV
  have ha1 := below1 w1 (.cells #[.int .i64 F.w, .int .i64 F.p, .int .i64 F.emin, .int .i64 F.emax] 58)
  have HB := Lib.hid (hb1.trans (ha1.mono hb1.size))
  have HR := Lib.hid (hR.below HB.out)
  clear hb1 HPar ha1 hR
  go_wp2_with fail
  refine (HOpA.out _ HR.out).mono ?_
  rintro _ w2 ⟨rfl, hb2⟩
  replace HB := Lib.hid (HB.out.trans (hb2.mono HB.out.size))
  replace HR := Lib.hid (HR.out.below hb2)
  clear hb2 HOpA
  go_wp2_with fail
  refine (HOp.out _ HR.out).mono ?_
  rintro _ w3 ⟨rfl, hb3⟩
  replace HB := Lib.hid (HB.out.trans (hb3.mono HB.out.size))
  clear hb3 HOp
  go_wp2_with fail
  refine bodyPost_ret (v := .tuple #[.int .u64 0, .int .i64 0, .int .i64 c]) (by simp [results, Tryd.results30, go_sem]) rfl ⟨rfl, HB.out⟩

/-- what Add answers -/
def addA (f m : Int) (a b : Nat) : Nat × Nat × Int := if errS f m a b = 0 then ((addS (fm f.toNat) m.toNat a b).1, (addS (fm f.toNat) m.toNat a b).2, 0) else (0, 0, errS f m a b)

theorem SAdd_any (f m : Int) (a b : Nat) (w : World) (ha : a < 18446744073709551616) (hb : b < 18446744073709551616) (hG : Gl w) (hR : GlR w) :
    Calls Tryd.prog 30 #[.int .i64 f, .int .i64 m, .int .u64 a, .int .u64 b] w fun e w' => e = .returned (.tuple #[.int .u64 ((addA f m a b).1 : Int), .int .i64 ((addA f m a b).2.1 : Int), .int .i64 (addA f m a b).2.2]) ∧ Below w.heap.size w w' := by
  unfold addA
  by_cases h : errS f m a b = 0
  · rw [if_pos h]
    obtain ⟨n, k, rfl, hn, rfl, hk, ha', hb'⟩ := errS_ok h
    exact Add_ok n k a b w hn hk ha' hb' hG hR
  · rw [if_neg h]; exact Add_err f m a b w ha hb h hR

end Go.Proofs.YtcgceigmglikpaaDoor
