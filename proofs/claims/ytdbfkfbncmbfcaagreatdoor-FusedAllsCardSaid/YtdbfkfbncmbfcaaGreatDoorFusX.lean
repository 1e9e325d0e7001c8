/- The walks of fused's calls, for every input. Printed by gen/fuserr.py. -/
import Derived.Outline
import Derived.Deep.LoopGhost
import Derived.Lib.Hide
import Derived.Test.YtdbfkfbncmbfcaaGreatDoorFusE
import Derived.Test.YtdbfkfbncmbfcaaGreatDoorPackF
namespace Go.Proofs.YtdbfkfbncmbfcaaGreatDoor
set_option linter.unusedVariables false
set_option linter.unusedSimpArgs false
open Go.RowKit

/-- the error of a format, a mode and floats -/
def errL (f m : Int) (l : List Nat) : Int := if rfS f m ≠ 0 then rfS f m else if l.all (fun a => decide (a < 2 ^ (fm f.toNat).w)) then 0 else 4

theorem errL_ok {f m : Int} {l : List Nat} (h : errL f m l = 0) : ∃ n k : Nat, f = n ∧ n < 4 ∧ m = k ∧ k ≤ 5 ∧ ∀ a ∈ l, a < 2 ^ (fm n).w := by
  unfold errL at h
  by_cases h1 : rfS f m = 0
  · rw [if_neg (by simpa using h1)] at h
    obtain ⟨n, k, rfl, hn, rfl, hk⟩ := rfS_ok h1
    refine ⟨n, k, rfl, hn, rfl, hk, ?_⟩
    by_cases h2 : (l.all fun a => decide (a < 2 ^ (fm (n : Int).toNat).w)) = true
    · intro a ha
      have := List.all_eq_true.1 h2 a ha
      simpa using this
    · rw [if_neg h2] at h; exact absurd h (by decide)
  · rw [if_pos h1] at h; exact absurd h h1

theorem errL_of {n k : Nat} {l : List Nat} (hn : n < 4) (hk : k ≤ 5) (h : ∀ a ∈ l, a < 2 ^ (fm n).w) : errL n k l = 0 := by
  unfold errL
  rw [rfS_of hn hk, if_neg (by simp), if_pos]
  rw [List.all_eq_true]
  intro a ha
  simpa using h a ha

set_option maxRecDepth 100000 in
set_option maxHeartbeats 4000000 in
theorem frefuses_err (f m : Int) (b : Nat) (xs : List Nat) (w : World) (hxs : ∀ x ∈ xs, x < 18446744073709551616) (hn : xs.length ≤ 100) (hb : b < w.heap.size) (hc : ∀ j, j < xs.length → w.cell? ⟨b, j, none⟩ = some (.int .u64 (xs.getD j 0 : Nat))) (he : errL f m xs ≠ 0) (hR : GlR w) :
    Calls Tryz.prog 29 #[.int .i64 f, .int .i64 m, .slice (some ⟨b, 0, none⟩) xs.length xs.length] w fun e w' => e = .returned (.int .i64 (errL f m xs)) ∧ Below w.heap.size w w' := by
  by_cases hf : f < 0 ∨ 4 ≤ f
  · have e1 : errL f m xs = 2 := by
      have : rfS f m = 2 := by unfold rfS; rw [if_pos hf]
      unfold errL; rw [this]; rfl
    rw [e1]
    generalize xs.length = n at *
    clear e1 he hxs hc
    go_enter Tryz.func29, Tryz.ntmps29
    go_wp2_with fail
    refine (Params_bad f _ hf).mono ?_
    rintro _ w1 ⟨rfl, hb1⟩
    unfold PV0
    have HB := Lib.hid (hb1.trans ((below1 w1 (.cells #[.int .i64 0, .int .i64 0, .int .i64 0, .int .i64 0] 97)).mono hb1.size))
    clear hf hb1
    go_wp2_with fail
    go_ret
    exact ⟨rfl, HB.out⟩
  obtain ⟨n0, rfl⟩ := Int.eq_ofNat_of_zero_le (show 0 ≤ f by omega)
  have hn0 : n0 < 4 := by omega
  have hPar := fun wx hx => Params_ok n0 wx hn0 hx
  have HPar := Lib.hid hPar
  by_cases hm : m < 0 ∨ 5 < m
  · have e1 : errL n0 m xs = 3 := by
      have : rfS n0 m = 3 := by unfold rfS; rw [if_neg hf, if_pos hm]
      unfold errL; rw [this]; rfl
    rw [e1]
    generalize fm n0 = F at *
    generalize xs.length = n at *
    clear e1 he hf hPar hxs hc
    go_enter Tryz.func29, Tryz.ntmps29
    go_wp2_with fail
    refine (HPar.out _ hR).mono ?_
    rintro _ w1 ⟨rfl, hb1⟩
    unfold PV
    have HB := Lib.hid (hb1.trans ((below1 w1 (.cells #[.int .i64 F.w, .int .i64 F.p, .int .i64 F.emin, .int .i64 F.emax] 97)).mono hb1.size))
    clear hb1 HPar
    by_cases hm0 : m < 0
    · clear hm
      go_wp2_with fail
      go_ret
      exact ⟨rfl, HB.out⟩
    · have hm5 : 5 < m := by omega
      have t1 : decide (m < 0) = false := by simpa using hm0
      clear hm hm0
      go_wp2_with fail
      go_ret
      exact ⟨rfl, HB.out⟩
  have t1 : decide (m < 0) = false := decide_eq_false (by omega)
  have t2 : decide (5 < m) = false := decide_eq_false (by omega)
  have hrf : rfS n0 m = 0 := by unfold rfS; rw [if_neg hf, if_neg hm]
  have e4 : errL n0 m xs = 4 := by
    unfold errL at he ⊢
    rw [hrf, if_neg (by simp)] at he ⊢
    by_cases h : (xs.all fun a => decide (a < 2 ^ (fm (n0 : Int).toNat).w)) = true
    · rw [if_pos h] at he; exact absurd rfl he
    · rw [if_neg h]
  have hex : ∃ x ∈ xs, ¬ x < 2 ^ (fm n0).w := by
    unfold errL at he
    rw [hrf, if_neg (by simp)] at he
    by_cases h : (xs.all fun a => decide (a < 2 ^ (fm (n0 : Int).toNat).w)) = true
    · rw [if_pos h] at he; exact absurd rfl he
    · simpa using h
  rw [e4]
  have hmem : ∀ j, j < xs.length → xs.getD j 0 ∈ xs := by
    intro j hj
    have e : xs.getD j 0 = xs[j] := by simp [List.getD, hj]
    rw [e]
    exact List.getElem_mem hj
  have hck := fun (j : Nat) (hj : j < xs.length) wx h => Check_any n0 (xs.getD j 0) wx (hxs _ (hmem j hj)) h
  have hall : (∀ j, j < xs.length → xs.getD j 0 < 2 ^ (fm n0).w) → False := by
    intro h
    obtain ⟨x, hx, hlt⟩ := hex
    obtain ⟨j, hj, rfl⟩ := List.getElem_of_mem hx
    have := h j hj
    rw [show xs.getD j 0 = xs[j] by simp [List.getD, hj]] at this
    exact hlt this
  have hcs : ∀ a, chkS n0 a = if a < 2 ^ (fm n0).w then 0 else 4 := by
    intro a; unfold chkS
    rw [if_neg (by omega), Int.toNat_natCast]
    by_cases h : a < 2 ^ (fm n0).w
    · rw [if_neg (by omega), if_pos h]
    · rw [if_pos (by omega), if_neg h]
  simp only [hcs] at hck
  obtain ⟨n, hnl⟩ : ∃ n, n = xs.length := ⟨_, rfl⟩
  rw [← hnl] at hn hc hck hall ⊢
  have Hck := Lib.hid hck
  have Hc := Lib.hid hc
  have HR := Lib.hid hR
  have Hb := Lib.hid hb
  have Hall := Lib.hid hall
  generalize fm n0 = F at *
  clear hck hc hR hnl hxs hb hf hm he e4 hex hmem hall hcs hrf hPar hn0
  unfold PV at HPar
  go_enter Tryz.func29, Tryz.ntmps29
  go_wp2_with fail
  refine (HPar.out _ HR.out).mono ?_
  rintro _ w1 ⟨rfl, hb1⟩
  have hb2 := below1 w1 (.cells #[.int .i64 F.w, .int .i64 F.p, .int .i64 F.emin, .int .i64 F.emax] 97)
  have HB := Lib.hid (keep_belowB hb1 hb2 (Nat.le_refl _))
  obtain ⟨W1, hW1⟩ : ∃ W1, W1 = w1.alloc (.cells #[.int .i64 F.w, .int .i64 F.p, .int .i64 F.emin, .int .i64 F.emax] 97) := ⟨_, rfl⟩
  rw [← hW1] at HB
  clear hb1 hb2 HPar
  go_upto_region 4 with (fail)
  rw [← hW1]
  clear hW1
  go_wp2
  clear t1 t2
  go_loopw [28] (fun v wr => ∃ j : Nat, j ≤ n ∧ v = .int .i64 j ∧ (∀ i, i < j → xs.getD i 0 < 2 ^ F.w) ∧ Hid (Below w.heap.size w wr)) (fun v _ => n - (intOf v).toNat)
  case atStart => exact ⟨0, Nat.zero_le _, rfl, fun i hi => absurd hi (Nat.not_lt_zero _), HB⟩
  case round =>
    obtain ⟨j, hj, rfl, hpre, HBr⟩ := hrel
    have Hpre := Lib.hid hpre
    clear hpre
    by_cases hjn : j < n
    · obtain ⟨x, hx⟩ : ∃ x, x = xs.getD j 0 := ⟨_, rfl⟩
      have hcj := (HBr.out.cell (p := ⟨b, j, none⟩) Hb.out).trans (Hc.out j hjn)
      have hcall := Hck.out j hjn _ (HR.out.below HBr.out)
      rw [← hx] at hcj hcall
      have hjn' : (j : Int) < n := by omega
      have Hx := Lib.hid hx
      by_cases hlt : x < 2 ^ F.w
      · rw [if_pos hlt] at hcall
        have Hcall := Lib.hid hcall
        have Hlt := Lib.hid hlt
        clear hx hcall Hck Hc HR HB hlt Hall
        go_wp2_with fail
        refine Hcall.out.mono ?_
        rintro _ w2 ⟨rfl, hb2⟩
        replace HBr := Lib.hid (keep_belowB HBr.out hb2 (Nat.le_refl _))
        clear hb2 Hcall hcj
        go_wp2_with fail
        go_roundw
        case rel =>
          refine ⟨j + 1, by omega, by go_num, ?_, HBr⟩
          intro i hi
          rcases Nat.lt_succ_iff_lt_or_eq.1 hi with h | h
          · exact Hpre.out i h
          · rw [h, ← Hx.out]; exact Hlt.out
        case measure => simp [intOf]; omega
      · rw [if_neg hlt] at hcall
        have Hcall := Lib.hid hcall
        clear hx hcall Hck Hc HR HB hlt Hall Hx Hpre
        go_wp2_with fail
        refine Hcall.out.mono ?_
        rintro _ w2 ⟨rfl, hb2⟩
        replace HBr := Lib.hid (keep_belowB HBr.out hb2 (Nat.le_refl _))
        clear hb2 Hcall hcj
        go_wp2_with fail
        go_ret
        exact ⟨rfl, HBr.out⟩
    · obtain rfl : j = n := by omega
      exact (Hall.out Hpre.out).elim


def fmaA (f m : Int) (a b c : Nat) : Nat × Nat × Int := if errL f m [a, b, c] = 0 then ((fmaS (fm f.toNat) m.toNat a b c).1, (fmaS (fm f.toNat) m.toNat a b c).2, 0) else (0, 0, errL f m [a, b, c])

set_option maxRecDepth 100000 in
set_option maxHeartbeats 4000000 in
theorem Fma_err (f m : Int) (a b c : Nat) (w : World) (ha : a < 18446744073709551616) (hb : b < 18446744073709551616) (hc : c < 18446744073709551616) (he : errL f m [a, b, c] ≠ 0) (hR : GlR w) :
    Calls Tryz.prog 8 #[.int .i64 f, .int .i64 m, .int .u64 a, .int .u64 b, .int .u64 c] w fun e w' => e = .returned (.tuple #[.int .u64 0, .int .i64 0, .int .i64 (errL f m [a, b, c])]) ∧ Below w.heap.size w w' := by
  have hb0 := below1 w (.cells #[.int .u64 a, .int .u64 b, .int .u64 c] 25)
  have bs := Bx.new w #[.int .u64 a, .int .u64 b, .int .u64 c] 25
  have HB := Lib.hid hb0
  have hrf := frefuses_err f m w.heap.size [a, b, c] _ (by intro x hx; simp at hx; rcases hx with rfl | rfl | rfl <;> assumption) (by simp) (by simp) (by
    intro j hj
    have hj' : j = 0 ∨ j = 1 ∨ j = 2 := by simp at hj; omega
    rcases hj' with rfl | rfl | rfl
    · exact bs.cell 0 rfl
    · exact bs.cell 1 rfl
    · exact bs.cell 2 rfl
    ) he (hR.below hb0)
  have Hrf := Lib.hid hrf
  have te : (errL f m [a, b, c] != 0) = true := by simpa using he
  generalize errL f m [a, b, c] = c0 at *
  clear hrf hb0 bs he hR ha hb hc
  go_enter Tryz.func8, Tryz.ntmps8
  go_wp2_with fail
  refine Hrf.out.mono ?_
  rintro _ w1 ⟨rfl, hb1⟩
  replace HB := Lib.hid (keep_belowB HB.out hb1 (Nat.le_refl _))
  clear hb1 Hrf
  go_wp2_with fail
  refine bodyPost_ret (v := .tuple #[.int .u64 0, .int .i64 0, .int .i64 c0]) (by simp [results, Tryz.results8, go_sem]) rfl ⟨rfl, HB.out⟩

theorem Fma_all (f m : Int) (a b c : Nat) (w : World) (ha : a < 18446744073709551616) (hb : b < 18446744073709551616) (hc : c < 18446744073709551616) (hG : Gl w) (hR : GlR w) :
    Calls Tryz.prog 8 #[.int .i64 f, .int .i64 m, .int .u64 a, .int .u64 b, .int .u64 c] w fun e w' => e = .returned (.tuple #[.int .u64 ((fmaA f m a b c).1 : Int), .int .i64 ((fmaA f m a b c).2.1 : Int), .int .i64 (fmaA f m a b c).2.2]) ∧ Below w.heap.size w w' := by
  unfold fmaA
  by_cases h : errL f m [a, b, c] = 0
  · rw [if_pos h]
    obtain ⟨n, k, rfl, hn, rfl, hk, hall⟩ := errL_ok h
    exact Fma_ok n k a b c w hn hk (hall _ (by simp)) (hall _ (by simp)) (hall _ (by simp)) hG hR
  · rw [if_neg h]; exact Fma_err f m a b c w ha hb hc h hR

def fmsA (f m : Int) (a b c : Nat) : Nat × Nat × Int := if errL f m [a, b, c] = 0 then ((fmaS (fm f.toNat) m.toNat a b ((fm f.toNat).flip c)).1, (fmaS (fm f.toNat) m.toNat a b ((fm f.toNat).flip c)).2, 0) else (0, 0, errL f m [a, b, c])

set_option maxRecDepth 100000 in
set_option maxHeartbeats 4000000 in
theorem Fms_err (f m : Int) (a b c : Nat) (w : World) (ha : a < 18446744073709551616) (hb : b < 18446744073709551616) (hc : c < 18446744073709551616) (he : errL f m [a, b, c] ≠ 0) (hR : GlR w) :
    Calls Tryz.prog 21 #[.int .i64 f, .int .i64 m, .int .u64 a, .int .u64 b, .int .u64 c] w fun e w' => e = .returned (.tuple #[.int .u64 0, .int .i64 0, .int .i64 (errL f m [a, b, c])]) ∧ Below w.heap.size w w' := by
  have hb0 := below1 w (.cells #[.int .u64 a, .int .u64 b, .int .u64 c] 25)
  have bs := Bx.new w #[.int .u64 a, .int .u64 b, .int .u64 c] 25
  have HB := Lib.hid hb0
  have hrf := frefuses_err f m w.heap.size [a, b, c] _ (by intro x hx; simp at hx; rcases hx with rfl | rfl | rfl <;> assumption) (by simp) (by simp) (by
    intro j hj
    have hj' : j = 0 ∨ j = 1 ∨ j = 2 := by simp at hj; omega
    rcases hj' with rfl | rfl | rfl
    · exact bs.cell 0 rfl
    · exact bs.cell 1 rfl
    · exact bs.cell 2 rfl
    ) he (hR.below hb0)
  have Hrf := Lib.hid hrf
  have te : (errL f m [a, b, c] != 0) = true := by simpa using he
  generalize errL f m [a, b, c] = c0 at *
  clear hrf hb0 bs he hR ha hb hc
  go_enter Tryz.func21, Tryz.ntmps21
  go_wp2_with fail
  refine Hrf.out.mono ?_
  rintro _ w1 ⟨rfl, hb1⟩
  replace HB := Lib.hid (keep_belowB HB.out hb1 (Nat.le_refl _))
  clear hb1 Hrf
  go_wp2_with fail
  refine bodyPost_ret (v := .tuple #[.int .u64 0, .int .i64 0, .int .i64 c0]) (by simp [results, Tryz.results21, go_sem]) rfl ⟨rfl, HB.out⟩

theorem Fms_all (f m : Int) (a b c : Nat) (w : World) (ha : a < 18446744073709551616) (hb : b < 18446744073709551616) (hc : c < 18446744073709551616) (hG : Gl w) (hR : GlR w) :
    Calls Tryz.prog 21 #[.int .i64 f, .int .i64 m, .int .u64 a, .int .u64 b, .int .u64 c] w fun e w' => e = .returned (.tuple #[.int .u64 ((fmsA f m a b c).1 : Int), .int .i64 ((fmsA f m a b c).2.1 : Int), .int .i64 (fmsA f m a b c).2.2]) ∧ Below w.heap.size w w' := by
  unfold fmsA
  by_cases h : errL f m [a, b, c] = 0
  · rw [if_pos h]
    obtain ⟨n, k, rfl, hn, rfl, hk, hall⟩ := errL_ok h
    exact Fms_ok n k a b c w hn hk (hall _ (by simp)) (hall _ (by simp)) (hall _ (by simp)) hG hR
  · rw [if_neg h]; exact Fms_err f m a b c w ha hb hc h hR

def fnmaA (f m : Int) (a b c : Nat) : Nat × Nat × Int := if errL f m [a, b, c] = 0 then ((fmaS (fm f.toNat) m.toNat ((fm f.toNat).flip a) b c).1, (fmaS (fm f.toNat) m.toNat ((fm f.toNat).flip a) b c).2, 0) else (0, 0, errL f m [a, b, c])

set_option maxRecDepth 100000 in
set_option maxHeartbeats 4000000 in
theorem Fnma_err (f m : Int) (a b c : Nat) (w : World) (ha : a < 18446744073709551616) (hb : b < 18446744073709551616) (hc : c < 18446744073709551616) (he : errL f m [a, b, c] ≠ 0) (hR : GlR w) :
    Calls Tryz.prog 23 #[.int .i64 f, .int .i64 m, .int .u64 a, .int .u64 b, .int .u64 c] w fun e w' => e = .returned (.tuple #[.int .u64 0, .int .i64 0, .int .i64 (errL f m [a, b, c])]) ∧ Below w.heap.size w w' := by
  have hb0 := below1 w (.cells #[.int .u64 a, .int .u64 b, .int .u64 c] 25)
  have bs := Bx.new w #[.int .u64 a, .int .u64 b, .int .u64 c] 25
  have HB := Lib.hid hb0
  have hrf := frefuses_err f m w.heap.size [a, b, c] _ (by intro x hx; simp at hx; rcases hx with rfl | rfl | rfl <;> assumption) (by simp) (by simp) (by
    intro j hj
    have hj' : j = 0 ∨ j = 1 ∨ j = 2 := by simp at hj; omega
    rcases hj' with rfl | rfl | rfl
    · exact bs.cell 0 rfl
    · exact bs.cell 1 rfl
    · exact bs.cell 2 rfl
    ) he (hR.below hb0)
  have Hrf := Lib.hid hrf
  have te : (errL f m [a, b, c] != 0) = true := by simpa using he
  generalize errL f m [a, b, c] = c0 at *
  clear hrf hb0 bs he hR ha hb hc
  go_enter Tryz.func23, Tryz.ntmps23
  go_wp2_with fail
  refine Hrf.out.mono ?_
  rintro _ w1 ⟨rfl, hb1⟩
  replace HB := Lib.hid (keep_belowB HB.out hb1 (Nat.le_refl _))
  clear hb1 Hrf
  go_wp2_with fail
  refine bodyPost_ret (v := .tuple #[.int .u64 0, .int .i64 0, .int .i64 c0]) (by simp [results, Tryz.results23, go_sem]) rfl ⟨rfl, HB.out⟩

theorem Fnma_all (f m : Int) (a b c : Nat) (w : World) (ha : a < 18446744073709551616) (hb : b < 18446744073709551616) (hc : c < 18446744073709551616) (hG : Gl w) (hR : GlR w) :
    Calls Tryz.prog 23 #[.int .i64 f, .int .i64 m, .int .u64 a, .int .u64 b, .int .u64 c] w fun e w' => e = .returned (.tuple #[.int .u64 ((fnmaA f m a b c).1 : Int), .int .i64 ((fnmaA f m a b c).2.1 : Int), .int .i64 (fnmaA f m a b c).2.2]) ∧ Below w.heap.size w w' := by
  unfold fnmaA
  by_cases h : errL f m [a, b, c] = 0
  · rw [if_pos h]
    obtain ⟨n, k, rfl, hn, rfl, hk, hall⟩ := errL_ok h
    exact Fnma_ok n k a b c w hn hk (hall _ (by simp)) (hall _ (by simp)) (hall _ (by simp)) hG hR
  · rw [if_neg h]; exact Fnma_err f m a b c w ha hb hc h hR

def dotA (f m : Int) (a b c d : Nat) : Nat × Nat × Int := if errL f m [a, b, c, d] = 0 then ((dot2S (fm f.toNat) m.toNat a b c d).1, (dot2S (fm f.toNat) m.toNat a b c d).2, 0) else (0, 0, errL f m [a, b, c, d])

set_option maxRecDepth 100000 in
set_option maxHeartbeats 4000000 in
theorem Dot2_err (f m : Int) (a b c d : Nat) (w : World) (ha : a < 18446744073709551616) (hb : b < 18446744073709551616) (hc : c < 18446744073709551616) (hd : d < 18446744073709551616) (he : errL f m [a, b, c, d] ≠ 0) (hR : GlR w) :
    Calls Tryz.prog 19 #[.int .i64 f, .int .i64 m, .int .u64 a, .int .u64 b, .int .u64 c, .int .u64 d] w fun e w' => e = .returned (.tuple #[.int .u64 0, .int .i64 0, .int .i64 (errL f m [a, b, c, d])]) ∧ Below w.heap.size w w' := by
  have hb0 := below1 w (.cells #[.int .u64 a, .int .u64 b, .int .u64 c, .int .u64 d] 25)
  have bs := Bx.new w #[.int .u64 a, .int .u64 b, .int .u64 c, .int .u64 d] 25
  have HB := Lib.hid hb0
  have hrf := frefuses_err f m w.heap.size [a, b, c, d] _ (by intro x hx; simp at hx; rcases hx with rfl | rfl | rfl | rfl <;> assumption) (by simp) (by simp) (by
    intro j hj
    have hj' : j = 0 ∨ j = 1 ∨ j = 2 ∨ j = 3 := by simp at hj; omega
    rcases hj' with rfl | rfl | rfl | rfl
    · exact bs.cell 0 rfl
    · exact bs.cell 1 rfl
    · exact bs.cell 2 rfl
    · exact bs.cell 3 rfl
    ) he (hR.below hb0)
  have Hrf := Lib.hid hrf
  have te : (errL f m [a, b, c, d] != 0) = true := by simpa using he
  generalize errL f m [a, b, c, d] = c0 at *
  clear hrf hb0 bs he hR ha hb hc hd
  go_enter Tryz.func19, Tryz.ntmps19
  go_wp2_with fail
  refine Hrf.out.mono ?_
  rintro _ w1 ⟨rfl, hb1⟩
  replace HB := Lib.hid (keep_belowB HB.out hb1 (Nat.le_refl _))
  clear hb1 Hrf
  go_wp2_with fail
  refine bodyPost_ret (v := .tuple #[.int .u64 0, .int .i64 0, .int .i64 c0]) (by simp [results, Tryz.results19, go_sem]) rfl ⟨rfl, HB.out⟩

theorem Dot2_all (f m : Int) (a b c d : Nat) (w : World) (ha : a < 18446744073709551616) (hb : b < 18446744073709551616) (hc : c < 18446744073709551616) (hd : d < 18446744073709551616) (hG : Gl w) (hR : GlR w) :
    Calls Tryz.prog 19 #[.int .i64 f, .int .i64 m, .int .u64 a, .int .u64 b, .int .u64 c, .int .u64 d] w fun e w' => e = .returned (.tuple #[.int .u64 ((dotA f m a b c d).1 : Int), .int .i64 ((dotA f m a b c d).2.1 : Int), .int .i64 (dotA f m a b c d).2.2]) ∧ Below w.heap.size w w' := by
  unfold dotA
  by_cases h : errL f m [a, b, c, d] = 0
  · rw [if_pos h]
    obtain ⟨n, k, rfl, hn, rfl, hk, hall⟩ := errL_ok h
    exact Dot2_ok n k a b c d w hn hk (hall _ (by simp)) (hall _ (by simp)) (hall _ (by simp)) (hall _ (by simp)) hG hR
  · rw [if_neg h]; exact Dot2_err f m a b c d w ha hb hc hd h hR

end Go.Proofs.YtdbfkfbncmbfcaaGreatDoor
