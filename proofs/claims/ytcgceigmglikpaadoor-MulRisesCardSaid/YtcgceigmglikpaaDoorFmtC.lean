/- Walks of layer 4: Fields, sign, Neg, Abs, Pack. -/
import Derived.Test.YtcgceigmglikpaaDoorFmtB
namespace Go.Proofs.YtcgceigmglikpaaDoor
set_option linter.unusedVariables false
open Go.RowKit

set_option maxHeartbeats 1000000 in
theorem Fields_ok (f a : Nat) (w : World) (hf : f < 4) (ha : a < 2 ^ (fm f).w) (hG : GlR w) : Calls Tryd.prog 99 #[.int .i64 f, .int .u64 a] w fun e w' => e = .returned (.tuple #[.bool ((fm f).neg a), .int .u64 ((fm f).fx a : Int), .int .u64 ((fm f).fy a : Int), .int .i64 0]) ∧ Below w.heap.size w w' := by
  have ok := fm_ok f
  have HG := Lib.hid hG
  clear hG
  obtain ⟨s, hs⟩ : ∃ s, s = (fm f).neg a := ⟨_, rfl⟩
  obtain ⟨x, hx⟩ : ∃ x, x = (fm f).fx a := ⟨_, rfl⟩
  obtain ⟨y, hy⟩ : ∃ y, y = (fm f).fy a := ⟨_, rfl⟩
  rw [← hs, ← hx, ← hy]
  have Hs := Lib.hid hs
  have Hx := Lib.hid hx
  have Hy := Lib.hid hy
  clear hs hx hy
  go_enter Tryd.func99, Tryd.ntmps99
  go_wp2_with fail
  refine (Check_ok f a w hf ha HG.out).mono ?_
  rintro _ w1 ⟨rfl, hb1⟩
  have hG1 := HG.out.below hb1
  obtain ⟨c0, c1, c2, c3⟩ := hG1.1 f hf
  have hgl := hG1.2
  have HB := Lib.hid hb1
  clear hG1 hb1 HG
  generalize fm f = F at *
  go_wp2_with fail
  refine (split_any F ok a _ ha).mono ?_
  rintro _ w2 ⟨rfl, hb2⟩
  replace HB := Lib.hid (HB.out.trans (hb2.mono HB.out.size))
  clear hb2 ha c0 c1 c2 c3 hgl ok
  rw [← Hs.out, ← Hx.out, ← Hy.out]
  clear Hs Hx Hy
  go_wp2
  refine bodyPost_ret (v := .tuple #[.bool s, .int .u64 x, .int .u64 y, .int .i64 0]) (by simp [results, Tryd.results99, go_sem]) rfl ?_
  exact ⟨rfl, HB.out⟩

theorem sign_ok (f : Nat) (w : World) (hf : f < 4) (hG : GlR w) : Calls Tryd.prog 75 #[.int .i64 f] w fun e w' => e = .returned (.int .u64 ((2 ^ ((fm f).w - 1) : Nat) : Int)) ∧ w = w' := by
  have ok := fm_ok f
  obtain ⟨c0, c1, c2, c3⟩ := hG.1 f hf
  have hgl := hG.2
  have hw := ok.w64
  have hpw := ok.pw
  clear hG ok
  generalize fm f = F at *
  obtain ⟨k, hk⟩ : ∃ k, k = F.w - 1 := ⟨_, rfl⟩
  have e2 : (F.w : Int) - 1 = (k : Int) := by omega
  have hk63 : k ≤ 63 := by omega
  rw [← hk]
  obtain ⟨s3, hs3⟩ : ∃ s3, s3 = 2 ^ k := ⟨_, rfl⟩
  have hK : 2 ^ k ≤ 2 ^ 63 := Nat.pow_le_pow_right (by decide) hk63
  have h3 : IntKind.u64.wrap ((2 : Int) ^ k) = (s3 : Int) := by
    have e0 : (2 : Int) ^ k = ((2 ^ k : Nat) : Int) := by simp
    rw [e0, hs3, IntKind.wrap_u64]; omega
  rw [← hs3]
  clear hs3 hK hk
  go_enter Tryd.func75, Tryd.ntmps75
  go_wp2
  go_ret
  exact ⟨rfl, rfl⟩

theorem xor_flip (F : Fm) (ok : F.Ok) {a : Nat} (ha : a < 2 ^ F.w) : a ^^^ 2 ^ (F.w - 1) = F.flip a := by
  have hw := w_two ok
  have hl := abs_lt (F := F) a
  have hp := parts_mk ok ha
  obtain ⟨k, hk⟩ : ∃ k, k = F.w - 1 := ⟨_, rfl⟩
  unfold Fm.flip
  conv => lhs; rw [hp]
  rw [← hk] at hl
  unfold Fm.sg
  rw [← hk]
  generalize F.abs a = x at *
  have hx : x.testBit k = false := Nat.testBit_lt_two_pow hl
  have key : x + 2 ^ k = x ^^^ 2 ^ k := by
    have h1 := Nat.two_pow_add_eq_or_of_lt hl 1
    rw [Nat.mul_one] at h1
    rw [Nat.add_comm, h1]
    apply Nat.eq_of_testBit_eq
    intro i
    rw [Nat.testBit_or, Nat.testBit_xor, Nat.testBit_two_pow]
    by_cases hik : k = i
    · subst hik; simp [hx]
    · simp [hik]
  cases F.neg a
  · simp [key]
  · simp [key, Nat.xor_assoc]

theorem andNot_abs (F : Fm) (ok : F.Ok) {a : Nat} (ha : a < 2 ^ F.w) : a &&& (18446744073709551615 - 2 ^ (F.w - 1)) = F.abs a := by
  have h64 := ok.w64
  have hpw := ok.pw
  obtain ⟨k, hk⟩ : ∃ k, k = F.w - 1 := ⟨_, rfl⟩
  have hlt : 2 ^ k < 2 ^ 64 := Nat.pow_lt_pow_right (by decide) (by omega)
  rw [show F.w = k + 1 by omega] at ha
  unfold Fm.abs
  rw [← hk]
  rw [show 18446744073709551615 - 2 ^ k = 2 ^ 64 - (2 ^ k + 1) by omega]
  apply Nat.eq_of_testBit_eq
  intro i
  rw [Nat.testBit_and, Nat.testBit_two_pow_sub_succ hlt, Nat.testBit_two_pow, Nat.testBit_mod_two_pow]
  rcases Nat.lt_or_ge i k with h | h
  · have a1 : i < 64 := by omega
    have a2 : ¬ k = i := by omega
    simp [h, a1, a2]
  · rcases Nat.lt_or_ge k i with h2 | h2
    · have : a.testBit i = false := Nat.testBit_lt_two_pow (Nat.lt_of_lt_of_le ha (Nat.pow_le_pow_right (by decide) h2))
      simp [this]
    · obtain rfl : k = i := by omega
      simp

theorem flip_u64 (F : Fm) (ok : F.Ok) {a : Nat} (ha : a < 2 ^ F.w) : F.flip a < 18446744073709551616 ∧ a < 18446744073709551616 ∧ 2 ^ (F.w - 1) < 18446744073709551616 := by
  have h1 : (2 : Nat) ^ F.w ≤ 2 ^ 64 := Nat.pow_le_pow_right (by decide) ok.w64
  have h2 := flip_lt ok a
  have h3 := w_two ok
  have := pow_pos2 (F.w - 1)
  omega

set_option maxHeartbeats 1000000 in
theorem FNeg_ok (f a : Nat) (w : World) (hf : f < 4) (ha : a < 2 ^ (fm f).w) (hG : GlR w) : Calls Tryd.prog 23 #[.int .i64 f, .int .u64 a] w fun e w' => e = .returned (.tuple #[.int .u64 ((fm f).flip a : Int), .int .i64 0]) ∧ Below w.heap.size w w' := by
  have ok := fm_ok f
  obtain ⟨h1, h2, h3⟩ := flip_u64 (fm f) ok ha
  have hx := bits_xor_u64_nat a (2 ^ ((fm f).w - 1)) h2 h3
  rw [xor_flip (fm f) ok ha] at hx
  obtain ⟨r, hr⟩ : ∃ r, r = (fm f).flip a := ⟨_, rfl⟩
  obtain ⟨s, hs⟩ : ∃ s, Hid (s = 2 ^ ((fm f).w - 1)) := ⟨_, Lib.hid rfl⟩
  rw [← hr, ← hs.out] at hx
  rw [← hr]
  have HG := Lib.hid hG
  clear hG hr h1 h2 h3
  go_enter Tryd.func23, Tryd.ntmps23
  go_wp2_with fail
  refine (Check_ok f a w hf ha HG.out).mono ?_
  rintro _ w1 ⟨rfl, hb1⟩
  have hG1 := HG.out.below hb1
  have HB := Lib.hid hb1
  clear hb1 HG
  go_wp2_with fail
  refine (sign_ok f w1 hf hG1).mono ?_
  rintro _ w2 ⟨rfl, rfl⟩
  rw [← hs.out]
  clear hG1 ha
  go_wp2
  go_ret2
  exact ⟨rfl, HB.out⟩

set_option maxHeartbeats 1000000 in
theorem FAbs_ok (f a : Nat) (w : World) (hf : f < 4) (ha : a < 2 ^ (fm f).w) (hG : GlR w) : Calls Tryd.prog 26 #[.int .i64 f, .int .u64 a] w fun e w' => e = .returned (.tuple #[.int .u64 ((fm f).abs a : Int), .int .i64 0]) ∧ Below w.heap.size w w' := by
  have ok := fm_ok f
  obtain ⟨h1, h2, h3⟩ := flip_u64 (fm f) ok ha
  have hx := u64_andNot_nat a (2 ^ ((fm f).w - 1)) h2 h3
  rw [andNot_abs (fm f) ok ha] at hx
  obtain ⟨r, hr⟩ : ∃ r, r = (fm f).abs a := ⟨_, rfl⟩
  obtain ⟨s, hs⟩ : ∃ s, Hid (s = 2 ^ ((fm f).w - 1)) := ⟨_, Lib.hid rfl⟩
  rw [← hr, ← hs.out] at hx
  rw [← hr]
  have HG := Lib.hid hG
  clear hG hr h1 h2 h3
  go_enter Tryd.func26, Tryd.ntmps26
  go_wp2_with fail
  refine (Check_ok f a w hf ha HG.out).mono ?_
  rintro _ w1 ⟨rfl, hb1⟩
  have hG1 := HG.out.below hb1
  have HB := Lib.hid hb1
  clear hb1 HG
  go_wp2_with fail
  refine (sign_ok f w1 hf hG1).mono ?_
  rintro _ w2 ⟨rfl, rfl⟩
  rw [← hs.out]
  clear hG1 ha
  go_wp2
  go_ret2
  exact ⟨rfl, HB.out⟩

end Go.Proofs.YtcgceigmglikpaaDoor
