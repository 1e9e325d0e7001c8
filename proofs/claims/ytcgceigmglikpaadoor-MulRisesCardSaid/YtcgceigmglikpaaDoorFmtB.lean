/- Walks of layer 4: join, Class, Fields. -/
import Derived.Test.YtcgceigmglikpaaDoorFmtA
namespace Go.Proofs.YtcgceigmglikpaaDoor
set_option linter.unusedVariables false
open Go.RowKit

section
variable {F : Fm}
theorem abs_parts (a : Nat) : F.abs a = F.fx a * 2 ^ (F.p - 1) + F.fy a := by
  unfold Fm.fx Fm.fy; rw [Nat.mul_comm]; exact (Nat.div_add_mod _ _).symm
theorem fy_lt (a : Nat) : F.fy a < 2 ^ (F.p - 1) := Nat.mod_lt _ (pow_pos2 _)
theorem fx_lt (ok : F.Ok) (a : Nat) : F.fx a < 2 ^ (F.w - F.p) := by
  unfold Fm.fx
  rw [Nat.div_lt_iff_lt_mul (pow_pos2 _), ← Nat.pow_add, show F.w - F.p + (F.p - 1) = F.w - 1 by have := ok.pw; have := ok.p8; omega]
  exact abs_lt a
theorem inf_parts : F.inf = (2 ^ (F.w - F.p) - 1) * 2 ^ (F.p - 1) := rfl

theorem isNan_iff (ok : F.Ok) (a : Nat) : F.isNan a = (decide (F.fx a = 2 ^ (F.w - F.p) - 1) && !decide (F.fy a = 0)) := by
  have h1 := abs_parts (F := F) a
  have h2 := fy_lt (F := F) a
  have h3 := fx_lt ok a
  unfold Fm.isNan
  rw [h1, inf_parts]
  by_cases h : F.fx a = 2 ^ (F.w - F.p) - 1
  · rw [h]
    by_cases h0 : F.fy a = 0
    · simp [h0]
    · simp [h0]; omega
  · have : F.fx a + 1 ≤ 2 ^ (F.w - F.p) - 1 := by omega
    have := Nat.mul_le_mul_right (2 ^ (F.p - 1)) this
    rw [Nat.add_mul] at this
    simp [h]; omega
theorem isInf_iff (ok : F.Ok) (a : Nat) : F.isInf a = (decide (F.fx a = 2 ^ (F.w - F.p) - 1) && decide (F.fy a = 0)) := by
  have h1 := abs_parts (F := F) a
  have h2 := fy_lt (F := F) a
  have h3 := fx_lt ok a
  unfold Fm.isInf
  rw [h1, inf_parts]
  by_cases h : F.fx a = 2 ^ (F.w - F.p) - 1
  · rw [h]; simp
  · have : F.fx a + 1 ≤ 2 ^ (F.w - F.p) - 1 := by omega
    have := Nat.mul_le_mul_right (2 ^ (F.p - 1)) this
    rw [Nat.add_mul] at this
    simp [h]; omega
theorem isSig_iff (ok : F.Ok) (a : Nat) : F.isSig a = (F.isNan a && !decide (2 ^ (F.p - 2) ≤ F.fy a)) := by
  have h1 := abs_parts (F := F) a
  unfold Fm.isSig
  rw [isNan_iff ok]
  by_cases h : F.fx a = 2 ^ (F.w - F.p) - 1
  · rw [h1, inf_parts, h]
    congr 1
    by_cases h0 : 2 ^ (F.p - 2) ≤ F.fy a
    · simp [h0]
    · simp [h0]; omega
  · simp [h]
theorem isZero_iff (a : Nat) : F.isZero a = (decide (F.fx a = 0) && decide (F.fy a = 0)) := by
  have h1 := abs_parts (F := F) a
  have := pow_pos2 (F.p - 1)
  unfold Fm.isZero
  rw [h1]
  by_cases h : F.fx a = 0
  · rw [h]; simp
  · have := Nat.mul_pos (Nat.pos_of_ne_zero h) this
    simp [h]; omega
end

/-- the class of bits -/
def clsF (F : Fm) (a : Nat) : Int :=
  if F.fx a = 2 ^ (F.w - F.p) - 1 then (if F.fy a = 0 then (if F.neg a then 2 else 9) else if 2 ^ (F.p - 2) ≤ F.fy a then 1 else 0)
  else if F.fx a = 0 then (if F.fy a = 0 then (if F.neg a then 5 else 6) else (if F.neg a then 4 else 7)) else (if F.neg a then 3 else 8)

theorem or_add (x y n : Nat) (h : y < 2 ^ n) : x * 2 ^ n ||| y = x * 2 ^ n + y := by
  rw [Nat.mul_comm]; exact (Nat.two_pow_add_eq_or_of_lt h x).symm

set_option maxHeartbeats 400000 in
theorem join_any (F : Fm) (ok : F.Ok) (s : Bool) (x y : Nat) (w : World) (hx : x < 2 ^ (F.w - F.p)) (hy : y < 2 ^ (F.p - 1)) : Calls Tryd.prog 79 #[PV F, .bool s, .int .u64 x, .int .u64 y] w fun e w' => e = .returned (.int .u64 ((x * 2 ^ (F.p - 1) + y + F.sg s : Nat) : Int)) ∧ Below w.heap.size w w' := by
  obtain ⟨p8, p53, pw, w64, emx, emn, b16, b1023⟩ := id ok
  clear emx emn
  obtain ⟨n, hn⟩ : ∃ n, n = F.p - 1 := ⟨_, rfl⟩
  obtain ⟨k, hk⟩ : ∃ k, k = F.w - 1 := ⟨_, rfl⟩
  have e1 : (F.p : Int) - 1 = (n : Int) := by omega
  have e2 : (F.w : Int) - 1 = (k : Int) := by omega
  have hn63 : n ≤ 63 := by omega
  have hk63 : k ≤ 63 := by omega
  have hk1 : 1 ≤ k := by omega
  have hs : x * 2 ^ n + y < 2 ^ k := by
    have := Nat.mul_le_mul_right (2 ^ (F.p - 1)) (show x + 1 ≤ 2 ^ (F.w - F.p) from hx)
    rw [Nat.add_mul, Nat.one_mul, ← Nat.pow_add, show F.w - F.p + (F.p - 1) = k by omega] at this
    rw [hn]; omega
  have hK : 2 ^ k ≤ 2 ^ 63 := Nat.pow_le_pow_right (by decide) hk63
  have hx64 : x < 18446744073709551616 := Nat.lt_of_lt_of_le hx (Nat.le_trans (Nat.pow_le_pow_right (show 0 < 2 by decide) (show F.w - F.p ≤ 63 by omega)) (by decide))
  have hy64 : y < 18446744073709551616 := by rw [← hn] at hy; have : (2 : Nat) ^ n ≤ 2 ^ 63 := Nat.pow_le_pow_right (by decide) hn63; omega
  obtain ⟨s1, hs1⟩ : ∃ s1, s1 = x * 2 ^ n := ⟨_, rfl⟩
  obtain ⟨s2, hs2⟩ : ∃ s2, s2 = x * 2 ^ n + y := ⟨_, rfl⟩
  obtain ⟨s3, hs3⟩ : ∃ s3, s3 = 2 ^ k := ⟨_, rfl⟩
  obtain ⟨s4, hs4⟩ : ∃ s4, s4 = s2 + s3 := ⟨_, rfl⟩
  have h1 : IntKind.u64.wrap ((x : Int) * 2 ^ n) = (s1 : Int) := by rw [wrap_shl_nat, hs1, Nat.mod_eq_of_lt (by omega)]
  have h2 : bits .or .u64 (s1 : Int) (y : Int) = (s2 : Int) := by rw [or_nat _ _ (by omega) hy64, hs1, hs2, or_add _ _ _ (by rw [hn]; exact hy)]
  have h3 : IntKind.u64.wrap ((2 : Int) ^ k) = (s3 : Int) := by
    have e0 : (2 : Int) ^ k = ((2 ^ k : Nat) : Int) := by simp
    rw [e0, hs3, IntKind.wrap_u64]; omega
  have h4 : bits .or .u64 (s2 : Int) (s3 : Int) = (s4 : Int) := by
    rw [or_nat _ _ (by omega) (by omega), hs4, hs3, Nat.or_comm]
    have := or_add 1 s2 k (by omega)
    rw [Nat.one_mul] at this
    rw [this]; omega
  obtain ⟨R, hR⟩ : ∃ R, R = x * 2 ^ (F.p - 1) + y + F.sg s := ⟨_, rfl⟩
  rw [← hR]
  have E : Hid (R = if s then s4 else s2) := by
    show _ = _
    rw [hR]
    unfold Fm.sg
    rw [← hn, ← hk, hs4, hs2, hs3]; cases s <;> simp
  unfold PV
  clear hR hs1 hs2 hs3 hs4 hn hk hs hK hx hy p8 p53 pw w64 b16 b1023
  cases s
  · go_enter Tryd.func79, Tryd.ntmps79
    go_wp2
    go_ret
    exact ⟨by rw [E.out]; rfl, (Below.refl _ _).alloc (Nat.le_refl _) _⟩
  · go_enter Tryd.func79, Tryd.ntmps79
    go_wp2
    go_ret
    exact ⟨by rw [E.out]; rfl, (Below.refl _ _).alloc (Nat.le_refl _) _⟩

set_option maxRecDepth 100000 in
set_option maxHeartbeats 2000000 in
theorem Class_ok (f a : Nat) (w : World) (hf : f < 4) (ha : a < 2 ^ (fm f).w) (hG : GlR w) : Calls Tryd.prog 25 #[.int .i64 f, .int .u64 a] w fun e w' => e = .returned (.tuple #[.int .i64 (clsF (fm f) a), .int .i64 0]) ∧ Below w.heap.size w w' := by
  have ok := fm_ok f
  obtain ⟨p8, p53, pw, w64, emx, emn, b16, b1023⟩ := id ok
  clear emx emn
  obtain ⟨c, hc⟩ : ∃ c, c = clsF (fm f) a := ⟨_, rfl⟩
  rw [← hc]
  unfold clsF at hc
  have HG := Lib.hid hG
  clear hG
  go_enter Tryd.func25, Tryd.ntmps25
  go_wp2_with fail
  refine (Check_ok f a w hf ha HG.out).mono ?_
  rintro _ w1 ⟨rfl, hb1⟩
  have hG1 := HG.out.below hb1
  obtain ⟨c0, c1, c2, c3⟩ := hG1.1 f hf
  have hgl := hG1.2
  have HB := Lib.hid hb1
  clear hG1 hb1 HG
  generalize hF : fm f = F at *
  have HF := Lib.hid hF
  clear hF
  have bx := BxP.new F w1 58
  go_wp2_with fail
  refine (split_any F ok a _ ha).mono ?_
  rintro _ w2 ⟨rfl, hb2⟩
  obtain ⟨q0, q1, -, -⟩ := (bx.below hb2).cells
  replace HB := Lib.hid (keep_belowB (HB.out.trans ((below1 w1 (.cells #[.int .i64 F.w, .int .i64 F.p, .int .i64 F.emin, .int .i64 F.emax] 58)).mono HB.out.size)) hb2 (Nat.le_refl _))
  obtain ⟨t, ht⟩ : ∃ t, t = F.w - F.p := ⟨_, rfl⟩
  obtain ⟨j, hj⟩ : ∃ j, j = F.p - 2 := ⟨_, rfl⟩
  rw [← ht, ← hj] at hc
  have e2 : (F.w : Int) - F.p = (t : Int) := by omega
  have e3 : (F.p : Int) - 2 = (j : Int) := by omega
  have ht63 : t ≤ 63 := by omega
  have hj63 : j ≤ 63 := by omega
  have hyl : F.fy a < 18446744073709551616 := Nat.lt_of_lt_of_le (fy_lt a) (Nat.le_trans (Nat.pow_le_pow_right (show 0 < 2 by decide) (show F.p - 1 ≤ 64 by omega)) (by decide))
  obtain ⟨o1, ho1⟩ : ∃ o, Hid (o = 2 ^ t - 1) := ⟨_, Lib.hid rfl⟩
  rw [← ho1.out] at hc
  clear bx hb2 ha c0 c1 c2 c3 hgl hj ht p8 p53 pw w64 b16 b1023 ok
  generalize F.fx a = x at *
  generalize F.fy a = y at *
  generalize F.neg a = s at *
  have Hc := Lib.hid hc
  clear hc
  by_cases b1 : x = o1
  · have t1 : ((x : Int) == o1) = true := by simp [b1]
    by_cases b2 : y = 0
    · have t2 : ((y : Int) == 0) = true := by simp [b2]
      have E : Hid (c = if s then 2 else 9) := by show c = _; rw [Hc.out, if_pos b1, if_pos b2]
      clear Hc b1 b2
      cases s
      all_goals
        go_wp2_with (go_at_call 77; refine (ones_op t o1 _ ht63 ho1).mono ?_; rintro _ _ ⟨rfl, rfl⟩)
        go_ret2
        exact ⟨by rw [E.out]; rfl, HB.out⟩
    · have t2 : ((y : Int) == 0) = false := by simp [b2]
      by_cases b3 : 2 ^ j ≤ y
      · have t3 : ((y : Int) / 2 ^ j != 0) = true := by rw [shr_nz]; simp [b3]
        have E : Hid (c = 1) := by show c = _; rw [Hc.out, if_pos b1, if_neg b2, if_pos b3]
        clear Hc b1 b2 b3
        go_wp2_with (go_at_call 77; refine (ones_op t o1 _ ht63 ho1).mono ?_; rintro _ _ ⟨rfl, rfl⟩)
        go_ret2
        exact ⟨by rw [E.out]; rfl, HB.out⟩
      · have t3 : ((y : Int) / 2 ^ j != 0) = false := by rw [shr_nz]; simp [b3]
        have E : Hid (c = 0) := by show c = _; rw [Hc.out, if_pos b1, if_neg b2, if_neg b3]
        clear Hc b1 b2 b3
        go_wp2_with (go_at_call 77; refine (ones_op t o1 _ ht63 ho1).mono ?_; rintro _ _ ⟨rfl, rfl⟩)
        go_ret2
        exact ⟨by rw [E.out]; rfl, HB.out⟩
  · have t1 : ((x : Int) == o1) = false := by rw [beq_eq_false_iff_ne]; omega
    by_cases b4 : x = 0
    · have t4 : ((x : Int) == 0) = true := by simp [b4]
      by_cases b2 : y = 0
      · have t2 : ((y : Int) == 0) = true := by simp [b2]
        have E : Hid (c = if s then 5 else 6) := by show c = _; rw [Hc.out, if_neg b1, if_pos b4, if_pos b2]
        clear Hc b1 b2 b4
        cases s
        all_goals
          go_wp2_with (go_at_call 77; refine (ones_op t o1 _ ht63 ho1).mono ?_; rintro _ _ ⟨rfl, rfl⟩)
          go_ret2
          exact ⟨by rw [E.out]; rfl, HB.out⟩
      · have t2 : ((y : Int) == 0) = false := by simp [b2]
        have E : Hid (c = if s then 4 else 7) := by show c = _; rw [Hc.out, if_neg b1, if_pos b4, if_neg b2]
        clear Hc b1 b2 b4
        cases s
        all_goals
          go_wp2_with (go_at_call 77; refine (ones_op t o1 _ ht63 ho1).mono ?_; rintro _ _ ⟨rfl, rfl⟩)
          go_ret2
          exact ⟨by rw [E.out]; rfl, HB.out⟩
    · have t4 : ((x : Int) == 0) = false := by simp [b4]
      have E : Hid (c = if s then 3 else 8) := by show c = _; rw [Hc.out, if_neg b1, if_neg b4]
      clear Hc b1 b4
      cases s
      all_goals
        go_wp2_with (go_at_call 77; refine (ones_op t o1 _ ht63 ho1).mono ?_; rintro _ _ ⟨rfl, rfl⟩)
        go_ret2
        exact ⟨by rw [E.out]; rfl, HB.out⟩

end Go.Proofs.YtcgceigmglikpaaDoor
