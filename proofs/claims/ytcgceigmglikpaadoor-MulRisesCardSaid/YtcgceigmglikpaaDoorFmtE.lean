/- Walks of layer 4: Value. -/
import Derived.BigRegion
import Derived.Test.YtcgceigmglikpaaDoorFmtD
import Derived.Test.YtcgceigmglikpaaDoorDyadG
namespace Go.Proofs.YtcgceigmglikpaaDoor
set_option linter.unusedVariables false
open Go.RowKit

/-- a number of one word, laid anew -/
theorem DV.one (w : World) (s : Bool) (v : Nat) (e : Int) (h0 : v ≠ 0) (h : v < 18446744073709551616) : DV w.heap.size (w.alloc (.cells #[.int .u64 v] 22)) (.agg #[.bool s, .slice (some ⟨w.heap.size, 0, none⟩) 1 1, .int .i64 e]) ⟨s, v, e⟩ := by
  have hn : nd 64 (D.mk s v e).n = 1 := nd_word h0 h
  have hr := Rd.one w v h
  refine ⟨some ⟨w.heap.size, 0, none⟩, 1, ?_, ?_, ?_, ?_, ?_⟩
  · rw [hn]
  · rw [hn]; exact Nat.le_refl _
  · rw [hn]; omega
  · rw [hn]; exact hr
  · rw [hn]; exact ⟨_, 1, 1, rfl, Nat.le_refl _, Or.inr ⟨w.heap.size, _, rfl, Nat.le_refl _, heap_alloc_at w _, by simp⟩⟩

theorem tz_tzN {n : Nat} (h : n < 18446744073709551616) (h0 : n ≠ 0) : tz n = tzN n ∧ tz n < 64 := by
  obtain ⟨m, h1, h2⟩ := tz_spec n h h0
  exact ⟨(tzN_unique h1).symm, h2⟩

theorem odd_part_ne {n : Nat} (h0 : n ≠ 0) : n / 2 ^ tzN n ≠ 0 := by
  obtain ⟨m, h1⟩ := tzN_spec n h0
  have : n / 2 ^ tzN n = 2 * m + 1 := by
    conv => lhs; lhs; rw [h1]
    exact Nat.mul_div_cancel_left _ (pow_pos2 _)
  omega

/-- the value of bits -/
def valD (F : Fm) (a : Nat) : D := oddD ⟨F.neg a, F.mag a, F.ex a⟩

set_option maxRecDepth 100000 in
set_option maxHeartbeats 4000000 in
theorem Value_fin (f a : Nat) (w : World) (hf : f < 4) (ha : a < 2 ^ (fm f).w) (hfin : (fm f).abs a < (fm f).inf) (hG : GlR w) (hT : Gl w) :
    Calls Tryd.prog 27 #[.int .i64 f, .int .u64 a] w fun e w' => ∃ x, e = .returned (.tuple #[x, .int .i64 0]) ∧ DV w.heap.size w' x (valD (fm f) a) ∧ Below w.heap.size w w' := by
  have ok := fm_ok f
  obtain ⟨d, hd⟩ : ∃ d, d = valD (fm f) a := ⟨_, rfl⟩
  rw [← hd]
  have Hd := Lib.hid hd
  clear hd
  have HG := Lib.hid hG
  have HT := Lib.hid hT
  clear hG hT
  go_enter Tryd.func27, Tryd.ntmps27
  go_wp2_with fail
  have hb0 := below1 w (Obj.cells #[Value.bool false, Value.slice none 0 0, Value.int IntKind.i64 0] 53)
  have br := Box3.new w (Value.bool false) (Value.slice none 0 0) (Value.int IntKind.i64 0) 53
  refine (Check_ok f a _ hf ha (HG.out.below hb0)).mono ?_
  rintro _ w1 ⟨rfl, hb1⟩
  replace br := br.keep hb1
  have HB := Lib.hid (keep_belowB hb0 hb1 (Nat.le_refl _))
  have hG1 := HG.out.below HB.out
  obtain ⟨c0, c1, c2, c3⟩ := hG1.1 f hf
  have hgl := hG1.2
  have hz1 := hb1.size
  simp at hz1
  clear hG1 hb1 hb0 HG
  generalize hF : fm f = F at *
  clear hF
  have bx := BxP.new F w1 58
  go_wp2_with fail
  refine (split_any F ok a _ ha).mono ?_
  rintro _ w2 ⟨rfl, hb2⟩
  obtain ⟨q0, q1, q2, q3⟩ := (bx.below hb2).cells
  have br2 := (br.alloc (.cells #[.int .i64 F.w, .int .i64 F.p, .int .i64 F.emin, .int .i64 F.emax] 58)).keep hb2
  replace HB := Lib.hid (keep_belowB (HB.out.trans ((below1 w1 (.cells #[.int .i64 F.w, .int .i64 F.p, .int .i64 F.emin, .int .i64 F.emax] 58)).mono HB.out.size)) hb2 (Nat.le_refl _))
  obtain ⟨r0, r1, r2, rf, rz⟩ := br2.cells
  have Bx := Lib.hid (bx.below hb2)
  have Br := Lib.hid br2
  have hz2 := hb2.size
  simp at hz2
  obtain ⟨p8, p53, pw, w64, emx, emn, b16, b1023⟩ := id ok
  obtain ⟨t, ht⟩ : ∃ t, t = F.w - F.p := ⟨_, rfl⟩
  obtain ⟨n1, hn1⟩ : ∃ n1, n1 = F.p - 1 := ⟨_, rfl⟩
  have e2 : (F.w : Int) - F.p = (t : Int) := by omega
  have e1 : (F.p : Int) - 1 = (n1 : Int) := by omega
  have ht63 : t ≤ 63 := by omega
  have hn63 : n1 ≤ 63 := by omega
  obtain ⟨o1, ho1⟩ : ∃ o, Hid (o = 2 ^ t - 1) := ⟨_, Lib.hid rfl⟩
  have hyl := fy_lt (F := F) a
  have hxl := fx_lt ok a
  have hp := abs_parts (F := F) a
  rw [← hn1] at hyl hp
  rw [← ht] at hxl
  have hxo : F.fx a ≠ o1 := by
    intro h
    rw [hp, inf_parts, h, ho1.out, ← ht, ← hn1] at hfin
    omega
  have t1 : ((F.fx a : Int) == (o1 : Int)) = false := by rw [beq_eq_false_iff_ne]; omega
  have hP : (2 : Nat) ^ n1 ≤ 2 ^ 52 := Nat.pow_le_pow_right (by decide) (by omega)
  have hxl2 : F.fx a < 2 ^ 60 := Nat.lt_of_lt_of_le hxl (Nat.pow_le_pow_right (by decide) (by omega))
  have hm : F.mag a = if F.fx a = 0 then F.fy a else 2 ^ n1 + F.fy a := by
    unfold Fm.mag Fm.sig
    rw [← hn1]
    by_cases h : F.fx a = 0
    · have h' : F.abs a / 2 ^ n1 = 0 := by rw [hn1]; exact h
      rw [if_pos h, if_pos h', hp, h]; simp
    · have h' : ¬ F.abs a / 2 ^ n1 = 0 := by rw [hn1]; exact h
      rw [if_neg h, if_neg h']; unfold Fm.fy; rw [← hn1]
  have he : F.ex a = if F.fx a = 0 then F.emin - F.p + 1 else F.emin - F.p + 1 + F.fx a - 1 := by
    unfold Fm.ex Fm.xp Fm.low
    by_cases h : F.fx a = 0
    · have h' : F.abs a / 2 ^ (F.p - 1) = 0 := h
      rw [if_pos h, if_pos h']
    · have h' : ¬ F.abs a / 2 ^ (F.p - 1) = 0 := h
      rw [if_neg h, if_neg h']; rfl
  have hmin : -1022 ≤ F.emin ∧ F.emin ≤ -14 := by omega
  obtain ⟨hmin1, hmin2⟩ := hmin
  have Hm := Lib.hid hm
  have He := Lib.hid he
  clear emx emn ht hn1 b16 b1023 hm he hp hxo hb2 ha hfin c0 c1 c2 c3 hgl bx br br2 hxl
  unfold valD at Hd
  generalize F.neg a = s at *
  generalize F.mag a = N at *
  generalize F.ex a = E at *
  by_cases h0 : F.fx a = 0
  · have t4 : ((F.fx a : Int) == 0) = true := by simp [h0]
    rw [if_pos h0] at Hm He
    generalize F.fx a = x at *
    generalize F.fy a = y at *
    by_cases hy0 : y = 0
    · have t2 : ((y : Int) == 0) = true := by simp [hy0]
      have E1 : Hid (d = D.zero) := by show d = _; rw [Hd.out, Hm.out, hy0]; exact oddD_zero _ _
      clear hy0 h0
      go_wp2_with (go_at_call 77; refine (ones_op t o1 _ ht63 ho1).mono ?_; rintro _ _ ⟨rfl, rfl⟩)
      refine bodyPost_ret (v := .tuple #[.agg #[.bool false, .slice none 0 0, .int .i64 0], .int .i64 0]) (by simp [results, Tryd.results27, go_sem, r0, r1, r2]) rfl ?_
      rw [E1.out]
      exact ⟨_, rfl, DV.zero, below_box HB.out (Nat.le_refl _) _ _ _⟩
    · have t2 : ((y : Int) == 0) = false := by simp [hy0]
      have hy64 : y < 18446744073709551616 := by omega
      have HN := Hm
      obtain ⟨z1, z2⟩ := tz_tzN hy64 hy0
      have E1 : Hid (d = ⟨s, y / 2 ^ tz y, E + tz y⟩) := by
        show d = _
        rw [Hd.out, HN.out, z1]
        unfold oddD
        rw [if_neg hy0]
      have hv0 : y / 2 ^ tz y ≠ 0 := by rw [z1]; exact odd_part_ne hy0
      have hv64 : y / 2 ^ tz y < 18446744073709551616 := Nat.lt_of_le_of_lt (Nat.div_le_self _ _) hy64
      have hsh : (y : Int) / 2 ^ tz y = ((y / 2 ^ tz y : Nat) : Int) := by simp
      have hT2 := (HT.out.below HB.out).1
      have htz := fun wx hx => tz64_any y wx hy64 hx
      have Htz := Lib.hid htz
      clear hy0 h0 z1 htz HN
      generalize y / 2 ^ tz y = v at *
      generalize tz y = z at *
      go_wp2_with (go_at_call 77; refine (ones_op t o1 _ ht63 ho1).mono ?_; rintro _ _ ⟨rfl, rfl⟩)
      refine (Htz.out _ hT2).mono ?_
      rintro _ _ ⟨rfl, rfl⟩
      clear Htz hT2 HT t1 t2 t4 e1 e2 Hd
      go_upto_region 15 with (fail)
      obtain ⟨s0, s1, s2, s3⟩ := (Bx.out.below (below1 w2 (Obj.cells #[.int .u64 v] 22))).cells
      obtain ⟨u0, u1, u2, uf, uz⟩ := (Br.out.alloc (Obj.cells #[.int .u64 v] 22)).cells
      go_region
      obtain ⟨k0, k1, k2, -, -⟩ := ((Br.out.setAll (.bool s) (.slice (some ⟨w2.heap.size, 0, none⟩) 1 1) (.int .i64 (F.emin - F.p + 1 + z))).alloc (Obj.cells #[.int .u64 v] 22)).cells
      go_wp2
      refine bodyPost_ret (v := .tuple #[.agg #[.bool s, .slice (some ⟨w2.heap.size, 0, none⟩) 1 1, .int .i64 (F.emin - F.p + 1 + z)], .int .i64 0]) (by simp [results, Tryd.results27, go_sem, k0, k1, k2]) rfl ?_
      rw [E1.out, show E + (z : Int) = F.emin - F.p + 1 + z by have := He.out; omega]
      have hV := DV.one (((w2.setCell ⟨w.heap.size, 0, none⟩ (.bool s)).setCell ⟨w.heap.size, 1, none⟩ (.slice (some ⟨w2.heap.size, 0, none⟩) 1 1)).setCell ⟨w.heap.size, 2, none⟩ (.int .i64 (F.emin - F.p + 1 + z))) s v (F.emin - F.p + 1 + z) hv0 hv64
      have hbb := below_box HB.out (Nat.le_refl _) (.bool s) (.slice (some ⟨w2.heap.size, 0, none⟩) 1 1) (.int .i64 (F.emin - F.p + 1 + z))
      simp only [World.size_setCell] at hV
      exact ⟨_, rfl, hV.mono (by omega), (hbb.alloc (by simp <;> omega) _).drew⟩
  · have t4 : ((F.fx a : Int) == 0) = false := by simp [h0]
    rw [if_neg h0] at Hm He
    generalize F.fx a = x at *
    generalize F.fy a = y at *
    obtain ⟨s3, hs3⟩ : ∃ s3, s3 = 2 ^ n1 := ⟨_, rfl⟩
    have h3 : IntKind.u64.wrap ((2 : Int) ^ n1) = (s3 : Int) := by
      have e0 : (2 : Int) ^ n1 = ((2 ^ n1 : Nat) : Int) := by simp
      rw [e0, hs3, IntKind.wrap_u64]; omega
    have h4 : bits .or .u64 (y : Int) (s3 : Int) = (N : Int) := by
      rw [or_nat _ _ (by omega) (by omega), hs3, Nat.or_comm, Hm.out]
      have := or_add 1 y n1 hyl
      rw [Nat.one_mul] at this
      rw [this]
    have hy0 : N ≠ 0 := by rw [Hm.out]; have := pow_pos2 n1; omega
    have hy64 : N < 18446744073709551616 := by rw [Hm.out]; omega
    have t2 : ((N : Int) == 0) = false := by simp [hy0]
    have HN : Hid (N = N) := Lib.hid rfl
    clear hs3 Hm
    obtain ⟨z1, z2⟩ := tz_tzN hy64 hy0
    have E1 : Hid (d = ⟨s, N / 2 ^ tz N, E + tz N⟩) := by
      show d = _
      rw [Hd.out, HN.out, z1]
      unfold oddD
      rw [if_neg hy0]
    have hv0 : N / 2 ^ tz N ≠ 0 := by rw [z1]; exact odd_part_ne hy0
    have hv64 : N / 2 ^ tz N < 18446744073709551616 := Nat.lt_of_le_of_lt (Nat.div_le_self _ _) hy64
    have hsh : (N : Int) / 2 ^ tz N = ((N / 2 ^ tz N : Nat) : Int) := by simp
    have hT2 := (HT.out.below HB.out).1
    have htz := fun wx hx => tz64_any N wx hy64 hx
    have Htz := Lib.hid htz
    clear hy0 h0 z1 htz HN
    generalize N / 2 ^ tz N = v at *
    generalize tz N = z at *
    go_wp2_with (go_at_call 77; refine (ones_op t o1 _ ht63 ho1).mono ?_; rintro _ _ ⟨rfl, rfl⟩)
    refine (Htz.out _ hT2).mono ?_
    rintro _ _ ⟨rfl, rfl⟩
    clear Htz hT2 HT t1 t2 t4 e1 e2 Hd
    go_upto_region 15 with (fail)
    obtain ⟨s0, s1, s2, s3⟩ := (Bx.out.below (below1 w2 (Obj.cells #[.int .u64 v] 22))).cells
    obtain ⟨u0, u1, u2, uf, uz⟩ := (Br.out.alloc (Obj.cells #[.int .u64 v] 22)).cells
    go_region
    obtain ⟨k0, k1, k2, -, -⟩ := ((Br.out.setAll (.bool s) (.slice (some ⟨w2.heap.size, 0, none⟩) 1 1) (.int .i64 (x - 1 + F.emin - F.p + 1 + z))).alloc (Obj.cells #[.int .u64 v] 22)).cells
    go_wp2
    refine bodyPost_ret (v := .tuple #[.agg #[.bool s, .slice (some ⟨w2.heap.size, 0, none⟩) 1 1, .int .i64 (x - 1 + F.emin - F.p + 1 + z)], .int .i64 0]) (by simp [results, Tryd.results27, go_sem, k0, k1, k2]) rfl ?_
    rw [E1.out, show E + (z : Int) = x - 1 + F.emin - F.p + 1 + z by have := He.out; omega]
    have hV := DV.one (((w2.setCell ⟨w.heap.size, 0, none⟩ (.bool s)).setCell ⟨w.heap.size, 1, none⟩ (.slice (some ⟨w2.heap.size, 0, none⟩) 1 1)).setCell ⟨w.heap.size, 2, none⟩ (.int .i64 (x - 1 + F.emin - F.p + 1 + z))) s v (x - 1 + F.emin - F.p + 1 + z) hv0 hv64
    have hbb := below_box HB.out (Nat.le_refl _) (.bool s) (.slice (some ⟨w2.heap.size, 0, none⟩) 1 1) (.int .i64 (x - 1 + F.emin - F.p + 1 + z))
    simp only [World.size_setCell] at hV
    exact ⟨_, rfl, hV.mono (by omega), (hbb.alloc (by simp <;> omega) _).drew⟩

/-- the error of a pattern -/
def chkS (f : Int) (a : Nat) : Int := if f < 0 ∨ 4 ≤ f then 2 else if 2 ^ (fm f.toNat).w ≤ a then 4 else 0

theorem Check_any (f : Int) (a : Nat) (w : World) (ha : a < 18446744073709551616) (hG : GlR w) : Calls Tryd.prog 74 #[.int .i64 f, .int .u64 a] w fun e w' => e = .returned (.int .i64 (chkS f a)) ∧ Below w.heap.size w w' := by
  unfold chkS
  by_cases h : f < 0 ∨ 4 ≤ f
  · rw [if_pos h]; exact Check_bad f a w h
  · rw [if_neg h]
    obtain ⟨n, rfl⟩ := Int.eq_ofNat_of_zero_le (show 0 ≤ f by omega)
    rw [Int.toNat_natCast]
    by_cases h2 : 2 ^ (fm n).w ≤ a
    · rw [if_pos h2]; exact Check_big n a w (by omega) h2 ha hG
    · rw [if_neg h2]; exact Check_ok n a w (by omega) (by omega) hG

theorem chkS_ok {f : Int} {a : Nat} (h : chkS f a = 0) : ∃ n : Nat, f = n ∧ n < 4 ∧ a < 2 ^ (fm n).w := by
  unfold chkS at h
  split at h
  · omega
  · rename_i hf
    obtain ⟨n, rfl⟩ := Int.eq_ofNat_of_zero_le (show 0 ≤ f by omega)
    rw [Int.toNat_natCast] at h
    split at h
    · omega
    · exact ⟨n, rfl, by omega, by omega⟩

theorem chkS_of {n a : Nat} (h : n < 4) (ha : a < 2 ^ (fm n).w) : chkS n a = 0 := by
  unfold chkS
  rw [if_neg (by omega), Int.toNat_natCast, if_neg (by omega)]

set_option maxHeartbeats 1000000 in
theorem Value_err (f : Int) (a : Nat) (w : World) (ha : a < 18446744073709551616) (he : chkS f a ≠ 0) (hG : GlR w) :
    Calls Tryd.prog 27 #[.int .i64 f, .int .u64 a] w fun e w' => ∃ x, e = .returned (.tuple #[x, .int .i64 (chkS f a)]) ∧ DV w.heap.size w' x D.zero ∧ Below w.heap.size w w' := by
  have t1 : (chkS f a != 0) = true := by simpa using he
  have hb0 := below1 w (Obj.cells #[Value.bool false, Value.slice none 0 0, Value.int IntKind.i64 0] 53)
  have br := Box3.new w (Value.bool false) (Value.slice none 0 0) (Value.int IntKind.i64 0) 53
  have hC := fun wx => Check_any f a wx ha
  have HC := Lib.hid hC
  have HG := Lib.hid (hG.below hb0)
  clear hC he hG
  generalize chkS f a = c at *
  go_enter Tryd.func27, Tryd.ntmps27
  go_wp2_with fail
  refine (HC.out _ HG.out).mono ?_
  rintro _ w1 ⟨rfl, hb1⟩
  replace br := br.keep hb1
  have HB := Lib.hid (keep_belowB hb0 hb1 (Nat.le_refl _))
  obtain ⟨r0, r1, r2, rf, rz⟩ := br.cells
  clear hb1 hb0 HC HG br
  go_wp2
  refine bodyPost_ret (v := .tuple #[.agg #[.bool false, .slice none 0 0, .int .i64 0], .int .i64 c]) (by simp [results, Tryd.results27, go_sem, r0, r1, r2]) rfl ?_
  exact ⟨_, rfl, DV.zero, below_box HB.out (Nat.le_refl _) _ _ _⟩

set_option maxHeartbeats 1000000 in
theorem FAbs_err (f : Int) (a : Nat) (w : World) (ha : a < 18446744073709551616) (he : chkS f a ≠ 0) (hG : GlR w) : Calls Tryd.prog 26 #[.int .i64 f, .int .u64 a] w fun e w' => e = .returned (.tuple #[.int .u64 0, .int .i64 (chkS f a)]) ∧ Below w.heap.size w w' := by
  have t1 : (chkS f a != 0) = true := by simpa using he
  have HC := Lib.hid (Check_any f a w ha hG)
  clear he hG
  generalize chkS f a = c at *
  go_enter Tryd.func26, Tryd.ntmps26
  go_wp2_with fail
  refine HC.out.mono ?_
  rintro _ w1 ⟨rfl, hb1⟩
  clear HC
  go_wp2
  go_ret2
  exact ⟨rfl, hb1⟩

set_option maxHeartbeats 1000000 in
theorem FNeg_err (f : Int) (a : Nat) (w : World) (ha : a < 18446744073709551616) (he : chkS f a ≠ 0) (hG : GlR w) : Calls Tryd.prog 23 #[.int .i64 f, .int .u64 a] w fun e w' => e = .returned (.tuple #[.int .u64 0, .int .i64 (chkS f a)]) ∧ Below w.heap.size w w' := by
  have t1 : (chkS f a != 0) = true := by simpa using he
  have HC := Lib.hid (Check_any f a w ha hG)
  clear he hG
  generalize chkS f a = c at *
  go_enter Tryd.func23, Tryd.ntmps23
  go_wp2_with fail
  refine HC.out.mono ?_
  rintro _ w1 ⟨rfl, hb1⟩
  clear HC
  go_wp2
  go_ret2
  exact ⟨rfl, hb1⟩

set_option maxHeartbeats 1000000 in
theorem Class_err (f : Int) (a : Nat) (w : World) (ha : a < 18446744073709551616) (he : chkS f a ≠ 0) (hG : GlR w) : Calls Tryd.prog 25 #[.int .i64 f, .int .u64 a] w fun e w' => e = .returned (.tuple #[.int .i64 0, .int .i64 (chkS f a)]) ∧ Below w.heap.size w w' := by
  have t1 : (chkS f a != 0) = true := by simpa using he
  have HC := Lib.hid (Check_any f a w ha hG)
  clear he hG
  generalize chkS f a = c at *
  go_enter Tryd.func25, Tryd.ntmps25
  go_wp2_with fail
  refine HC.out.mono ?_
  rintro _ w1 ⟨rfl, hb1⟩
  clear HC
  go_wp2
  go_ret2
  exact ⟨rfl, hb1⟩

end Go.Proofs.YtcgceigmglikpaaDoor
