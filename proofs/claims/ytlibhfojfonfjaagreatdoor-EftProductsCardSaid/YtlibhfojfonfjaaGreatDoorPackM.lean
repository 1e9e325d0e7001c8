/- Packed by program: MulA MulB MulC MulD. -/
import Derived.Test.YtlibhfojfonfjaaGreatDoorPackO
import Derived.Test.YtlibhfojfonfjaaGreatDoorPackR
/- Walks of layer 7: open, nan, inf, zero; layer 1: Mul. -/
namespace Go.Proofs.YtlibhfojfonfjaaGreatDoor
set_option linter.unusedVariables false
open Go.RowKit

section
variable {F : Fm}
theorem cls_nan (ok : F.Ok) (a : Nat) : F.isNan a = decide (clsF F a = 1 ∨ clsF F a = 0) := by
  rw [isNan_iff ok]
  unfold clsF
  by_cases h1 : F.fx a = 2 ^ (F.w - F.p) - 1
  · rw [if_pos h1]
    by_cases h2 : F.fy a = 0
    · rw [if_pos h2]; cases F.neg a <;> simp [h2]
    · rw [if_neg h2]; by_cases h3 : 2 ^ (F.p - 2) ≤ F.fy a <;> simp [h1, h2, h3]
  · rw [if_neg h1]
    by_cases h3 : F.fx a = 0
    · rw [if_pos h3]; by_cases h4 : F.fy a = 0 <;> cases F.neg a <;> simp [h1, h4]
    · rw [if_neg h3]; cases F.neg a <;> simp [h1]
theorem cls_sig (ok : F.Ok) (a : Nat) : F.isSig a = decide (clsF F a = 0) := by
  rw [isSig_iff ok, isNan_iff ok]
  unfold clsF
  by_cases h1 : F.fx a = 2 ^ (F.w - F.p) - 1
  · rw [if_pos h1]
    by_cases h2 : F.fy a = 0
    · rw [if_pos h2]; cases F.neg a <;> simp [h2]
    · rw [if_neg h2]; by_cases h3 : 2 ^ (F.p - 2) ≤ F.fy a <;> simp [h1, h2, h3]
  · rw [if_neg h1]
    by_cases h3 : F.fx a = 0
    · rw [if_pos h3]; by_cases h4 : F.fy a = 0 <;> cases F.neg a <;> simp [h1, h4]
    · rw [if_neg h3]; cases F.neg a <;> simp [h1]
theorem cls_inf (ok : F.Ok) (a : Nat) : F.isInf a = decide (clsF F a = 2 ∨ clsF F a = 9) := by
  rw [isInf_iff ok]
  unfold clsF
  by_cases h1 : F.fx a = 2 ^ (F.w - F.p) - 1
  · rw [if_pos h1]
    by_cases h2 : F.fy a = 0
    · rw [if_pos h2]; cases F.neg a <;> simp [h1, h2]
    · rw [if_neg h2]; by_cases h3 : 2 ^ (F.p - 2) ≤ F.fy a <;> simp [h2, h3]
  · rw [if_neg h1]
    by_cases h3 : F.fx a = 0
    · rw [if_pos h3]; by_cases h4 : F.fy a = 0 <;> cases F.neg a <;> simp [h1, h4]
    · rw [if_neg h3]; cases F.neg a <;> simp [h1]
theorem cls_zeroC (ok : F.Ok) (a : Nat) : F.isZero a = decide (clsF F a = 5 ∨ clsF F a = 6) := by
  rw [isZero_iff]
  have ho : 2 ^ (F.w - F.p) - 1 ≠ 0 := by
    have : 2 ^ 1 ≤ 2 ^ (F.w - F.p) := Nat.pow_le_pow_right (by decide) (by have := ok.pw; omega)
    omega
  unfold clsF
  by_cases h1 : F.fx a = 2 ^ (F.w - F.p) - 1
  · have h0 : F.fx a ≠ 0 := by omega
    rw [if_pos h1]
    by_cases h2 : F.fy a = 0
    · rw [if_pos h2]; cases F.neg a <;> simp [h0]
    · rw [if_neg h2]; by_cases h3 : 2 ^ (F.p - 2) ≤ F.fy a <;> simp [h2, h3]
  · rw [if_neg h1]
    by_cases h3 : F.fx a = 0
    · rw [if_pos h3]; by_cases h4 : F.fy a = 0 <;> cases F.neg a <;> simp [h3, h4]
    · rw [if_neg h3]; cases F.neg a <;> simp [h3]

theorem fin_bounds (ok : F.Ok) (a : Nat) : -1074 ≤ F.ex a ∧ F.ex a ≤ 1100 ∧ F.mag a < 2 ^ 53 := by
  obtain ⟨p8, p53, pw, w64, emx, emn, b16, b1023⟩ := id ok
  have hx := fx_lt ok a
  have hy := fy_lt (F := F) a
  have e : (2 : Int) ^ (F.w - F.p - 1) = ((2 ^ (F.w - F.p - 1) : Nat) : Int) := by simp
  rw [e] at emx
  have hpw := pow_split (F.w - F.p) (by omega)
  have hPp : (2 : Nat) ^ (F.p - 1) ≤ 2 ^ 52 := Nat.pow_le_pow_right (by decide) (by omega)
  unfold Fm.fx at hx
  unfold Fm.fy at hy
  unfold Fm.ex Fm.xp Fm.mag Fm.sig Fm.low
  by_cases h : F.abs a / 2 ^ (F.p - 1) = 0
  · rw [if_pos h, if_pos h]
    have h2 := Nat.div_add_mod (F.abs a) (2 ^ (F.p - 1))
    rw [h] at h2
    refine ⟨by omega, by omega, by omega⟩
  · rw [if_neg h, if_neg h]
    have := Nat.pos_of_ne_zero h
    refine ⟨by omega, by omega, by omega⟩
end

/-- an operand, as a value -/
def opA (F : Fm) (a : Nat) : Array Value := #[.int .i64 (clsF F a), .bool (F.neg a), .int .u64 (F.mag a), .int .i64 (F.ex a)]

theorem onan_any (c e : Int) (s : Bool) (n : Nat) (w : World) : Calls Tryz.prog 32 #[.agg #[.int .i64 c, .bool s, .int .u64 n, .int .i64 e]] w fun e' w' => e' = .returned (.bool (decide (c = 1 ∨ c = 0))) ∧ Below w.heap.size w w' := by
  obtain ⟨R, hR⟩ : ∃ R, R = decide (c = 1 ∨ c = 0) := ⟨_, rfl⟩
  rw [← hR]
  by_cases h1 : c = 1
  · have E : Hid (R = true) := by show _ = _; rw [hR, h1]; rfl
    have t1 : (c == 1) = true := by simp [h1]
    clear hR h1
    go_enter Tryz.func32, Tryz.ntmps32
    go_wp2
    go_ret
    exact ⟨by rw [E.out]; rfl, (Below.refl _ _).alloc (Nat.le_refl _) _⟩
  · have t1 : (c == 1) = false := by simp [h1]
    obtain ⟨b, hb⟩ : ∃ b, (c == 0) = b := ⟨_, rfl⟩
    have E : Hid (R = b) := by show _ = _; rw [hR, ← hb]; by_cases h2 : c = 0 <;> simp [h1, h2]
    clear hR h1
    go_enter Tryz.func32, Tryz.ntmps32
    go_wp2
    go_ret
    exact ⟨by rw [E.out]; rfl, (Below.refl _ _).alloc (Nat.le_refl _) _⟩

theorem oinf_any (c e : Int) (s : Bool) (n : Nat) (w : World) : Calls Tryz.prog 34 #[.agg #[.int .i64 c, .bool s, .int .u64 n, .int .i64 e]] w fun e' w' => e' = .returned (.bool (decide (c = 2 ∨ c = 9))) ∧ Below w.heap.size w w' := by
  obtain ⟨R, hR⟩ : ∃ R, R = decide (c = 2 ∨ c = 9) := ⟨_, rfl⟩
  rw [← hR]
  by_cases h1 : c = 2
  · have E : Hid (R = true) := by show _ = _; rw [hR, h1]; rfl
    have t1 : (c == 2) = true := by simp [h1]
    clear hR h1
    go_enter Tryz.func34, Tryz.ntmps34
    go_wp2
    go_ret
    exact ⟨by rw [E.out]; rfl, (Below.refl _ _).alloc (Nat.le_refl _) _⟩
  · have t1 : (c == 2) = false := by simp [h1]
    obtain ⟨b, hb⟩ : ∃ b, (c == 9) = b := ⟨_, rfl⟩
    have E : Hid (R = b) := by show _ = _; rw [hR, ← hb]; by_cases h2 : c = 9 <;> simp [h1, h2]
    clear hR h1
    go_enter Tryz.func34, Tryz.ntmps34
    go_wp2
    go_ret
    exact ⟨by rw [E.out]; rfl, (Below.refl _ _).alloc (Nat.le_refl _) _⟩

theorem ozero_any (c e : Int) (s : Bool) (n : Nat) (w : World) : Calls Tryz.prog 35 #[.agg #[.int .i64 c, .bool s, .int .u64 n, .int .i64 e]] w fun e' w' => e' = .returned (.bool (decide (c = 5 ∨ c = 6))) ∧ Below w.heap.size w w' := by
  obtain ⟨R, hR⟩ : ∃ R, R = decide (c = 5 ∨ c = 6) := ⟨_, rfl⟩
  rw [← hR]
  by_cases h1 : c = 5
  · have E : Hid (R = true) := by show _ = _; rw [hR, h1]; rfl
    have t1 : (c == 5) = true := by simp [h1]
    clear hR h1
    go_enter Tryz.func35, Tryz.ntmps35
    go_wp2
    go_ret
    exact ⟨by rw [E.out]; rfl, (Below.refl _ _).alloc (Nat.le_refl _) _⟩
  · have t1 : (c == 5) = false := by simp [h1]
    obtain ⟨b, hb⟩ : ∃ b, (c == 6) = b := ⟨_, rfl⟩
    have E : Hid (R = b) := by show _ = _; rw [hR, ← hb]; by_cases h2 : c = 6 <;> simp [h1, h2]
    clear hR h1
    go_enter Tryz.func35, Tryz.ntmps35
    go_wp2
    go_ret
    exact ⟨by rw [E.out]; rfl, (Below.refl _ _).alloc (Nat.le_refl _) _⟩

theorem wMul_any (x y : Nat) (w : World) (hx : x < 18446744073709551616) (hy : y < 18446744073709551616) : Calls Tryz.prog 39 #[.int .u64 x, .int .u64 y] w fun e w' => e = .returned (WV (x * y)) ∧ Below w.heap.size w w' := by
  have h := mul64_any x y
  obtain ⟨hi, hhi⟩ : ∃ h, h = x * y / 18446744073709551616 := ⟨_, rfl⟩
  obtain ⟨lo, hlo⟩ : ∃ h, h = x * y % 18446744073709551616 := ⟨_, rfl⟩
  unfold WV
  rw [← hhi, ← hlo] at h ⊢
  have H := Lib.hid h
  clear h hhi hlo
  go_enter Tryz.func39, Tryz.ntmps39
  go_wp2_with fail
  refine (H.out _ hx hy).mono ?_
  rintro _ w1 ⟨rfl, rfl⟩
  clear H
  go_wp2
  refine bodyPost_ret (v := .agg #[.int .u64 hi, .int .u64 lo]) (by simp [results, Tryz.results39, go_sem]) rfl ⟨rfl, (Below.refl _ _).alloc (Nat.le_refl _) _⟩

end Go.Proofs.YtlibhfojfonfjaaGreatDoor

/- Walks of layer 7: open. -/
namespace Go.Proofs.YtlibhfojfonfjaaGreatDoor
set_option linter.unusedVariables false
open Go.RowKit

theorem mag_parts (F : Fm) (a : Nat) : F.mag a = (if F.fx a = 0 then F.fy a else 2 ^ (F.p - 1) + F.fy a) ∧ F.ex a = (if F.fx a = 0 then F.low else F.low + F.fx a - 1) := by
  have hp := abs_parts (F := F) a
  unfold Fm.mag Fm.sig Fm.ex Fm.xp
  by_cases h : F.fx a = 0
  · have h' : F.abs a / 2 ^ (F.p - 1) = 0 := h
    rw [if_pos h, if_pos h', if_pos h', if_pos h]
    rw [h, Nat.zero_mul, Nat.zero_add] at hp
    exact ⟨hp, rfl⟩
  · have h' : ¬ F.abs a / 2 ^ (F.p - 1) = 0 := h
    rw [if_neg h, if_neg h', if_neg h', if_neg h]
    exact ⟨rfl, rfl⟩

set_option maxRecDepth 100000 in
set_option maxHeartbeats 2000000 in
theorem open_ok (f a : Nat) (w : World) (hf : f < 4) (ha : a < 2 ^ (fm f).w) (hG : GlR w) : Calls Tryz.prog 31 #[.int .i64 f, PV (fm f), .int .u64 a] w fun e w' => e = .returned (.tuple #[.agg (opA (fm f) a), .int .i64 0]) ∧ Below w.heap.size w w' := by
  have hcl := fun wx hx => Class_ok f a wx hf ha hx
  have hfi := fun wx hx => Fields_ok f a wx hf ha hx
  obtain ⟨F, hF⟩ : ∃ F, F = fm f := ⟨_, rfl⟩
  have ok : F.Ok := by rw [hF]; exact fm_ok f
  rw [← hF] at hcl hfi ⊢
  clear hF
  obtain ⟨p8, p53, pw, w64, emx, emn, b16, b1023⟩ := id ok
  have hem : -1022 ≤ F.emin ∧ F.emin ≤ -14 := by omega
  obtain ⟨hem1, hem2⟩ := hem
  obtain ⟨hmag, hex⟩ := mag_parts F a
  have hyl := fy_lt (F := F) a
  have hxl := fx_lt ok a
  have hxl2 : F.fx a < 2 ^ 60 := Nat.lt_of_lt_of_le hxl (Nat.pow_le_pow_right (by decide) (by omega))
  obtain ⟨n1, hn1⟩ : ∃ n1, n1 = F.p - 1 := ⟨_, rfl⟩
  rw [← hn1] at hyl hmag
  have hP : (2 : Nat) ^ n1 ≤ 2 ^ 52 := Nat.pow_le_pow_right (by decide) (by omega)
  have e1 : (F.p : Int) - 1 = (n1 : Int) := by omega
  have hn63 : n1 ≤ 63 := by omega
  unfold opA
  generalize clsF F a = ca at *
  generalize F.neg a = s at *
  obtain ⟨N, hN⟩ : ∃ N, N = F.mag a := ⟨_, rfl⟩
  obtain ⟨E, hE⟩ : ∃ E, E = F.ex a := ⟨_, rfl⟩
  rw [← hN, ← hE]
  rw [← hN] at hmag
  rw [← hE] at hex
  unfold Fm.low at hex
  generalize F.fx a = x at *
  generalize F.fy a = y at *
  have HM := Lib.hid hmag
  have HE := Lib.hid hex
  have HC := Lib.hid hcl
  have HFi := Lib.hid hfi
  have hbp := below2 w (.cells #[.int .i64 F.w, .int .i64 F.p, .int .i64 F.emin, .int .i64 F.emax] 65) (.cells #[.int .i64 0, .bool false, .int .u64 0, .int .i64 0] 70)
  have bp := (BxP.new F w 65).below (below1 _ (.cells #[.int .i64 0, .bool false, .int .u64 0, .int .i64 0] 70))
  have br := Bx.new (w.alloc (.cells #[.int .i64 F.w, .int .i64 F.p, .int .i64 F.emin, .int .i64 F.emax] 65)) #[.int .i64 0, .bool false, .int .u64 0, .int .i64 0] 70
  rw [World.size_alloc] at br
  have HG := Lib.hid (hG.below hbp)
  clear hmag hex hcl hfi hN hE emx emn b16 b1023 hn1 hG pw w64 ok ha hxl
  unfold PV
  go_enter Tryz.func31, Tryz.ntmps31
  go_wp2_with fail
  refine (HC.out _ HG.out).mono ?_
  rintro _ w1 ⟨rfl, hb1⟩
  have HB := Lib.hid (keep_belowB hbp hb1 (Nat.le_refl _))
  replace HG := Lib.hid (HG.out.below hb1)
  replace bp := bp.below hb1
  replace br := br.below hb1
  clear hb1 hbp HC
  go_wp2_with fail
  refine (HFi.out _ HG.out).mono ?_
  rintro _ w2 ⟨rfl, hb2⟩
  replace HB := Lib.hid (keep_belowB HB.out hb2 (Nat.le_refl _))
  replace bp := bp.below hb2
  replace br := br.below hb2
  obtain ⟨q0, q1, q2, q3⟩ := bp.cells
  have r0 := br.cell 0 (show (#[Value.int .i64 0, .bool false, .int .u64 0, .int .i64 0] : Array Value)[0]? = some (.int .i64 0) from rfl)
  have r1 := br.cell 1 (show (#[Value.int .i64 0, .bool false, .int .u64 0, .int .i64 0] : Array Value)[1]? = some (.bool false) from rfl)
  have r2 := br.cell 2 (show (#[Value.int .i64 0, .bool false, .int .u64 0, .int .i64 0] : Array Value)[2]? = some (.int .u64 0) from rfl)
  have r3 := br.cell 3 (show (#[Value.int .i64 0, .bool false, .int .u64 0, .int .i64 0] : Array Value)[3]? = some (.int .i64 0) from rfl)
  have f0 := br.free 0
  have f1 := br.free 1
  have f2 := br.free 2
  have f3 := br.free 3
  have BR := Lib.hid br
  clear hb2 HFi HG bp br
  have fin : ∀ E' : Int, E' = E → (((((w2.setCell ⟨w.heap.size + 1, 0, none⟩ (.int .i64 ca)).setCell ⟨w.heap.size + 1, 1, none⟩ (.bool s)).setCell ⟨w.heap.size + 1, 2, none⟩ (.int .u64 N)).setCell ⟨w.heap.size + 1, 3, none⟩ (.int .i64 E')).cell? ⟨w.heap.size + 1, 0, none⟩ = some (.int .i64 ca) ∧
      ((((w2.setCell ⟨w.heap.size + 1, 0, none⟩ (.int .i64 ca)).setCell ⟨w.heap.size + 1, 1, none⟩ (.bool s)).setCell ⟨w.heap.size + 1, 2, none⟩ (.int .u64 N)).setCell ⟨w.heap.size + 1, 3, none⟩ (.int .i64 E')).cell? ⟨w.heap.size + 1, 1, none⟩ = some (.bool s) ∧
      ((((w2.setCell ⟨w.heap.size + 1, 0, none⟩ (.int .i64 ca)).setCell ⟨w.heap.size + 1, 1, none⟩ (.bool s)).setCell ⟨w.heap.size + 1, 2, none⟩ (.int .u64 N)).setCell ⟨w.heap.size + 1, 3, none⟩ (.int .i64 E')).cell? ⟨w.heap.size + 1, 2, none⟩ = some (.int .u64 N) ∧
      ((((w2.setCell ⟨w.heap.size + 1, 0, none⟩ (.int .i64 ca)).setCell ⟨w.heap.size + 1, 1, none⟩ (.bool s)).setCell ⟨w.heap.size + 1, 2, none⟩ (.int .u64 N)).setCell ⟨w.heap.size + 1, 3, none⟩ (.int .i64 E')).cell? ⟨w.heap.size + 1, 3, none⟩ = some (.int .i64 E)) := by
    intro E' hE
    subst hE
    have b4 := BR.out.set4 (.int .i64 ca) (.bool s) (.int .u64 N) (.int .i64 E')
    exact ⟨b4.cell 0 rfl, b4.cell 1 rfl, b4.cell 2 rfl, b4.cell 3 rfl⟩
  have Fin := Lib.hid fin
  clear fin
  by_cases h0 : x = 0
  · have t1 : ((x : Int) == 0) = true := by simp [h0]
    have hNy : N = y := by rw [HM.out, if_pos h0]
    have hEE : E = F.emin - F.p + 1 := by rw [HE.out, if_pos h0]
    obtain ⟨g0, g1, g2, g3⟩ := Fin.out (F.emin - F.p + 1) hEE.symm
    have HEE := Lib.hid hEE
    clear HM HE h0 hEE Fin
    subst hNy
    go_wp2_with fail
    refine bodyPost_ret (v := .tuple #[.agg #[.int .i64 ca, .bool s, .int .u64 N, .int .i64 E], .int .i64 0]) (by simp [results, Tryz.results31, go_sem, g0, g1, g2, g3]) rfl ?_
    exact ⟨rfl, (((HB.out.setCell (Nat.le_succ _) _).setCell (Nat.le_succ _) _).setCell (Nat.le_succ _) _).setCell (Nat.le_succ _) _⟩
  · have t1 : ((x : Int) == 0) = false := by simp [h0]
    obtain ⟨s3, hs3⟩ : ∃ s3, s3 = 2 ^ n1 := ⟨_, rfl⟩
    have h3 : IntKind.u64.wrap ((2 : Int) ^ n1) = (s3 : Int) := by
      have e0 : (2 : Int) ^ n1 = ((2 ^ n1 : Nat) : Int) := by simp
      rw [e0, hs3, IntKind.wrap_u64]; omega
    have h4 : bits .or .u64 (y : Int) (s3 : Int) = (N : Int) := by
      rw [or_nat _ _ (by omega) (by omega), hs3, Nat.or_comm, HM.out, if_neg h0]
      have := or_add 1 y n1 hyl
      rw [Nat.one_mul] at this
      rw [this]
    have hEE : (x : Int) - 1 + F.emin - F.p + 1 = E := by rw [HE.out, if_neg h0]; omega
    obtain ⟨g0, g1, g2, g3⟩ := Fin.out ((x : Int) - 1 + F.emin - F.p + 1) hEE
    have HEE := Lib.hid hEE
    clear HM HE hEE Fin hs3
    go_wp2_with fail
    refine bodyPost_ret (v := .tuple #[.agg #[.int .i64 ca, .bool s, .int .u64 N, .int .i64 E], .int .i64 0]) (by simp [results, Tryz.results31, go_sem, g0, g1, g2, g3]) rfl ?_
    exact ⟨rfl, (((HB.out.setCell (Nat.le_succ _) _).setCell (Nat.le_succ _) _).setCell (Nat.le_succ _) _).setCell (Nat.le_succ _) _⟩

end Go.Proofs.YtlibhfojfonfjaaGreatDoor

/- Walks of layer 7: Mul, Square. -/
namespace Go.Proofs.YtlibhfojfonfjaaGreatDoor
set_option linter.unusedVariables false
open Go.RowKit

theorem Bx.op {F : Fm} {a : Nat} {w : World} {g : Nat} (h : Bx w g (opA F a)) : w.cell? ⟨g, 0, none⟩ = some (.int .i64 (clsF F a)) ∧ w.cell? ⟨g, 1, none⟩ = some (.bool (F.neg a)) ∧ w.cell? ⟨g, 2, none⟩ = some (.int .u64 (F.mag a)) ∧ w.cell? ⟨g, 3, none⟩ = some (.int .i64 (F.ex a)) :=
  ⟨h.cell 0 rfl, h.cell 1 rfl, h.cell 2 rfl, h.cell 3 rfl⟩

theorem Parts_run (f m : Nat) (neg : Bool) (N : Nat) (e : Int) (w : World) (hf : f < 4) (hm : m ≤ 5) (hN : N < 340282366920938463463374607431768211456) (he : -40000 ≤ e ∧ e ≤ 40000) (hG : Gl w) (hR : GlR w) (P1 P2 : Nat) (h1 : Hid (P1 = (partsS (fm f) m neg N e false).1)) (h2 : Hid (P2 = (partsS (fm f) m neg N e false).2)) (v : Value) (hv : Hid (v = WV N)) :
    Calls Tryz.prog 38 #[.int .i64 f, .int .i64 m, .bool neg, v, .int .i64 e, .bool false] w fun e' w' => e' = .returned (.tuple #[.int .u64 (P1 : Int), .int .i64 (P2 : Int), .int .i64 0]) ∧ Below w.heap.size w w' := by
  rw [h1.out, h2.out, hv.out]; exact Parts_ok f m neg N e false w hf hm hN he (by simp) hG hR

set_option maxRecDepth 100000 in
set_option maxHeartbeats 8000000 in
theorem Mul_ok (f m a b : Nat) (w : World) (hf : f < 4) (hm : m ≤ 5) (ha : a < 2 ^ (fm f).w) (hb : b < 2 ^ (fm f).w) (hG : Gl w) (hR : GlR w) :
    Calls Tryz.prog 10 #[.int .i64 f, .int .i64 m, .int .u64 a, .int .u64 b] w fun e w' => e = .returned (.tuple #[.int .u64 ((mulS (fm f) m a b).1 : Int), .int .i64 ((mulS (fm f) m a b).2 : Int), .int .i64 0]) ∧ Below w.heap.size w w' := by
  have hPar := fun wx hx => Params_ok f wx hf hx
  have hopA := fun wx hx => open_ok f a wx hf ha hx
  have hopB := fun wx hx => open_ok f b wx hf hb hx
  have hnan := fun wx hx => NaN_ok f wx hf hx
  have hinf := fun s wx hx => Inf_ok f s wx hf hx
  have hzer := fun s wx hx => Zero_ok f s wx hf hx
  have hpar := fun s N e wx hN he h1 h2 P1 P2 h3 h4 v h5 => Parts_run f m s N e wx hf hm hN he h1 h2 P1 P2 h3 h4 v h5
  obtain ⟨F, hF⟩ : ∃ F, F = fm f := ⟨_, rfl⟩
  have ok : F.Ok := by rw [hF]; exact fm_ok f
  rw [← hF] at hPar hopA hopB hnan hinf hzer hpar ⊢
  clear hF ha hb
  have hp1 : 1 ≤ F.p := by have := ok.p8; omega
  obtain ⟨na, hna⟩ : ∃ z, z = F.isNan a := ⟨_, rfl⟩
  obtain ⟨nb, hnb⟩ : ∃ z, z = F.isNan b := ⟨_, rfl⟩
  obtain ⟨sa, hsa⟩ : ∃ z, z = F.isSig a := ⟨_, rfl⟩
  obtain ⟨sb, hsb⟩ : ∃ z, z = F.isSig b := ⟨_, rfl⟩
  obtain ⟨ia, hia⟩ : ∃ z, z = F.isInf a := ⟨_, rfl⟩
  obtain ⟨ib, hib⟩ : ∃ z, z = F.isInf b := ⟨_, rfl⟩
  obtain ⟨za, hza⟩ : ∃ z, z = F.isZero a := ⟨_, rfl⟩
  obtain ⟨zb, hzb⟩ : ∃ z, z = F.isZero b := ⟨_, rfl⟩
  have xna := fun wx => onan_any (clsF F a) (F.ex a) (F.neg a) (F.mag a) wx
  have xnb := fun wx => onan_any (clsF F b) (F.ex b) (F.neg b) (F.mag b) wx
  have xia := fun wx => oinf_any (clsF F a) (F.ex a) (F.neg a) (F.mag a) wx
  have xib := fun wx => oinf_any (clsF F b) (F.ex b) (F.neg b) (F.mag b) wx
  have xza := fun wx => ozero_any (clsF F a) (F.ex a) (F.neg a) (F.mag a) wx
  have xzb := fun wx => ozero_any (clsF F b) (F.ex b) (F.neg b) (F.mag b) wx
  rw [← cls_nan ok, ← hna] at xna
  rw [← cls_nan ok, ← hnb] at xnb
  rw [← cls_inf ok, ← hia] at xia
  rw [← cls_inf ok, ← hib] at xib
  rw [← cls_zeroC ok, ← hza] at xza
  rw [← cls_zeroC ok, ← hzb] at xzb
  have tsa : Hid ((clsF F a == 0) = sa) := by show _ = _; rw [hsa, cls_sig ok]; by_cases h : clsF F a = 0 <;> simp [h]
  have tsb : Hid ((clsF F b == 0) = sb) := by show _ = _; rw [hsb, cls_sig ok]; by_cases h : clsF F b = 0 <;> simp [h]
  have san : na = false → sa = false := by intro h; rw [hsa]; unfold Fm.isSig; rw [← hna, h]; rfl
  obtain ⟨M1, hM1⟩ : ∃ M, M = (mulS F m a b).1 := ⟨_, rfl⟩
  obtain ⟨M2, hM2⟩ : ∃ M, M = (mulS F m a b).2 := ⟨_, rfl⟩
  rw [← hM1, ← hM2]
  unfold mulS at hM1 hM2
  rw [← hna, ← hnb, ← hsa, ← hsb, ← hia, ← hib, ← hza, ← hzb] at hM1 hM2
  have hmz : za = false → zb = false → F.mag a * F.mag b ≠ 0 := fun h1 h2 => Nat.mul_ne_zero (mag_ne hp1 (by rw [← hza]; exact h1)) (mag_ne hp1 (by rw [← hzb]; exact h2))
  obtain ⟨eb1, eb2, eb3⟩ := fin_bounds ok a
  obtain ⟨eb4, eb5, eb6⟩ := fin_bounds ok b
  have hprod : F.mag a * F.mag b < 340282366920938463463374607431768211456 := Nat.lt_of_le_of_lt (Nat.mul_le_mul (Nat.le_of_lt eb3) (Nat.le_of_lt eb6)) (by decide)
  clear hna hnb hsa hsb hia hib hza hzb ok hp1
  have HM1 := Lib.hid hM1
  have HM2 := Lib.hid hM2
  have HPar := Lib.hid hPar
  have HopA := Lib.hid hopA
  have HopB := Lib.hid hopB
  have HNan := Lib.hid hnan
  have HInf := Lib.hid hinf
  have HZer := Lib.hid hzer
  have HPrt := Lib.hid hpar
  have Xna := Lib.hid xna
  have Xnb := Lib.hid xnb
  have Xia := Lib.hid xia
  have Xib := Lib.hid xib
  have Xza := Lib.hid xza
  have Xzb := Lib.hid xzb
  have San := Lib.hid san
  have Hmz := Lib.hid hmz
  have Hprod := Lib.hid hprod
  have HG := Lib.hid hG
  have HR := Lib.hid hR
  clear hM1 hM2 hPar hopA hopB hnan hinf hzer hpar xna xnb xia xib xza xzb san hmz hprod hG hR
  go_enter Tryz.func10, Tryz.ntmps10
  go_wp2_with fail
  refine (HPar.out _ HR.out).mono ?_
  rintro _ w1 ⟨rfl, hb1⟩
  unfold PV
  have ha1 := below1 w1 (.cells #[.int .i64 F.w, .int .i64 F.p, .int .i64 F.emin, .int .i64 F.emax] 65)
  have HB := Lib.hid (hb1.trans (ha1.mono hb1.size))
  replace HG := Lib.hid (HG.out.below HB.out)
  replace HR := Lib.hid (HR.out.below HB.out)
  have BP := Lib.hid (BxP.new F w1 65)
  obtain ⟨W1, hW1⟩ : ∃ W, W = w1.alloc (.cells #[.int .i64 F.w, .int .i64 F.p, .int .i64 F.emin, .int .i64 F.emax] 65) := ⟨_, rfl⟩
  rw [← hW1] at HB HG HR BP
  obtain ⟨q0, q1, q2, q3⟩ := BP.out.cells
  have t1 : decide ((m : Int) < 0) = false := decide_eq_false (by omega)
  have t2 : decide (5 < m) = false := decide_eq_false (by omega)
  have t3 : decide ((5 : Int) < (m : Int)) = false := decide_eq_false (by omega)
  clear hb1 ha1 HPar
  go_upto_region 2 with (fail)
  rw [← hW1]
  clear hW1
  go_wp2_with fail
  refine (HopA.out _ HR.out).mono ?_
  rintro _ w2 ⟨rfl, hb2⟩
  have ha2 := below1 w2 (.cells (opA F a) 70)
  replace HB := Lib.hid (HB.out.trans (hb2.mono HB.out.size))
  replace HG := Lib.hid ((HG.out.below hb2).below ha2)
  replace HR := Lib.hid ((HR.out.below hb2).below ha2)
  replace BP := Lib.hid ((BP.out.below hb2).below ha2)
  replace HB := Lib.hid (HB.out.trans (ha2.mono HB.out.size))
  have BX := Lib.hid (Bx.new w2 (opA F a) 70)
  obtain ⟨W2, hW2⟩ : ∃ W, W = w2.alloc (.cells (opA F a) 70) := ⟨_, rfl⟩
  rw [← hW2] at HB HG HR BP BX
  unfold opA at hW2
  clear q0 q1 q2 q3
  obtain ⟨q0, q1, q2, q3⟩ := BP.out.cells
  clear hb2 ha2 HopA
  unfold opA
  go_upto_region 7 with (fail)
  rw [← hW2]
  clear hW2
  go_wp2_with fail
  refine (HopB.out _ HR.out).mono ?_
  rintro _ w3 ⟨rfl, hb3⟩
  have ha3 := below1 w3 (.cells (opA F b) 70)
  replace HB := Lib.hid (HB.out.trans (hb3.mono HB.out.size))
  replace HG := Lib.hid ((HG.out.below hb3).below ha3)
  replace HR := Lib.hid ((HR.out.below hb3).below ha3)
  replace BX := Lib.hid ((BX.out.below hb3).below ha3)
  replace HB := Lib.hid (HB.out.trans (ha3.mono HB.out.size))
  have BY := Lib.hid (Bx.new w3 (opA F b) 70)
  obtain ⟨W3, hW3⟩ : ∃ W, W = w3.alloc (.cells (opA F b) 70) := ⟨_, rfl⟩
  rw [← hW3] at HB HG HR BX BY
  unfold opA at hW3
  clear q0 q1 q2 q3
  obtain ⟨x0, x1, x2, x3⟩ := BX.out.op
  obtain ⟨y0, y1, y2, y3⟩ := BY.out.op
  clear hb3 ha3 HopB BP
  unfold opA
  go_upto_region 10 with (fail)
  rw [← hW3]
  clear hW3
  obtain ⟨ng, hng⟩ : ∃ ng, (F.neg a != F.neg b) = ng := ⟨_, rfl⟩
  rw [hng] at HM1 HM2
  have hng2 : (!(F.neg a == F.neg b)) = ng := hng
  clear hng
  go_upto_region 16 with (fail)
  cases na
  rotate_left
  · -- the first is no number
    go_wp2_with fail
    refine (Xna.out _).mono ?_
    rintro _ w4 ⟨rfl, hb4⟩
    replace HB := Lib.hid (HB.out.trans (hb4.mono HB.out.size))
    replace HG := Lib.hid (HG.out.below hb4)
    replace HR := Lib.hid (HR.out.below hb4)
    replace BX := Lib.hid (BX.out.below hb4)
    replace BY := Lib.hid (BY.out.below hb4)
    clear x0 x1 x2 x3 y0 y1 y2 y3
    obtain ⟨x0, x1, x2, x3⟩ := BX.out.op
    obtain ⟨y0, y1, y2, y3⟩ := BY.out.op
    clear hb4
    cases sa
    · have t4 := tsa.out
      cases sb
      · have t5 := tsb.out
        have E1 : Hid (M1 = F.nan) := HM1.out
        have E2 : Hid (M2 = 0) := HM2.out
        go_wp2_with fail
        refine (HNan.out _ HR.out).mono ?_
        rintro _ w5 ⟨rfl, hb5⟩
        replace HB := Lib.hid (HB.out.trans (hb5.mono HB.out.size))
        rw [← E1.out]
        clear hb5 x0 x1 x2 x3 y0 y1 y2 y3 E1
        go_wp2_with fail
        refine bodyPost_ret (v := .tuple #[.int .u64 M1, .int .i64 0, .int .i64 0]) (by simp [results, Tryz.results10, go_sem]) rfl ?_
        exact ⟨by rw [E2.out]; rfl, HB.out⟩
      · have t5 := tsb.out
        have E1 : Hid (M1 = F.nan) := HM1.out
        have E2 : Hid (M2 = 1) := HM2.out
        go_wp2_with fail
        refine (HNan.out _ HR.out).mono ?_
        rintro _ w6 ⟨rfl, hb6⟩
        replace HB := Lib.hid (HB.out.trans (hb6.mono HB.out.size))
        rw [← E1.out]
        clear hb6 x0 x1 x2 x3 y0 y1 y2 y3 E1
        go_wp2_with fail
        refine bodyPost_ret (v := .tuple #[.int .u64 M1, .int .i64 1, .int .i64 0]) (by simp [results, Tryz.results10, go_sem]) rfl ?_
        exact ⟨by rw [E2.out]; rfl, HB.out⟩
    · have t4 := tsa.out
      have E1 : Hid (M1 = F.nan) := HM1.out
      have E2 : Hid (M2 = 1) := HM2.out
      go_wp2_with fail
      refine (HNan.out _ HR.out).mono ?_
      rintro _ w7 ⟨rfl, hb7⟩
      replace HB := Lib.hid (HB.out.trans (hb7.mono HB.out.size))
      rw [← E1.out]
      clear hb7 x0 x1 x2 x3 y0 y1 y2 y3 E1
      go_wp2_with fail
      refine bodyPost_ret (v := .tuple #[.int .u64 M1, .int .i64 1, .int .i64 0]) (by simp [results, Tryz.results10, go_sem]) rfl ?_
      exact ⟨by rw [E2.out]; rfl, HB.out⟩
  have hsa := San.out rfl
  subst hsa
  cases nb
  rotate_left
  · -- the second is no number
    go_wp2_with fail
    refine (Xna.out _).mono ?_
    rintro _ w8 ⟨rfl, hb8⟩
    replace HB := Lib.hid (HB.out.trans (hb8.mono HB.out.size))
    replace HG := Lib.hid (HG.out.below hb8)
    replace HR := Lib.hid (HR.out.below hb8)
    replace BX := Lib.hid (BX.out.below hb8)
    replace BY := Lib.hid (BY.out.below hb8)
    clear x0 x1 x2 x3 y0 y1 y2 y3
    obtain ⟨x0, x1, x2, x3⟩ := BX.out.op
    obtain ⟨y0, y1, y2, y3⟩ := BY.out.op
    clear hb8
    go_wp2_with fail
    refine (Xnb.out _).mono ?_
    rintro _ w9 ⟨rfl, hb9⟩
    replace HB := Lib.hid (HB.out.trans (hb9.mono HB.out.size))
    replace HG := Lib.hid (HG.out.below hb9)
    replace HR := Lib.hid (HR.out.below hb9)
    replace BX := Lib.hid (BX.out.below hb9)
    replace BY := Lib.hid (BY.out.below hb9)
    clear x0 x1 x2 x3 y0 y1 y2 y3
    obtain ⟨x0, x1, x2, x3⟩ := BX.out.op
    obtain ⟨y0, y1, y2, y3⟩ := BY.out.op
    clear hb9
    have t4 := tsa.out
    cases sb
    · have t5 := tsb.out
      have E1 : Hid (M1 = F.nan) := HM1.out
      have E2 : Hid (M2 = 0) := HM2.out
      go_wp2_with fail
      refine (HNan.out _ HR.out).mono ?_
      rintro _ w10 ⟨rfl, hb10⟩
      replace HB := Lib.hid (HB.out.trans (hb10.mono HB.out.size))
      rw [← E1.out]
      clear hb10 x0 x1 x2 x3 y0 y1 y2 y3 E1
      go_wp2_with fail
      refine bodyPost_ret (v := .tuple #[.int .u64 M1, .int .i64 0, .int .i64 0]) (by simp [results, Tryz.results10, go_sem]) rfl ?_
      exact ⟨by rw [E2.out]; rfl, HB.out⟩
    · have t5 := tsb.out
      have E1 : Hid (M1 = F.nan) := HM1.out
      have E2 : Hid (M2 = 1) := HM2.out
      go_wp2_with fail
      refine (HNan.out _ HR.out).mono ?_
      rintro _ w11 ⟨rfl, hb11⟩
      replace HB := Lib.hid (HB.out.trans (hb11.mono HB.out.size))
      rw [← E1.out]
      clear hb11 x0 x1 x2 x3 y0 y1 y2 y3 E1
      go_wp2_with fail
      refine bodyPost_ret (v := .tuple #[.int .u64 M1, .int .i64 1, .int .i64 0]) (by simp [results, Tryz.results10, go_sem]) rfl ?_
      exact ⟨by rw [E2.out]; rfl, HB.out⟩
  go_wp2_with fail
  refine (Xna.out _).mono ?_
  rintro _ w12 ⟨rfl, hb12⟩
  replace HB := Lib.hid (HB.out.trans (hb12.mono HB.out.size))
  replace HG := Lib.hid (HG.out.below hb12)
  replace HR := Lib.hid (HR.out.below hb12)
  replace BX := Lib.hid (BX.out.below hb12)
  replace BY := Lib.hid (BY.out.below hb12)
  clear x0 x1 x2 x3 y0 y1 y2 y3
  obtain ⟨x0, x1, x2, x3⟩ := BX.out.op
  obtain ⟨y0, y1, y2, y3⟩ := BY.out.op
  clear hb12
  go_wp2_with fail
  refine (Xnb.out _).mono ?_
  rintro _ w13 ⟨rfl, hb13⟩
  replace HB := Lib.hid (HB.out.trans (hb13.mono HB.out.size))
  replace HG := Lib.hid (HG.out.below hb13)
  replace HR := Lib.hid (HR.out.below hb13)
  replace BX := Lib.hid (BX.out.below hb13)
  replace BY := Lib.hid (BY.out.below hb13)
  clear x0 x1 x2 x3 y0 y1 y2 y3
  obtain ⟨x0, x1, x2, x3⟩ := BX.out.op
  obtain ⟨y0, y1, y2, y3⟩ := BY.out.op
  clear hb13
  go_upto_region 20 with (fail)
  cases ia
  · cases za
    · cases zb
      · cases ib
        · -- numbers, not zero
          go_wp2_with fail
          refine (Xia.out _).mono ?_
          rintro _ w14 ⟨rfl, hb14⟩
          replace HB := Lib.hid (HB.out.trans (hb14.mono HB.out.size))
          replace HG := Lib.hid (HG.out.below hb14)
          replace HR := Lib.hid (HR.out.below hb14)
          replace BX := Lib.hid (BX.out.below hb14)
          replace BY := Lib.hid (BY.out.below hb14)
          clear x0 x1 x2 x3 y0 y1 y2 y3
          obtain ⟨x0, x1, x2, x3⟩ := BX.out.op
          obtain ⟨y0, y1, y2, y3⟩ := BY.out.op
          clear hb14
          go_wp2_with fail
          refine (Xza.out _).mono ?_
          rintro _ w15 ⟨rfl, hb15⟩
          replace HB := Lib.hid (HB.out.trans (hb15.mono HB.out.size))
          replace HG := Lib.hid (HG.out.below hb15)
          replace HR := Lib.hid (HR.out.below hb15)
          replace BX := Lib.hid (BX.out.below hb15)
          replace BY := Lib.hid (BY.out.below hb15)
          clear x0 x1 x2 x3 y0 y1 y2 y3
          obtain ⟨x0, x1, x2, x3⟩ := BX.out.op
          obtain ⟨y0, y1, y2, y3⟩ := BY.out.op
          clear hb15
          go_wp2_with fail
          refine (Xia.out _).mono ?_
          rintro _ w16 ⟨rfl, hb16⟩
          replace HB := Lib.hid (HB.out.trans (hb16.mono HB.out.size))
          replace HG := Lib.hid (HG.out.below hb16)
          replace HR := Lib.hid (HR.out.below hb16)
          replace BX := Lib.hid (BX.out.below hb16)
          replace BY := Lib.hid (BY.out.below hb16)
          clear x0 x1 x2 x3 y0 y1 y2 y3
          obtain ⟨x0, x1, x2, x3⟩ := BX.out.op
          obtain ⟨y0, y1, y2, y3⟩ := BY.out.op
          clear hb16
          go_wp2_with fail
          refine (Xib.out _).mono ?_
          rintro _ w17 ⟨rfl, hb17⟩
          replace HB := Lib.hid (HB.out.trans (hb17.mono HB.out.size))
          replace HG := Lib.hid (HG.out.below hb17)
          replace HR := Lib.hid (HR.out.below hb17)
          replace BX := Lib.hid (BX.out.below hb17)
          replace BY := Lib.hid (BY.out.below hb17)
          clear x0 x1 x2 x3 y0 y1 y2 y3
          obtain ⟨x0, x1, x2, x3⟩ := BX.out.op
          obtain ⟨y0, y1, y2, y3⟩ := BY.out.op
          clear hb17
          go_wp2_with fail
          refine (Xza.out _).mono ?_
          rintro _ w18 ⟨rfl, hb18⟩
          replace HB := Lib.hid (HB.out.trans (hb18.mono HB.out.size))
          replace HG := Lib.hid (HG.out.below hb18)
          replace HR := Lib.hid (HR.out.below hb18)
          replace BX := Lib.hid (BX.out.below hb18)
          replace BY := Lib.hid (BY.out.below hb18)
          clear x0 x1 x2 x3 y0 y1 y2 y3
          obtain ⟨x0, x1, x2, x3⟩ := BX.out.op
          obtain ⟨y0, y1, y2, y3⟩ := BY.out.op
          clear hb18
          go_wp2_with fail
          refine (Xzb.out _).mono ?_
          rintro _ w19 ⟨rfl, hb19⟩
          replace HB := Lib.hid (HB.out.trans (hb19.mono HB.out.size))
          replace HG := Lib.hid (HG.out.below hb19)
          replace HR := Lib.hid (HR.out.below hb19)
          replace BX := Lib.hid (BX.out.below hb19)
          replace BY := Lib.hid (BY.out.below hb19)
          clear x0 x1 x2 x3 y0 y1 y2 y3
          obtain ⟨x0, x1, x2, x3⟩ := BX.out.op
          obtain ⟨y0, y1, y2, y3⟩ := BY.out.op
          clear hb19
          have hne := Hmz.out trivial trivial
          have w9 : IntKind.i64.wrap (F.ex a + F.ex b) = F.ex a + F.ex b := IntWalk.i64_in _ (by omega)
          have HM1' : Hid (M1 = (partsS F m ng (F.mag a * F.mag b) (F.ex a + F.ex b) false).1) := by show _ = _; unfold partsS; rw [if_neg hne]; exact HM1.out
          have HM2' : Hid (M2 = (partsS F m ng (F.mag a * F.mag b) (F.ex a + F.ex b) false).2) := by show _ = _; unfold partsS; rw [if_neg hne]; exact HM2.out
          have hebs : -40000 ≤ F.ex a + F.ex b ∧ F.ex a + F.ex b ≤ 40000 := by omega
          obtain ⟨vw, hvw⟩ : ∃ vw, Hid (vw = WV (F.mag a * F.mag b)) := ⟨_, Lib.hid rfl⟩
          have hwm := fun wx => wMul_any (F.mag a) (F.mag b) wx (by omega) (by omega)
          rw [← hvw.out] at hwm
          have Hwm := Lib.hid hwm
          obtain ⟨PR, hPR⟩ : ∃ PR, PR = F.mag a * F.mag b := ⟨_, rfl⟩
          have hprod := Hprod.out
          rw [← hPR] at HM1' HM2' hprod hvw
          have Hprod' := Lib.hid hprod
          clear hwm hPR hne HM1 HM2 Hprod hprod Hmz San HNan HInf HZer Xna Xnb Xia Xib Xza Xzb tsa tsb
          go_upto_region 15 with (fail)
          have hGw := HG.out
          have hRw := HR.out
          go_region_held3 (fun w' => w'.cell? ⟨w2.heap.size, 2, none⟩ = some (.int .u64 (F.mag a)) ∧ w'.cell? ⟨w2.heap.size, 3, none⟩ = some (.int .i64 (F.ex a)) ∧ w'.cell? ⟨w3.heap.size, 2, none⟩ = some (.int .u64 (F.mag b)) ∧ w'.cell? ⟨w3.heap.size, 3, none⟩ = some (.int .i64 (F.ex b)) ∧ Below w19.heap.size w19 w')
            (first | exact ⟨x2, x3, y2, y3, (Below.refl _ _).drew⟩ | exact ⟨keep_cell hb1 x2, keep_cell hb1 x3, keep_cell hb1 y2, keep_cell hb1 y3, keep_below (Below.refl _ _).drew hb1⟩ | ((try go_split_ands); (try dsimp only); refine ⟨keep_cell hb2 ?_, keep_cell hb2 ?_, keep_cell hb2 ?_, keep_cell hb2 ?_, keep_below ?_ hb2⟩ <;> assumption))
            ((first | (go_at_call 39; refine (Hwm.out _).mono ?_; rintro _ w1 ⟨rfl, hb1⟩) | (go_at_call 38; refine (HPrt.out ng PR (F.ex a + F.ex b) _ Hprod'.out hebs (hGw.below (keep_below (Below.refl _ _).drew hb1)) (hRw.below (keep_below (Below.refl _ _).drew hb1)) M1 M2 HM1' HM2' vw hvw).mono ?_; rintro _ w2 ⟨rfl, hb2⟩)))
          replace HB := Lib.hid (HB.out.drew.trans (hb1.mono HB.out.drew.size))
          replace HB := Lib.hid (HB.out.trans (hb2.mono HB.out.size))
          clear hb1 hb2 x0 x1 x2 x3 y0 y1 y2 y3 w9 hGw hRw Hwm HPrt
          go_wp2_with fail
          refine bodyPost_ret (v := .tuple #[.int .u64 M1, .int .i64 M2, .int .i64 0]) (by simp [results, Tryz.results10, go_sem]) rfl ?_
          exact ⟨rfl, HB.out⟩
        · -- infinite second
          go_wp2_with fail
          refine (Xia.out _).mono ?_
          rintro _ w20 ⟨rfl, hb20⟩
          replace HB := Lib.hid (HB.out.trans (hb20.mono HB.out.size))
          replace HG := Lib.hid (HG.out.below hb20)
          replace HR := Lib.hid (HR.out.below hb20)
          replace BX := Lib.hid (BX.out.below hb20)
          replace BY := Lib.hid (BY.out.below hb20)
          clear x0 x1 x2 x3 y0 y1 y2 y3
          obtain ⟨x0, x1, x2, x3⟩ := BX.out.op
          obtain ⟨y0, y1, y2, y3⟩ := BY.out.op
          clear hb20
          go_wp2_with fail
          refine (Xza.out _).mono ?_
          rintro _ w21 ⟨rfl, hb21⟩
          replace HB := Lib.hid (HB.out.trans (hb21.mono HB.out.size))
          replace HG := Lib.hid (HG.out.below hb21)
          replace HR := Lib.hid (HR.out.below hb21)
          replace BX := Lib.hid (BX.out.below hb21)
          replace BY := Lib.hid (BY.out.below hb21)
          clear x0 x1 x2 x3 y0 y1 y2 y3
          obtain ⟨x0, x1, x2, x3⟩ := BX.out.op
          obtain ⟨y0, y1, y2, y3⟩ := BY.out.op
          clear hb21
          go_wp2_with fail
          refine (Xia.out _).mono ?_
          rintro _ w22 ⟨rfl, hb22⟩
          replace HB := Lib.hid (HB.out.trans (hb22.mono HB.out.size))
          replace HG := Lib.hid (HG.out.below hb22)
          replace HR := Lib.hid (HR.out.below hb22)
          replace BX := Lib.hid (BX.out.below hb22)
          replace BY := Lib.hid (BY.out.below hb22)
          clear x0 x1 x2 x3 y0 y1 y2 y3
          obtain ⟨x0, x1, x2, x3⟩ := BX.out.op
          obtain ⟨y0, y1, y2, y3⟩ := BY.out.op
          clear hb22
          go_wp2_with fail
          refine (Xib.out _).mono ?_
          rintro _ w23 ⟨rfl, hb23⟩
          replace HB := Lib.hid (HB.out.trans (hb23.mono HB.out.size))
          replace HG := Lib.hid (HG.out.below hb23)
          replace HR := Lib.hid (HR.out.below hb23)
          replace BX := Lib.hid (BX.out.below hb23)
          replace BY := Lib.hid (BY.out.below hb23)
          clear x0 x1 x2 x3 y0 y1 y2 y3
          obtain ⟨x0, x1, x2, x3⟩ := BX.out.op
          obtain ⟨y0, y1, y2, y3⟩ := BY.out.op
          clear hb23
          have E1 : Hid (M1 = F.inf + F.sg ng) := HM1.out
          have E2 : Hid (M2 = 0) := HM2.out
          go_wp2_with fail
          refine (HInf.out ng _ HR.out).mono ?_
          rintro _ w24 ⟨rfl, hb24⟩
          replace HB := Lib.hid (HB.out.trans (hb24.mono HB.out.size))
          rw [← E1.out]
          clear hb24 x0 x1 x2 x3 y0 y1 y2 y3 E1
          go_wp2_with fail
          refine bodyPost_ret (v := .tuple #[.int .u64 M1, .int .i64 0, .int .i64 0]) (by simp [results, Tryz.results10, go_sem]) rfl ?_
          exact ⟨by rw [E2.out]; rfl, HB.out⟩
      · -- zb: the second is zero
        cases ib
        · skip
          go_wp2_with fail
          refine (Xia.out _).mono ?_
          rintro _ w25 ⟨rfl, hb25⟩
          replace HB := Lib.hid (HB.out.trans (hb25.mono HB.out.size))
          replace HG := Lib.hid (HG.out.below hb25)
          replace HR := Lib.hid (HR.out.below hb25)
          replace BX := Lib.hid (BX.out.below hb25)
          replace BY := Lib.hid (BY.out.below hb25)
          clear x0 x1 x2 x3 y0 y1 y2 y3
          obtain ⟨x0, x1, x2, x3⟩ := BX.out.op
          obtain ⟨y0, y1, y2, y3⟩ := BY.out.op
          clear hb25
          go_wp2_with fail
          refine (Xza.out _).mono ?_
          rintro _ w26 ⟨rfl, hb26⟩
          replace HB := Lib.hid (HB.out.trans (hb26.mono HB.out.size))
          replace HG := Lib.hid (HG.out.below hb26)
          replace HR := Lib.hid (HR.out.below hb26)
          replace BX := Lib.hid (BX.out.below hb26)
          replace BY := Lib.hid (BY.out.below hb26)
          clear x0 x1 x2 x3 y0 y1 y2 y3
          obtain ⟨x0, x1, x2, x3⟩ := BX.out.op
          obtain ⟨y0, y1, y2, y3⟩ := BY.out.op
          clear hb26
          go_wp2_with fail
          refine (Xia.out _).mono ?_
          rintro _ w27 ⟨rfl, hb27⟩
          replace HB := Lib.hid (HB.out.trans (hb27.mono HB.out.size))
          replace HG := Lib.hid (HG.out.below hb27)
          replace HR := Lib.hid (HR.out.below hb27)
          replace BX := Lib.hid (BX.out.below hb27)
          replace BY := Lib.hid (BY.out.below hb27)
          clear x0 x1 x2 x3 y0 y1 y2 y3
          obtain ⟨x0, x1, x2, x3⟩ := BX.out.op
          obtain ⟨y0, y1, y2, y3⟩ := BY.out.op
          clear hb27
          go_wp2_with fail
          refine (Xib.out _).mono ?_
          rintro _ w28 ⟨rfl, hb28⟩
          replace HB := Lib.hid (HB.out.trans (hb28.mono HB.out.size))
          replace HG := Lib.hid (HG.out.below hb28)
          replace HR := Lib.hid (HR.out.below hb28)
          replace BX := Lib.hid (BX.out.below hb28)
          replace BY := Lib.hid (BY.out.below hb28)
          clear x0 x1 x2 x3 y0 y1 y2 y3
          obtain ⟨x0, x1, x2, x3⟩ := BX.out.op
          obtain ⟨y0, y1, y2, y3⟩ := BY.out.op
          clear hb28
          go_wp2_with fail
          refine (Xza.out _).mono ?_
          rintro _ w29 ⟨rfl, hb29⟩
          replace HB := Lib.hid (HB.out.trans (hb29.mono HB.out.size))
          replace HG := Lib.hid (HG.out.below hb29)
          replace HR := Lib.hid (HR.out.below hb29)
          replace BX := Lib.hid (BX.out.below hb29)
          replace BY := Lib.hid (BY.out.below hb29)
          clear x0 x1 x2 x3 y0 y1 y2 y3
          obtain ⟨x0, x1, x2, x3⟩ := BX.out.op
          obtain ⟨y0, y1, y2, y3⟩ := BY.out.op
          clear hb29
          go_wp2_with fail
          refine (Xzb.out _).mono ?_
          rintro _ w30 ⟨rfl, hb30⟩
          replace HB := Lib.hid (HB.out.trans (hb30.mono HB.out.size))
          replace HG := Lib.hid (HG.out.below hb30)
          replace HR := Lib.hid (HR.out.below hb30)
          replace BX := Lib.hid (BX.out.below hb30)
          replace BY := Lib.hid (BY.out.below hb30)
          clear x0 x1 x2 x3 y0 y1 y2 y3
          obtain ⟨x0, x1, x2, x3⟩ := BX.out.op
          obtain ⟨y0, y1, y2, y3⟩ := BY.out.op
          clear hb30
          have E1 : Hid (M1 = F.sg ng) := HM1.out
          have E2 : Hid (M2 = 0) := HM2.out
          go_wp2_with fail
          refine (HZer.out ng _ HR.out).mono ?_
          rintro _ w31 ⟨rfl, hb31⟩
          replace HB := Lib.hid (HB.out.trans (hb31.mono HB.out.size))
          rw [← E1.out]
          clear hb31 x0 x1 x2 x3 y0 y1 y2 y3 E1
          go_wp2_with fail
          refine bodyPost_ret (v := .tuple #[.int .u64 M1, .int .i64 0, .int .i64 0]) (by simp [results, Tryz.results10, go_sem]) rfl ?_
          exact ⟨by rw [E2.out]; rfl, HB.out⟩
        · skip
          go_wp2_with fail
          refine (Xia.out _).mono ?_
          rintro _ w32 ⟨rfl, hb32⟩
          replace HB := Lib.hid (HB.out.trans (hb32.mono HB.out.size))
          replace HG := Lib.hid (HG.out.below hb32)
          replace HR := Lib.hid (HR.out.below hb32)
          replace BX := Lib.hid (BX.out.below hb32)
          replace BY := Lib.hid (BY.out.below hb32)
          clear x0 x1 x2 x3 y0 y1 y2 y3
          obtain ⟨x0, x1, x2, x3⟩ := BX.out.op
          obtain ⟨y0, y1, y2, y3⟩ := BY.out.op
          clear hb32
          go_wp2_with fail
          refine (Xza.out _).mono ?_
          rintro _ w33 ⟨rfl, hb33⟩
          replace HB := Lib.hid (HB.out.trans (hb33.mono HB.out.size))
          replace HG := Lib.hid (HG.out.below hb33)
          replace HR := Lib.hid (HR.out.below hb33)
          replace BX := Lib.hid (BX.out.below hb33)
          replace BY := Lib.hid (BY.out.below hb33)
          clear x0 x1 x2 x3 y0 y1 y2 y3
          obtain ⟨x0, x1, x2, x3⟩ := BX.out.op
          obtain ⟨y0, y1, y2, y3⟩ := BY.out.op
          clear hb33
          go_wp2_with fail
          refine (Xia.out _).mono ?_
          rintro _ w34 ⟨rfl, hb34⟩
          replace HB := Lib.hid (HB.out.trans (hb34.mono HB.out.size))
          replace HG := Lib.hid (HG.out.below hb34)
          replace HR := Lib.hid (HR.out.below hb34)
          replace BX := Lib.hid (BX.out.below hb34)
          replace BY := Lib.hid (BY.out.below hb34)
          clear x0 x1 x2 x3 y0 y1 y2 y3
          obtain ⟨x0, x1, x2, x3⟩ := BX.out.op
          obtain ⟨y0, y1, y2, y3⟩ := BY.out.op
          clear hb34
          go_wp2_with fail
          refine (Xib.out _).mono ?_
          rintro _ w35 ⟨rfl, hb35⟩
          replace HB := Lib.hid (HB.out.trans (hb35.mono HB.out.size))
          replace HG := Lib.hid (HG.out.below hb35)
          replace HR := Lib.hid (HR.out.below hb35)
          replace BX := Lib.hid (BX.out.below hb35)
          replace BY := Lib.hid (BY.out.below hb35)
          clear x0 x1 x2 x3 y0 y1 y2 y3
          obtain ⟨x0, x1, x2, x3⟩ := BX.out.op
          obtain ⟨y0, y1, y2, y3⟩ := BY.out.op
          clear hb35
          have E1 : Hid (M1 = F.inf + F.sg ng) := HM1.out
          have E2 : Hid (M2 = 0) := HM2.out
          go_wp2_with fail
          refine (HInf.out ng _ HR.out).mono ?_
          rintro _ w36 ⟨rfl, hb36⟩
          replace HB := Lib.hid (HB.out.trans (hb36.mono HB.out.size))
          rw [← E1.out]
          clear hb36 x0 x1 x2 x3 y0 y1 y2 y3 E1
          go_wp2_with fail
          refine bodyPost_ret (v := .tuple #[.int .u64 M1, .int .i64 0, .int .i64 0]) (by simp [results, Tryz.results10, go_sem]) rfl ?_
          exact ⟨by rw [E2.out]; rfl, HB.out⟩
    · -- za: the first is zero
      cases ib
      · skip
        go_wp2_with fail
        refine (Xia.out _).mono ?_
        rintro _ w37 ⟨rfl, hb37⟩
        replace HB := Lib.hid (HB.out.trans (hb37.mono HB.out.size))
        replace HG := Lib.hid (HG.out.below hb37)
        replace HR := Lib.hid (HR.out.below hb37)
        replace BX := Lib.hid (BX.out.below hb37)
        replace BY := Lib.hid (BY.out.below hb37)
        clear x0 x1 x2 x3 y0 y1 y2 y3
        obtain ⟨x0, x1, x2, x3⟩ := BX.out.op
        obtain ⟨y0, y1, y2, y3⟩ := BY.out.op
        clear hb37
        go_wp2_with fail
        refine (Xza.out _).mono ?_
        rintro _ w38 ⟨rfl, hb38⟩
        replace HB := Lib.hid (HB.out.trans (hb38.mono HB.out.size))
        replace HG := Lib.hid (HG.out.below hb38)
        replace HR := Lib.hid (HR.out.below hb38)
        replace BX := Lib.hid (BX.out.below hb38)
        replace BY := Lib.hid (BY.out.below hb38)
        clear x0 x1 x2 x3 y0 y1 y2 y3
        obtain ⟨x0, x1, x2, x3⟩ := BX.out.op
        obtain ⟨y0, y1, y2, y3⟩ := BY.out.op
        clear hb38
        go_wp2_with fail
        refine (Xib.out _).mono ?_
        rintro _ w39 ⟨rfl, hb39⟩
        replace HB := Lib.hid (HB.out.trans (hb39.mono HB.out.size))
        replace HG := Lib.hid (HG.out.below hb39)
        replace HR := Lib.hid (HR.out.below hb39)
        replace BX := Lib.hid (BX.out.below hb39)
        replace BY := Lib.hid (BY.out.below hb39)
        clear x0 x1 x2 x3 y0 y1 y2 y3
        obtain ⟨x0, x1, x2, x3⟩ := BX.out.op
        obtain ⟨y0, y1, y2, y3⟩ := BY.out.op
        clear hb39
        go_wp2_with fail
        refine (Xia.out _).mono ?_
        rintro _ w40 ⟨rfl, hb40⟩
        replace HB := Lib.hid (HB.out.trans (hb40.mono HB.out.size))
        replace HG := Lib.hid (HG.out.below hb40)
        replace HR := Lib.hid (HR.out.below hb40)
        replace BX := Lib.hid (BX.out.below hb40)
        replace BY := Lib.hid (BY.out.below hb40)
        clear x0 x1 x2 x3 y0 y1 y2 y3
        obtain ⟨x0, x1, x2, x3⟩ := BX.out.op
        obtain ⟨y0, y1, y2, y3⟩ := BY.out.op
        clear hb40
        go_wp2_with fail
        refine (Xib.out _).mono ?_
        rintro _ w41 ⟨rfl, hb41⟩
        replace HB := Lib.hid (HB.out.trans (hb41.mono HB.out.size))
        replace HG := Lib.hid (HG.out.below hb41)
        replace HR := Lib.hid (HR.out.below hb41)
        replace BX := Lib.hid (BX.out.below hb41)
        replace BY := Lib.hid (BY.out.below hb41)
        clear x0 x1 x2 x3 y0 y1 y2 y3
        obtain ⟨x0, x1, x2, x3⟩ := BX.out.op
        obtain ⟨y0, y1, y2, y3⟩ := BY.out.op
        clear hb41
        go_wp2_with fail
        refine (Xza.out _).mono ?_
        rintro _ w42 ⟨rfl, hb42⟩
        replace HB := Lib.hid (HB.out.trans (hb42.mono HB.out.size))
        replace HG := Lib.hid (HG.out.below hb42)
        replace HR := Lib.hid (HR.out.below hb42)
        replace BX := Lib.hid (BX.out.below hb42)
        replace BY := Lib.hid (BY.out.below hb42)
        clear x0 x1 x2 x3 y0 y1 y2 y3
        obtain ⟨x0, x1, x2, x3⟩ := BX.out.op
        obtain ⟨y0, y1, y2, y3⟩ := BY.out.op
        clear hb42
        have HM1 : Hid (M1 = F.sg ng) := HM1.out
        have E1 : Hid (M1 = F.sg ng) := HM1.out
        have E2 : Hid (M2 = 0) := HM2.out
        go_wp2_with fail
        refine (HZer.out ng _ HR.out).mono ?_
        rintro _ w43 ⟨rfl, hb43⟩
        replace HB := Lib.hid (HB.out.trans (hb43.mono HB.out.size))
        rw [← E1.out]
        clear hb43 x0 x1 x2 x3 y0 y1 y2 y3 E1
        go_wp2_with fail
        refine bodyPost_ret (v := .tuple #[.int .u64 M1, .int .i64 0, .int .i64 0]) (by simp [results, Tryz.results10, go_sem]) rfl ?_
        exact ⟨by rw [E2.out]; rfl, HB.out⟩
      · skip
        go_wp2_with fail
        refine (Xia.out _).mono ?_
        rintro _ w44 ⟨rfl, hb44⟩
        replace HB := Lib.hid (HB.out.trans (hb44.mono HB.out.size))
        replace HG := Lib.hid (HG.out.below hb44)
        replace HR := Lib.hid (HR.out.below hb44)
        replace BX := Lib.hid (BX.out.below hb44)
        replace BY := Lib.hid (BY.out.below hb44)
        clear x0 x1 x2 x3 y0 y1 y2 y3
        obtain ⟨x0, x1, x2, x3⟩ := BX.out.op
        obtain ⟨y0, y1, y2, y3⟩ := BY.out.op
        clear hb44
        go_wp2_with fail
        refine (Xza.out _).mono ?_
        rintro _ w45 ⟨rfl, hb45⟩
        replace HB := Lib.hid (HB.out.trans (hb45.mono HB.out.size))
        replace HG := Lib.hid (HG.out.below hb45)
        replace HR := Lib.hid (HR.out.below hb45)
        replace BX := Lib.hid (BX.out.below hb45)
        replace BY := Lib.hid (BY.out.below hb45)
        clear x0 x1 x2 x3 y0 y1 y2 y3
        obtain ⟨x0, x1, x2, x3⟩ := BX.out.op
        obtain ⟨y0, y1, y2, y3⟩ := BY.out.op
        clear hb45
        go_wp2_with fail
        refine (Xib.out _).mono ?_
        rintro _ w46 ⟨rfl, hb46⟩
        replace HB := Lib.hid (HB.out.trans (hb46.mono HB.out.size))
        replace HG := Lib.hid (HG.out.below hb46)
        replace HR := Lib.hid (HR.out.below hb46)
        replace BX := Lib.hid (BX.out.below hb46)
        replace BY := Lib.hid (BY.out.below hb46)
        clear x0 x1 x2 x3 y0 y1 y2 y3
        obtain ⟨x0, x1, x2, x3⟩ := BX.out.op
        obtain ⟨y0, y1, y2, y3⟩ := BY.out.op
        clear hb46
        have E1 : Hid (M1 = F.nan) := HM1.out
        have E2 : Hid (M2 = 1) := HM2.out
        go_wp2_with fail
        refine (HNan.out _ HR.out).mono ?_
        rintro _ w47 ⟨rfl, hb47⟩
        replace HB := Lib.hid (HB.out.trans (hb47.mono HB.out.size))
        rw [← E1.out]
        clear hb47 x0 x1 x2 x3 y0 y1 y2 y3 E1
        go_wp2_with fail
        refine bodyPost_ret (v := .tuple #[.int .u64 M1, .int .i64 1, .int .i64 0]) (by simp [results, Tryz.results10, go_sem]) rfl ?_
        exact ⟨by rw [E2.out]; rfl, HB.out⟩
  · -- ia
    cases zb
    · cases za
      · skip
        go_wp2_with fail
        refine (Xia.out _).mono ?_
        rintro _ w48 ⟨rfl, hb48⟩
        replace HB := Lib.hid (HB.out.trans (hb48.mono HB.out.size))
        replace HG := Lib.hid (HG.out.below hb48)
        replace HR := Lib.hid (HR.out.below hb48)
        replace BX := Lib.hid (BX.out.below hb48)
        replace BY := Lib.hid (BY.out.below hb48)
        clear x0 x1 x2 x3 y0 y1 y2 y3
        obtain ⟨x0, x1, x2, x3⟩ := BX.out.op
        obtain ⟨y0, y1, y2, y3⟩ := BY.out.op
        clear hb48
        go_wp2_with fail
        refine (Xzb.out _).mono ?_
        rintro _ w49 ⟨rfl, hb49⟩
        replace HB := Lib.hid (HB.out.trans (hb49.mono HB.out.size))
        replace HG := Lib.hid (HG.out.below hb49)
        replace HR := Lib.hid (HR.out.below hb49)
        replace BX := Lib.hid (BX.out.below hb49)
        replace BY := Lib.hid (BY.out.below hb49)
        clear x0 x1 x2 x3 y0 y1 y2 y3
        obtain ⟨x0, x1, x2, x3⟩ := BX.out.op
        obtain ⟨y0, y1, y2, y3⟩ := BY.out.op
        clear hb49
        go_wp2_with fail
        refine (Xza.out _).mono ?_
        rintro _ w50 ⟨rfl, hb50⟩
        replace HB := Lib.hid (HB.out.trans (hb50.mono HB.out.size))
        replace HG := Lib.hid (HG.out.below hb50)
        replace HR := Lib.hid (HR.out.below hb50)
        replace BX := Lib.hid (BX.out.below hb50)
        replace BY := Lib.hid (BY.out.below hb50)
        clear x0 x1 x2 x3 y0 y1 y2 y3
        obtain ⟨x0, x1, x2, x3⟩ := BX.out.op
        obtain ⟨y0, y1, y2, y3⟩ := BY.out.op
        clear hb50
        go_wp2_with fail
        refine (Xia.out _).mono ?_
        rintro _ w51 ⟨rfl, hb51⟩
        replace HB := Lib.hid (HB.out.trans (hb51.mono HB.out.size))
        replace HG := Lib.hid (HG.out.below hb51)
        replace HR := Lib.hid (HR.out.below hb51)
        replace BX := Lib.hid (BX.out.below hb51)
        replace BY := Lib.hid (BY.out.below hb51)
        clear x0 x1 x2 x3 y0 y1 y2 y3
        obtain ⟨x0, x1, x2, x3⟩ := BX.out.op
        obtain ⟨y0, y1, y2, y3⟩ := BY.out.op
        clear hb51
        have E1 : Hid (M1 = F.inf + F.sg ng) := HM1.out
        have E2 : Hid (M2 = 0) := HM2.out
        go_wp2_with fail
        refine (HInf.out ng _ HR.out).mono ?_
        rintro _ w52 ⟨rfl, hb52⟩
        replace HB := Lib.hid (HB.out.trans (hb52.mono HB.out.size))
        rw [← E1.out]
        clear hb52 x0 x1 x2 x3 y0 y1 y2 y3 E1
        go_wp2_with fail
        refine bodyPost_ret (v := .tuple #[.int .u64 M1, .int .i64 0, .int .i64 0]) (by simp [results, Tryz.results10, go_sem]) rfl ?_
        exact ⟨by rw [E2.out]; rfl, HB.out⟩
      · skip
        go_wp2_with fail
        refine (Xia.out _).mono ?_
        rintro _ w53 ⟨rfl, hb53⟩
        replace HB := Lib.hid (HB.out.trans (hb53.mono HB.out.size))
        replace HG := Lib.hid (HG.out.below hb53)
        replace HR := Lib.hid (HR.out.below hb53)
        replace BX := Lib.hid (BX.out.below hb53)
        replace BY := Lib.hid (BY.out.below hb53)
        clear x0 x1 x2 x3 y0 y1 y2 y3
        obtain ⟨x0, x1, x2, x3⟩ := BX.out.op
        obtain ⟨y0, y1, y2, y3⟩ := BY.out.op
        clear hb53
        go_wp2_with fail
        refine (Xzb.out _).mono ?_
        rintro _ w54 ⟨rfl, hb54⟩
        replace HB := Lib.hid (HB.out.trans (hb54.mono HB.out.size))
        replace HG := Lib.hid (HG.out.below hb54)
        replace HR := Lib.hid (HR.out.below hb54)
        replace BX := Lib.hid (BX.out.below hb54)
        replace BY := Lib.hid (BY.out.below hb54)
        clear x0 x1 x2 x3 y0 y1 y2 y3
        obtain ⟨x0, x1, x2, x3⟩ := BX.out.op
        obtain ⟨y0, y1, y2, y3⟩ := BY.out.op
        clear hb54
        go_wp2_with fail
        refine (Xza.out _).mono ?_
        rintro _ w55 ⟨rfl, hb55⟩
        replace HB := Lib.hid (HB.out.trans (hb55.mono HB.out.size))
        replace HG := Lib.hid (HG.out.below hb55)
        replace HR := Lib.hid (HR.out.below hb55)
        replace BX := Lib.hid (BX.out.below hb55)
        replace BY := Lib.hid (BY.out.below hb55)
        clear x0 x1 x2 x3 y0 y1 y2 y3
        obtain ⟨x0, x1, x2, x3⟩ := BX.out.op
        obtain ⟨y0, y1, y2, y3⟩ := BY.out.op
        clear hb55
        cases ib
        · skip
          go_wp2_with fail
          refine (Xib.out _).mono ?_
          rintro _ w56 ⟨rfl, hb56⟩
          replace HB := Lib.hid (HB.out.trans (hb56.mono HB.out.size))
          replace HG := Lib.hid (HG.out.below hb56)
          replace HR := Lib.hid (HR.out.below hb56)
          replace BX := Lib.hid (BX.out.below hb56)
          replace BY := Lib.hid (BY.out.below hb56)
          clear x0 x1 x2 x3 y0 y1 y2 y3
          obtain ⟨x0, x1, x2, x3⟩ := BX.out.op
          obtain ⟨y0, y1, y2, y3⟩ := BY.out.op
          clear hb56
          go_wp2_with fail
          refine (Xia.out _).mono ?_
          rintro _ w57 ⟨rfl, hb57⟩
          replace HB := Lib.hid (HB.out.trans (hb57.mono HB.out.size))
          replace HG := Lib.hid (HG.out.below hb57)
          replace HR := Lib.hid (HR.out.below hb57)
          replace BX := Lib.hid (BX.out.below hb57)
          replace BY := Lib.hid (BY.out.below hb57)
          clear x0 x1 x2 x3 y0 y1 y2 y3
          obtain ⟨x0, x1, x2, x3⟩ := BX.out.op
          obtain ⟨y0, y1, y2, y3⟩ := BY.out.op
          clear hb57
          have E1 : Hid (M1 = F.inf + F.sg ng) := HM1.out
          have E2 : Hid (M2 = 0) := HM2.out
          go_wp2_with fail
          refine (HInf.out ng _ HR.out).mono ?_
          rintro _ w58 ⟨rfl, hb58⟩
          replace HB := Lib.hid (HB.out.trans (hb58.mono HB.out.size))
          rw [← E1.out]
          clear hb58 x0 x1 x2 x3 y0 y1 y2 y3 E1
          go_wp2_with fail
          refine bodyPost_ret (v := .tuple #[.int .u64 M1, .int .i64 0, .int .i64 0]) (by simp [results, Tryz.results10, go_sem]) rfl ?_
          exact ⟨by rw [E2.out]; rfl, HB.out⟩
        · skip
          go_wp2_with fail
          refine (Xib.out _).mono ?_
          rintro _ w59 ⟨rfl, hb59⟩
          replace HB := Lib.hid (HB.out.trans (hb59.mono HB.out.size))
          replace HG := Lib.hid (HG.out.below hb59)
          replace HR := Lib.hid (HR.out.below hb59)
          replace BX := Lib.hid (BX.out.below hb59)
          replace BY := Lib.hid (BY.out.below hb59)
          clear x0 x1 x2 x3 y0 y1 y2 y3
          obtain ⟨x0, x1, x2, x3⟩ := BX.out.op
          obtain ⟨y0, y1, y2, y3⟩ := BY.out.op
          clear hb59
          have E1 : Hid (M1 = F.nan) := HM1.out
          have E2 : Hid (M2 = 1) := HM2.out
          go_wp2_with fail
          refine (HNan.out _ HR.out).mono ?_
          rintro _ w60 ⟨rfl, hb60⟩
          replace HB := Lib.hid (HB.out.trans (hb60.mono HB.out.size))
          rw [← E1.out]
          clear hb60 x0 x1 x2 x3 y0 y1 y2 y3 E1
          go_wp2_with fail
          refine bodyPost_ret (v := .tuple #[.int .u64 M1, .int .i64 1, .int .i64 0]) (by simp [results, Tryz.results10, go_sem]) rfl ?_
          exact ⟨by rw [E2.out]; rfl, HB.out⟩
    · skip
      go_wp2_with fail
      refine (Xia.out _).mono ?_
      rintro _ w61 ⟨rfl, hb61⟩
      replace HB := Lib.hid (HB.out.trans (hb61.mono HB.out.size))
      replace HG := Lib.hid (HG.out.below hb61)
      replace HR := Lib.hid (HR.out.below hb61)
      replace BX := Lib.hid (BX.out.below hb61)
      replace BY := Lib.hid (BY.out.below hb61)
      clear x0 x1 x2 x3 y0 y1 y2 y3
      obtain ⟨x0, x1, x2, x3⟩ := BX.out.op
      obtain ⟨y0, y1, y2, y3⟩ := BY.out.op
      clear hb61
      go_wp2_with fail
      refine (Xzb.out _).mono ?_
      rintro _ w62 ⟨rfl, hb62⟩
      replace HB := Lib.hid (HB.out.trans (hb62.mono HB.out.size))
      replace HG := Lib.hid (HG.out.below hb62)
      replace HR := Lib.hid (HR.out.below hb62)
      replace BX := Lib.hid (BX.out.below hb62)
      replace BY := Lib.hid (BY.out.below hb62)
      clear x0 x1 x2 x3 y0 y1 y2 y3
      obtain ⟨x0, x1, x2, x3⟩ := BX.out.op
      obtain ⟨y0, y1, y2, y3⟩ := BY.out.op
      clear hb62
      have E1 : Hid (M1 = F.nan) := HM1.out
      have E2 : Hid (M2 = 1) := HM2.out
      go_wp2_with fail
      refine (HNan.out _ HR.out).mono ?_
      rintro _ w63 ⟨rfl, hb63⟩
      replace HB := Lib.hid (HB.out.trans (hb63.mono HB.out.size))
      rw [← E1.out]
      clear hb63 x0 x1 x2 x3 y0 y1 y2 y3 E1
      go_wp2_with fail
      refine bodyPost_ret (v := .tuple #[.int .u64 M1, .int .i64 1, .int .i64 0]) (by simp [results, Tryz.results10, go_sem]) rfl ?_
      exact ⟨by rw [E2.out]; rfl, HB.out⟩

end Go.Proofs.YtlibhfojfonfjaaGreatDoor

/- Walks of layer 7: Mul's errors, Square. -/
namespace Go.Proofs.YtlibhfojfonfjaaGreatDoor
set_option linter.unusedVariables false
open Go.RowKit

set_option maxHeartbeats 1000000 in
theorem open_err (f a : Nat) (w : World) (hf : f < 4) (ha : a < 18446744073709551616) (he : chkS f a ≠ 0) (hG : GlR w) : Calls Tryz.prog 31 #[.int .i64 f, PV (fm f), .int .u64 a] w fun e w' => e = .returned (.tuple #[.agg #[.int .i64 0, .bool false, .int .u64 0, .int .i64 0], .int .i64 (chkS f a)]) ∧ Below w.heap.size w w' := by
  have hcl := fun wx hx => Class_err f a wx ha he hx
  have t1 : (chkS f a != 0) = true := by simpa using he
  generalize chkS f a = c at *
  generalize fm f = F at *
  have HC := Lib.hid hcl
  have hbp := below2 w (.cells #[.int .i64 F.w, .int .i64 F.p, .int .i64 F.emin, .int .i64 F.emax] 65) (.cells #[.int .i64 0, .bool false, .int .u64 0, .int .i64 0] 70)
  have br := Bx.new (w.alloc (.cells #[.int .i64 F.w, .int .i64 F.p, .int .i64 F.emin, .int .i64 F.emax] 65)) #[.int .i64 0, .bool false, .int .u64 0, .int .i64 0] 70
  rw [World.size_alloc] at br
  have HG := Lib.hid (hG.below hbp)
  clear hcl he hG
  unfold PV
  go_enter Tryz.func31, Tryz.ntmps31
  go_wp2_with fail
  refine (HC.out _ HG.out).mono ?_
  rintro _ w1 ⟨rfl, hb1⟩
  have HB := Lib.hid (keep_belowB hbp hb1 (Nat.le_refl _))
  replace br := br.below hb1
  have r0 := br.cell 0 (show (#[Value.int .i64 0, .bool false, .int .u64 0, .int .i64 0] : Array Value)[0]? = some (.int .i64 0) from rfl)
  have r1 := br.cell 1 (show (#[Value.int .i64 0, .bool false, .int .u64 0, .int .i64 0] : Array Value)[1]? = some (.bool false) from rfl)
  have r2 := br.cell 2 (show (#[Value.int .i64 0, .bool false, .int .u64 0, .int .i64 0] : Array Value)[2]? = some (.int .u64 0) from rfl)
  have r3 := br.cell 3 (show (#[Value.int .i64 0, .bool false, .int .u64 0, .int .i64 0] : Array Value)[3]? = some (.int .i64 0) from rfl)
  have f0 := br.free 0
  have f1 := br.free 1
  have f2 := br.free 2
  have f3 := br.free 3
  have b4 := br.set4 (.int .i64 0) (.bool false) (.int .u64 0) (.int .i64 0)
  have s0 := b4.cell 0 (show (#[Value.int .i64 0, .bool false, .int .u64 0, .int .i64 0] : Array Value)[0]? = some (.int .i64 0) from rfl)
  have s1 := b4.cell 1 (show (#[Value.int .i64 0, .bool false, .int .u64 0, .int .i64 0] : Array Value)[1]? = some (.bool false) from rfl)
  have s2 := b4.cell 2 (show (#[Value.int .i64 0, .bool false, .int .u64 0, .int .i64 0] : Array Value)[2]? = some (.int .u64 0) from rfl)
  have s3 := b4.cell 3 (show (#[Value.int .i64 0, .bool false, .int .u64 0, .int .i64 0] : Array Value)[3]? = some (.int .i64 0) from rfl)
  clear hb1 hbp HC HG b4 br
  go_wp2_with fail
  refine bodyPost_ret (v := .tuple #[.agg #[.int .i64 0, .bool false, .int .u64 0, .int .i64 0], .int .i64 c]) (by simp [results, Tryz.results31, go_sem, s0, s1, s2, s3]) rfl ?_
  exact ⟨rfl, (((HB.out.setCell (Nat.le_succ _) _).setCell (Nat.le_succ _) _).setCell (Nat.le_succ _) _).setCell (Nat.le_succ _) _⟩

/-- the error of format, mode and two patterns -/
def errS (f m : Int) (a b : Nat) : Int := if rfS f m ≠ 0 then rfS f m else if chkS f a ≠ 0 then chkS f a else chkS f b

theorem errS_ok {f m : Int} {a b : Nat} (h : errS f m a b = 0) : ∃ n k : Nat, f = n ∧ n < 4 ∧ m = k ∧ k ≤ 5 ∧ a < 2 ^ (fm n).w ∧ b < 2 ^ (fm n).w := by
  unfold errS at h
  by_cases h1 : rfS f m = 0
  · rw [if_neg (by simpa using h1)] at h
    obtain ⟨n, k, rfl, hn, rfl, hk⟩ := rfS_ok h1
    by_cases h2 : chkS (n : Int) a = 0
    · rw [if_neg (by simpa using h2)] at h
      obtain ⟨n1, e1, _, ha⟩ := chkS_ok h2
      obtain ⟨n2, e2, _, hb⟩ := chkS_ok h
      obtain rfl : n1 = n := by omega
      obtain rfl : n2 = n1 := by omega
      exact ⟨n2, k, rfl, hn, rfl, hk, ha, hb⟩
    · rw [if_pos h2] at h; exact absurd h h2
  · rw [if_pos h1] at h; exact absurd h h1

theorem errS_of {n k a b : Nat} (hn : n < 4) (hk : k ≤ 5) (ha : a < 2 ^ (fm n).w) (hb : b < 2 ^ (fm n).w) : errS n k a b = 0 := by
  unfold errS
  rw [rfS_of hn hk, chkS_of hn ha, chkS_of hn hb]; rfl

set_option maxRecDepth 100000 in
set_option maxHeartbeats 4000000 in
theorem Mul_err (f m : Int) (a b : Nat) (w : World) (ha : a < 18446744073709551616) (hb : b < 18446744073709551616) (he : errS f m a b ≠ 0) (hR : GlR w) :
    Calls Tryz.prog 10 #[.int .i64 f, .int .i64 m, .int .u64 a, .int .u64 b] w fun e w' => e = .returned (.tuple #[.int .u64 0, .int .i64 0, .int .i64 (errS f m a b)]) ∧ Below w.heap.size w w' := by
  by_cases hf : f < 0 ∨ 4 ≤ f
  · have e1 : errS f m a b = 2 := by
      have : rfS f m = 2 := by unfold rfS; rw [if_pos hf]
      unfold errS; rw [this]; rfl
    rw [e1]
    clear e1 he
    go_enter Tryz.func10, Tryz.ntmps10
    go_wp2_with fail
    refine (Params_bad f _ hf).mono ?_
    rintro _ w1 ⟨rfl, hb1⟩
    unfold PV0
    have HB := Lib.hid (hb1.trans ((below1 w1 (.cells #[.int .i64 0, .int .i64 0, .int .i64 0, .int .i64 0] 65)).mono hb1.size))
    clear hf hb1
    go_wp2_with fail
    refine bodyPost_ret (v := .tuple #[.int .u64 0, .int .i64 0, .int .i64 2]) (by simp [results, Tryz.results10, go_sem]) rfl ⟨rfl, HB.out⟩
  obtain ⟨n, rfl⟩ := Int.eq_ofNat_of_zero_le (show 0 ≤ f by omega)
  have hn : n < 4 := by omega
  have hPar := fun wx hx => Params_ok n wx hn hx
  have HPar := Lib.hid hPar
  by_cases hm : m < 0 ∨ 5 < m
  · have e1 : errS n m a b = 3 := by
      have : rfS n m = 3 := by unfold rfS; rw [if_neg hf, if_pos hm]
      unfold errS; rw [this]; rfl
    rw [e1]
    generalize fm n = F at *
    clear e1 he hf hPar
    go_enter Tryz.func10, Tryz.ntmps10
    go_wp2_with fail
    refine (HPar.out _ hR).mono ?_
    rintro _ w1 ⟨rfl, hb1⟩
    unfold PV
    have HB := Lib.hid (hb1.trans ((below1 w1 (.cells #[.int .i64 F.w, .int .i64 F.p, .int .i64 F.emin, .int .i64 F.emax] 65)).mono hb1.size))
    clear hb1 HPar
    by_cases hm0 : m < 0
    · clear hm
      go_wp2_with fail
      refine bodyPost_ret (v := .tuple #[.int .u64 0, .int .i64 0, .int .i64 3]) (by simp [results, Tryz.results10, go_sem]) rfl ⟨rfl, HB.out⟩
    · have hm5 : 5 < m := by omega
      have t1 : decide (m < 0) = false := by simpa using hm0
      clear hm hm0
      go_wp2_with fail
      refine bodyPost_ret (v := .tuple #[.int .u64 0, .int .i64 0, .int .i64 3]) (by simp [results, Tryz.results10, go_sem]) rfl ⟨rfl, HB.out⟩
  have t1 : decide (m < 0) = false := decide_eq_false (by omega)
  have t2 : decide (5 < m) = false := decide_eq_false (by omega)
  have hrf : rfS n m = 0 := by unfold rfS; rw [if_neg hf, if_neg hm]
  by_cases hca : chkS n a ≠ 0
  · have e1 : errS n m a b = chkS n a := by unfold errS; rw [hrf, if_neg (by simp), if_pos hca]
    have hop := fun wx hx => open_err n a wx hn ha hca hx
    have t3 : (chkS n a != 0) = true := by simpa using hca
    rw [e1]
    generalize chkS n a = c at *
    generalize fm n = F at *
    have HOp := Lib.hid hop
    clear e1 he hf hPar hrf hca hop hm
    go_enter Tryz.func10, Tryz.ntmps10
    go_wp2_with fail
    refine (HPar.out _ hR).mono ?_
    rintro _ w1 ⟨rfl, hb1⟩
    unfold PV
    have ha1 := below1 w1 (.cells #[.int .i64 F.w, .int .i64 F.p, .int .i64 F.emin, .int .i64 F.emax] 65)
    have HB := Lib.hid (hb1.trans (ha1.mono hb1.size))
    have HR := Lib.hid (hR.below HB.out)
    obtain ⟨q0, q1, q2, q3⟩ := (BxP.new F w1 65).cells
    clear hb1 HPar ha1 hR
    go_wp2_with fail
    refine (HOp.out _ HR.out).mono ?_
    rintro _ w2 ⟨rfl, hb2⟩
    replace HB := Lib.hid (HB.out.trans (hb2.mono HB.out.size))
    replace HB := Lib.hid (HB.out.trans ((below1 w2 (.cells #[.int .i64 0, .bool false, .int .u64 0, .int .i64 0] 70)).mono HB.out.size))
    clear hb2 HOp q0 q1 q2 q3
    go_wp2_with fail
    refine bodyPost_ret (v := .tuple #[.int .u64 0, .int .i64 0, .int .i64 c]) (by simp [results, Tryz.results10, go_sem]) rfl ⟨rfl, HB.out⟩
  have hca0 : chkS n a = 0 := by simpa using hca
  obtain ⟨n', e', _, ha'⟩ := chkS_ok hca0
  obtain rfl : n' = n := by omega
  have e1 : errS n' m a b = chkS n' b := by unfold errS; rw [hrf, if_neg (by simp), if_neg hca]
  rw [e1] at he ⊢
  have hopA := fun wx hx => open_ok n' a wx hn ha' hx
  have hop := fun wx hx => open_err n' b wx hn hb he hx
  have t3 : (chkS n' b != 0) = true := by simpa using he
  generalize chkS n' b = c at *
  generalize fm n' = F at *
  unfold opA at hopA
  generalize clsF F a = z1 at *
  generalize F.neg a = z2 at *
  generalize F.mag a = z3 at *
  generalize F.ex a = z4 at *
  have HOp := Lib.hid hop
  have HOpA := Lib.hid hopA
  clear e1 he hf hPar hrf hca hop hm hopA hca0 e' ha'
  go_enter Tryz.func10, Tryz.ntmps10
  go_wp2_with fail
  refine (HPar.out _ hR).mono ?_
  rintro _ w1 ⟨rfl, hb1⟩
  unfold PV
  have ha1 := below1 w1 (.cells #[.int .i64 F.w, .int .i64 F.p, .int .i64 F.emin, .int .i64 F.emax] 65)
  have HB := Lib.hid (hb1.trans (ha1.mono hb1.size))
  have HR := Lib.hid (hR.below HB.out)
  have BP := BxP.new F w1 65
  obtain ⟨q0, q1, q2, q3⟩ := BP.cells
  clear hb1 HPar ha1 hR
  go_wp2_with fail
  refine (HOpA.out _ HR.out).mono ?_
  rintro _ w2 ⟨rfl, hb2⟩
  have ha2 := below1 w2 (.cells #[.int .i64 z1, .bool z2, .int .u64 z3, .int .i64 z4] 70)
  replace HB := Lib.hid (HB.out.trans (hb2.mono HB.out.size))
  replace HR := Lib.hid ((HR.out.below hb2).below ha2)
  replace BP := (BP.below hb2).below ha2
  replace HB := Lib.hid (HB.out.trans (ha2.mono HB.out.size))
  clear hb2 HOpA q0 q1 q2 q3 ha2
  obtain ⟨q0, q1, q2, q3⟩ := BP.cells
  go_wp2_with fail
  refine (HOp.out _ HR.out).mono ?_
  rintro _ w3 ⟨rfl, hb3⟩
  replace HB := Lib.hid (HB.out.trans (hb3.mono HB.out.size))
  replace HB := Lib.hid (HB.out.trans ((below1 w3 (.cells #[.int .i64 0, .bool false, .int .u64 0, .int .i64 0] 70)).mono HB.out.size))
  clear hb3 HOp q0 q1 q2 q3 BP
  go_wp2_with fail
  refine bodyPost_ret (v := .tuple #[.int .u64 0, .int .i64 0, .int .i64 c]) (by simp [results, Tryz.results10, go_sem]) rfl ⟨rfl, HB.out⟩

/-- what Mul answers -/
def mulA (f m : Int) (a b : Nat) : Nat × Nat × Int := if errS f m a b = 0 then ((mulS (fm f.toNat) m.toNat a b).1, (mulS (fm f.toNat) m.toNat a b).2, 0) else (0, 0, errS f m a b)

theorem Mul_any' (f m : Int) (a b : Nat) (w : World) (ha : a < 18446744073709551616) (hb : b < 18446744073709551616) (hG : Gl w) (hR : GlR w) :
    Calls Tryz.prog 10 #[.int .i64 f, .int .i64 m, .int .u64 a, .int .u64 b] w fun e w' => e = .returned (.tuple #[.int .u64 ((mulA f m a b).1 : Int), .int .i64 ((mulA f m a b).2.1 : Int), .int .i64 (mulA f m a b).2.2]) ∧ Below w.heap.size w w' := by
  unfold mulA
  by_cases h : errS f m a b = 0
  · rw [if_pos h]
    obtain ⟨n, k, rfl, hn, rfl, hk, ha', hb'⟩ := errS_ok h
    exact Mul_ok n k a b w hn hk ha' hb' hG hR
  · rw [if_neg h]; exact Mul_err f m a b w ha hb h hR

end Go.Proofs.YtlibhfojfonfjaaGreatDoor
