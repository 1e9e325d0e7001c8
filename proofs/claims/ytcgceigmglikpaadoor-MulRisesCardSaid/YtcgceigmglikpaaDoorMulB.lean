/- Walks of layer 7: open. -/
import Derived.Test.YtcgceigmglikpaaDoorMulA
namespace Go.Proofs.YtcgceigmglikpaaDoor
set_option linter.unusedVariables false
open Go.RowKit

theorem mag_parts (F : Fm) (a : Nat) : F.mag a = (if F.fx a = 0 then F.fy a else 2 ^ (F.p - 1) + F.fy a) ∧ F.ex a = (if F.fx a = 0 then F.low else F.low + F.fx a - 1) := by
  have hp := abs_parts (F := F) a
  unfold Fm.mag Fm.sig Fm.ex Fm.xp
  by_cases h : F.fx a = 0
  · have h' : F.abs a / 2 ^ (F.p - 1) = 0 := h
    rw [if_pos h, if_pos h', if_pos h', if_pos h]
    rw [h, Nat.zero_mul, Nat.zero_add] at hp
    exact ⟨hp, rfl⟩
  · have h' : ¬ F.abs a / 2 ^ (F.p - 1) = 0 := h
    rw [if_neg h, if_neg h', if_neg h', if_neg h]
    exact ⟨rfl, rfl⟩

set_option maxRecDepth 100000 in
set_option maxHeartbeats 2000000 in
theorem open_ok (f a : Nat) (w : World) (hf : f < 4) (ha : a < 2 ^ (fm f).w) (hG : GlR w) : Calls Tryd.prog 53 #[.int .i64 f, PV (fm f), .int .u64 a] w fun e w' => e = .returned (.tuple #[.agg (opA (fm f) a), .int .i64 0]) ∧ Below w.heap.size w w' := by
  have hcl := fun wx hx => Class_ok f a wx hf ha hx
  have hfi := fun wx hx => Fields_ok f a wx hf ha hx
  obtain ⟨F, hF⟩ : ∃ F, F = fm f := ⟨_, rfl⟩
  have ok : F.Ok := by rw [hF]; exact fm_ok f
  rw [← hF] at hcl hfi ⊢
  clear hF
  obtain ⟨p8, p53, pw, w64, emx, emn, b16, b1023⟩ := id ok
  have hem : -1022 ≤ F.emin ∧ F.emin ≤ -14 := by omega
  obtain ⟨hem1, hem2⟩ := hem
  obtain ⟨hmag, hex⟩ := mag_parts F a
  have hyl := fy_lt (F := F) a
  have hxl := fx_lt ok a
  have hxl2 : F.fx a < 2 ^ 60 := Nat.lt_of_lt_of_le hxl (Nat.pow_le_pow_right (by decide) (by omega))
  obtain ⟨n1, hn1⟩ : ∃ n1, n1 = F.p - 1 := ⟨_, rfl⟩
  rw [← hn1] at hyl hmag
  have hP : (2 : Nat) ^ n1 ≤ 2 ^ 52 := Nat.pow_le_pow_right (by decide) (by omega)
  have e1 : (F.p : Int) - 1 = (n1 : Int) := by omega
  have hn63 : n1 ≤ 63 := by omega
  unfold opA
  generalize clsF F a = ca at *
  generalize F.neg a = s at *
  obtain ⟨N, hN⟩ : ∃ N, N = F.mag a := ⟨_, rfl⟩
  obtain ⟨E, hE⟩ : ∃ E, E = F.ex a := ⟨_, rfl⟩
  rw [← hN, ← hE]
  rw [← hN] at hmag
  rw [← hE] at hex
  unfold Fm.low at hex
  generalize F.fx a = x at *
  generalize F.fy a = y at *
  have HM := Lib.hid hmag
  have HE := Lib.hid hex
  have HC := Lib.hid hcl
  have HFi := Lib.hid hfi
  have hbp := below2 w (.cells #[.int .i64 F.w, .int .i64 F.p, .int .i64 F.emin, .int .i64 F.emax] 58) (.cells #[.int .i64 0, .bool false, .int .u64 0, .int .i64 0] 88)
  have bp := (BxP.new F w 58).below (below1 _ (.cells #[.int .i64 0, .bool false, .int .u64 0, .int .i64 0] 88))
  have br := Bx.new (w.alloc (.cells #[.int .i64 F.w, .int .i64 F.p, .int .i64 F.emin, .int .i64 F.emax] 58)) #[.int .i64 0, .bool false, .int .u64 0, .int .i64 0] 88
  rw [World.size_alloc] at br
  have HG := Lib.hid (hG.below hbp)
  clear hmag hex hcl hfi hN hE emx emn b16 b1023 hn1 hG pw w64 ok ha hxl
  unfold PV
  go_enter Tryd.func53, Tryd.ntmps53
  go_wp2_with fail
  refine (HC.out _ HG.out).mono ?_
  rintro _ w1 ⟨rfl, hb1⟩
  have HB := Lib.hid (keep_belowB hbp hb1 (Nat.le_refl _))
  replace HG := Lib.hid (HG.out.below hb1)
  replace bp := bp.below hb1
  replace br := br.below hb1
  clear hb1 hbp HC
  go_wp2_with fail
  refine (HFi.out _ HG.out).mono ?_
  rintro _ w2 ⟨rfl, hb2⟩
  replace HB := Lib.hid (keep_belowB HB.out hb2 (Nat.le_refl _))
  replace bp := bp.below hb2
  replace br := br.below hb2
  obtain ⟨q0, q1, q2, q3⟩ := bp.cells
  have r0 := br.cell 0 (show (#[Value.int .i64 0, .bool false, .int .u64 0, .int .i64 0] : Array Value)[0]? = some (.int .i64 0) from rfl)
  have r1 := br.cell 1 (show (#[Value.int .i64 0, .bool false, .int .u64 0, .int .i64 0] : Array Value)[1]? = some (.bool false) from rfl)
  have r2 := br.cell 2 (show (#[Value.int .i64 0, .bool false, .int .u64 0, .int .i64 0] : Array Value)[2]? = some (.int .u64 0) from rfl)
  have r3 := br.cell 3 (show (#[Value.int .i64 0, .bool false, .int .u64 0, .int .i64 0] : Array Value)[3]? = some (.int .i64 0) from rfl)
  have f0 := br.free 0
  have f1 := br.free 1
  have f2 := br.free 2
  have f3 := br.free 3
  have BR := Lib.hid br
  clear hb2 HFi HG bp br
  have fin : ∀ E' : Int, E' = E → (((((w2.setCell ⟨w.heap.size + 1, 0, none⟩ (.int .i64 ca)).setCell ⟨w.heap.size + 1, 1, none⟩ (.bool s)).setCell ⟨w.heap.size + 1, 2, none⟩ (.int .u64 N)).setCell ⟨w.heap.size + 1, 3, none⟩ (.int .i64 E')).cell? ⟨w.heap.size + 1, 0, none⟩ = some (.int .i64 ca) ∧
      ((((w2.setCell ⟨w.heap.size + 1, 0, none⟩ (.int .i64 ca)).setCell ⟨w.heap.size + 1, 1, none⟩ (.bool s)).setCell ⟨w.heap.size + 1, 2, none⟩ (.int .u64 N)).setCell ⟨w.heap.size + 1, 3, none⟩ (.int .i64 E')).cell? ⟨w.heap.size + 1, 1, none⟩ = some (.bool s) ∧
      ((((w2.setCell ⟨w.heap.size + 1, 0, none⟩ (.int .i64 ca)).setCell ⟨w.heap.size + 1, 1, none⟩ (.bool s)).setCell ⟨w.heap.size + 1, 2, none⟩ (.int .u64 N)).setCell ⟨w.heap.size + 1, 3, none⟩ (.int .i64 E')).cell? ⟨w.heap.size + 1, 2, none⟩ = some (.int .u64 N) ∧
      ((((w2.setCell ⟨w.heap.size + 1, 0, none⟩ (.int .i64 ca)).setCell ⟨w.heap.size + 1, 1, none⟩ (.bool s)).setCell ⟨w.heap.size + 1, 2, none⟩ (.int .u64 N)).setCell ⟨w.heap.size + 1, 3, none⟩ (.int .i64 E')).cell? ⟨w.heap.size + 1, 3, none⟩ = some (.int .i64 E)) := by
    intro E' hE
    subst hE
    have b4 := BR.out.set4 (.int .i64 ca) (.bool s) (.int .u64 N) (.int .i64 E')
    exact ⟨b4.cell 0 rfl, b4.cell 1 rfl, b4.cell 2 rfl, b4.cell 3 rfl⟩
  have Fin := Lib.hid fin
  clear fin
  by_cases h0 : x = 0
  · have t1 : ((x : Int) == 0) = true := by simp [h0]
    have hNy : N = y := by rw [HM.out, if_pos h0]
    have hEE : E = F.emin - F.p + 1 := by rw [HE.out, if_pos h0]
    obtain ⟨g0, g1, g2, g3⟩ := Fin.out (F.emin - F.p + 1) hEE.symm
    have HEE := Lib.hid hEE
    clear HM HE h0 hEE Fin
    subst hNy
    go_wp2_with fail
    refine bodyPost_ret (v := .tuple #[.agg #[.int .i64 ca, .bool s, .int .u64 N, .int .i64 E], .int .i64 0]) (by simp [results, Tryd.results53, go_sem, g0, g1, g2, g3]) rfl ?_
    exact ⟨rfl, (((HB.out.setCell (Nat.le_succ _) _).setCell (Nat.le_succ _) _).setCell (Nat.le_succ _) _).setCell (Nat.le_succ _) _⟩
  · have t1 : ((x : Int) == 0) = false := by simp [h0]
    obtain ⟨s3, hs3⟩ : ∃ s3, s3 = 2 ^ n1 := ⟨_, rfl⟩
    have h3 : IntKind.u64.wrap ((2 : Int) ^ n1) = (s3 : Int) := by
      have e0 : (2 : Int) ^ n1 = ((2 ^ n1 : Nat) : Int) := by simp
      rw [e0, hs3, IntKind.wrap_u64]; omega
    have h4 : bits .or .u64 (y : Int) (s3 : Int) = (N : Int) := by
      rw [or_nat _ _ (by omega) (by omega), hs3, Nat.or_comm, HM.out, if_neg h0]
      have := or_add 1 y n1 hyl
      rw [Nat.one_mul] at this
      rw [this]
    have hEE : (x : Int) - 1 + F.emin - F.p + 1 = E := by rw [HE.out, if_neg h0]; omega
    obtain ⟨g0, g1, g2, g3⟩ := Fin.out ((x : Int) - 1 + F.emin - F.p + 1) hEE
    have HEE := Lib.hid hEE
    clear HM HE hEE Fin hs3
    go_wp2_with fail
    refine bodyPost_ret (v := .tuple #[.agg #[.int .i64 ca, .bool s, .int .u64 N, .int .i64 E], .int .i64 0]) (by simp [results, Tryd.results53, go_sem, g0, g1, g2, g3]) rfl ?_
    exact ⟨rfl, (((HB.out.setCell (Nat.le_succ _) _).setCell (Nat.le_succ _) _).setCell (Nat.le_succ _) _).setCell (Nat.le_succ _) _⟩

end Go.Proofs.YtcgceigmglikpaaDoor
