/- The walk of MulDoubles. Printed by gen/doubles.py. -/
import Derived.Deep.CutBlock
import Derived.Test.YtcgceigmglikpaaDoorDoublesL
import Derived.Test.YtcgceigmglikpaaDoorPack
import Derived.Test.YtcgceigmglikpaaDoorRises
namespace Go.Proofs.YtcgceigmglikpaaDoor
set_option linter.unusedVariables false
set_option linter.unusedSimpArgs false
open Go.RowKit

set_option maxRecDepth 100000 in
set_option maxHeartbeats 8000000 in
theorem doubles_bad (f m : Int) (a b : Nat) (w : World) (hf : f < 0 ∨ 4 ≤ f) (ha : a < 18446744073709551616) (hb : b < 18446744073709551616) (hG : Gl w) (hR : GlR w) :
    Calls Tryd.prog 8 #[.agg (twoA f m a b)] w fun e w' => e = .returned (.bool true) ∧ Below w.heap.size w w' := by
  have hm := fun wx h1 h2 => Mul_any' f m a b wx ha hb h1 h2
  have e1 : mulA f m a b = (0, 0, 2) := by
    have h2 : rfS f m = 2 := by unfold rfS; rw [if_pos hf]
    have h3 : errS f m a b = 2 := by unfold errS; rw [h2]; rfl
    unfold mulA; rw [h3]; rfl
  rw [e1] at hm
  have hP := fun wx => Params_bad f wx hf
  have hb0 := below1 w (.cells (twoA f m a b) 40)
  have hx := Bx.new w (twoA f m a b) 40
  obtain ⟨W, hW⟩ : ∃ W, W = w.alloc (.cells (twoA f m a b) 40) := ⟨_, rfl⟩
  rw [← hW] at hb0 hx
  have HS := Lib.hid (show St w.heap.size w w.heap.size (twoA f m a b) W from ⟨hb0, hG.below hb0, hR.below hb0, hx⟩)
  obtain ⟨k0, k1, k2, k3⟩ := hx.two
  have HM := Lib.hid hm
  have HP := Lib.hid hP
  clear hb0 hx hG hR ha hb hf hm hP e1
  unfold twoA at hW
  unfold twoA
  go_enter Tryd.func8, Tryd.ntmps8
  go_upto_region 1 with (fail)
  rw [← hW]
  clear hW
  go_quiet (fail)
  have HS' := Lib.hid (show St w.heap.size w w.heap.size #[.int .i64 f, .int .i64 m, .int .u64 a, .int .u64 b] (W.drewN nq) from ⟨below_drewN HS.out.bl nq, HS.out.gl, HS.out.glr, HS.out.bx⟩)
  clear HS k0 k1 k2 k3
  generalize W.drewN nq = W2 at *
  go_wp2_with fail
  refine (HP.out _).mono ?_
  rintro _ w1 ⟨rfl, hb1⟩
  unfold PV0
  have HS := Lib.hid ((HS'.out.below hb1 (Nat.le_refl _)).alloc (.cells #[.int .i64 0, .int .i64 0, .int .i64 0, .int .i64 0] 58) (Nat.le_refl _))
  clear hb1 HS' HP
  go_wp2_with fail
  refine (fixed_any _ HS.out.gl HS.out.glr).mono ?_
  rintro _ w2 ⟨rfl, hb⟩
  replace HS := Lib.hid (HS.out.below hb (Nat.le_refl _))
  clear hb
  obtain ⟨k0, k1, k2, k3⟩ := HS.out.bx.two
  go_wp2_with fail
  refine (HM.out _ HS.out.gl HS.out.glr).mono ?_
  rintro _ w3 ⟨rfl, hb⟩
  replace HS := Lib.hid (HS.out.below hb (Nat.le_refl _))
  clear hb HM k0 k1 k2 k3
  go_wp2_with fail
  go_ret
  exact ⟨rfl, HS.out.bl⟩

set_option maxRecDepth 100000 in
set_option maxHeartbeats 16000000 in
theorem doubles_good (n : Nat) (m : Int) (a b : Nat) (w : World) (hn : n < 4) (ha : a < 18446744073709551616) (hb : b < 18446744073709551616) (hG : Gl w) (hR : GlR w) :
    Calls Tryd.prog 8 #[.agg (twoA n m a b)] w fun e w' => e = .returned (.bool true) ∧ Below w.heap.size w w' := by
  have ok := fm_ok n
  obtain ⟨o1, o2, o3, o4⟩ := pack_one ok
  obtain ⟨l1, l2⟩ := two_lt_w ok
  have hp8 := ok.p8
  have hP := fun wx hx => Params_ok n wx hn hx
  have hone := fun wx hx => Pack_ok n false (fm n).emax.toNat 0 wx hn hx o1 (pow_pos2 _)
  have htwo := fun wx hx => Pack_ok n false ((fm n).emax.toNat + 1) 0 wx hn hx o2 (pow_pos2 _)
  rw [o3] at hone
  rw [o4] at htwo
  have m1 := fun wx h1 h2 => Mul_any' n m (fm n).one a wx (u64_of _ ok l1) ha h1 h2
  have m2 := fun wx h1 h2 => Mul_any' n m (fm n).two a wx (u64_of _ ok l2) ha h1 h2
  have m3 := fun wx h1 h2 => SAdd_any n m a a wx ha ha h1 h2
  have hcl := fun (h : a < 2 ^ (fm n).w) wx hx => Class_ok n a wx hn h hx
  have hle := cls_le1 ok a
  have dok := fun h => doubles_ok hn m a h
  have derr := fun h => doubles_err hn m a h
  have hE : (((fm n).emax.toNat : Nat) : Int) = (fm n).emax ∧ -10000 ≤ (fm n).emax ∧ (fm n).emax ≤ 10000 := by
    have h1 := ok.b16
    have h2 := ok.b1023
    omega
  obtain ⟨em, hem⟩ : ∃ e, e = (fm n).emax.toNat := ⟨_, rfl⟩
  rw [← hem] at hone htwo hE
  obtain ⟨hE1, hE2, hE3⟩ := hE
  have x1 : IntKind.u64.wrap (fm n).emax = (em : Int) := by rw [IntKind.wrap_u64]; omega
  have x2 : IntKind.i64.wrap ((fm n).emax + 1) = ((em + 1 : Nat) : Int) := by rw [IntKind.wrap_i64]; omega
  have x3 : IntKind.u64.wrap ((em + 1 : Nat) : Int) = ((em + 1 : Nat) : Int) := by rw [IntKind.wrap_u64]; omega
  obtain ⟨one, h1⟩ : ∃ e, e = (fm n).one := ⟨_, rfl⟩
  obtain ⟨two, h2⟩ : ∃ e, e = (fm n).two := ⟨_, rfl⟩
  rw [← h1] at hone m1 dok derr
  rw [← h2] at htwo m2 dok derr
  obtain ⟨em1, hem1⟩ : ∃ e, e = em + 1 := ⟨_, rfl⟩
  rw [← hem1] at htwo x2 x3
  clear hem h1 h2 hem1 hE1 hE2 hE3 ok o1 o2 o3 o4 l1 l2 hp8
  generalize fm n = F at *
  have hb0 := below1 w (.cells (twoA n m a b) 40)
  have hx := Bx.new w (twoA n m a b) 40
  obtain ⟨W, hW⟩ : ∃ W, W = w.alloc (.cells (twoA n m a b) 40) := ⟨_, rfl⟩
  rw [← hW] at hb0 hx
  have HS := Lib.hid (show St w.heap.size w w.heap.size (twoA n m a b) W from ⟨hb0, hG.below hb0, hR.below hb0, hx⟩)
  obtain ⟨k0, k1, k2, k3⟩ := hx.two
  have HP := Lib.hid hP
  have HONE := Lib.hid hone
  have HTWO := Lib.hid htwo
  have M1 := Lib.hid m1
  have M2 := Lib.hid m2
  have M3 := Lib.hid m3
  have HCL := Lib.hid hcl
  have HLE := Lib.hid hle
  have DOK := Lib.hid dok
  have DERR := Lib.hid derr
  have HX := Lib.hid (And.intro x1 (And.intro x2 x3))
  clear hb0 hx hG hR ha hb hn hP hone htwo m1 m2 m3 hcl hle dok derr x1 x2 x3
  unfold twoA at hW
  unfold twoA
  go_enter Tryd.func8, Tryd.ntmps8
  go_upto_region 1 with (fail)
  rw [← hW]
  clear hW
  go_quiet (fail)
  have HS' := Lib.hid (show St w.heap.size w w.heap.size #[.int .i64 n, .int .i64 m, .int .u64 a, .int .u64 b] (W.drewN nq) from ⟨below_drewN HS.out.bl nq, HS.out.gl, HS.out.glr, HS.out.bx⟩)
  clear HS k0 k1 k2 k3
  generalize W.drewN nq = W2 at *
  go_wp2_with fail
  refine (HP.out _ HS'.out.glr).mono ?_
  rintro _ w1 ⟨rfl, hb1⟩
  unfold PV
  have HS := Lib.hid ((HS'.out.below hb1 (Nat.le_refl _)).alloc (.cells #[.int .i64 F.w, .int .i64 F.p, .int .i64 F.emin, .int .i64 F.emax] 58) (Nat.le_refl _))
  have BP := Lib.hid (BxP.new F w1 58)
  obtain ⟨W1, hW1⟩ : ∃ W, W = w1.alloc (.cells #[.int .i64 F.w, .int .i64 F.p, .int .i64 F.emin, .int .i64 F.emax] 58) := ⟨_, rfl⟩
  rw [← hW1] at HS BP
  clear hb1 HS' HP
  go_wp2_with fail
  try rw [← hW1]
  refine (fixed_any W1 HS.out.gl HS.out.glr).mono ?_
  clear hW1
  rintro _ w2 ⟨rfl, hb⟩
  replace HS := Lib.hid (HS.out.below hb (Nat.le_refl _))
  replace BP := Lib.hid (BP.out.below hb)
  clear hb
  obtain ⟨x1, x2, x3⟩ := HX.out
  obtain ⟨q0, q1, q2, q3⟩ := BP.out.cells
  go_wp2_with fail
  refine (HONE.out _ HS.out.glr).mono ?_
  rintro _ w3 ⟨rfl, hb⟩
  replace HS := Lib.hid (HS.out.below hb (Nat.le_refl _))
  replace BP := Lib.hid (BP.out.below hb)
  clear hb HONE q0 q1 q2 q3
  obtain ⟨q0, q1, q2, q3⟩ := BP.out.cells
  go_wp2_with fail
  refine (HTWO.out _ HS.out.glr).mono ?_
  rintro _ w4 ⟨rfl, hb⟩
  replace HS := Lib.hid (HS.out.below hb (Nat.le_refl _))
  clear hb HTWO q0 q1 q2 q3 BP x1 x2 x3 HX
  obtain ⟨k0, k1, k2, k3⟩ := HS.out.bx.two
  go_wp2_with fail
  refine (M1.out _ HS.out.gl HS.out.glr).mono ?_
  rintro _ w5 ⟨rfl, hb⟩
  replace HS := Lib.hid (HS.out.below hb (Nat.le_refl _))
  clear hb M1 k0 k1 k2 k3
  obtain ⟨k0, k1, k2, k3⟩ := HS.out.bx.two
  go_wp2_with fail
  refine (M2.out _ HS.out.gl HS.out.glr).mono ?_
  rintro _ w6 ⟨rfl, hb⟩
  replace HS := Lib.hid (HS.out.below hb (Nat.le_refl _))
  clear hb M2 k0 k1 k2 k3
  obtain ⟨k0, k1, k2, k3⟩ := HS.out.bx.two
  go_wp2_with fail
  refine (M3.out _ HS.out.gl HS.out.glr).mono ?_
  rintro _ w7 ⟨rfl, hb⟩
  replace HS := Lib.hid (HS.out.below hb (Nat.le_refl _))
  clear hb M3 k0 k1 k2 k3
  obtain ⟨k0, k1, k2, k3⟩ := HS.out.bx.two
  by_cases he : errS n m a a = 0
  rotate_left
  · obtain ⟨d1, d2, d3⟩ := DERR.out he
    have t1 : (errS (n : Int) m a a != 0) = true := by simpa using he
    rw [d1, d2, d3]
    generalize errS (n : Int) m a a = ee at *
    clear d1 d2 d3 he DOK DERR HCL HLE
    dsimp only
    go_wp2_with fail
    go_ret
    exact ⟨rfl, HS.out.bl⟩
  · obtain ⟨al, d1, d2, d3, d4⟩ := DOK.out he
    have HC := Lib.hid (fun wx hx => HCL.out al wx hx)
    have hle := HLE.out
    clear he al DOK DERR HCL HLE
    generalize clsF F a = c at *
    by_cases hnn : F.isNan a = true
    · rw [d3 hnn, d1]
      rw [hnn] at hle
      have t1 : decide ((1 : Int) < c) = false := by rw [decide_eq_true_eq] at hle; exact decide_eq_false (by omega)
      generalize addA (n : Int) m a a = q at *
      obtain ⟨q1, q2, q3⟩ := q
      dsimp only at d2
      subst d2
      dsimp only
      clear d1 d3 d4 hnn
      go_wp2_with fail
      refine (HC.out _ HS.out.glr).mono ?_
      rintro _ w8 ⟨rfl, hb⟩
      replace HS := Lib.hid (HS.out.below hb (Nat.le_refl _))
      clear hb HC k0 k1 k2 k3
      go_wp2_with fail
      go_ret
      exact ⟨rfl, HS.out.bl⟩
    · rw [d4 (by simpa using hnn), d1]
      rw [Bool.not_eq_true] at hnn
      rw [hnn] at hle
      have t1 : decide ((1 : Int) < c) = true := by rw [decide_eq_false_iff_not] at hle; exact decide_eq_true (by omega)
      generalize addA (n : Int) m a a = q at *
      obtain ⟨q1, q2, q3⟩ := q
      dsimp only at d2
      subst d2
      dsimp only
      clear d1 d3 d4 hnn
      go_wp2_with fail
      refine (HC.out _ HS.out.glr).mono ?_
      rintro _ w8 ⟨rfl, hb⟩
      replace HS := Lib.hid (HS.out.below hb (Nat.le_refl _))
      clear hb HC k0 k1 k2 k3
      obtain ⟨k0, k1, k2, k3⟩ := HS.out.bx.two
      go_wp2_with fail
      go_ret
      exact ⟨rfl, HS.out.bl⟩

theorem doubles_any (f m : Int) (a b : Nat) (w : World) (ha : a < 18446744073709551616) (hb : b < 18446744073709551616) (hG : Gl w) (hR : GlR w) :
    Calls Tryd.prog 8 #[.agg (twoA f m a b)] w fun e w' => e = .returned (.bool true) ∧ Below w.heap.size w w' := by
  by_cases hf : f < 0 ∨ 4 ≤ f
  · exact doubles_bad f m a b w hf ha hb hG hR
  · obtain ⟨n, rfl⟩ := Int.eq_ofNat_of_zero_le (show 0 ≤ f by omega)
    exact doubles_good n m a b w (by omega) ha hb hG hR

end Go.Proofs.YtcgceigmglikpaaDoor
