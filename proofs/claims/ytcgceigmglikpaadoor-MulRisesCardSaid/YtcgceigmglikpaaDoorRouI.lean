/- Walks of layer 5: Parts. -/
import Derived.Test.YtcgceigmglikpaaDoorRouH
namespace Go.Proofs.YtcgceigmglikpaaDoor
set_option linter.unusedVariables false
open Go.RowKit

/-- a number of 128 bits, as a value -/
def WV (N : Nat) : Value := .agg #[.int .u64 ((N / 18446744073709551616 : Nat) : Int), .int .u64 ((N % 18446744073709551616 : Nat) : Int)]

theorem Rd.two (w : World) (lo hi : Nat) (hlo : lo < 18446744073709551616) (hhi : hi < 18446744073709551616) (N : Nat) (hN : N = lo + hi * 18446744073709551616) : Rd 64 (w.alloc (.cells #[.int .u64 lo, .int .u64 hi] 22)) (.slice (some ⟨w.heap.size, 0, none⟩) 2 2) N 2 := by
  refine ⟨_, 2, rfl, Nat.le_refl _, by omega, by rw [hN]; show _ < 2 ^ 128; omega, fun _ => ⟨w.heap.size, 0, rfl, by simp, fun j hj => ?_⟩⟩
  rw [World.cell?_alloc_at _ _ _ _ rfl]
  rcases (show j = 0 ∨ j = 1 by omega) with rfl | rfl
  · have : dg 64 N 0 = lo := by unfold dg; rw [Nat.mul_zero, Nat.pow_zero, Nat.div_one, hN]; omega
    rw [this]; rfl
  · have : dg 64 N 1 = hi := by unfold dg; rw [hN]; show (lo + hi * 18446744073709551616) / 18446744073709551616 % 18446744073709551616 = hi; omega
    rw [this]; rfl

theorem zero_any (f : Nat) (s : Bool) (w : World) (hf : f < 4) (hG : GlR w) : Calls Tryd.prog 105 #[.int .i64 f, .bool s] w fun e w' => e = .returned (.tuple #[.int .u64 ((fm f).sg s : Int), .int .i64 0, .int .i64 0]) ∧ Below w.heap.size w w' := by
  have h := Lib.hid (Zero_ok f s w hf hG)
  obtain ⟨z, hz⟩ : ∃ z, z = (fm f).sg s := ⟨_, rfl⟩
  rw [← hz] at h ⊢
  clear hz hG
  go_enter Tryd.func105, Tryd.ntmps105
  go_wp2_with fail
  refine h.out.mono ?_
  rintro _ w1 ⟨rfl, hb1⟩
  clear h
  go_wp2
  refine bodyPost_ret (v := .tuple #[.int .u64 z, .int .i64 0, .int .i64 0]) (by simp [results, Tryd.results105, go_sem]) rfl ⟨rfl, hb1⟩

/-- what Parts answers of (N and more) * 2^e -/
def partsS (F : Fm) (m : Nat) (neg : Bool) (N : Nat) (e : Int) (more : Bool) : Nat × Nat := if N = 0 then (F.sg neg, 0) else intoS F m neg N e more

set_option maxRecDepth 100000 in
set_option maxHeartbeats 4000000 in
theorem Parts_ok (f m : Nat) (neg : Bool) (N : Nat) (e : Int) (more : Bool) (w : World) (hf : f < 4) (hm : m ≤ 5) (hN : N < 340282366920938463463374607431768211456) (he : -40000 ≤ e ∧ e ≤ 40000) (hmore : more = true → (fm f).p + 2 ≤ bl N) (hG : Gl w) (hR : GlR w) :
    Calls Tryd.prog 60 #[.int .i64 f, .int .i64 m, .bool neg, WV N, .int .i64 e, .bool more] w fun e' w' => e' = .returned (.tuple #[.int .u64 ((partsS (fm f) m neg N e more).1 : Int), .int .i64 ((partsS (fm f) m neg N e more).2 : Int), .int .i64 0]) ∧ Below w.heap.size w w' := by
  have href := fun wx hx => refuses_m f m wx hf hx
  rw [rfS_of hf hm] at href
  have hinto := fun A n' nn c wx h1 h2 h3 h4 h5 => into_any f hf neg A n' nn c e more m wx h1 hm h2 (by omega) h3 h4 h5
  have hzero := fun wx hx => zero_any f neg wx hf hx
  obtain ⟨F, hF⟩ : ∃ F, F = fm f := ⟨_, rfl⟩
  have p53 : F.p ≤ 53 := by rw [hF]; exact (fm_ok f).p53
  rw [← hF] at href hinto hmore hzero ⊢
  obtain ⟨P1, hP1⟩ : ∃ P, P = (partsS F m neg N e more).1 := ⟨_, rfl⟩
  obtain ⟨P2, hP2⟩ : ∃ P, P = (partsS F m neg N e more).2 := ⟨_, rfl⟩
  rw [← hP1, ← hP2]
  unfold partsS at hP1 hP2
  have HP1 := Lib.hid hP1
  have HP2 := Lib.hid hP2
  have HRef := Lib.hid href
  have HInto := Lib.hid hinto
  have HZero := Lib.hid hzero
  obtain ⟨hi, hhi⟩ : ∃ x, x = N / 18446744073709551616 := ⟨_, rfl⟩
  obtain ⟨lo, hlo⟩ : ∃ x, x = N % 18446744073709551616 := ⟨_, rfl⟩
  have hl1 : lo < 18446744073709551616 := by omega
  have hl2 : hi < 18446744073709551616 := by omega
  have hNe : N = lo + hi * 18446744073709551616 := by omega
  have HN := Lib.hid hNe
  unfold WV
  rw [← hhi, ← hlo]
  clear hP1 hP2 href hinto hzero hF hhi hlo hNe hN
  have hb0 := below1 w (.cells #[.int .u64 hi, .int .u64 lo] 95)
  have bw := Bx.new w #[.int .u64 hi, .int .u64 lo] 95
  have HB := Lib.hid hb0
  have BW := Lib.hid bw
  have HG := Lib.hid (hG.below hb0)
  have HR := Lib.hid (hR.below hb0)
  clear hb0 bw hG hR
  go_enter Tryd.func60, Tryd.ntmps60
  go_wp2_with fail
  refine (HRef.out _ HR.out).mono ?_
  rintro _ w1 ⟨rfl, hb1⟩
  unfold PV
  have hb1' := below1 w1 (.cells #[.int .i64 F.w, .int .i64 F.p, .int .i64 F.emin, .int .i64 F.emax] 58)
  obtain ⟨W1, hW1⟩ : ∃ W, W = w1.alloc (.cells #[.int .i64 F.w, .int .i64 F.p, .int .i64 F.emin, .int .i64 F.emax] 58) := ⟨_, rfl⟩
  rw [← hW1] at hb1'
  have hbb := keep_below hb1 hb1'
  replace HB := Lib.hid (keep_belowB (keep_belowB HB.out hb1 (Nat.le_refl _)) hb1' (Nat.le_refl _))
  replace BW := Lib.hid ((BW.out.below hb1).below hb1')
  replace HG := Lib.hid ((HG.out.below hb1).below hb1')
  replace HR := Lib.hid ((HR.out.below hb1).below hb1')
  have BP : Hid (BxP F W1 w1.heap.size) := by show BxP _ _ _; rw [hW1]; exact BxP.new ..
  have c0 := BW.out.cell 0 (show (#[Value.int .u64 hi, .int .u64 lo] : Array Value)[0]? = some (.int .u64 hi) from rfl)
  have c1 := BW.out.cell 1 (show (#[Value.int .u64 hi, .int .u64 lo] : Array Value)[1]? = some (.int .u64 lo) from rfl)
  clear hb1 hb1' hbb HRef
  go_upto_region 4 with (fail)
  rw [← hW1]
  clear hW1
  have hR2 := Rd.two W1 lo hi hl1 hl2 N HN.out
  have hba := below1 W1 (.cells #[.int .u64 lo, .int .u64 hi] 22)
  replace HB := Lib.hid (keep_belowB HB.out hba (Nat.le_refl _))
  replace BP := Lib.hid (BP.out.below hba)
  replace HG := Lib.hid (HG.out.below hba)
  replace HR := Lib.hid (HR.out.below hba)
  go_wp2_with fail
  refine (Trim_any _ N 2 _ hR2).mono ?_
  rintro _ w2 ⟨v2, rfl, h2, hF2, hb2⟩
  replace HB := Lib.hid (keep_belowB HB.out hb2 (Nat.le_refl _))
  replace BP := Lib.hid (BP.out.below hb2)
  replace HG := Lib.hid (HG.out.below hb2)
  replace HR := Lib.hid (HR.out.below hb2)
  have hn2 : nd 64 N ≤ 2 := nd_le 64 N 2 (by decide) hR2.lt
  obtain ⟨nn, hnn⟩ : ∃ nn, nn = nd 64 N := ⟨_, rfl⟩
  rw [← hnn] at h2 hn2
  have hpos := nd_pos 64 N
  rw [← hnn] at hpos
  have Hnn := Lib.hid hnn
  obtain ⟨A2, cc2, rfl, hc2, hcm2⟩ := h2.form
  have hb3 := below1 w2 (.cells (numA neg (.slice A2 nn cc2) e more) 132)
  have BN := Bx.new w2 (numA neg (.slice A2 nn cc2) e more) 132
  obtain ⟨W3, hW3⟩ : ∃ W, W = w2.alloc (.cells (numA neg (.slice A2 nn cc2) e more) 132) := ⟨_, rfl⟩
  rw [← hW3] at hb3 BN
  replace HB := Lib.hid (keep_belowB HB.out hb3 (Nat.le_refl _))
  replace BP := Lib.hid (BP.out.below hb3)
  replace HG := Lib.hid (HG.out.below hb3)
  replace HR := Lib.hid (HR.out.below hb3)
  have H2 := Lib.hid (h2.below hb3)
  obtain ⟨k0, k1, k2, k3⟩ := BN.num
  obtain ⟨q0, q1, q2, q3⟩ := BP.out.cells
  unfold numA at hW3
  clear c0 c1 BW hb2 hb3 hba hR2 hF2 h2 BN hnn HN
  have t1 : decide (e < -40000) = false := by simp; omega
  have t2 : decide (40000 < e) = false := by simp; omega
  go_upto_region 5 with (fail)
  rw [← hW3]
  clear hW3
  go_upto_region 7 with (fail)
  go_cut [46] from 47 (fun v46 wx => v46 = .bool false ∧ ∃ d, wx = W3.drewN d)
  case first =>
    cases more
    · go_quiet (fail)
      go_wp2_with fail
      go_meet
      case rel => exact ⟨rfl, nq, rfl⟩
    · have hbl := hmore rfl
      have hL := fun wx (h : Rd 64 wx (.slice A2 nn cc2) N nn) => Len_any (.slice A2 nn cc2) N nn wx h
      have HL := Lib.hid hL
      have h22 := H2.out
      have x1 : IntKind.i64.wrap ((F.p : Int) + 2) = (F.p : Int) + 2 := IntWalk.i64_in _ (by omega)
      have x2 : decide ((bl N : Int) < (F.p : Int) + 2) = false := by simp; omega
      clear hL hmore
      go_quiet ((go_at_call 104; exact quiet_eq (HL.out _ h22)))
      go_wp2_with fail
      go_meet
      case rel => exact ⟨rfl, nq, rfl⟩
  case rest =>
    obtain ⟨rfl, d, rfl⟩ := hcut
    have HB' := Lib.hid (below_drewN HB.out d)
    have HR' := Lib.hid (show GlR (W3.drewN d) from HR.out)
    have HG' := Lib.hid (show Gl (W3.drewN d) from HG.out)
    have H2' := Lib.hid (show Rd 64 (W3.drewN d) (.slice A2 nn cc2) N nn from H2.out)
    have k0' : (W3.drewN d).cell? ⟨w2.heap.size, 0, none⟩ = _ := k0
    have k1' : (W3.drewN d).cell? ⟨w2.heap.size, 1, none⟩ = _ := k1
    have k2' : (W3.drewN d).cell? ⟨w2.heap.size, 2, none⟩ = _ := k2
    have k3' : (W3.drewN d).cell? ⟨w2.heap.size, 3, none⟩ = _ := k3
    have q0' : (W3.drewN d).cell? ⟨w1.heap.size, 0, none⟩ = _ := q0
    have q1' : (W3.drewN d).cell? ⟨w1.heap.size, 1, none⟩ = _ := q1
    have q2' : (W3.drewN d).cell? ⟨w1.heap.size, 2, none⟩ = _ := q2
    have q3' : (W3.drewN d).cell? ⟨w1.heap.size, 3, none⟩ = _ := q3
    clear HB HR HG H2 k0 k1 k2 k3 q0 q1 q2 q3 hmore BP
    generalize W3.drewN d = X at *
    by_cases h0 : N = 0
    · have e0 : nn = 0 := by rw [Hnn.out, h0, nd_zero]
      have E1 : Hid (P1 = F.sg neg) := by show _ = _; rw [HP1.out, if_pos h0]
      have E2 : Hid (P2 = 0) := by show _ = _; rw [HP2.out, if_pos h0]
      clear HP1 HP2 Hnn HInto H2' hpos
      subst e0
      go_wp2_with fail
      refine (HZero.out X HR'.out).mono ?_
      rintro _ w5 ⟨rfl, hb5⟩
      have HB := Lib.hid (HB'.out.trans (hb5.mono HB'.out.size))
      rw [← E1.out]
      clear hb5 HZero E1
      go_wp2_with fail
      refine bodyPost_ret (v := .tuple #[.int .u64 P1, .int .i64 0, .int .i64 0]) (by simp [results, Tryd.results60, go_sem]) rfl ?_
      exact ⟨by rw [E2.out]; rfl, HB.out⟩
    · have hp := hpos h0
      have t3 : ((nn : Int) == 0) = false := by rw [beq_eq_false_iff_ne]; omega
      have hIn := HInto.out A2 N nn cc2 X H2'.out (by omega) h0 HG'.out HR'.out
      rw [show (intoS F m neg N e more).1 = P1 by rw [HP1.out, if_neg h0], show (intoS F m neg N e more).2 = P2 by rw [HP2.out, if_neg h0]] at hIn
      have HIn := Lib.hid hIn
      clear hIn HInto HP1 HP2 hpos h0 Hnn H2' HZero
      unfold numA PV at HIn
      go_wp2_with fail
      refine HIn.out.mono ?_
      rintro _ w5 ⟨rfl, hb5⟩
      have HB := Lib.hid (HB'.out.trans (hb5.mono HB'.out.size))
      clear hb5 HIn
      go_wp2_with fail
      refine bodyPost_ret (v := .tuple #[.int .u64 P1, .int .i64 P2, .int .i64 0]) (by simp [results, Tryd.results60, go_sem]) rfl ?_
      exact ⟨rfl, HB.out⟩

end Go.Proofs.YtcgceigmglikpaaDoor
