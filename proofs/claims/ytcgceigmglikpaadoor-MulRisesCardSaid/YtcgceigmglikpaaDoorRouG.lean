/- Walks of layer 5: tiny. -/
import Derived.Test.YtcgceigmglikpaaDoorRouF
namespace Go.Proofs.YtcgceigmglikpaaDoor
set_option linter.unusedVariables false
open Go.RowKit

theorem cut_room (F : Fm) (ok : F.Ok) (n : Nat) (e q : Int) (h0 : n ≠ 0) (hq : topE n e - F.p + 1 ≤ q) (h2 : q - e < 2) : 2 - (q - e) ≤ 65536 ∧ nd 64 (n * 2 ^ (2 - (q - e)).toNat) ≤ 1024 := by
  have h1 := topE_ge n e h0
  have hp := ok.p53
  have hb := bl_lt n
  have hbp := bl_pos n h0
  unfold topE at *
  refine ⟨by omega, ?_⟩
  have : n * 2 ^ (2 - (q - e)).toNat < 2 ^ (64 * 1) := by
    refine Nat.lt_of_lt_of_le (Nat.mul_lt_mul_of_pos_right hb (pow_pos2 _)) ?_
    rw [← Nat.pow_add]
    exact Nat.pow_le_pow_right (by decide) (by omega)
  have := nd_le 64 _ 1 (by decide) this
  omega

theorem flr_lt_p (F : Fm) (n : Nat) (e q : Int) (h0 : n ≠ 0) (hq : topE n e - F.p + 1 ≤ q) : flr n (q - e) < 2 ^ F.p := by
  obtain ⟨L, hL1, hL2⟩ : ∃ L : Int, L ≤ e ∧ L ≤ q := ⟨min e q, by omega, by omega⟩
  have ht := topE_ge n e h0
  obtain ⟨a1, a2⟩ := flr_units n e q L hL1 hL2
  obtain ⟨b1, b2⟩ := top_units n e L h0 hL1
  have e1 : (topE n e - L).toNat + 1 ≤ F.p + (q - L).toNat := by omega
  have e2 := Nat.pow_le_pow_right (show 0 < 2 by decide) e1
  rw [Nat.pow_add 2 F.p] at e2
  exact Nat.lt_of_mul_lt_mul_right (Nat.lt_of_le_of_lt a1 (Nat.lt_of_lt_of_le b2 e2))

theorem cut_le_p (F : Fm) (m : Nat) (neg : Bool) (n : Nat) (e q : Int) (more : Bool) (h0 : n ≠ 0) (hq : topE n e - F.p + 1 ≤ q) : cutS m neg n more (q - e) ≤ 2 ^ F.p ∧ bl (cutS m neg n more (q - e)) ≤ F.p + 1 := by
  have h := flr_lt_p F n e q h0 hq
  have h1 : cutS m neg n more (q - e) ≤ 2 ^ F.p := by unfold cutS; split <;> omega
  exact ⟨h1, bl_le_of_lt (Nat.lt_of_le_of_lt h1 (Nat.pow_lt_pow_right (by decide) (Nat.lt_succ_self _)))⟩

def tinyB (F : Fm) (m : Nat) (neg : Bool) (n : Nat) (e : Int) (more : Bool) : Bool := decide (topE n e < F.emin) && decide (topE n e - F.p + bl (cutS m neg n more (topE n e - F.p + 1 - e)) < F.emin)

theorem Bx.num {w : World} {g : Nat} {neg : Bool} {x : Value} {e : Int} {more : Bool} (h : Bx w g (numA neg x e more)) : w.cell? ⟨g, 0, none⟩ = some (.bool neg) ∧ w.cell? ⟨g, 1, none⟩ = some x ∧ w.cell? ⟨g, 2, none⟩ = some (.int .i64 e) ∧ w.cell? ⟨g, 3, none⟩ = some (.bool more) :=
  ⟨h.cell 0 rfl, h.cell 1 rfl, h.cell 2 rfl, h.cell 3 rfl⟩

set_option maxRecDepth 100000 in
set_option maxHeartbeats 2000000 in
theorem tiny_any (F : Fm) (ok : F.Ok) (neg : Bool) (A : Option Addr) (n nn c : Nat) (e : Int) (more : Bool) (m : Nat) (w : World) (hv : Rd 64 w (.slice A nn c) n nn) (hm : m ≤ 5) (hnn : nn ≤ 1024) (he : -100000 ≤ e ∧ e ≤ 100000) (h0 : n ≠ 0) (hG : Gl w) :
    Calls Tryd.prog 139 #[.agg (numA neg (.slice A nn c) e more), PV F, .int .i64 m, .int .i64 (topE n e)] w fun e' w' => e' = .returned (.bool (tinyB F m neg n e more)) ∧ Below w.heap.size w w' := by
  obtain ⟨p8, p53, pw, w64, emx, emn, b16, b1023⟩ := id ok
  have hbl := bl_le_of_lt hv.lt
  have hbp := bl_pos n h0
  have hroom := cut_room F ok n e (topE n e - F.p + 1) h0 (Int.le_refl _)
  have hcl := (cut_le_p F m neg n e (topE n e - F.p + 1) more h0 (Int.le_refl _)).2
  have hT1 : e ≤ topE n e := topE_ge n e h0
  have hT2 : topE n e ≤ 200000 := by unfold topE; omega
  have hem : -1022 ≤ F.emin ∧ F.emin ≤ -14 := by omega
  obtain ⟨hem1, hem2⟩ := hem
  obtain ⟨R, hR⟩ : ∃ R, R = tinyB F m neg n e more := ⟨_, rfl⟩
  rw [← hR]
  unfold tinyB at hR
  have HR := Lib.hid hR
  clear hR emx emn b16 b1023 hbl hbp pw w64
  have bn := Bx.new w (numA neg (.slice A nn c) e more) 132
  have hb0 := below2 w (.cells (numA neg (.slice A nn c) e more) 132) (.cells #[.int .i64 F.w, .int .i64 F.p, .int .i64 F.emin, .int .i64 F.emax] 58)
  have bp := BxP.new F (w.alloc (.cells (numA neg (.slice A nn c) e more) 132)) 58
  obtain ⟨W, hW⟩ : ∃ W, W = (w.alloc (.cells (numA neg (.slice A nn c) e more) 132)).alloc (.cells #[.int .i64 F.w, .int .i64 F.p, .int .i64 F.emin, .int .i64 F.emax] 58) := ⟨_, rfl⟩
  have bnW := bn.below (below1 _ (.cells #[.int .i64 F.w, .int .i64 F.p, .int .i64 F.emin, .int .i64 F.emax] 58))
  rw [← hW] at bnW bp hb0
  rw [World.size_alloc] at bp
  obtain ⟨k0, k1, k2, k3⟩ := bnW.num
  obtain ⟨q0, q1, q2, q3⟩ := bp.cells
  have BP := Lib.hid bp
  have HB := Lib.hid hb0
  have Hv := Lib.hid (hv.below hb0)
  have HG := Lib.hid (hG.below hb0)
  clear bn bnW bp hb0 hv hG
  generalize hT : topE n e = T at *
  clear hT
  unfold numA at hW
  unfold numA PV
  by_cases ht : F.emin ≤ T
  · have E : Hid (R = false) := by show _ = _; rw [HR.out]; simp; omega
    go_enter Tryd.func139, Tryd.ntmps139
    go_upto_region 1 with (fail)
    rw [← hW]
    clear hW
    go_wp2_with fail
    go_ret
    exact ⟨by rw [E.out]; rfl, HB.out⟩
  · have t1 : decide (F.emin ≤ T) = false := by simpa using ht
    have E : Hid (R = decide (T - F.p + (bl (cutS m neg n more (T - F.p + 1 - e)) : Int) < F.emin)) := by
      show _ = _; rw [HR.out, decide_eq_true (show T < F.emin by omega), Bool.true_and]
    have hcut := fun wx hvx hGx => cut_any neg A n nn c e (T - F.p + 1) more m wx hvx hm hnn (by omega) (by omega) hroom hGx
    obtain ⟨U, hU⟩ : ∃ U, U = cutS m neg n more (T - F.p + 1 - e) := ⟨_, rfl⟩
    rw [← hU] at E hcut hcl
    have HC := Lib.hid hcut
    clear hcut hU ht hroom HR
    go_enter Tryd.func139, Tryd.ntmps139
    go_upto_region 1 with (fail)
    rw [← hW]
    clear hW
    go_wp2_with fail
    refine (HC.out W Hv.out HG.out).mono ?_
    rintro _ w2 ⟨v2, rfl, h2, hF2, hb2⟩
    replace HB := Lib.hid (keep_belowB HB.out hb2 (Nat.le_refl _))
    obtain ⟨q0, q1, q2, q3⟩ := (BP.out.below hb2).cells
    have hL := fun wx (h : Rd 64 wx v2 U (nd 64 U)) => Len_any v2 U (nd 64 U) wx h
    have HL := Lib.hid hL
    have x1 : IntKind.i64.wrap (T - (F.p : Int)) = T - (F.p : Int) := IntWalk.i64_in _ (by omega)
    have x2 : IntKind.i64.wrap (T - (F.p : Int) + (bl U : Int)) = T - (F.p : Int) + (bl U : Int) := IntWalk.i64_in _ (by omega)
    clear hL HC hb2 hF2 t1
    go_upto_region 4 with (fail)
    go_quiet ((go_at_call 104; exact quiet_eq (HL.out _ h2)))
    clear x1 x2
    go_wp2
    go_ret
    exact ⟨by rw [E.out]; rfl, below_drewN HB.out _⟩

end Go.Proofs.YtcgceigmglikpaaDoor
