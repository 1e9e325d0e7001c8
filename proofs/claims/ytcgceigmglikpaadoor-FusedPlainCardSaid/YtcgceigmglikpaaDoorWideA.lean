/- The walks of wide.Shl and Shr. Printed by gen/wide.py. -/
import Derived.BigQuiet
import Derived.Deep.QuietTactic
import Derived.Test.YtcgceigmglikpaaDoorPackM
import Derived.Test.YtcgceigmglikpaaDoorFusG
import Derived.Test.YtcgceigmglikpaaDoorWideN
namespace Go.Proofs.YtcgceigmglikpaaDoor
set_option linter.unusedVariables false
set_option linter.unusedSimpArgs false
open Go.RowKit

def wv (h l : Nat) : Array Value := #[.int .u64 h, .int .u64 l]
theorem WV_eq (N : Nat) : WV N = .agg (wv (N / 18446744073709551616) (N % 18446744073709551616)) := rfl
theorem Bx.wide {w : World} {g h l : Nat} (hb : Bx w g (wv h l)) : w.cell? ⟨g, 0, none⟩ = some (.int .u64 h) ∧ w.cell? ⟨g, 1, none⟩ = some (.int .u64 l) := ⟨hb.cell 0 rfl, hb.cell 1 rfl⟩
theorem Bx.set2 {w : World} {g : Nat} {a0 a1 : Value} (h : Bx w g #[a0, a1]) (x0 x1 : Value) : Bx ((w.setCell ⟨g, 0, none⟩ x0).setCell ⟨g, 1, none⟩ x1) g #[x0, x1] := by
  obtain ⟨t, h⟩ := h
  refine ⟨t, ?_⟩
  simp [World.setCell, Array.getElem?_modify, h]
theorem cell_two_other {w : World} {g g' o : Nat} {a b x : Value} (hne : g' ≠ g) (h : w.cell? ⟨g', o, none⟩ = some x) : ((w.setCell ⟨g, 0, none⟩ a).setCell ⟨g, 1, none⟩ b).cell? ⟨g', o, none⟩ = some x := by
  rw [World.cell?_setCell_other _ _ _ _ (fun e => by injection e with e1; omega), World.cell?_setCell_other _ _ _ _ (fun e => by injection e with e1; omega)]
  exact h
theorem below_two {B : Nat} {w0 w : World} (h : Below B w0 w) {g : Nat} (hg : B ≤ g) (a b : Value) : Below B w0 ((w.setCell ⟨g, 0, none⟩ a).setCell ⟨g, 1, none⟩ b) := (h.setCell (p := ⟨g, 0, none⟩) hg a).setCell (p := ⟨g, 1, none⟩) hg b
theorem wide_split (N : Nat) : N = N / 18446744073709551616 * 18446744073709551616 + N % 18446744073709551616 := by omega

theorem iw_sub {n : Nat} (k : Nat) (h : n ≤ k) (hk : k ≤ 1000000) : IntKind.i64.wrap ((k : Int) - (n : Int)) = ((k - n : Nat) : Int) := by rw [IntKind.wrap_i64]; omega
theorem uw_shl (x n : Nat) : IntKind.u64.wrap ((x : Int) * 2 ^ n) = ((x * 2 ^ n % 18446744073709551616 : Nat) : Int) := by
  rw [← wrap_u64_mod]; simp
theorem iz_shr (x n : Nat) : (x : Int) / 2 ^ n = ((x / 2 ^ n : Nat) : Int) := by simp

set_option maxRecDepth 100000 in
set_option maxHeartbeats 2000000 in
theorem wShl_any (N n : Nat) (w : World) (hN : N < 340282366920938463463374607431768211456) (hn : n ≤ 1000000) :
    Calls Tryd.prog 121 #[WV N, .int .i64 n] w fun e w' => e = .returned (WV (N * 2 ^ n % 340282366920938463463374607431768211456)) ∧ Below w.heap.size w w' := by
  rw [WV_eq, WV_eq]
  have hsp := wide_split N
  obtain ⟨h, hh⟩ : ∃ h, h = N / 18446744073709551616 := ⟨_, rfl⟩
  obtain ⟨l, hl⟩ : ∃ h, h = N % 18446744073709551616 := ⟨_, rfl⟩
  rw [← hh, ← hl] at hsp ⊢
  have hhl : h < 18446744073709551616 := by omega
  have hll : l < 18446744073709551616 := by omega
  obtain ⟨R, hR⟩ : ∃ R, R = N * 2 ^ n % 340282366920938463463374607431768211456 := ⟨_, rfl⟩
  rw [← hR]
  obtain ⟨rh, hrh⟩ : ∃ h, h = R / 18446744073709551616 := ⟨_, rfl⟩
  obtain ⟨rl, hrl⟩ : ∃ h, h = R % 18446744073709551616 := ⟨_, rfl⟩
  rw [← hrh, ← hrl]
  rw [hsp] at hR
  unfold wv
  by_cases h0 : n = 0
  · have hR' : R = h * 18446744073709551616 + l := by rw [hR, h0]; omega
    have e1 : rh = h := by rw [hrh, hR']; omega
    have e2 : rl = l := by rw [hrl, hR']; omega
    subst h0 e1 e2
    clear hsp hh hl hR hR' hrh hrl hN hn hhl hll
    go_enter Tryd.func121, Tryd.ntmps121
    go_wp2
    refine bodyPost_ret (v := .agg #[.int .u64 rh, .int .u64 rl]) (by simp [results, Tryd.results121, go_sem]) rfl ⟨rfl, ((Below.refl _ _).alloc (Nat.le_refl _) _).alloc (by simp) _⟩
  by_cases h1 : 128 ≤ n
  · have hz : R = 0 := by

      rw [hR, show n = 128 + (n - 128) by omega, Nat.pow_add, ← Nat.mul_assoc, Nat.mul_comm _ (2 ^ 128), Nat.mul_assoc]
      exact Nat.mul_mod_right _ _
    have e1 : rh = 0 := by rw [hrh, hz]
    have e2 : rl = 0 := by rw [hrl, hz]
    subst e1 e2
    have h1' : 128 ≤ (n : Int) := by omega
    clear hsp hh hl hR hrh hrl hN hn hz h1 hhl hll
    go_enter Tryd.func121, Tryd.ntmps121
    go_wp2
    refine bodyPost_ret (v := .agg #[.int .u64 0, .int .u64 0]) (by simp [results, Tryd.results121, go_sem]) rfl ⟨rfl, ((Below.refl _ _).alloc (Nat.le_refl _) _).alloc (by simp) _⟩
  by_cases h2 : 64 ≤ n
  · have hf := shl_far (h := h) (l := l) (m := n - 64)
    rw [show 64 + (n - 64) = n by omega, ← hR, ← hrh, ← hrl] at hf
    have f1 : IntKind.u64.wrap ((l : Int) * 2 ^ (n - 64)) = (rh : Int) := by rw [uw_shl, hf.1]
    have e2 := hf.2
    subst e2
    clear hsp hh hl hR hrh hrl hN hhl hll hf
    go_enter Tryd.func121, Tryd.ntmps121
    go_wp2
    rw [f1]
    refine bodyPost_ret (v := .agg #[.int .u64 rh, .int .u64 0]) (by simp [results, Tryd.results121, go_sem]) rfl ⟨rfl, ((Below.refl _ _).alloc (Nat.le_refl _) _).alloc (by simp) _⟩
  · have hp := shl_parts (h := h) (l := l) (n := n) hll (by omega)
    rw [← hR, ← hrh, ← hrl] at hp
    obtain ⟨x1, hx1⟩ : ∃ x, x = h * 2 ^ n % 18446744073709551616 := ⟨_, rfl⟩
    obtain ⟨x2, hx2⟩ : ∃ x, x = l / 2 ^ (64 - n) := ⟨_, rfl⟩
    rw [← hx1, ← hx2] at hp
    have f1 : IntKind.u64.wrap ((h : Int) * 2 ^ n) = (x1 : Int) := by rw [uw_shl, hx1]
    have f2 : (l : Int) / 2 ^ (64 - n) = (x2 : Int) := by rw [iz_shr, hx2]
    have f4 : IntKind.u64.wrap ((l : Int) * 2 ^ n) = (rl : Int) := by rw [uw_shl, hp.2]
    have f3 : bits .or .u64 (x1 : Int) (x2 : Int) = (rh : Int) := by
      rw [bits_or_u64_nat x1 x2 (by omega) (by rw [hx2]; exact Nat.lt_of_le_of_lt (Nat.div_le_self _ _) hll), hp.1]
    have f5 : IntKind.i64.wrap (64 - (n : Int)) = ((64 - n : Nat) : Int) := iw_sub 64 (by omega) (by omega)
    have f6 : ¬ (n : Int) ≤ 0 := by omega
    have f7 : ¬ 128 ≤ (n : Int) := by omega
    have f8 : ¬ 64 ≤ (n : Int) := by omega
    have b1 := (Bx.new w (wv h l) 95).below (below1 _ (.cells #[.int .u64 0, .int .u64 0] 95))
    have b2 := Bx.new (w.alloc (.cells (wv h l) 95)) #[.int .u64 0, .int .u64 0] 95
    rw [show (w.alloc (.cells (wv h l) 95)).heap.size = w.heap.size + 1 by simp] at b2
    have hb : Below w.heap.size w ((w.alloc (.cells (wv h l) 95)).alloc (.cells #[.int .u64 0, .int .u64 0] 95)) := ((Below.refl _ _).alloc (Nat.le_refl _) _).alloc (by simp) _
    obtain ⟨W, hW⟩ : ∃ W, W = (w.alloc (.cells (wv h l) 95)).alloc (.cells #[.int .u64 0, .int .u64 0] 95) := ⟨_, rfl⟩
    rw [← hW] at b1 b2 hb
    obtain ⟨k0, k1⟩ := b1.wide
    have z0 := b2.cell 0 rfl
    have z1 := b2.cell 1 rfl
    have zf : ∀ j, W.frozen? ⟨w.heap.size + 1, j, none⟩ = false := fun j => b2.free j
    have hne : w.heap.size ≠ w.heap.size + 1 := by omega
    have B2 := Lib.hid b2
    have HB := Lib.hid hb
    unfold wv at hW
    clear hsp hh hl hR hrh hrl hN hn hhl hll hp hx1 hx2 h0 h1 h2 b1 b2 hb
    go_enter Tryd.func121, Tryd.ntmps121
    go_upto_region 7 with (fail)
    rw [← hW]
    clear hW
    go_region_held3 (fun v => v.cell? ⟨w.heap.size, 0, none⟩ = some (.int .u64 h) ∧ v.cell? ⟨w.heap.size, 1, none⟩ = some (.int .u64 l))
      (first | exact ⟨k0, k1⟩ | exact ⟨cell_two_other hne k0, cell_two_other hne k1⟩)
      (fail)
    go_wp2_with fail
    have b2d : Bx (((W.setCell ⟨w.heap.size + 1, 0, none⟩ (.int .u64 rh)).setCell ⟨w.heap.size + 1, 1, none⟩ (.int .u64 rl)).drew) (w.heap.size + 1) (wv rh rl) := B2.out.set2 (.int .u64 rh) (.int .u64 rl)
    have hbd := (below_two HB.out (Nat.le_succ _) (.int .u64 rh) (.int .u64 rl)).drew
    generalize ((W.setCell ⟨w.heap.size + 1, 0, none⟩ (.int .u64 rh)).setCell ⟨w.heap.size + 1, 1, none⟩ (.int .u64 rl)).drew = X at *
    obtain ⟨r0, r1⟩ := b2d.wide
    refine bodyPost_ret (v := .agg #[.int .u64 rh, .int .u64 rl]) (by simp [results, Tryd.results121, go_sem, r0, r1]) rfl ⟨rfl, hbd⟩

set_option maxRecDepth 100000 in
set_option maxHeartbeats 2000000 in
theorem wShr_any (N n : Nat) (w : World) (hN : N < 340282366920938463463374607431768211456) (hn : n ≤ 1000000) :
    Calls Tryd.prog 122 #[WV N, .int .i64 n] w fun e w' => e = .returned (WV (N / 2 ^ n)) ∧ Below w.heap.size w w' := by
  rw [WV_eq, WV_eq]
  have hsp := wide_split N
  obtain ⟨h, hh⟩ : ∃ h, h = N / 18446744073709551616 := ⟨_, rfl⟩
  obtain ⟨l, hl⟩ : ∃ h, h = N % 18446744073709551616 := ⟨_, rfl⟩
  rw [← hh, ← hl] at hsp ⊢
  have hhl : h < 18446744073709551616 := by omega
  have hll : l < 18446744073709551616 := by omega
  obtain ⟨R, hR⟩ : ∃ R, R = N / 2 ^ n := ⟨_, rfl⟩
  rw [← hR]
  obtain ⟨rh, hrh⟩ : ∃ h, h = R / 18446744073709551616 := ⟨_, rfl⟩
  obtain ⟨rl, hrl⟩ : ∃ h, h = R % 18446744073709551616 := ⟨_, rfl⟩
  rw [← hrh, ← hrl]
  rw [hsp] at hR
  unfold wv
  by_cases h0 : n = 0
  · have hR' : R = h * 18446744073709551616 + l := by rw [hR, h0]; omega
    have e1 : rh = h := by rw [hrh, hR']; omega
    have e2 : rl = l := by rw [hrl, hR']; omega
    subst h0 e1 e2
    clear hsp hh hl hR hR' hrh hrl hN hn hhl hll
    go_enter Tryd.func122, Tryd.ntmps122
    go_wp2
    refine bodyPost_ret (v := .agg #[.int .u64 rh, .int .u64 rl]) (by simp [results, Tryd.results122, go_sem]) rfl ⟨rfl, ((Below.refl _ _).alloc (Nat.le_refl _) _).alloc (by simp) _⟩
  by_cases h1 : 128 ≤ n
  · have hz : R = 0 := by

      rw [hR]
      refine Nat.div_eq_of_lt ?_
      have : (2 : Nat) ^ 128 ≤ 2 ^ n := Nat.pow_le_pow_right (by decide) h1
      omega
    have e1 : rh = 0 := by rw [hrh, hz]
    have e2 : rl = 0 := by rw [hrl, hz]
    subst e1 e2
    have h1' : 128 ≤ (n : Int) := by omega
    clear hsp hh hl hR hrh hrl hN hn hz h1 hhl hll
    go_enter Tryd.func122, Tryd.ntmps122
    go_wp2
    refine bodyPost_ret (v := .agg #[.int .u64 0, .int .u64 0]) (by simp [results, Tryd.results122, go_sem]) rfl ⟨rfl, ((Below.refl _ _).alloc (Nat.le_refl _) _).alloc (by simp) _⟩
  by_cases h2 : 64 ≤ n
  · have hf := shr_far (h := h) (l := l) (m := n - 64) hhl hll
    rw [show 64 + (n - 64) = n by omega, ← hR, ← hrh, ← hrl] at hf
    have f1 : (h : Int) / 2 ^ (n - 64) = (rl : Int) := by rw [iz_shr, hf.2]
    have e1 := hf.1
    subst e1
    clear hsp hh hl hR hrh hrl hN hhl hll hf
    go_enter Tryd.func122, Tryd.ntmps122
    go_wp2
    rw [f1]
    refine bodyPost_ret (v := .agg #[.int .u64 0, .int .u64 rl]) (by simp [results, Tryd.results122, go_sem]) rfl ⟨rfl, ((Below.refl _ _).alloc (Nat.le_refl _) _).alloc (by simp) _⟩
  · have hp := shr_parts (h := h) (l := l) (n := n) hll (by omega)
    rw [← hR, ← hrh, ← hrl] at hp
    obtain ⟨x1, hx1⟩ : ∃ x, x = l / 2 ^ n := ⟨_, rfl⟩
    obtain ⟨x2, hx2⟩ : ∃ x, x = h * 2 ^ (64 - n) % 18446744073709551616 := ⟨_, rfl⟩
    rw [← hx1, ← hx2] at hp
    have f1 : (l : Int) / 2 ^ n = (x1 : Int) := by rw [iz_shr, hx1]
    have f2 : IntKind.u64.wrap ((h : Int) * 2 ^ (64 - n)) = (x2 : Int) := by rw [uw_shl, hx2]
    have f4 : (h : Int) / 2 ^ n = (rh : Int) := by rw [iz_shr, hp.1]
    have f3 : bits .or .u64 (x1 : Int) (x2 : Int) = (rl : Int) := by
      rw [bits_or_u64_nat x1 x2 (by rw [hx1]; exact Nat.lt_of_le_of_lt (Nat.div_le_self _ _) hll) (by omega), hp.2]
    have f5 : IntKind.i64.wrap (64 - (n : Int)) = ((64 - n : Nat) : Int) := iw_sub 64 (by omega) (by omega)
    have f6 : ¬ (n : Int) ≤ 0 := by omega
    have f7 : ¬ 128 ≤ (n : Int) := by omega
    have f8 : ¬ 64 ≤ (n : Int) := by omega
    have b1 := (Bx.new w (wv h l) 95).below (below1 _ (.cells #[.int .u64 0, .int .u64 0] 95))
    have b2 := Bx.new (w.alloc (.cells (wv h l) 95)) #[.int .u64 0, .int .u64 0] 95
    rw [show (w.alloc (.cells (wv h l) 95)).heap.size = w.heap.size + 1 by simp] at b2
    have hb : Below w.heap.size w ((w.alloc (.cells (wv h l) 95)).alloc (.cells #[.int .u64 0, .int .u64 0] 95)) := ((Below.refl _ _).alloc (Nat.le_refl _) _).alloc (by simp) _
    obtain ⟨W, hW⟩ : ∃ W, W = (w.alloc (.cells (wv h l) 95)).alloc (.cells #[.int .u64 0, .int .u64 0] 95) := ⟨_, rfl⟩
    rw [← hW] at b1 b2 hb
    obtain ⟨k0, k1⟩ := b1.wide
    have z0 := b2.cell 0 rfl
    have z1 := b2.cell 1 rfl
    have zf : ∀ j, W.frozen? ⟨w.heap.size + 1, j, none⟩ = false := fun j => b2.free j
    have hne : w.heap.size ≠ w.heap.size + 1 := by omega
    have B2 := Lib.hid b2
    have HB := Lib.hid hb
    unfold wv at hW
    clear hsp hh hl hR hrh hrl hN hn hhl hll hp hx1 hx2 h0 h1 h2 b1 b2 hb
    go_enter Tryd.func122, Tryd.ntmps122
    go_upto_region 7 with (fail)
    rw [← hW]
    clear hW
    go_region_held3 (fun v => v.cell? ⟨w.heap.size, 0, none⟩ = some (.int .u64 h) ∧ v.cell? ⟨w.heap.size, 1, none⟩ = some (.int .u64 l))
      (first | exact ⟨k0, k1⟩ | exact ⟨cell_two_other hne k0, cell_two_other hne k1⟩)
      (fail)
    go_wp2_with fail
    have b2d : Bx (((W.setCell ⟨w.heap.size + 1, 0, none⟩ (.int .u64 rh)).setCell ⟨w.heap.size + 1, 1, none⟩ (.int .u64 rl)).drew) (w.heap.size + 1) (wv rh rl) := B2.out.set2 (.int .u64 rh) (.int .u64 rl)
    have hbd := (below_two HB.out (Nat.le_succ _) (.int .u64 rh) (.int .u64 rl)).drew
    generalize ((W.setCell ⟨w.heap.size + 1, 0, none⟩ (.int .u64 rh)).setCell ⟨w.heap.size + 1, 1, none⟩ (.int .u64 rl)).drew = X at *
    obtain ⟨r0, r1⟩ := b2d.wide
    refine bodyPost_ret (v := .agg #[.int .u64 rh, .int .u64 rl]) (by simp [results, Tryd.results122, go_sem, r0, r1]) rfl ⟨rfl, hbd⟩

end Go.Proofs.YtcgceigmglikpaaDoor

