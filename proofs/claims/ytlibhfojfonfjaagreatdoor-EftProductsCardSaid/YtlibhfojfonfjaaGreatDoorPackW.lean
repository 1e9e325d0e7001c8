/- Packed by program: WideN WideA WideB. -/
import Derived.Test.YtlibhfojfonfjaaGreatDoorPackF
import Derived.BigQuiet
import Derived.Deep.QuietTactic
import Derived.Test.YtlibhfojfonfjaaGreatDoorPackM
import Derived.Test.YtlibhfojfonfjaaGreatDoorPackU
/- Shifts of two words, as plain numbers. -/
namespace Go.Proofs.YtlibhfojfonfjaaGreatDoor
set_option linter.unusedVariables false
set_option linter.unusedSimpArgs false

theorem pow_two_parts {n : Nat} (hn : n ≤ 64) : 2 ^ n * 2 ^ (64 - n) = 18446744073709551616 := by
  rw [← Nat.pow_add, show n + (64 - n) = 64 by omega]

theorem lt_mul_of {t q A B : Nat} (ht : t < B) (hq : q < A) : t * A + q < A * B := by
  have h1 : (t + 1) * A ≤ B * A := Nat.mul_le_mul_right A ht
  rw [Nat.add_mul, Nat.one_mul, Nat.mul_comm B A] at h1
  omega

theorem shl_parts {h l n : Nat} (hl : l < 18446744073709551616) (hn : n < 64) :
    (h * 18446744073709551616 + l) * 2 ^ n % 340282366920938463463374607431768211456 / 18446744073709551616 = (h * 2 ^ n % 18446744073709551616) ||| (l / 2 ^ (64 - n)) ∧
    (h * 18446744073709551616 + l) * 2 ^ n % 340282366920938463463374607431768211456 % 18446744073709551616 = l * 2 ^ n % 18446744073709551616 := by
  have hAB := pow_two_parts (n := n) (by omega)
  have hA := pow_pos2 n
  have hB := pow_pos2 (64 - n)
  have hor := fun x y => or_add x y n
  rw [show (340282366920938463463374607431768211456 : Nat) = 18446744073709551616 * 18446744073709551616 from rfl, ← hAB]
  rw [← hAB] at hl
  generalize 2 ^ n = A at *
  generalize 2 ^ (64 - n) = B at *
  have h1 := Nat.div_add_mod l B
  have h2 := Nat.mod_lt l hB
  have h3 := Nat.div_add_mod h B
  have h4 := Nat.mod_lt h hB
  have hq : l / B < A := Nat.div_lt_of_lt_mul (by rw [Nat.mul_comm]; exact hl)
  generalize l / B = q at *
  generalize l % B = r at *
  generalize h / B = s at *
  generalize h % B = t at *
  have k1 := lt_mul_of h4 hq
  have k2 : r * A < A * B := by have := lt_mul_of h2 hA; omega
  have e : (h * (A * B) + l) * A = A * B * (A * B) * s + ((t * A + q) * (A * B) + r * A) := by rw [← h1, ← h3]; grind
  have k3 : (t * A + q) * (A * B) + r * A < A * B * (A * B) := by
    have := lt_mul_of k1 k2
    exact this
  have hp : 0 < A * B := Nat.mul_pos hA hB
  rw [e, Nat.mul_add_mod, Nat.mod_eq_of_lt k3]
  have e2 : l * A = A * B * q + r * A := by rw [← h1]; grind
  have e3 : h * A = A * B * s + t * A := by rw [← h3]; grind
  rw [e2, e3, Nat.mul_add_mod, Nat.mul_add_mod, Nat.mod_eq_of_lt k2, Nat.mod_eq_of_lt (show t * A < A * B by omega)]
  constructor
  · rw [Nat.mul_comm (t * A + q), Nat.mul_add_div hp, Nat.div_eq_of_lt k2, Nat.add_zero, hor t q hq]
  · rw [Nat.mul_comm (t * A + q), Nat.mul_add_mod, Nat.mod_eq_of_lt k2]

theorem shl_far {h l m : Nat} :
    (h * 18446744073709551616 + l) * 2 ^ (64 + m) % 340282366920938463463374607431768211456 / 18446744073709551616 = l * 2 ^ m % 18446744073709551616 ∧
    (h * 18446744073709551616 + l) * 2 ^ (64 + m) % 340282366920938463463374607431768211456 % 18446744073709551616 = 0 := by
  have e : (h * 18446744073709551616 + l) * 2 ^ (64 + m) = 18446744073709551616 * ((h * 18446744073709551616 + l) * 2 ^ m) := by
    rw [Nat.pow_add, show (2 : Nat) ^ 64 = 18446744073709551616 from rfl]
    grind
  rw [e, show (340282366920938463463374607431768211456 : Nat) = 18446744073709551616 * 18446744073709551616 from rfl, Nat.mul_mod_mul_left]
  constructor
  · rw [Nat.mul_div_cancel_left _ (by decide)]
    have e2 : (h * 18446744073709551616 + l) * 2 ^ m = 18446744073709551616 * (h * 2 ^ m) + l * 2 ^ m := by grind
    rw [e2, Nat.mul_add_mod]
  · exact Nat.mul_mod_right _ _

theorem shr_parts {h l n : Nat} (hl : l < 18446744073709551616) (hn : n < 64) :
    (h * 18446744073709551616 + l) / 2 ^ n / 18446744073709551616 = h / 2 ^ n ∧
    (h * 18446744073709551616 + l) / 2 ^ n % 18446744073709551616 = (l / 2 ^ n) ||| (h * 2 ^ (64 - n) % 18446744073709551616) := by
  have hAB := pow_two_parts (n := n) (by omega)
  have hA := pow_pos2 n
  have hB := pow_pos2 (64 - n)
  have hor := fun x y => or_add x y (64 - n)
  rw [← hAB]
  rw [← hAB] at hl
  generalize 2 ^ n = A at *
  generalize 2 ^ (64 - n) = B at *
  have h1 := Nat.div_add_mod l A
  have h2 := Nat.mod_lt l hA
  have h3 := Nat.div_add_mod h A
  have h4 := Nat.mod_lt h hA
  have hq : l / A < B := Nat.div_lt_of_lt_mul hl
  have hq' := hq
  generalize hql : l / A = q at *
  generalize l % A = r at *
  generalize hsh : h / A = s at *
  generalize h % A = t at *
  have k1 : t * B + q < A * B := by have := lt_mul_of h4 hq; rw [Nat.mul_comm A]; exact this
  have e : h * (A * B) + l = A * (A * B * s + (t * B + q)) + r := by rw [← h1, ← h3]; grind
  have hp : 0 < A * B := Nat.mul_pos hA hB
  have e2 : (h * (A * B) + l) / A = A * B * s + (t * B + q) := by
    rw [e, Nat.mul_add_div hA, Nat.div_eq_of_lt h2, Nat.add_zero]
  rw [e2]
  constructor
  · rw [Nat.mul_add_div hp, Nat.div_eq_of_lt k1, Nat.add_zero]
  · rw [Nat.mul_add_mod, Nat.mod_eq_of_lt k1]
    have e3 : h * B = A * B * s + t * B := by rw [← h3]; grind
    rw [e3, Nat.mul_add_mod, Nat.mod_eq_of_lt (show t * B < A * B by omega), Nat.or_comm, hor t q hq]

theorem shr_far {h l m : Nat} (hh : h < 18446744073709551616) (hl : l < 18446744073709551616) :
    (h * 18446744073709551616 + l) / 2 ^ (64 + m) / 18446744073709551616 = 0 ∧ (h * 18446744073709551616 + l) / 2 ^ (64 + m) % 18446744073709551616 = h / 2 ^ m := by
  have e : (h * 18446744073709551616 + l) / 2 ^ (64 + m) = h / 2 ^ m := by
    rw [Nat.pow_add, show (2 : Nat) ^ 64 = 18446744073709551616 from rfl, ← Nat.div_div_eq_div_mul]
    congr 1
    omega
  rw [e]
  have : h / 2 ^ m < 18446744073709551616 := Nat.lt_of_le_of_lt (Nat.div_le_self _ _) hh
  exact ⟨Nat.div_eq_of_lt this, Nat.mod_eq_of_lt this⟩

end Go.Proofs.YtlibhfojfonfjaaGreatDoor

/- The walks of wide.Shl and Shr. Printed by gen/wide.py. -/
namespace Go.Proofs.YtlibhfojfonfjaaGreatDoor
set_option linter.unusedVariables false
set_option linter.unusedSimpArgs false
open Go.RowKit

def wv (h l : Nat) : Array Value := #[.int .u64 h, .int .u64 l]
theorem WV_eq (N : Nat) : WV N = .agg (wv (N / 18446744073709551616) (N % 18446744073709551616)) := rfl
theorem Bx.wide {w : World} {g h l : Nat} (hb : Bx w g (wv h l)) : w.cell? ⟨g, 0, none⟩ = some (.int .u64 h) ∧ w.cell? ⟨g, 1, none⟩ = some (.int .u64 l) := ⟨hb.cell 0 rfl, hb.cell 1 rfl⟩
theorem Bx.set2 {w : World} {g : Nat} {a0 a1 : Value} (h : Bx w g #[a0, a1]) (x0 x1 : Value) : Bx ((w.setCell ⟨g, 0, none⟩ x0).setCell ⟨g, 1, none⟩ x1) g #[x0, x1] := by
  obtain ⟨t, h⟩ := h
  refine ⟨t, ?_⟩
  simp [World.setCell, Array.getElem?_modify, h]
theorem cell_two_other {w : World} {g g' o : Nat} {a b x : Value} (hne : g' ≠ g) (h : w.cell? ⟨g', o, none⟩ = some x) : ((w.setCell ⟨g, 0, none⟩ a).setCell ⟨g, 1, none⟩ b).cell? ⟨g', o, none⟩ = some x := by
  rw [World.cell?_setCell_other _ _ _ _ (fun e => by injection e with e1; omega), World.cell?_setCell_other _ _ _ _ (fun e => by injection e with e1; omega)]
  exact h
theorem below_two {B : Nat} {w0 w : World} (h : Below B w0 w) {g : Nat} (hg : B ≤ g) (a b : Value) : Below B w0 ((w.setCell ⟨g, 0, none⟩ a).setCell ⟨g, 1, none⟩ b) := (h.setCell (p := ⟨g, 0, none⟩) hg a).setCell (p := ⟨g, 1, none⟩) hg b
theorem wide_split (N : Nat) : N = N / 18446744073709551616 * 18446744073709551616 + N % 18446744073709551616 := by omega

theorem iw_sub {n : Nat} (k : Nat) (h : n ≤ k) (hk : k ≤ 1000000) : IntKind.i64.wrap ((k : Int) - (n : Int)) = ((k - n : Nat) : Int) := by rw [IntKind.wrap_i64]; omega
theorem uw_shl (x n : Nat) : IntKind.u64.wrap ((x : Int) * 2 ^ n) = ((x * 2 ^ n % 18446744073709551616 : Nat) : Int) := by
  rw [← wrap_u64_mod]; simp
theorem iz_shr (x n : Nat) : (x : Int) / 2 ^ n = ((x / 2 ^ n : Nat) : Int) := by simp

set_option maxRecDepth 100000 in
set_option maxHeartbeats 2000000 in
theorem wShl_any (N n : Nat) (w : World) (hN : N < 340282366920938463463374607431768211456) (hn : n ≤ 1000000) :
    Calls Tryz.prog 103 #[WV N, .int .i64 n] w fun e w' => e = .returned (WV (N * 2 ^ n % 340282366920938463463374607431768211456)) ∧ Below w.heap.size w w' := by
  rw [WV_eq, WV_eq]
  have hsp := wide_split N
  obtain ⟨h, hh⟩ : ∃ h, h = N / 18446744073709551616 := ⟨_, rfl⟩
  obtain ⟨l, hl⟩ : ∃ h, h = N % 18446744073709551616 := ⟨_, rfl⟩
  rw [← hh, ← hl] at hsp ⊢
  have hhl : h < 18446744073709551616 := by omega
  have hll : l < 18446744073709551616 := by omega
  obtain ⟨R, hR⟩ : ∃ R, R = N * 2 ^ n % 340282366920938463463374607431768211456 := ⟨_, rfl⟩
  rw [← hR]
  obtain ⟨rh, hrh⟩ : ∃ h, h = R / 18446744073709551616 := ⟨_, rfl⟩
  obtain ⟨rl, hrl⟩ : ∃ h, h = R % 18446744073709551616 := ⟨_, rfl⟩
  rw [← hrh, ← hrl]
  rw [hsp] at hR
  unfold wv
  by_cases h0 : n = 0
  · have hR' : R = h * 18446744073709551616 + l := by rw [hR, h0]; omega
    have e1 : rh = h := by rw [hrh, hR']; omega
    have e2 : rl = l := by rw [hrl, hR']; omega
    subst h0 e1 e2
    clear hsp hh hl hR hR' hrh hrl hN hn hhl hll
    go_enter Tryz.func103, Tryz.ntmps103
    go_wp2
    refine bodyPost_ret (v := .agg #[.int .u64 rh, .int .u64 rl]) (by simp [results, Tryz.results103, go_sem]) rfl ⟨rfl, ((Below.refl _ _).alloc (Nat.le_refl _) _).alloc (by simp) _⟩
  by_cases h1 : 128 ≤ n
  · have hz : R = 0 := by

      rw [hR, show n = 128 + (n - 128) by omega, Nat.pow_add, ← Nat.mul_assoc, Nat.mul_comm _ (2 ^ 128), Nat.mul_assoc]
      exact Nat.mul_mod_right _ _
    have e1 : rh = 0 := by rw [hrh, hz]
    have e2 : rl = 0 := by rw [hrl, hz]
    subst e1 e2
    have h1' : 128 ≤ (n : Int) := by omega
    clear hsp hh hl hR hrh hrl hN hn hz h1 hhl hll
    go_enter Tryz.func103, Tryz.ntmps103
    go_wp2
    refine bodyPost_ret (v := .agg #[.int .u64 0, .int .u64 0]) (by simp [results, Tryz.results103, go_sem]) rfl ⟨rfl, ((Below.refl _ _).alloc (Nat.le_refl _) _).alloc (by simp) _⟩
  by_cases h2 : 64 ≤ n
  · have hf := shl_far (h := h) (l := l) (m := n - 64)
    rw [show 64 + (n - 64) = n by omega, ← hR, ← hrh, ← hrl] at hf
    have f1 : IntKind.u64.wrap ((l : Int) * 2 ^ (n - 64)) = (rh : Int) := by rw [uw_shl, hf.1]
    have e2 := hf.2
    subst e2
    clear hsp hh hl hR hrh hrl hN hhl hll hf
    go_enter Tryz.func103, Tryz.ntmps103
    go_wp2
    rw [f1]
    refine bodyPost_ret (v := .agg #[.int .u64 rh, .int .u64 0]) (by simp [results, Tryz.results103, go_sem]) rfl ⟨rfl, ((Below.refl _ _).alloc (Nat.le_refl _) _).alloc (by simp) _⟩
  · have hp := shl_parts (h := h) (l := l) (n := n) hll (by omega)
    rw [← hR, ← hrh, ← hrl] at hp
    obtain ⟨x1, hx1⟩ : ∃ x, x = h * 2 ^ n % 18446744073709551616 := ⟨_, rfl⟩
    obtain ⟨x2, hx2⟩ : ∃ x, x = l / 2 ^ (64 - n) := ⟨_, rfl⟩
    rw [← hx1, ← hx2] at hp
    have f1 : IntKind.u64.wrap ((h : Int) * 2 ^ n) = (x1 : Int) := by rw [uw_shl, hx1]
    have f2 : (l : Int) / 2 ^ (64 - n) = (x2 : Int) := by rw [iz_shr, hx2]
    have f4 : IntKind.u64.wrap ((l : Int) * 2 ^ n) = (rl : Int) := by rw [uw_shl, hp.2]
    have f3 : bits .or .u64 (x1 : Int) (x2 : Int) = (rh : Int) := by
      rw [bits_or_u64_nat x1 x2 (by omega) (by rw [hx2]; exact Nat.lt_of_le_of_lt (Nat.div_le_self _ _) hll), hp.1]
    have f5 : IntKind.i64.wrap (64 - (n : Int)) = ((64 - n : Nat) : Int) := iw_sub 64 (by omega) (by omega)
    have f6 : ¬ (n : Int) ≤ 0 := by omega
    have f7 : ¬ 128 ≤ (n : Int) := by omega
    have f8 : ¬ 64 ≤ (n : Int) := by omega
    have b1 := (Bx.new w (wv h l) 78).below (below1 _ (.cells #[.int .u64 0, .int .u64 0] 78))
    have b2 := Bx.new (w.alloc (.cells (wv h l) 78)) #[.int .u64 0, .int .u64 0] 78
    rw [show (w.alloc (.cells (wv h l) 78)).heap.size = w.heap.size + 1 by simp] at b2
    have hb : Below w.heap.size w ((w.alloc (.cells (wv h l) 78)).alloc (.cells #[.int .u64 0, .int .u64 0] 78)) := ((Below.refl _ _).alloc (Nat.le_refl _) _).alloc (by simp) _
    obtain ⟨W, hW⟩ : ∃ W, W = (w.alloc (.cells (wv h l) 78)).alloc (.cells #[.int .u64 0, .int .u64 0] 78) := ⟨_, rfl⟩
    rw [← hW] at b1 b2 hb
    obtain ⟨k0, k1⟩ := b1.wide
    have z0 := b2.cell 0 rfl
    have z1 := b2.cell 1 rfl
    have zf : ∀ j, W.frozen? ⟨w.heap.size + 1, j, none⟩ = false := fun j => b2.free j
    have hne : w.heap.size ≠ w.heap.size + 1 := by omega
    have B2 := Lib.hid b2
    have HB := Lib.hid hb
    unfold wv at hW
    clear hsp hh hl hR hrh hrl hN hn hhl hll hp hx1 hx2 h0 h1 h2 b1 b2 hb
    go_enter Tryz.func103, Tryz.ntmps103
    go_upto_region 7 with (fail)
    rw [← hW]
    clear hW
    go_region_held3 (fun v => v.cell? ⟨w.heap.size, 0, none⟩ = some (.int .u64 h) ∧ v.cell? ⟨w.heap.size, 1, none⟩ = some (.int .u64 l))
      (first | exact ⟨k0, k1⟩ | exact ⟨cell_two_other hne k0, cell_two_other hne k1⟩)
      (fail)
    go_wp2_with fail
    have b2d : Bx (((W.setCell ⟨w.heap.size + 1, 0, none⟩ (.int .u64 rh)).setCell ⟨w.heap.size + 1, 1, none⟩ (.int .u64 rl)).drew) (w.heap.size + 1) (wv rh rl) := B2.out.set2 (.int .u64 rh) (.int .u64 rl)
    have hbd := (below_two HB.out (Nat.le_succ _) (.int .u64 rh) (.int .u64 rl)).drew
    generalize ((W.setCell ⟨w.heap.size + 1, 0, none⟩ (.int .u64 rh)).setCell ⟨w.heap.size + 1, 1, none⟩ (.int .u64 rl)).drew = X at *
    obtain ⟨r0, r1⟩ := b2d.wide
    refine bodyPost_ret (v := .agg #[.int .u64 rh, .int .u64 rl]) (by simp [results, Tryz.results103, go_sem, r0, r1]) rfl ⟨rfl, hbd⟩

set_option maxRecDepth 100000 in
set_option maxHeartbeats 2000000 in
theorem wShr_any (N n : Nat) (w : World) (hN : N < 340282366920938463463374607431768211456) (hn : n ≤ 1000000) :
    Calls Tryz.prog 104 #[WV N, .int .i64 n] w fun e w' => e = .returned (WV (N / 2 ^ n)) ∧ Below w.heap.size w w' := by
  rw [WV_eq, WV_eq]
  have hsp := wide_split N
  obtain ⟨h, hh⟩ : ∃ h, h = N / 18446744073709551616 := ⟨_, rfl⟩
  obtain ⟨l, hl⟩ : ∃ h, h = N % 18446744073709551616 := ⟨_, rfl⟩
  rw [← hh, ← hl] at hsp ⊢
  have hhl : h < 18446744073709551616 := by omega
  have hll : l < 18446744073709551616 := by omega
  obtain ⟨R, hR⟩ : ∃ R, R = N / 2 ^ n := ⟨_, rfl⟩
  rw [← hR]
  obtain ⟨rh, hrh⟩ : ∃ h, h = R / 18446744073709551616 := ⟨_, rfl⟩
  obtain ⟨rl, hrl⟩ : ∃ h, h = R % 18446744073709551616 := ⟨_, rfl⟩
  rw [← hrh, ← hrl]
  rw [hsp] at hR
  unfold wv
  by_cases h0 : n = 0
  · have hR' : R = h * 18446744073709551616 + l := by rw [hR, h0]; omega
    have e1 : rh = h := by rw [hrh, hR']; omega
    have e2 : rl = l := by rw [hrl, hR']; omega
    subst h0 e1 e2
    clear hsp hh hl hR hR' hrh hrl hN hn hhl hll
    go_enter Tryz.func104, Tryz.ntmps104
    go_wp2
    refine bodyPost_ret (v := .agg #[.int .u64 rh, .int .u64 rl]) (by simp [results, Tryz.results104, go_sem]) rfl ⟨rfl, ((Below.refl _ _).alloc (Nat.le_refl _) _).alloc (by simp) _⟩
  by_cases h1 : 128 ≤ n
  · have hz : R = 0 := by

      rw [hR]
      refine Nat.div_eq_of_lt ?_
      have : (2 : Nat) ^ 128 ≤ 2 ^ n := Nat.pow_le_pow_right (by decide) h1
      omega
    have e1 : rh = 0 := by rw [hrh, hz]
    have e2 : rl = 0 := by rw [hrl, hz]
    subst e1 e2
    have h1' : 128 ≤ (n : Int) := by omega
    clear hsp hh hl hR hrh hrl hN hn hz h1 hhl hll
    go_enter Tryz.func104, Tryz.ntmps104
    go_wp2
    refine bodyPost_ret (v := .agg #[.int .u64 0, .int .u64 0]) (by simp [results, Tryz.results104, go_sem]) rfl ⟨rfl, ((Below.refl _ _).alloc (Nat.le_refl _) _).alloc (by simp) _⟩
  by_cases h2 : 64 ≤ n
  · have hf := shr_far (h := h) (l := l) (m := n - 64) hhl hll
    rw [show 64 + (n - 64) = n by omega, ← hR, ← hrh, ← hrl] at hf
    have f1 : (h : Int) / 2 ^ (n - 64) = (rl : Int) := by rw [iz_shr, hf.2]
    have e1 := hf.1
    subst e1
    clear hsp hh hl hR hrh hrl hN hhl hll hf
    go_enter Tryz.func104, Tryz.ntmps104
    go_wp2
    rw [f1]
    refine bodyPost_ret (v := .agg #[.int .u64 0, .int .u64 rl]) (by simp [results, Tryz.results104, go_sem]) rfl ⟨rfl, ((Below.refl _ _).alloc (Nat.le_refl _) _).alloc (by simp) _⟩
  · have hp := shr_parts (h := h) (l := l) (n := n) hll (by omega)
    rw [← hR, ← hrh, ← hrl] at hp
    obtain ⟨x1, hx1⟩ : ∃ x, x = l / 2 ^ n := ⟨_, rfl⟩
    obtain ⟨x2, hx2⟩ : ∃ x, x = h * 2 ^ (64 - n) % 18446744073709551616 := ⟨_, rfl⟩
    rw [← hx1, ← hx2] at hp
    have f1 : (l : Int) / 2 ^ n = (x1 : Int) := by rw [iz_shr, hx1]
    have f2 : IntKind.u64.wrap ((h : Int) * 2 ^ (64 - n)) = (x2 : Int) := by rw [uw_shl, hx2]
    have f4 : (h : Int) / 2 ^ n = (rh : Int) := by rw [iz_shr, hp.1]
    have f3 : bits .or .u64 (x1 : Int) (x2 : Int) = (rl : Int) := by
      rw [bits_or_u64_nat x1 x2 (by rw [hx1]; exact Nat.lt_of_le_of_lt (Nat.div_le_self _ _) hll) (by omega), hp.2]
    have f5 : IntKind.i64.wrap (64 - (n : Int)) = ((64 - n : Nat) : Int) := iw_sub 64 (by omega) (by omega)
    have f6 : ¬ (n : Int) ≤ 0 := by omega
    have f7 : ¬ 128 ≤ (n : Int) := by omega
    have f8 : ¬ 64 ≤ (n : Int) := by omega
    have b1 := (Bx.new w (wv h l) 78).below (below1 _ (.cells #[.int .u64 0, .int .u64 0] 78))
    have b2 := Bx.new (w.alloc (.cells (wv h l) 78)) #[.int .u64 0, .int .u64 0] 78
    rw [show (w.alloc (.cells (wv h l) 78)).heap.size = w.heap.size + 1 by simp] at b2
    have hb : Below w.heap.size w ((w.alloc (.cells (wv h l) 78)).alloc (.cells #[.int .u64 0, .int .u64 0] 78)) := ((Below.refl _ _).alloc (Nat.le_refl _) _).alloc (by simp) _
    obtain ⟨W, hW⟩ : ∃ W, W = (w.alloc (.cells (wv h l) 78)).alloc (.cells #[.int .u64 0, .int .u64 0] 78) := ⟨_, rfl⟩
    rw [← hW] at b1 b2 hb
    obtain ⟨k0, k1⟩ := b1.wide
    have z0 := b2.cell 0 rfl
    have z1 := b2.cell 1 rfl
    have zf : ∀ j, W.frozen? ⟨w.heap.size + 1, j, none⟩ = false := fun j => b2.free j
    have hne : w.heap.size ≠ w.heap.size + 1 := by omega
    have B2 := Lib.hid b2
    have HB := Lib.hid hb
    unfold wv at hW
    clear hsp hh hl hR hrh hrl hN hn hhl hll hp hx1 hx2 h0 h1 h2 b1 b2 hb
    go_enter Tryz.func104, Tryz.ntmps104
    go_upto_region 7 with (fail)
    rw [← hW]
    clear hW
    go_region_held3 (fun v => v.cell? ⟨w.heap.size, 0, none⟩ = some (.int .u64 h) ∧ v.cell? ⟨w.heap.size, 1, none⟩ = some (.int .u64 l))
      (first | exact ⟨k0, k1⟩ | exact ⟨cell_two_other hne k0, cell_two_other hne k1⟩)
      (fail)
    go_wp2_with fail
    have b2d : Bx (((W.setCell ⟨w.heap.size + 1, 0, none⟩ (.int .u64 rh)).setCell ⟨w.heap.size + 1, 1, none⟩ (.int .u64 rl)).drew) (w.heap.size + 1) (wv rh rl) := B2.out.set2 (.int .u64 rh) (.int .u64 rl)
    have hbd := (below_two HB.out (Nat.le_succ _) (.int .u64 rh) (.int .u64 rl)).drew
    generalize ((W.setCell ⟨w.heap.size + 1, 0, none⟩ (.int .u64 rh)).setCell ⟨w.heap.size + 1, 1, none⟩ (.int .u64 rl)).drew = X at *
    obtain ⟨r0, r1⟩ := b2d.wide
    refine bodyPost_ret (v := .agg #[.int .u64 rh, .int .u64 rl]) (by simp [results, Tryz.results104, go_sem, r0, r1]) rfl ⟨rfl, hbd⟩

end Go.Proofs.YtlibhfojfonfjaaGreatDoor


/- The walks of wide.Add, Sub, Cmp. -/
namespace Go.Proofs.YtlibhfojfonfjaaGreatDoor
set_option linter.unusedVariables false
set_option linter.unusedSimpArgs false
open Go.RowKit

set_option maxRecDepth 100000 in
theorem wAdd_any (N M : Nat) (w : World) (hs : N + M < 340282366920938463463374607431768211456) :
    Calls Tryz.prog 105 #[WV N, WV M] w fun e w' => e = .returned (.tuple #[WV (N + M), .int .u64 0]) ∧ Below w.heap.size w w' := by
  rw [WV_eq, WV_eq, WV_eq]
  have a1 := fun w : World => add64_runc (N % 18446744073709551616) (M % 18446744073709551616) w
  have a2 := fun w : World => add64_run (N / 18446744073709551616) (M / 18446744073709551616) ((N % 18446744073709551616 + M % 18446744073709551616 + 0) / 18446744073709551616) (by omega) w
  rw [show (N / 18446744073709551616 + M / 18446744073709551616 + (N % 18446744073709551616 + M % 18446744073709551616 + 0) / 18446744073709551616) / 18446744073709551616 = 0 by omega,
    show (N / 18446744073709551616 + M / 18446744073709551616 + (N % 18446744073709551616 + M % 18446744073709551616 + 0) / 18446744073709551616) % 18446744073709551616 = (N + M) / 18446744073709551616 by omega] at a2
  rw [show (N % 18446744073709551616 + M % 18446744073709551616 + 0) % 18446744073709551616 = (N + M) % 18446744073709551616 by omega] at a1
  generalize (N % 18446744073709551616 + M % 18446744073709551616 + 0) / 18446744073709551616 = c at *
  generalize N / 18446744073709551616 = h1 at *
  generalize N % 18446744073709551616 = l1 at *
  generalize M / 18446744073709551616 = h2 at *
  generalize M % 18446744073709551616 = l2 at *
  generalize (N + M) / 18446744073709551616 = rh at *
  generalize (N + M) % 18446744073709551616 = rl at *
  unfold wv
  clear hs
  go_enter Tryz.func105, Tryz.ntmps105
  go_wp2
  refine bodyPost_ret (v := .tuple #[.agg #[.int .u64 rh, .int .u64 rl], .int .u64 0]) (by simp [results, Tryz.results105, go_sem]) rfl ⟨rfl, (((Below.refl _ _).alloc (Nat.le_refl _) _).alloc (by simp) _).alloc (by simp; omega) _⟩

set_option maxRecDepth 100000 in
theorem wSub_any (N M : Nat) (w : World) (hN : N < 340282366920938463463374607431768211456) (hs : M ≤ N) :
    Calls Tryz.prog 107 #[WV N, WV M] w fun e w' => e = .returned (.tuple #[WV (N - M), .int .u64 0]) ∧ Below w.heap.size w w' := by
  rw [WV_eq, WV_eq, WV_eq]
  have a1 : ∀ w : World, (callFunc 115 #[.int .u64 (N % 18446744073709551616 : Nat), .int .u64 (M % 18446744073709551616 : Nat), .int .u64 0]).run Tryz.prog w =
      .ok (.value (.tuple #[.int .u64 (((N % 18446744073709551616 + 18446744073709551616 - M % 18446744073709551616 - 0) % 18446744073709551616 : Nat) : Int), .int .u64 ((if N % 18446744073709551616 < M % 18446744073709551616 + 0 then 1 else 0 : Nat) : Int)])) w :=
    fun w : World => sub64_run (N % 18446744073709551616) (M % 18446744073709551616) 0 (by decide) w
  obtain ⟨c, hc⟩ : ∃ c : Nat, c = if N % 18446744073709551616 < M % 18446744073709551616 + 0 then 1 else 0 := ⟨_, rfl⟩
  have hc1 : c ≤ 1 := by rw [hc]; split <;> omega
  have a2 := fun w : World => sub64_run (N / 18446744073709551616) (M / 18446744073709551616) c hc1 w
  rw [← hc] at a1
  rw [show (if N / 18446744073709551616 < M / 18446744073709551616 + c then 1 else 0 : Nat) = 0 by rw [if_neg]; split at hc <;> omega,
    show (N / 18446744073709551616 + 18446744073709551616 - M / 18446744073709551616 - c) % 18446744073709551616 = (N - M) / 18446744073709551616 by split at hc <;> omega] at a2
  rw [show (N % 18446744073709551616 + 18446744073709551616 - M % 18446744073709551616 - 0) % 18446744073709551616 = (N - M) % 18446744073709551616 by omega] at a1
  clear hc hc1
  generalize N / 18446744073709551616 = h1 at *
  generalize N % 18446744073709551616 = l1 at *
  generalize M / 18446744073709551616 = h2 at *
  generalize M % 18446744073709551616 = l2 at *
  generalize (N - M) / 18446744073709551616 = rh at *
  generalize (N - M) % 18446744073709551616 = rl at *
  unfold wv
  clear hs hN
  go_enter Tryz.func107, Tryz.ntmps107
  go_wp2
  refine bodyPost_ret (v := .tuple #[.agg #[.int .u64 rh, .int .u64 rl], .int .u64 0]) (by simp [results, Tryz.results107, go_sem]) rfl ⟨rfl, (((Below.refl _ _).alloc (Nat.le_refl _) _).alloc (by simp) _).alloc (by simp; omega) _⟩

def cmpW (N M : Nat) : Int := if N < M then -1 else if N = M then 0 else 1

set_option maxRecDepth 100000 in
theorem wCmp_any (N M : Nat) (w : World) :
    Calls Tryz.prog 106 #[WV N, WV M] w fun e w' => e = .returned (.int .i64 (cmpW N M)) ∧ Below w.heap.size w w' := by
  rw [WV_eq, WV_eq]
  unfold wv
  by_cases h0 : N = M
  · have e : cmpW N M = 0 := by unfold cmpW; rw [if_neg (by omega), if_pos h0]
    rw [e]
    subst h0
    clear e
    generalize N / 18446744073709551616 = h1 at *
    generalize N % 18446744073709551616 = l1 at *
    go_enter Tryz.func106, Tryz.ntmps106
    go_wp2
    go_ret
    exact ⟨rfl, ((Below.refl _ _).alloc (Nat.le_refl _) _).alloc (by simp) _⟩
  obtain ⟨R, hR⟩ : ∃ r, r = cmpW N M := ⟨_, rfl⟩
  rw [← hR]
  unfold cmpW at hR
  rw [if_neg h0] at hR
  have key : ¬ (N / 18446744073709551616 = M / 18446744073709551616 ∧ N % 18446744073709551616 = M % 18446744073709551616) := by omega
  have klt : N < M ↔ (N / 18446744073709551616 < M / 18446744073709551616 ∨ N / 18446744073709551616 = M / 18446744073709551616 ∧ N % 18446744073709551616 < M % 18446744073709551616) := by omega
  by_cases h1 : N < M
  · rw [if_pos h1] at hR
    rw [klt] at h1
    clear klt h0
    subst hR
    generalize N / 18446744073709551616 = x1 at *
    generalize N % 18446744073709551616 = l1 at *
    generalize M / 18446744073709551616 = x2 at *
    generalize M % 18446744073709551616 = l2 at *
    rcases h1 with h1 | ⟨rfl, h1⟩
    · clear key
      have t1 : decide (x1 < x2) = true := decide_eq_true h1
      have t2 : ((x1 : Int) == (x2 : Int)) = false := by rw [beq_eq_false_iff_ne]; omega
      clear h1
      go_enter Tryz.func106, Tryz.ntmps106
      go_wp2
      all_goals
        go_ret
        exact ⟨rfl, ((Below.refl _ _).alloc (Nat.le_refl _) _).alloc (by simp) _⟩
    · have t1 : decide (l1 < l2) = true := decide_eq_true h1
      have t2 : ((l1 : Int) == (l2 : Int)) = false := by rw [beq_eq_false_iff_ne]; omega
      clear h1 key
      go_enter Tryz.func106, Tryz.ntmps106
      go_wp2
      all_goals
        go_ret
        exact ⟨rfl, ((Below.refl _ _).alloc (Nat.le_refl _) _).alloc (by simp) _⟩
  · rw [if_neg h1] at hR
    rw [klt] at h1
    clear klt h0
    subst hR
    generalize N / 18446744073709551616 = x1 at *
    generalize N % 18446744073709551616 = l1 at *
    generalize M / 18446744073709551616 = x2 at *
    generalize M % 18446744073709551616 = l2 at *
    by_cases h2 : x1 = x2
    · have h3 : ¬ l1 < l2 := fun h => h1 (Or.inr ⟨h2, h⟩)
      have h4 : ¬ l1 = l2 := fun h => key ⟨h2, h⟩
      subst h2
      have t1 : decide (l1 < l2) = false := decide_eq_false h3
      have t2 : ((l1 : Int) == (l2 : Int)) = false := by rw [beq_eq_false_iff_ne]; omega
      clear h1 h3 h4 key
      go_enter Tryz.func106, Tryz.ntmps106
      go_wp2
      all_goals
        go_ret
        exact ⟨rfl, ((Below.refl _ _).alloc (Nat.le_refl _) _).alloc (by simp) _⟩
    · have h3 : ¬ x1 < x2 := fun h => h1 (Or.inl h)
      have t1 : decide (x1 < x2) = false := decide_eq_false h3
      have t2 : ((x1 : Int) == (x2 : Int)) = false := by rw [beq_eq_false_iff_ne]; omega
      clear h1 h2 h3 key
      go_enter Tryz.func106, Tryz.ntmps106
      go_wp2
      all_goals
        go_ret
        exact ⟨rfl, ((Below.refl _ _).alloc (Nat.le_refl _) _).alloc (by simp) _⟩

end Go.Proofs.YtlibhfojfonfjaaGreatDoor
