/- Packed by program: FmtA FmtB FmtC FmtD FmtE FmtF. -/
import Derived.Outline
import Derived.Test.YtebmogdojpcmfaaPackB
import Derived.Test.YtebmogdojpcmfaaPackR
import Derived.Deep.RegionHeld3
import Derived.BigRegion
/- Walks of layer 4: ones, Params, Check, split, join. -/
namespace Go.Proofs.Ytebmogdojpcmfaa
set_option linter.unusedVariables false
open Go.RowKit

/-- a quiet call, in a region that draws its order -/
theorem quiet_eq {P : Program} {f : FuncId} {args : Array Value} {w : World} {n : Nat} {v : Value} (h : Calls P f args (w.drewN n) fun e w' => e = .returned v ∧ w.drewN n = w') : Calls P f args (w.drewN n) fun e w'' => e = .returned v ∧ ∃ m, w'' = w.drewN m :=
  h.mono fun _ _ ⟨he, hm⟩ => ⟨he, n, hm.symm⟩

/-- the exponent's field, the fraction's -/
def Fm.fx (F : Fm) (a : Nat) : Nat := F.abs a / 2 ^ (F.p - 1)
def Fm.fy (F : Fm) (a : Nat) : Nat := F.abs a % 2 ^ (F.p - 1)

/-- a box that holds a format's row -/
def BxP (F : Fm) (w : World) (g : Nat) : Prop := ∃ t, w.heap[g]? = some (.cells #[.int .i64 F.w, .int .i64 F.p, .int .i64 F.emin, .int .i64 F.emax] t (0, 0))
theorem BxP.new (F : Fm) (w : World) (t : TypeId) : BxP F (w.alloc (.cells #[.int .i64 F.w, .int .i64 F.p, .int .i64 F.emin, .int .i64 F.emax] t)) w.heap.size := ⟨t, heap_alloc_at w _⟩
theorem BxP.below {F : Fm} {w w' : World} {g : Nat} (h : BxP F w g) (hb : Below w.heap.size w w') : BxP F w' g := by
  obtain ⟨t, h⟩ := h; exact ⟨t, (hb.block g (lt_size_of_some h)).trans h⟩
theorem BxP.cells {F : Fm} {w : World} {g : Nat} (h : BxP F w g) : w.cell? ⟨g, 0, none⟩ = some (.int .i64 F.w) ∧ w.cell? ⟨g, 1, none⟩ = some (.int .i64 F.p) ∧ w.cell? ⟨g, 2, none⟩ = some (.int .i64 F.emin) ∧ w.cell? ⟨g, 3, none⟩ = some (.int .i64 F.emax) := by
  obtain ⟨t, h⟩ := h
  unfold World.cell?
  simp only [h]
  exact ⟨rfl, rfl, rfl, rfl⟩

/-- a format's row, as a value -/
def PV (F : Fm) : Value := .agg #[.int .i64 F.w, .int .i64 F.p, .int .i64 F.emin, .int .i64 F.emax]

def PV0 : Value := .agg #[.int .i64 0, .int .i64 0, .int .i64 0, .int .i64 0]

theorem shr_zero (a n : Nat) : (((a / 2 ^ n : Nat) : Int) != 0) = decide (2 ^ n ≤ a) := by
  by_cases h : 2 ^ n ≤ a
  · have h1 := Nat.div_pos h (pow_pos2 n)
    rw [decide_eq_true h]
    generalize a / 2 ^ n = q at *
    simp; omega
  · rw [decide_eq_false h, Nat.div_eq_of_lt (by omega)]; rfl

theorem shr_nz (a n : Nat) : ((a : Int) / 2 ^ n != 0) = decide (2 ^ n ≤ a) := by
  have e0 : (2 : Int) ^ n = ((2 ^ n : Nat) : Int) := by simp
  rw [e0]
  by_cases h : 2 ^ n ≤ a
  · have h1 := Nat.div_pos h (pow_pos2 n)
    have : (a : Int) / ((2 ^ n : Nat) : Int) = ((a / 2 ^ n : Nat) : Int) := by simp
    rw [decide_eq_true h, this]
    generalize a / 2 ^ n = q at *
    simp; omega
  · have : (a : Int) / ((2 ^ n : Nat) : Int) = ((a / 2 ^ n : Nat) : Int) := by simp
    rw [decide_eq_false h, this, Nat.div_eq_of_lt (by omega)]; rfl

end Go.Proofs.Ytebmogdojpcmfaa

/- Walks of layer 4: join, Class, Fields. -/
namespace Go.Proofs.Ytebmogdojpcmfaa
set_option linter.unusedVariables false
open Go.RowKit

section
variable {F : Fm}
theorem abs_parts (a : Nat) : F.abs a = F.fx a * 2 ^ (F.p - 1) + F.fy a := by
  unfold Fm.fx Fm.fy; rw [Nat.mul_comm]; exact (Nat.div_add_mod _ _).symm
theorem fy_lt (a : Nat) : F.fy a < 2 ^ (F.p - 1) := Nat.mod_lt _ (pow_pos2 _)
theorem fx_lt (ok : F.Ok) (a : Nat) : F.fx a < 2 ^ (F.w - F.p) := by
  unfold Fm.fx
  rw [Nat.div_lt_iff_lt_mul (pow_pos2 _), ← Nat.pow_add, show F.w - F.p + (F.p - 1) = F.w - 1 by have := ok.pw; have := ok.p8; omega]
  exact abs_lt a
theorem inf_parts : F.inf = (2 ^ (F.w - F.p) - 1) * 2 ^ (F.p - 1) := rfl

theorem isNan_iff (ok : F.Ok) (a : Nat) : F.isNan a = (decide (F.fx a = 2 ^ (F.w - F.p) - 1) && !decide (F.fy a = 0)) := by
  have h1 := abs_parts (F := F) a
  have h2 := fy_lt (F := F) a
  have h3 := fx_lt ok a
  unfold Fm.isNan
  rw [h1, inf_parts]
  by_cases h : F.fx a = 2 ^ (F.w - F.p) - 1
  · rw [h]
    by_cases h0 : F.fy a = 0
    · simp [h0]
    · simp [h0]; omega
  · have : F.fx a + 1 ≤ 2 ^ (F.w - F.p) - 1 := by omega
    have := Nat.mul_le_mul_right (2 ^ (F.p - 1)) this
    rw [Nat.add_mul] at this
    simp [h]; omega
theorem isInf_iff (ok : F.Ok) (a : Nat) : F.isInf a = (decide (F.fx a = 2 ^ (F.w - F.p) - 1) && decide (F.fy a = 0)) := by
  have h1 := abs_parts (F := F) a
  have h2 := fy_lt (F := F) a
  have h3 := fx_lt ok a
  unfold Fm.isInf
  rw [h1, inf_parts]
  by_cases h : F.fx a = 2 ^ (F.w - F.p) - 1
  · rw [h]; simp
  · have : F.fx a + 1 ≤ 2 ^ (F.w - F.p) - 1 := by omega
    have := Nat.mul_le_mul_right (2 ^ (F.p - 1)) this
    rw [Nat.add_mul] at this
    simp [h]; omega
theorem isSig_iff (ok : F.Ok) (a : Nat) : F.isSig a = (F.isNan a && !decide (2 ^ (F.p - 2) ≤ F.fy a)) := by
  have h1 := abs_parts (F := F) a
  unfold Fm.isSig
  rw [isNan_iff ok]
  by_cases h : F.fx a = 2 ^ (F.w - F.p) - 1
  · rw [h1, inf_parts, h]
    congr 1
    by_cases h0 : 2 ^ (F.p - 2) ≤ F.fy a
    · simp [h0]
    · simp [h0]; omega
  · simp [h]
theorem isZero_iff (a : Nat) : F.isZero a = (decide (F.fx a = 0) && decide (F.fy a = 0)) := by
  have h1 := abs_parts (F := F) a
  have := pow_pos2 (F.p - 1)
  unfold Fm.isZero
  rw [h1]
  by_cases h : F.fx a = 0
  · rw [h]; simp
  · have := Nat.mul_pos (Nat.pos_of_ne_zero h) this
    simp [h]; omega
end

/-- the class of bits -/
def clsF (F : Fm) (a : Nat) : Int :=
  if F.fx a = 2 ^ (F.w - F.p) - 1 then (if F.fy a = 0 then (if F.neg a then 2 else 9) else if 2 ^ (F.p - 2) ≤ F.fy a then 1 else 0)
  else if F.fx a = 0 then (if F.fy a = 0 then (if F.neg a then 5 else 6) else (if F.neg a then 4 else 7)) else (if F.neg a then 3 else 8)

theorem or_add (x y n : Nat) (h : y < 2 ^ n) : x * 2 ^ n ||| y = x * 2 ^ n + y := by
  rw [Nat.mul_comm]; exact (Nat.two_pow_add_eq_or_of_lt h x).symm

end Go.Proofs.Ytebmogdojpcmfaa

/- Walks of layer 4: Fields, sign, Neg, Abs, Pack. -/
namespace Go.Proofs.Ytebmogdojpcmfaa
set_option linter.unusedVariables false
open Go.RowKit

theorem xor_flip (F : Fm) (ok : F.Ok) {a : Nat} (ha : a < 2 ^ F.w) : a ^^^ 2 ^ (F.w - 1) = F.flip a := by
  have hw := w_two ok
  have hl := abs_lt (F := F) a
  have hp := parts_mk ok ha
  obtain ⟨k, hk⟩ : ∃ k, k = F.w - 1 := ⟨_, rfl⟩
  unfold Fm.flip
  conv => lhs; rw [hp]
  rw [← hk] at hl
  unfold Fm.sg
  rw [← hk]
  generalize F.abs a = x at *
  have hx : x.testBit k = false := Nat.testBit_lt_two_pow hl
  have key : x + 2 ^ k = x ^^^ 2 ^ k := by
    have h1 := Nat.two_pow_add_eq_or_of_lt hl 1
    rw [Nat.mul_one] at h1
    rw [Nat.add_comm, h1]
    apply Nat.eq_of_testBit_eq
    intro i
    rw [Nat.testBit_or, Nat.testBit_xor, Nat.testBit_two_pow]
    by_cases hik : k = i
    · subst hik; simp [hx]
    · simp [hik]
  cases F.neg a
  · simp [key]
  · simp [key, Nat.xor_assoc]

theorem andNot_abs (F : Fm) (ok : F.Ok) {a : Nat} (ha : a < 2 ^ F.w) : a &&& (18446744073709551615 - 2 ^ (F.w - 1)) = F.abs a := by
  have h64 := ok.w64
  have hpw := ok.pw
  obtain ⟨k, hk⟩ : ∃ k, k = F.w - 1 := ⟨_, rfl⟩
  have hlt : 2 ^ k < 2 ^ 64 := Nat.pow_lt_pow_right (by decide) (by omega)
  rw [show F.w = k + 1 by omega] at ha
  unfold Fm.abs
  rw [← hk]
  rw [show 18446744073709551615 - 2 ^ k = 2 ^ 64 - (2 ^ k + 1) by omega]
  apply Nat.eq_of_testBit_eq
  intro i
  rw [Nat.testBit_and, Nat.testBit_two_pow_sub_succ hlt, Nat.testBit_two_pow, Nat.testBit_mod_two_pow]
  rcases Nat.lt_or_ge i k with h | h
  · have a1 : i < 64 := by omega
    have a2 : ¬ k = i := by omega
    simp [h, a1, a2]
  · rcases Nat.lt_or_ge k i with h2 | h2
    · have : a.testBit i = false := Nat.testBit_lt_two_pow (Nat.lt_of_lt_of_le ha (Nat.pow_le_pow_right (by decide) h2))
      simp [this]
    · obtain rfl : k = i := by omega
      simp

theorem flip_u64 (F : Fm) (ok : F.Ok) {a : Nat} (ha : a < 2 ^ F.w) : F.flip a < 18446744073709551616 ∧ a < 18446744073709551616 ∧ 2 ^ (F.w - 1) < 18446744073709551616 := by
  have h1 : (2 : Nat) ^ F.w ≤ 2 ^ 64 := Nat.pow_le_pow_right (by decide) ok.w64
  have h2 := flip_lt ok a
  have h3 := w_two ok
  have := pow_pos2 (F.w - 1)
  omega

end Go.Proofs.Ytebmogdojpcmfaa

/- Walks of layer 4: the special numbers. -/
namespace Go.Proofs.Ytebmogdojpcmfaa
set_option linter.unusedVariables false
open Go.RowKit

end Go.Proofs.Ytebmogdojpcmfaa

/- Walks of layer 4: Value. -/
namespace Go.Proofs.Ytebmogdojpcmfaa
set_option linter.unusedVariables false
open Go.RowKit

/-- a number of one word, laid anew -/
theorem DV.one (w : World) (s : Bool) (v : Nat) (e : Int) (h0 : v ≠ 0) (h : v < 18446744073709551616) : DV w.heap.size (w.alloc (.cells #[.int .u64 v] 24)) (.agg #[.bool s, .slice (some ⟨w.heap.size, 0, none⟩) 1 1, .int .i64 e]) ⟨s, v, e⟩ := by
  have hn : nd 64 (D.mk s v e).n = 1 := nd_word h0 h
  have hr := Rd.one w v h
  refine ⟨some ⟨w.heap.size, 0, none⟩, 1, ?_, ?_, ?_, ?_, ?_⟩
  · rw [hn]
  · rw [hn]; exact Nat.le_refl _
  · rw [hn]; omega
  · rw [hn]; exact hr
  · rw [hn]; exact ⟨_, 1, 1, rfl, Nat.le_refl _, Or.inr ⟨w.heap.size, _, rfl, Nat.le_refl _, heap_alloc_at w _, by simp⟩⟩

theorem odd_part_ne {n : Nat} (h0 : n ≠ 0) : n / 2 ^ tzN n ≠ 0 := by
  obtain ⟨m, h1⟩ := tzN_spec n h0
  have : n / 2 ^ tzN n = 2 * m + 1 := by
    conv => lhs; lhs; rw [h1]
    exact Nat.mul_div_cancel_left _ (pow_pos2 _)
  omega

/-- the value of bits -/
def valD (F : Fm) (a : Nat) : D := oddD ⟨F.neg a, F.mag a, F.ex a⟩

/-- the error of a pattern -/
def chkS (f : Int) (a : Nat) : Int := if f < 0 ∨ 4 ≤ f then 2 else if 2 ^ (fm f.toNat).w ≤ a then 4 else 0

theorem chkS_ok {f : Int} {a : Nat} (h : chkS f a = 0) : ∃ n : Nat, f = n ∧ n < 4 ∧ a < 2 ^ (fm n).w := by
  unfold chkS at h
  split at h
  · omega
  · rename_i hf
    obtain ⟨n, rfl⟩ := Int.eq_ofNat_of_zero_le (show 0 ≤ f by omega)
    rw [Int.toNat_natCast] at h
    split at h
    · omega
    · exact ⟨n, rfl, by omega, by omega⟩

theorem chkS_of {n a : Nat} (h : n < 4) (ha : a < 2 ^ (fm n).w) : chkS n a = 0 := by
  unfold chkS
  rw [if_neg (by omega), Int.toNat_natCast, if_neg (by omega)]

end Go.Proofs.Ytebmogdojpcmfaa

/- Value of what is infinite or no number; Value of whatever. -/
namespace Go.Proofs.Ytebmogdojpcmfaa
set_option linter.unusedVariables false
open Go.RowKit

/-- the error of Value -/
def valE (f : Int) (a : Nat) : Int := if chkS f a ≠ 0 then chkS f a else if (fm f.toNat).abs a < (fm f.toNat).inf then 0 else 40
def valA (f : Int) (a : Nat) : D := if valE f a = 0 then valD (fm f.toNat) a else D.zero

theorem valE_ok {f : Int} {a : Nat} (h : valE f a = 0) : ∃ n : Nat, f = n ∧ n < 4 ∧ a < 2 ^ (fm n).w ∧ (fm n).abs a < (fm n).inf := by
  unfold valE at h
  split at h
  · rename_i h1; exact absurd h h1
  · rename_i h1
    obtain ⟨n, rfl, hn, han⟩ := chkS_ok (show chkS f a = 0 by simpa using h1)
    rw [Int.toNat_natCast] at h
    split at h
    · rename_i h2; exact ⟨n, rfl, hn, han, h2⟩
    · cases h

def absA (f : Int) (a : Nat) : Nat := if chkS f a = 0 then (fm f.toNat).abs a else 0

end Go.Proofs.Ytebmogdojpcmfaa
