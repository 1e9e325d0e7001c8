/- Packed by program: MulA MulB MulC MulD. -/
import Derived.Test.YtlibhfojfonfjaaDoorPackO
import Derived.Test.YtlibhfojfonfjaaDoorPackR
/- Walks of layer 7: open, nan, inf, zero; layer 1: Mul. -/
namespace Go.Proofs.YtlibhfojfonfjaaDoor
set_option linter.unusedVariables false
open Go.RowKit

section
variable {F : Fm}
theorem cls_nan (ok : F.Ok) (a : Nat) : F.isNan a = decide (clsF F a = 1 ∨ clsF F a = 0) := by
  rw [isNan_iff ok]
  unfold clsF
  by_cases h1 : F.fx a = 2 ^ (F.w - F.p) - 1
  · rw [if_pos h1]
    by_cases h2 : F.fy a = 0
    · rw [if_pos h2]; cases F.neg a <;> simp [h2]
    · rw [if_neg h2]; by_cases h3 : 2 ^ (F.p - 2) ≤ F.fy a <;> simp [h1, h2, h3]
  · rw [if_neg h1]
    by_cases h3 : F.fx a = 0
    · rw [if_pos h3]; by_cases h4 : F.fy a = 0 <;> cases F.neg a <;> simp [h1, h4]
    · rw [if_neg h3]; cases F.neg a <;> simp [h1]
theorem cls_sig (ok : F.Ok) (a : Nat) : F.isSig a = decide (clsF F a = 0) := by
  rw [isSig_iff ok, isNan_iff ok]
  unfold clsF
  by_cases h1 : F.fx a = 2 ^ (F.w - F.p) - 1
  · rw [if_pos h1]
    by_cases h2 : F.fy a = 0
    · rw [if_pos h2]; cases F.neg a <;> simp [h2]
    · rw [if_neg h2]; by_cases h3 : 2 ^ (F.p - 2) ≤ F.fy a <;> simp [h1, h2, h3]
  · rw [if_neg h1]
    by_cases h3 : F.fx a = 0
    · rw [if_pos h3]; by_cases h4 : F.fy a = 0 <;> cases F.neg a <;> simp [h1, h4]
    · rw [if_neg h3]; cases F.neg a <;> simp [h1]
theorem cls_inf (ok : F.Ok) (a : Nat) : F.isInf a = decide (clsF F a = 2 ∨ clsF F a = 9) := by
  rw [isInf_iff ok]
  unfold clsF
  by_cases h1 : F.fx a = 2 ^ (F.w - F.p) - 1
  · rw [if_pos h1]
    by_cases h2 : F.fy a = 0
    · rw [if_pos h2]; cases F.neg a <;> simp [h1, h2]
    · rw [if_neg h2]; by_cases h3 : 2 ^ (F.p - 2) ≤ F.fy a <;> simp [h2, h3]
  · rw [if_neg h1]
    by_cases h3 : F.fx a = 0
    · rw [if_pos h3]; by_cases h4 : F.fy a = 0 <;> cases F.neg a <;> simp [h1, h4]
    · rw [if_neg h3]; cases F.neg a <;> simp [h1]
theorem cls_zeroC (ok : F.Ok) (a : Nat) : F.isZero a = decide (clsF F a = 5 ∨ clsF F a = 6) := by
  rw [isZero_iff]
  have ho : 2 ^ (F.w - F.p) - 1 ≠ 0 := by
    have : 2 ^ 1 ≤ 2 ^ (F.w - F.p) := Nat.pow_le_pow_right (by decide) (by have := ok.pw; omega)
    omega
  unfold clsF
  by_cases h1 : F.fx a = 2 ^ (F.w - F.p) - 1
  · have h0 : F.fx a ≠ 0 := by omega
    rw [if_pos h1]
    by_cases h2 : F.fy a = 0
    · rw [if_pos h2]; cases F.neg a <;> simp [h0]
    · rw [if_neg h2]; by_cases h3 : 2 ^ (F.p - 2) ≤ F.fy a <;> simp [h2, h3]
  · rw [if_neg h1]
    by_cases h3 : F.fx a = 0
    · rw [if_pos h3]; by_cases h4 : F.fy a = 0 <;> cases F.neg a <;> simp [h3, h4]
    · rw [if_neg h3]; cases F.neg a <;> simp [h3]

theorem fin_bounds (ok : F.Ok) (a : Nat) : -1074 ≤ F.ex a ∧ F.ex a ≤ 1100 ∧ F.mag a < 2 ^ 53 := by
  obtain ⟨p8, p53, pw, w64, emx, emn, b16, b1023⟩ := id ok
  have hx := fx_lt ok a
  have hy := fy_lt (F := F) a
  have e : (2 : Int) ^ (F.w - F.p - 1) = ((2 ^ (F.w - F.p - 1) : Nat) : Int) := by simp
  rw [e] at emx
  have hpw := pow_split (F.w - F.p) (by omega)
  have hPp : (2 : Nat) ^ (F.p - 1) ≤ 2 ^ 52 := Nat.pow_le_pow_right (by decide) (by omega)
  unfold Fm.fx at hx
  unfold Fm.fy at hy
  unfold Fm.ex Fm.xp Fm.mag Fm.sig Fm.low
  by_cases h : F.abs a / 2 ^ (F.p - 1) = 0
  · rw [if_pos h, if_pos h]
    have h2 := Nat.div_add_mod (F.abs a) (2 ^ (F.p - 1))
    rw [h] at h2
    refine ⟨by omega, by omega, by omega⟩
  · rw [if_neg h, if_neg h]
    have := Nat.pos_of_ne_zero h
    refine ⟨by omega, by omega, by omega⟩
end

/-- an operand, as a value -/
def opA (F : Fm) (a : Nat) : Array Value := #[.int .i64 (clsF F a), .bool (F.neg a), .int .u64 (F.mag a), .int .i64 (F.ex a)]

end Go.Proofs.YtlibhfojfonfjaaDoor

/- Walks of layer 7: open. -/
namespace Go.Proofs.YtlibhfojfonfjaaDoor
set_option linter.unusedVariables false
open Go.RowKit

theorem mag_parts (F : Fm) (a : Nat) : F.mag a = (if F.fx a = 0 then F.fy a else 2 ^ (F.p - 1) + F.fy a) ∧ F.ex a = (if F.fx a = 0 then F.low else F.low + F.fx a - 1) := by
  have hp := abs_parts (F := F) a
  unfold Fm.mag Fm.sig Fm.ex Fm.xp
  by_cases h : F.fx a = 0
  · have h' : F.abs a / 2 ^ (F.p - 1) = 0 := h
    rw [if_pos h, if_pos h', if_pos h', if_pos h]
    rw [h, Nat.zero_mul, Nat.zero_add] at hp
    exact ⟨hp, rfl⟩
  · have h' : ¬ F.abs a / 2 ^ (F.p - 1) = 0 := h
    rw [if_neg h, if_neg h', if_neg h', if_neg h]
    exact ⟨rfl, rfl⟩

end Go.Proofs.YtlibhfojfonfjaaDoor

/- Walks of layer 7: Mul, Square. -/
namespace Go.Proofs.YtlibhfojfonfjaaDoor
set_option linter.unusedVariables false
open Go.RowKit

theorem Bx.op {F : Fm} {a : Nat} {w : World} {g : Nat} (h : Bx w g (opA F a)) : w.cell? ⟨g, 0, none⟩ = some (.int .i64 (clsF F a)) ∧ w.cell? ⟨g, 1, none⟩ = some (.bool (F.neg a)) ∧ w.cell? ⟨g, 2, none⟩ = some (.int .u64 (F.mag a)) ∧ w.cell? ⟨g, 3, none⟩ = some (.int .i64 (F.ex a)) :=
  ⟨h.cell 0 rfl, h.cell 1 rfl, h.cell 2 rfl, h.cell 3 rfl⟩

theorem Parts_run (f m : Nat) (neg : Bool) (N : Nat) (e : Int) (w : World) (hf : f < 4) (hm : m ≤ 5) (hN : N < 340282366920938463463374607431768211456) (he : -40000 ≤ e ∧ e ≤ 40000) (hG : Gl w) (hR : GlR w) (P1 P2 : Nat) (h1 : Hid (P1 = (partsS (fm f) m neg N e false).1)) (h2 : Hid (P2 = (partsS (fm f) m neg N e false).2)) (v : Value) (hv : Hid (v = WV N)) :
    Calls Tryd.prog 65 #[.int .i64 f, .int .i64 m, .bool neg, v, .int .i64 e, .bool false] w fun e' w' => e' = .returned (.tuple #[.int .u64 (P1 : Int), .int .i64 (P2 : Int), .int .i64 0]) ∧ Below w.heap.size w w' := by
  rw [h1.out, h2.out, hv.out]; exact Parts_ok f m neg N e false w hf hm hN he (by simp) hG hR

end Go.Proofs.YtlibhfojfonfjaaDoor

/- Walks of layer 7: Mul's errors, Square. -/
namespace Go.Proofs.YtlibhfojfonfjaaDoor
set_option linter.unusedVariables false
open Go.RowKit

/-- the error of format, mode and two patterns -/
def errS (f m : Int) (a b : Nat) : Int := if rfS f m ≠ 0 then rfS f m else if chkS f a ≠ 0 then chkS f a else chkS f b

theorem errS_ok {f m : Int} {a b : Nat} (h : errS f m a b = 0) : ∃ n k : Nat, f = n ∧ n < 4 ∧ m = k ∧ k ≤ 5 ∧ a < 2 ^ (fm n).w ∧ b < 2 ^ (fm n).w := by
  unfold errS at h
  by_cases h1 : rfS f m = 0
  · rw [if_neg (by simpa using h1)] at h
    obtain ⟨n, k, rfl, hn, rfl, hk⟩ := rfS_ok h1
    by_cases h2 : chkS (n : Int) a = 0
    · rw [if_neg (by simpa using h2)] at h
      obtain ⟨n1, e1, _, ha⟩ := chkS_ok h2
      obtain ⟨n2, e2, _, hb⟩ := chkS_ok h
      obtain rfl : n1 = n := by omega
      obtain rfl : n2 = n1 := by omega
      exact ⟨n2, k, rfl, hn, rfl, hk, ha, hb⟩
    · rw [if_pos h2] at h; exact absurd h h2
  · rw [if_pos h1] at h; exact absurd h h1

theorem errS_of {n k a b : Nat} (hn : n < 4) (hk : k ≤ 5) (ha : a < 2 ^ (fm n).w) (hb : b < 2 ^ (fm n).w) : errS n k a b = 0 := by
  unfold errS
  rw [rfS_of hn hk, chkS_of hn ha, chkS_of hn hb]; rfl

/-- what Mul answers -/
def mulA (f m : Int) (a b : Nat) : Nat × Nat × Int := if errS f m a b = 0 then ((mulS (fm f.toNat) m.toNat a b).1, (mulS (fm f.toNat) m.toNat a b).2, 0) else (0, 0, errS f m a b)

end Go.Proofs.YtlibhfojfonfjaaDoor
