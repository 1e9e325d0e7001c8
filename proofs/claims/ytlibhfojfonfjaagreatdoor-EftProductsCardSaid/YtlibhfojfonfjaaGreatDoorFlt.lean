/- Floats: what an operation gives, a NaN too; finite numbers. -/
import Derived.WalkKit
import Derived.Deep.Draws
import Derived.WalkLawsBesides
import Derived.Laws.FloatArith
namespace Go.Proofs.YtlibhfojfonfjaaGreatDoor
set_option linter.unusedVariables false
open Go.RowKit

/-- is the word a finite number? -/
def finB (k : FloatKind) (x : Nat) : Bool := match k.format.read x with
  | .number .. => true
  | _ => false

def nanB (k : FloatKind) (x : Nat) : Bool := (k.format.read x).isNaN

/-- what the operation may give -/
def FOp (op : BinOp) (k : FloatKind) (x y r : Nat) : Prop := (match floatBits op k x y with
  | some b => r = b
  | none => nanB k r = true) ∧ r < 2 ^ k.format.width

theorem nan32 (a b : Nat) (ha : a < 2) (hb : b < 8388607) : nanB .f32 (a * 2 ^ 31 + 0x7f800000 + 1 + b) = true := by
  unfold nanB
  show (Ieee.single.read _).isNaN = true
  unfold Ieee.Format.read
  have e1 : Ieee.single.signWeight = 2147483648 := by decide
  have e2 : Ieee.single.binade = 8388608 := by decide
  have e3 : Ieee.single.infRung = 2139095040 := by decide
  have hr : (a * 2 ^ 31 + 0x7f800000 + 1 + b) % 2147483648 = 0x7f800000 + 1 + b := by omega
  simp only [e1, e2, e3, hr]
  rw [if_neg (by omega), if_neg (by omega), if_neg (by omega)]
  rfl

theorem nan64 (a b : Nat) (ha : a < 2) (hb : b < 4503599627370495) : nanB .f64 (a * 2 ^ 63 + 0x7ff0000000000000 + 1 + b) = true := by
  unfold nanB
  show (Ieee.double.read _).isNaN = true
  unfold Ieee.Format.read
  have e1 : Ieee.double.signWeight = 9223372036854775808 := by decide
  have e2 : Ieee.double.binade = 4503599627370496 := by decide
  have e3 : Ieee.double.infRung = 9218868437227405312 := by decide
  have hr : (a * 2 ^ 63 + 0x7ff0000000000000 + 1 + b) % 9223372036854775808 = 0x7ff0000000000000 + 1 + b := by omega
  simp only [e1, e2, e3, hr]
  rw [if_neg (by omega), if_neg (by omega), if_neg (by omega)]
  rfl

theorem cut_nan (k : FloatKind) (x y t : Nat) : nanB k ((Question.nanBits k x y).cut t) = true := by
  cases k
  · exact nan32 _ _ (Nat.mod_lt _ (by decide)) (Nat.mod_lt _ (by decide))
  · exact nan64 _ _ (Nat.mod_lt _ (by decide)) (Nat.mod_lt _ (by decide))

theorem cutNan_lt (k : FloatKind) (x y t : Nat) : (Question.nanBits k x y).cut t < 2 ^ k.format.width := by
  cases k
  · show (t % 2) * 2 ^ 31 + 0x7f800000 + 1 + (t / 2) % (2 ^ 23 - 1) < 2 ^ 32
    omega
  · show (t % 2) * 2 ^ 63 + 0x7ff0000000000000 + 1 + (t / 2) % (2 ^ 52 - 1) < 2 ^ 64
    omega

theorem wf_lt {k : FloatKind} {b : Nat} (h : (Lit.float k b).wf = true) : b < 2 ^ k.format.width := by
  cases k
  · show b < 2 ^ 32
    simpa [Lit.wf] using h
  · show b < 2 ^ 64
    simpa [Lit.wf] using h

theorem FOp.lt {op : BinOp} {k : FloatKind} {x y r : Nat} (h : FOp op k x y r) : r < 2 ^ k.format.width := h.2
theorem FOp.some {op : BinOp} {k : FloatKind} {x y r b : Nat} (h : FOp op k x y r) (hb : floatBits op k x y = some b) : r = b := by
  have := h.1
  rw [hb] at this
  exact this
theorem FOp.none {op : BinOp} {k : FloatKind} {x y r : Nat} (h : FOp op k x y r) (hb : floatBits op k x y = none) : nanB k r = true := by
  have := h.1
  rw [hb] at this
  exact this
theorem nan_not_fin {k : FloatKind} {x : Nat} (h : nanB k x = true) : finB k x = false := by
  unfold nanB at h
  unfold finB
  cases hx : k.format.read x with
  | number s m e => rw [hx] at h; cases h
  | infinity s => rfl
  | nan s f => rfl
/-- a finite result is the operation's own -/
theorem FOp.fin {op : BinOp} {k : FloatKind} {x y r : Nat} (h : FOp op k x y r) (hf : finB k r = true) : floatBits op k x y = Option.some r := by
  cases hb : floatBits op k x y with
  | some b => rw [h.some hb]
  | none => rw [nan_not_fin (h.none hb)] at hf; cases hf

theorem run_flt {P : Program} (op : BinOp) (hop : op = .add ∨ op = .sub ∨ op = .mul ∨ op = .quo) (t : TypeId) (k : FloatKind) (x y : Nat) (w : World) :
    ∃ r d, (binOp op t (.float k x) (.float k y)).run P w = .ok (.float k r) (w.drewN d) ∧ FOp op k x y r := by
  cases h : floatBits op k x y with
  | some b => exact ⟨b, 0, run_float_arith (P := P) w op t k x y b h, by rw [h], wf_lt (floatBits_wf h)⟩
  | none =>
    refine ⟨(Question.nanBits k x y).cut (w.tape w.drawn (.nanBits k x y)), 1, ?_, by rw [h]; exact cut_nan k x y _, cutNan_lt k x y _⟩
    unfold floatBits at h
    rcases hop with rfl | rfl | rfl | rfl <;> simp only at h <;> · simp [binOp, Op.floatArith, h, choose]; rfl

end Go.Proofs.YtlibhfojfonfjaaGreatDoor
