/- The walk of vernierref06.Open. Printed by gen/refo.py. -/
import Derived.Test.YtlibhfojfonfjaaGreatDoorPackU
import Derived.Test.YtlibhfojfonfjaaGreatDoorRefB
namespace Go.Proofs.YtlibhfojfonfjaaGreatDoor
set_option linter.unusedVariables false
open Go.RowKit

/-- the number of the bits, as the document opens them -/
def opD (F : Fm) (a : Nat) : D := if F.abs a < F.inf then ⟨F.neg a, F.mag a, F.ex a⟩ else ⟨false, 0, 0⟩

theorem Bx.seven {w : World} {g : Nat} {a0 a1 a2 a3 a4 a5 a6 : Value} (h : Bx w g #[a0, a1, a2, a3, a4, a5, a6]) :
    w.cell? ⟨g, 0, none⟩ = some a0 ∧ w.cell? ⟨g, 1, none⟩ = some a1 ∧ w.cell? ⟨g, 2, none⟩ = some a2 ∧ w.cell? ⟨g, 3, none⟩ = some a3 ∧ w.cell? ⟨g, 4, none⟩ = some a4 ∧ w.cell? ⟨g, 5, none⟩ = some a5 ∧ w.cell? ⟨g, 6, none⟩ = some a6 :=
  ⟨h.cell 0 rfl, h.cell 1 rfl, h.cell 2 rfl, h.cell 3 rfl, h.cell 4 rfl, h.cell 5 rfl, h.cell 6 rfl⟩

theorem Bx.set7 {w : World} {g : Nat} {a0 a1 a2 a3 a4 a5 a6 : Value} (h : Bx w g #[a0, a1, a2, a3, a4, a5, a6]) (x0 x1 x2 x3 x4 x5 x6 : Value) :
    Bx (((((((w.setCell ⟨g, 0, none⟩ x0).setCell ⟨g, 1, none⟩ x1).setCell ⟨g, 2, none⟩ x2).setCell ⟨g, 3, none⟩ x3).setCell ⟨g, 4, none⟩ x4).setCell ⟨g, 5, none⟩ x5).setCell ⟨g, 6, none⟩ x6) g #[x0, x1, x2, x3, x4, x5, x6] := by
  obtain ⟨t, h⟩ := h
  refine ⟨t, ?_⟩
  simp [World.setCell, Array.getElem?_modify, h]

theorem Bx.set456 {w : World} {g : Nat} {a0 a1 a2 a3 a4 a5 a6 : Value} (h : Bx w g #[a0, a1, a2, a3, a4, a5, a6]) (x4 x5 x6 : Value) :
    Bx (((w.setCell ⟨g, 4, none⟩ x4).setCell ⟨g, 5, none⟩ x5).setCell ⟨g, 6, none⟩ x6) g #[a0, a1, a2, a3, x4, x5, x6] := by
  obtain ⟨t, h⟩ := h
  refine ⟨t, ?_⟩
  simp [World.setCell, Array.getElem?_modify, h]

theorem below_set7 {w w1 : World} {g : Nat} (h : Below w.heap.size w w1) (hg : w.heap.size ≤ g) (x0 x1 x2 x3 x4 x5 x6 : Value) :
    Below w.heap.size w (((((((w1.setCell ⟨g, 0, none⟩ x0).setCell ⟨g, 1, none⟩ x1).setCell ⟨g, 2, none⟩ x2).setCell ⟨g, 3, none⟩ x3).setCell ⟨g, 4, none⟩ x4).setCell ⟨g, 5, none⟩ x5).setCell ⟨g, 6, none⟩ x6) :=
  ((((((h.setCell (p := ⟨g, 0, none⟩) hg x0).setCell (p := ⟨g, 1, none⟩) hg x1).setCell (p := ⟨g, 2, none⟩) hg x2).setCell (p := ⟨g, 3, none⟩) hg x3).setCell (p := ⟨g, 4, none⟩) hg x4).setCell (p := ⟨g, 5, none⟩) hg x5).setCell (p := ⟨g, 6, none⟩) hg x6

theorem Rd.set7 {k : Nat} {w : World} {v : Value} {N n g : Nat} (h : Rd k w v N n) (hf : Fr (g + 1) w v) (x0 x1 x2 x3 x4 x5 x6 : Value) :
    Rd k (((((((w.setCell ⟨g, 0, none⟩ x0).setCell ⟨g, 1, none⟩ x1).setCell ⟨g, 2, none⟩ x2).setCell ⟨g, 3, none⟩ x3).setCell ⟨g, 4, none⟩ x4).setCell ⟨g, 5, none⟩ x5).setCell ⟨g, 6, none⟩ x6) v N n := by
  have key : ∀ (w : World) (j : Nat) (x : Value), Rd k w v N n ∧ Fr (g + 1) w v → Rd k (w.setCell ⟨g, j, none⟩ x) v N n ∧ Fr (g + 1) (w.setCell ⟨g, j, none⟩ x) v := fun w j x h => ⟨h.1.setCell_fr h.2 (Nat.lt_succ_self g) x, h.2.setCell (Nat.lt_succ_self g) x⟩
  exact (key _ _ _ (key _ _ _ (key _ _ _ (key _ _ _ (key _ _ _ (key _ _ _ (key _ _ _ ⟨h, hf⟩))))))).1

theorem Rd.set456 {k : Nat} {w : World} {v : Value} {N n g : Nat} (h : Rd k w v N n) (hf : Fr (g + 1) w v) (x4 x5 x6 : Value) :
    Rd k (((w.setCell ⟨g, 4, none⟩ x4).setCell ⟨g, 5, none⟩ x5).setCell ⟨g, 6, none⟩ x6) v N n ∧ Fr (g + 1) (((w.setCell ⟨g, 4, none⟩ x4).setCell ⟨g, 5, none⟩ x5).setCell ⟨g, 6, none⟩ x6) v := by
  have key : ∀ (w : World) (j : Nat) (x : Value), Rd k w v N n ∧ Fr (g + 1) w v → Rd k (w.setCell ⟨g, j, none⟩ x) v N n ∧ Fr (g + 1) (w.setCell ⟨g, j, none⟩ x) v := fun w j x h => ⟨h.1.setCell_fr h.2 (Nat.lt_succ_self g) x, h.2.setCell (Nat.lt_succ_self g) x⟩
  exact key _ _ _ (key _ _ _ (key _ _ _ ⟨h, hf⟩))

theorem cell_456 {w : World} {g : Nat} {x x4 x5 x6 : Value} (h : w.cell? ⟨g, 3, none⟩ = some x) : (((w.setCell ⟨g, 4, none⟩ x4).setCell ⟨g, 5, none⟩ x5).setCell ⟨g, 6, none⟩ x6).cell? ⟨g, 3, none⟩ = some x := by
  rw [World.cell?_setCell_other _ _ _ _ (fun e => by injection e with e1 e2; omega), World.cell?_setCell_other _ _ _ _ (fun e => by injection e with e1 e2; omega), World.cell?_setCell_other _ _ _ _ (fun e => by injection e with e1 e2; omega)]
  exact h

theorem Rd.one64 (w : World) (N : Nat) (hN : N < 18446744073709551616) (t : TypeId) : Rd 64 (w.alloc (.cells #[.int .u64 N] t)) (.slice (some ⟨w.heap.size, 0, none⟩) 1 1) N 1 := by
  refine ⟨_, 1, rfl, Nat.le_refl _, by omega, by simpa using hN, fun _ => ⟨_, 0, rfl, by simp, fun j hj => ?_⟩⟩
  obtain rfl : j = 0 := by omega
  rw [World.cell?_alloc_at _ _ _ _ rfl]
  have : dg 64 N 0 = N := by unfold dg; simp; exact hN
  rw [this]; rfl

theorem Bx.lt {w : World} {g : Nat} {arr : Array Value} (h : Bx w g arr) : g < w.heap.size := by
  obtain ⟨t, h⟩ := h
  exact lt_size_of_some h

theorem and_u64 (x k : Nat) (hx : x < 18446744073709551616) (m : Int) (hm : m = ((2 ^ k - 1 : Nat) : Int)) (hk : k ≤ 63) : bits .and .u64 (x : Int) m = ((x % 2 ^ k : Nat) : Int) := by
  have : (2 : Nat) ^ k ≤ 2 ^ 63 := Nat.pow_le_pow_right (by decide) hk
  rw [hm, bits_and_u64_nat _ _ hx (by omega), Nat.and_two_pow_sub_one_eq_mod]

theorem fx_eq {F : Fm} (ok : F.Ok) (a : Nat) : a / 2 ^ (F.p - 1) % 2 ^ (F.w - F.p) = F.fx a := by
  have := ok.pw
  have := ok.p8
  unfold Fm.fx Fm.abs
  rw [show F.w - 1 = (F.p - 1) + (F.w - F.p) by omega, Nat.pow_add, Nat.mod_mul_right_div_self]

theorem fy_eq {F : Fm} (ok : F.Ok) (a : Nat) : a % 2 ^ (F.p - 1) = F.fy a := by
  have := ok.pw
  have := ok.p8
  unfold Fm.fy Fm.abs
  rw [show F.w - 1 = (F.p - 1) + (F.w - F.p) by omega, Nat.pow_add, Nat.mod_mul_right_mod]

theorem neg_eq {F : Fm} {a : Nat} (ok : F.Ok) (h : a < 2 ^ F.w) : (((a / 2 ^ (F.w - 1) % 2 : Nat) : Int) == 1) = F.neg a := by
  have hw := w_two ok
  unfold Fm.neg
  by_cases c : 2 ^ (F.w - 1) ≤ a
  · have : a / 2 ^ (F.w - 1) = 1 := by
      rw [Nat.div_eq_iff (pow_pos2 _)]; omega
    rw [this, decide_eq_true c]; rfl
  · have : a / 2 ^ (F.w - 1) = 0 := Nat.div_eq_of_lt (by omega)
    rw [this, decide_eq_false c]; rfl

theorem fin_iff {F : Fm} (ok : F.Ok) (a : Nat) : F.abs a < F.inf ↔ F.fx a ≠ 2 ^ (F.w - F.p) - 1 := by
  have h1 := abs_parts (F := F) a
  have h2 := fy_lt (F := F) a
  have h3 := fx_lt ok a
  have h4 := inf_parts (F := F)
  have hP := pow_pos2 (F.p - 1)
  constructor
  · intro h e
    rw [h1, h4, e] at h
    omega
  · intro h
    rw [h1, h4]
    have : F.fx a + 1 ≤ 2 ^ (F.w - F.p) - 1 := by omega
    have := Nat.mul_le_mul_right (2 ^ (F.p - 1)) this
    rw [Nat.add_mul] at this
    omega

theorem mag_ex {F : Fm} (a : Nat) : F.mag a = (if F.fx a = 0 then F.fy a else 2 ^ (F.p - 1) + F.fy a) ∧ F.ex a = (if F.fx a = 0 then F.emin - F.p + 1 else F.emin - F.p + 1 + F.fx a - 1) := by
  have hp := abs_parts (F := F) a
  constructor
  · unfold Fm.mag Fm.sig
    by_cases h : F.fx a = 0
    · have h' : F.abs a / 2 ^ (F.p - 1) = 0 := h
      rw [if_pos h, if_pos h', hp, h]; simp
    · have h' : ¬ F.abs a / 2 ^ (F.p - 1) = 0 := h
      rw [if_neg h, if_neg h']; rfl
  · unfold Fm.ex Fm.xp Fm.low
    by_cases h : F.fx a = 0
    · have h' : F.abs a / 2 ^ (F.p - 1) = 0 := h
      rw [if_pos h, if_pos h']
    · have h' : ¬ F.abs a / 2 ^ (F.p - 1) = 0 := h
      rw [if_neg h, if_neg h']; rfl

/-- what Open answers -/
def OpenV (F : Fm) (a : Nat) (w w' : World) (v : Value) : Prop := ∃ V, v = .agg #[.bool (F.isNan a), .bool (F.isSig a), .bool (F.isInf a), .bool (F.neg a), .bool (opD F a).s, V, .int .i64 (opD F a).e] ∧ Rd 32 w' V (opD F a).n (nd 32 (opD F a).n) ∧ Below w.heap.size w w'

end Go.Proofs.YtlibhfojfonfjaaGreatDoor
