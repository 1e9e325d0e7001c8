/- Walks of layer 3: Neg, Sign, Top, FromInt, Scale. -/
import Derived.Test.YtcgceigmglikpaaDoorDyadE
import Derived.Test.YtcgceigmglikpaaDoorDyadV
namespace Go.Proofs.YtcgceigmglikpaaDoor
set_option linter.unusedVariables false
open Go.RowKit

theorem Box3.setOther {w : World} {g : Nat} {a b c : Value} (h : Box3 w g a b c) {p : Addr} (hp : p.block ≠ g) (u : Value) : Box3 (w.setCell p u) g a b c := by
  obtain ⟨t, h⟩ := h
  exact ⟨t, (Below.heap_setCell w p u g (Ne.symm hp)).trans h⟩

def negD (n : Nat) (d : D) : D × Int := if refD n d.e = 0 then ansD ⟨!d.s, d.n, d.e⟩ else (D.zero, refD n d.e)

set_option maxHeartbeats 1000000 in
theorem Sign_any (s : Bool) (A : Option Addr) (N n c : Nat) (e : Int) (w : World) (hv : Rd 64 w (.slice A n c) N n) :
    Calls Tryd.prog 31 #[.agg #[.bool s, .slice A n c, .int .i64 e]] w fun e' w' => e' = .returned (.int .i64 (sgD s N)) ∧ Below w.heap.size w w' := by
  have hB := below1 w (Obj.cells #[Value.bool s, Value.slice A n c, Value.int IntKind.i64 e] 53)
  have hb0 := Box3.new w (Value.bool s) (Value.slice A n c) (Value.int IntKind.i64 e) 53
  go_enter Tryd.func31, Tryd.ntmps31
  go_wp2_with fail
  refine (Trim_any (.slice A n c) N n _ (hv.below hB)).mono ?_
  rintro e1 w1 ⟨v1, rfl, h1, hF1, hb1⟩
  obtain ⟨A1, c1, rfl, hc1, hcm1⟩ := h1.form
  obtain ⟨k0, k1, k2, f0, _⟩ := (hb0.keep hb1).cells
  have hB1 := keep_belowB hB hb1 (Nat.le_refl _)
  by_cases hN : N = 0
  · have E : Hid (sgD s N = 0) := by show _ = _; unfold sgD; rw [if_pos hN]
    have hn0 : nd 64 N = 0 := by rw [hN, nd_zero]
    rw [hn0] at *
    clear hN
    go_wp2
    go_ret
    exact ⟨by rw [E.out]; rfl, hB1⟩
  · have hp := nd_pos 64 N hN
    have hz : (((nd 64 N : Nat) : Int) == 0) = false := by rw [beq_eq_false_iff_ne]; omega
    have E : Hid (sgD s N = if s then -1 else 1) := by show _ = _; unfold sgD; rw [if_neg hN]
    clear hN
    generalize nd 64 N = a at *
    cases s
    · go_wp2
      go_ret
      exact ⟨by rw [E.out]; rfl, hB1⟩
    · go_wp2
      go_ret
      exact ⟨by rw [E.out]; rfl, hB1⟩

def topD (n : Nat) (d : D) : Int × Int := if refD n d.e = 0 then (if d.n = 0 then (0, 31) else ((bl d.n : Int) - 1 + d.e, 0)) else (0, refD n d.e)

end Go.Proofs.YtcgceigmglikpaaDoor
