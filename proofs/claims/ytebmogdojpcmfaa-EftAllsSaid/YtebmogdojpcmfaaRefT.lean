/- Walks of vernierref09's small functions: Zero, One, Opposite, turned. -/
import Derived.Outline
import Derived.Deep.CutBlock
import Derived.Test.YtebmogdojpcmfaaRefQ
import Derived.Test.YtebmogdojpcmfaaRefX
namespace Go.Proofs.Ytebmogdojpcmfaa
set_option linter.unusedVariables false
set_option linter.unusedSimpArgs false
open Go.RowKit

def flA (x : Fl) (A : Option Addr) (c : Nat) : Array Value := #[.bool x.nan, .bool x.sig, .bool x.inf, .bool x.neg, .bool x.d.s, .slice A (nd 32 x.d.n) c, .int .i64 x.d.e]
def tmA (x : Tm) (A : Option Addr) (c : Nat) : Array Value := #[.bool x.wrong, .bool x.nan, .bool x.sig, .bool x.inf, .bool x.neg, .bool x.d.s, .slice A (nd 32 x.d.n) c, .int .i64 x.d.e]
def FlV (w : World) (v : Value) (x : Fl) : Prop := ∃ A c, v = .agg (flA x A c) ∧ Rd 32 w (.slice A (nd 32 x.d.n) c) x.d.n (nd 32 x.d.n)
def TmV (w : World) (v : Value) (x : Tm) : Prop := ∃ A c, v = .agg (tmA x A c) ∧ Rd 32 w (.slice A (nd 32 x.d.n) c) x.d.n (nd 32 x.d.n)

theorem FlV.belowB {w w' : World} {v : Value} {x : Fl} {B : Nat} (h : FlV w v x) (hb : Below B w w') (hB : w.heap.size ≤ B) : FlV w' v x := by
  obtain ⟨A, c, e, r⟩ := h; exact ⟨A, c, e, r.belowB hb hB⟩
theorem TmV.belowB {w w' : World} {v : Value} {x : Tm} {B : Nat} (h : TmV w v x) (hb : Below B w w') (hB : w.heap.size ≤ B) : TmV w' v x := by
  obtain ⟨A, c, e, r⟩ := h; exact ⟨A, c, e, r.belowB hb hB⟩

theorem nd_zero_test (n : Nat) : ((((nd 32 n : Nat) : Int) == 0) = decide (n = 0)) ∧ ((nd 32 n == 0) = decide (n = 0)) := by
  by_cases h : n = 0
  · subst h; rw [nd_zero]; exact ⟨rfl, rfl⟩
  · have := nd_pos 32 n h
    rw [decide_eq_false h]
    exact ⟨by rw [beq_eq_false_iff_ne]; omega, by rw [beq_eq_false_iff_ne]; omega⟩

theorem fzero_any (x : Fl) (A : Option Addr) (c : Nat) (w : World) : Calls Try.prog 54 #[.agg (flA x A c)] w fun e w' => e = .returned (.bool x.zero) ∧ Below w.heap.size w w' := by
  obtain ⟨z, hz⟩ : ∃ z, z = x.zero := ⟨_, rfl⟩
  rw [← hz]
  unfold Fl.zero at hz
  obtain ⟨t1, t2⟩ := nd_zero_test x.d.n
  have hb0 := below1 w (.cells (flA x A c) 78)
  have b1 := Bx.new w (flA x A c) 78
  obtain ⟨W, hW⟩ : ∃ W, W = w.alloc (.cells (flA x A c) 78) := ⟨_, rfl⟩
  rw [← hW] at hb0 b1
  unfold flA at hW b1 ⊢
  have HB := Lib.hid hb0
  obtain ⟨k0, k1, k2, k3, k4, k5, k6⟩ := b1.seven
  generalize decide (x.d.n = 0) = u at *
  generalize nd 32 x.d.n = l at *
  generalize x.nan = a at *
  generalize x.inf = b at *
  have e := Lib.hid hz
  clear hz hb0 b1
  go_enter Try.func54, Try.ntmps54
  go_upto_region 1 with (fail)
  rw [← hW]
  clear hW
  cases a
  · cases b
    · go_wp2
      go_ret
      exact ⟨by rw [e.out]; rfl, HB.out⟩
    · go_wp2
      go_ret
      exact ⟨by rw [e.out]; rfl, HB.out⟩
  · go_wp2
    go_ret
    exact ⟨by rw [e.out]; rfl, HB.out⟩

end Go.Proofs.Ytebmogdojpcmfaa
