/- Walks of layer 5: top, tiny, modeError, refuses, beyond. -/
import Derived.Test.YtcgceigmglikpaaDoorRouD
import Derived.Test.YtcgceigmglikpaaDoorFmtE
namespace Go.Proofs.YtcgceigmglikpaaDoor
set_option linter.unusedVariables false
open Go.RowKit

set_option maxRecDepth 100000 in
set_option maxHeartbeats 1000000 in
theorem top_num (neg : Bool) (A : Option Addr) (n nn c : Nat) (e : Int) (more : Bool) (w : World) (hv : Rd 64 w (.slice A nn c) n nn) (hnn : nn ≤ 1024) (he : -1000000 ≤ e ∧ e ≤ 1000000) :
    Calls Tryd.prog 136 #[.agg (numA neg (.slice A nn c) e more)] w fun e' w' => e' = .returned (.int .i64 (topE n e)) ∧ Below w.heap.size w w' := by
  have hbl := bl_le_of_lt hv.lt
  have hal := below1 w (.cells (numA neg (.slice A nn c) e more) 132)
  have hL := fun wx (h : Rd 64 wx (.slice A nn c) n nn) => Len_any (.slice A nn c) n nn wx h
  have HL := Lib.hid hL
  have hv2 := hv.below hal
  have w1 : IntKind.i64.wrap (e + (bl n : Int)) = e + (bl n : Int) := IntWalk.i64_in _ (by omega)
  have w2 : IntKind.i64.wrap (e + (bl n : Int) - 1) = e + (bl n : Int) - 1 := IntWalk.i64_in _ (by omega)
  obtain ⟨T, hT⟩ : ∃ T, T = topE n e := ⟨_, rfl⟩
  rw [← hT]
  unfold topE at hT
  have HT := Lib.hid hT
  unfold numA at hal hv2
  have HA := Lib.hid hal
  clear hL hv hT hal hbl
  unfold numA
  go_enter Tryd.func136, Tryd.ntmps136
  go_wp2
  go_quiet ((go_at_call 104; exact quiet_eq (HL.out _ hv2)))
  clear w1 w2
  go_wp2
  go_ret
  exact ⟨by rw [HT.out]; rfl, below_drewN HA.out _⟩

theorem modeError_any (m : Int) (w : World) : Calls Tryd.prog 135 #[.int .i64 m] w fun e w' => e = .returned (.int .i64 (if m < 0 ∨ 5 < m then 3 else 0)) ∧ w = w' := by
  obtain ⟨R, hR⟩ : ∃ R : Int, R = if m < 0 ∨ 5 < m then 3 else 0 := ⟨_, rfl⟩
  rw [← hR]
  by_cases h : m < 0
  · have E : Hid (R = 3) := by show _ = _; rw [hR, if_pos (Or.inl h)]
    clear hR
    go_enter Tryd.func135, Tryd.ntmps135
    go_wp2
    go_ret
    exact ⟨by rw [E.out]; rfl, rfl⟩
  · have t1 : decide (m < 0) = false := by simpa using h
    by_cases h5 : 5 < m
    · have E : Hid (R = 3) := by show _ = _; rw [hR, if_pos (Or.inr h5)]
      clear hR h
      go_enter Tryd.func135, Tryd.ntmps135
      go_wp2
      go_ret
      exact ⟨by rw [E.out]; rfl, rfl⟩
    · have t2 : decide (5 < m) = false := by simpa using h5
      have E : Hid (R = 0) := by show _ = _; rw [hR, if_neg (by omega)]
      clear hR h h5
      go_enter Tryd.func135, Tryd.ntmps135
      go_wp2
      go_ret
      exact ⟨by rw [E.out]; rfl, rfl⟩

set_option maxHeartbeats 1000000 in
theorem beyond_any (f m : Nat) (neg : Bool) (w : World) (hf : f < 4) (hm : m ≤ 5) (hG : GlR w) : Calls Tryd.prog 137 #[.int .i64 f, .int .i64 m, .bool neg] w fun e w' => e = .returned (.int .u64 (beyondS (fm f) m neg : Int)) ∧ Below w.heap.size w w' := by
  have h1 := Inf_ok f neg w hf hG
  have h2 := Great_ok f neg w hf hG
  have H1 := Lib.hid h1
  have H2 := Lib.hid h2
  obtain ⟨R, hR⟩ : ∃ R, R = beyondS (fm f) m neg := ⟨_, rfl⟩
  rw [← hR]
  unfold beyondS at hR
  have HR := Lib.hid hR
  clear h1 h2 hR hG
  have hm' : m = 0 ∨ m = 1 ∨ m = 2 ∨ m = 3 ∨ m = 4 ∨ m = 5 := by omega
  rcases hm' with rfl | rfl | rfl | rfl | rfl | rfl <;> cases neg
  all_goals
    have E := HR.out
    simp only [infB] at E
    have HE := Lib.hid E
    clear E HR
    go_enter Tryd.func137, Tryd.ntmps137
    go_wp2_with fail
    first
      | (refine H1.out.mono ?_
         rintro _ w1 ⟨rfl, hb1⟩
         clear H1 H2
         go_wp2
         go_ret
         exact ⟨by rw [HE.out]; rfl, hb1⟩)
      | (refine H2.out.mono ?_
         rintro _ w1 ⟨rfl, hb1⟩
         clear H1 H2
         go_wp2
         go_ret
         exact ⟨by rw [HE.out]; rfl, hb1⟩)

end Go.Proofs.YtcgceigmglikpaaDoor
