/- The walks of wide.Add, Sub, Cmp. -/
import Derived.Test.YtcgceigmglikpaaDoorWideA
namespace Go.Proofs.YtcgceigmglikpaaDoor
set_option linter.unusedVariables false
set_option linter.unusedSimpArgs false
open Go.RowKit

set_option maxRecDepth 100000 in
theorem wAdd_any (N M : Nat) (w : World) (hs : N + M < 340282366920938463463374607431768211456) :
    Calls Tryd.prog 123 #[WV N, WV M] w fun e w' => e = .returned (.tuple #[WV (N + M), .int .u64 0]) ∧ Below w.heap.size w w' := by
  rw [WV_eq, WV_eq, WV_eq]
  have a1 := fun w : World => add64_runc (N % 18446744073709551616) (M % 18446744073709551616) w
  have a2 := fun w : World => add64_run (N / 18446744073709551616) (M / 18446744073709551616) ((N % 18446744073709551616 + M % 18446744073709551616 + 0) / 18446744073709551616) (by omega) w
  rw [show (N / 18446744073709551616 + M / 18446744073709551616 + (N % 18446744073709551616 + M % 18446744073709551616 + 0) / 18446744073709551616) / 18446744073709551616 = 0 by omega,
    show (N / 18446744073709551616 + M / 18446744073709551616 + (N % 18446744073709551616 + M % 18446744073709551616 + 0) / 18446744073709551616) % 18446744073709551616 = (N + M) / 18446744073709551616 by omega] at a2
  rw [show (N % 18446744073709551616 + M % 18446744073709551616 + 0) % 18446744073709551616 = (N + M) % 18446744073709551616 by omega] at a1
  generalize (N % 18446744073709551616 + M % 18446744073709551616 + 0) / 18446744073709551616 = c at *
  generalize N / 18446744073709551616 = h1 at *
  generalize N % 18446744073709551616 = l1 at *
  generalize M / 18446744073709551616 = h2 at *
  generalize M % 18446744073709551616 = l2 at *
  generalize (N + M) / 18446744073709551616 = rh at *
  generalize (N + M) % 18446744073709551616 = rl at *
  unfold wv
  clear hs
  go_enter Tryd.func123, Tryd.ntmps123
  go_wp2
  refine bodyPost_ret (v := .tuple #[.agg #[.int .u64 rh, .int .u64 rl], .int .u64 0]) (by simp [results, Tryd.results123, go_sem]) rfl ⟨rfl, (((Below.refl _ _).alloc (Nat.le_refl _) _).alloc (by simp) _).alloc (by simp; omega) _⟩

set_option maxRecDepth 100000 in
theorem wSub_any (N M : Nat) (w : World) (hN : N < 340282366920938463463374607431768211456) (hs : M ≤ N) :
    Calls Tryd.prog 125 #[WV N, WV M] w fun e w' => e = .returned (.tuple #[WV (N - M), .int .u64 0]) ∧ Below w.heap.size w w' := by
  rw [WV_eq, WV_eq, WV_eq]
  have a1 : ∀ w : World, (callFunc 153 #[.int .u64 (N % 18446744073709551616 : Nat), .int .u64 (M % 18446744073709551616 : Nat), .int .u64 0]).run Tryd.prog w =
      .ok (.value (.tuple #[.int .u64 (((N % 18446744073709551616 + 18446744073709551616 - M % 18446744073709551616 - 0) % 18446744073709551616 : Nat) : Int), .int .u64 ((if N % 18446744073709551616 < M % 18446744073709551616 + 0 then 1 else 0 : Nat) : Int)])) w :=
    fun w : World => sub64_run (N % 18446744073709551616) (M % 18446744073709551616) 0 (by decide) w
  obtain ⟨c, hc⟩ : ∃ c : Nat, c = if N % 18446744073709551616 < M % 18446744073709551616 + 0 then 1 else 0 := ⟨_, rfl⟩
  have hc1 : c ≤ 1 := by rw [hc]; split <;> omega
  have a2 := fun w : World => sub64_run (N / 18446744073709551616) (M / 18446744073709551616) c hc1 w
  rw [← hc] at a1
  rw [show (if N / 18446744073709551616 < M / 18446744073709551616 + c then 1 else 0 : Nat) = 0 by rw [if_neg]; split at hc <;> omega,
    show (N / 18446744073709551616 + 18446744073709551616 - M / 18446744073709551616 - c) % 18446744073709551616 = (N - M) / 18446744073709551616 by split at hc <;> omega] at a2
  rw [show (N % 18446744073709551616 + 18446744073709551616 - M % 18446744073709551616 - 0) % 18446744073709551616 = (N - M) % 18446744073709551616 by omega] at a1
  clear hc hc1
  generalize N / 18446744073709551616 = h1 at *
  generalize N % 18446744073709551616 = l1 at *
  generalize M / 18446744073709551616 = h2 at *
  generalize M % 18446744073709551616 = l2 at *
  generalize (N - M) / 18446744073709551616 = rh at *
  generalize (N - M) % 18446744073709551616 = rl at *
  unfold wv
  clear hs hN
  go_enter Tryd.func125, Tryd.ntmps125
  go_wp2
  refine bodyPost_ret (v := .tuple #[.agg #[.int .u64 rh, .int .u64 rl], .int .u64 0]) (by simp [results, Tryd.results125, go_sem]) rfl ⟨rfl, (((Below.refl _ _).alloc (Nat.le_refl _) _).alloc (by simp) _).alloc (by simp; omega) _⟩

def cmpW (N M : Nat) : Int := if N < M then -1 else if N = M then 0 else 1

set_option maxRecDepth 100000 in
theorem wCmp_any (N M : Nat) (w : World) :
    Calls Tryd.prog 124 #[WV N, WV M] w fun e w' => e = .returned (.int .i64 (cmpW N M)) ∧ Below w.heap.size w w' := by
  rw [WV_eq, WV_eq]
  unfold wv
  by_cases h0 : N = M
  · have e : cmpW N M = 0 := by unfold cmpW; rw [if_neg (by omega), if_pos h0]
    rw [e]
    subst h0
    clear e
    generalize N / 18446744073709551616 = h1 at *
    generalize N % 18446744073709551616 = l1 at *
    go_enter Tryd.func124, Tryd.ntmps124
    go_wp2
    go_ret
    exact ⟨rfl, ((Below.refl _ _).alloc (Nat.le_refl _) _).alloc (by simp) _⟩
  obtain ⟨R, hR⟩ : ∃ r, r = cmpW N M := ⟨_, rfl⟩
  rw [← hR]
  unfold cmpW at hR
  rw [if_neg h0] at hR
  have key : ¬ (N / 18446744073709551616 = M / 18446744073709551616 ∧ N % 18446744073709551616 = M % 18446744073709551616) := by omega
  have klt : N < M ↔ (N / 18446744073709551616 < M / 18446744073709551616 ∨ N / 18446744073709551616 = M / 18446744073709551616 ∧ N % 18446744073709551616 < M % 18446744073709551616) := by omega
  by_cases h1 : N < M
  · rw [if_pos h1] at hR
    rw [klt] at h1
    clear klt h0
    subst hR
    generalize N / 18446744073709551616 = x1 at *
    generalize N % 18446744073709551616 = l1 at *
    generalize M / 18446744073709551616 = x2 at *
    generalize M % 18446744073709551616 = l2 at *
    rcases h1 with h1 | ⟨rfl, h1⟩
    · clear key
      have t1 : decide (x1 < x2) = true := decide_eq_true h1
      have t2 : ((x1 : Int) == (x2 : Int)) = false := by rw [beq_eq_false_iff_ne]; omega
      clear h1
      go_enter Tryd.func124, Tryd.ntmps124
      go_wp2
      all_goals
        go_ret
        exact ⟨rfl, ((Below.refl _ _).alloc (Nat.le_refl _) _).alloc (by simp) _⟩
    · have t1 : decide (l1 < l2) = true := decide_eq_true h1
      have t2 : ((l1 : Int) == (l2 : Int)) = false := by rw [beq_eq_false_iff_ne]; omega
      clear h1 key
      go_enter Tryd.func124, Tryd.ntmps124
      go_wp2
      all_goals
        go_ret
        exact ⟨rfl, ((Below.refl _ _).alloc (Nat.le_refl _) _).alloc (by simp) _⟩
  · rw [if_neg h1] at hR
    rw [klt] at h1
    clear klt h0
    subst hR
    generalize N / 18446744073709551616 = x1 at *
    generalize N % 18446744073709551616 = l1 at *
    generalize M / 18446744073709551616 = x2 at *
    generalize M % 18446744073709551616 = l2 at *
    by_cases h2 : x1 = x2
    · have h3 : ¬ l1 < l2 := fun h => h1 (Or.inr ⟨h2, h⟩)
      have h4 : ¬ l1 = l2 := fun h => key ⟨h2, h⟩
      subst h2
      have t1 : decide (l1 < l2) = false := decide_eq_false h3
      have t2 : ((l1 : Int) == (l2 : Int)) = false := by rw [beq_eq_false_iff_ne]; omega
      clear h1 h3 h4 key
      go_enter Tryd.func124, Tryd.ntmps124
      go_wp2
      all_goals
        go_ret
        exact ⟨rfl, ((Below.refl _ _).alloc (Nat.le_refl _) _).alloc (by simp) _⟩
    · have h3 : ¬ x1 < x2 := fun h => h1 (Or.inl h)
      have t1 : decide (x1 < x2) = false := decide_eq_false h3
      have t2 : ((x1 : Int) == (x2 : Int)) = false := by rw [beq_eq_false_iff_ne]; omega
      clear h1 h2 h3 key
      go_enter Tryd.func124, Tryd.ntmps124
      go_wp2
      all_goals
        go_ret
        exact ⟨rfl, ((Below.refl _ _).alloc (Nat.le_refl _) _).alloc (by simp) _⟩

end Go.Proofs.YtcgceigmglikpaaDoor
