/- Layer 18: the program's call and the document's answer the same, in whatever format. -/
import Derived.Test.YtebmogdojpcmfaaRefE3
namespace Go.Proofs.Ytebmogdojpcmfaa
set_option linter.unusedVariables false
set_option linter.unusedSimpArgs false
open Go.RowKit

theorem sum_same (f : Int) (a b : Nat) (ha : a < 18446744073709551616) (hb : b < 18446744073709551616) : ∃ x : Nat × Nat × Int,
    (∀ w, Calls Try.prog 5 #[.int .i64 f, .int .u64 a, .int .u64 b] w fun e w' => e = .returned (tupE x) ∧ Below w.heap.size w w') ∧
    (∀ w, Calls Try.prog 6 #[.int .i64 f, .int .u64 a, .int .u64 b] w fun e w' => e = .returned (tupE x) ∧ Below w.heap.size w w') := by
  by_cases h2 : f = 2
  · subst h2; exact ⟨_, fun w => TwoSum_c2 a b w, fun w => TwoSum18_2 a b w ha hb⟩
  by_cases h3 : f = 3
  · subst h3; exact ⟨_, fun w => TwoSum_c3 a b w ha hb, fun w => TwoSum18_3 a b w ha hb⟩
  exact ⟨(0, 0, 2), fun w => TwoSum_bad f a b w h2 h3, fun w => TwoSum18_bad f a b w h2 h3⟩

theorem fast_same (f : Int) (a b : Nat) (ha : a < 18446744073709551616) (hb : b < 18446744073709551616) : ∃ x : Nat × Nat × Int,
    (∀ w, Calls Try.prog 7 #[.int .i64 f, .int .u64 a, .int .u64 b] w fun e w' => e = .returned (tupE x) ∧ Below w.heap.size w w') ∧
    (∀ w, Calls Try.prog 8 #[.int .i64 f, .int .u64 a, .int .u64 b] w fun e w' => e = .returned (tupE x) ∧ Below w.heap.size w w') := by
  by_cases h2 : f = 2
  · subst h2; exact ⟨_, fun w => FastTwoSum_c2 a b w, fun w => FastTwoSum18_2 a b w ha hb⟩
  by_cases h3 : f = 3
  · subst h3; exact ⟨_, fun w => FastTwoSum_c3 a b w ha hb, fun w => FastTwoSum18_3 a b w ha hb⟩
  exact ⟨(0, 0, 2), fun w => FastTwoSum_bad f a b w h2 h3, fun w => FastTwoSum18_bad f a b w h2 h3⟩

theorem split_same (f : Int) (a : Nat) (ha : a < 18446744073709551616) : ∃ x : Nat × Nat × Int,
    (∀ w, Calls Try.prog 9 #[.int .i64 f, .int .u64 a] w fun e w' => e = .returned (tupE x) ∧ Below w.heap.size w w') ∧
    (∀ w, Calls Try.prog 10 #[.int .i64 f, .int .u64 a] w fun e w' => e = .returned (tupE x) ∧ Below w.heap.size w w') := by
  by_cases h2 : f = 2
  · subst h2; exact ⟨_, fun w => Split_c2 a w, fun w => Split18_2 a w ha⟩
  by_cases h3 : f = 3
  · subst h3; exact ⟨_, fun w => Split_c3 a w ha, fun w => Split18_3 a w ha⟩
  exact ⟨(0, 0, 2), fun w => Split_bad f a w h2 h3, fun w => Split18_bad f a w h2 h3⟩

theorem prod_same (f : Int) (a b : Nat) (ha : a < 18446744073709551616) (hb : b < 18446744073709551616) : ∃ x : Nat × Nat × Int,
    (∀ w, Calls Try.prog 11 #[.int .i64 f, .int .u64 a, .int .u64 b] w fun e w' => e = .returned (tupE x) ∧ Below w.heap.size w w') ∧
    (∀ w, Calls Try.prog 12 #[.int .i64 f, .int .u64 a, .int .u64 b] w fun e w' => e = .returned (tupE x) ∧ Below w.heap.size w w') := by
  by_cases h2 : f = 2
  · subst h2; exact ⟨_, fun w => TwoProd_c2 a b w, fun w => TwoProd18_2 a b w ha hb⟩
  by_cases h3 : f = 3
  · subst h3; exact ⟨_, fun w => TwoProd_c3 a b w ha hb, fun w => TwoProd18_3 a b w ha hb⟩
  exact ⟨(0, 0, 2), fun w => TwoProd_bad f a b w h2 h3, fun w => TwoProd18_bad f a b w h2 h3⟩

end Go.Proofs.Ytebmogdojpcmfaa
