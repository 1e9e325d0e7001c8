/- The walks of vernierlaw09's small functions. -/
import Derived.Test.YtdbfkfbncmbfcaaGreatDoorFusE
namespace Go.Proofs.YtdbfkfbncmbfcaaGreatDoor
set_option linter.unusedVariables false
open Go.RowKit

theorem awake_one : fmaS (fm 2) 0 1065353217 1065353217 3212836866 = (679477248, 0) := by decide +kernel
theorem awake_two : dot2S (fm 2) 4 1065353216 1065353216 3212836864 1065353216 = (2147483648, 0) := by decide +kernel

set_option maxRecDepth 100000 in
theorem fawake_any (w : World) (hG : Gl w) (hR : GlR w) : Calls Tryz.prog 5 #[] w fun e w' => e = .returned (.bool true) ∧ Below w.heap.size w w' := by
  have h1 := fun wx h1 h2 => Fma_ok 2 0 1065353217 1065353217 3212836866 wx (by decide) (by decide) (by decide) (by decide) (by decide) h1 h2
  have h2 := fun wx h1 h2 => Dot2_ok 2 4 1065353216 1065353216 3212836864 1065353216 wx (by decide) (by decide) (by decide) (by decide) (by decide) (by decide) h1 h2
  rw [awake_one] at h1
  rw [awake_two] at h2
  have H1 := Lib.hid h1
  have H2 := Lib.hid h2
  have HG := Lib.hid hG
  have HR := Lib.hid hR
  clear h1 h2 hG hR
  go_enter Tryz.func5, Tryz.ntmps5
  go_wp2_with fail
  refine (H1.out w HG.out HR.out).mono ?_
  rintro _ w1 ⟨rfl, hb1⟩
  have HB := Lib.hid hb1
  replace HG := Lib.hid (HG.out.below hb1)
  replace HR := Lib.hid (HR.out.below hb1)
  clear hb1 H1
  go_wp2_with fail
  refine (H2.out w1 HG.out HR.out).mono ?_
  rintro _ w2 ⟨rfl, hb2⟩
  replace HB := Lib.hid (keep_belowB HB.out hb2 (Nat.le_refl _))
  clear hb2 H2
  go_wp2_with fail
  go_ret
  exact ⟨by simp, HB.out⟩

theorem rparams_ok (f : Nat) (w : World) (hf : f < 4) : Calls Tryz.prog 77 #[.int .i64 f] w fun e w' => e = .returned (.tuple #[.int .i64 (fm f).w, .int .i64 (fm f).p, .int .i64 (fm f).emin]) ∧ w = w' := by
  have h4 : f = 0 ∨ f = 1 ∨ f = 2 ∨ f = 3 := by omega
  rcases h4 with rfl | rfl | rfl | rfl
  all_goals
    go_enter Tryz.func77, Tryz.ntmps77
    go_wp2
  · refine bodyPost_ret (v := .tuple #[.int .i64 16, .int .i64 11, .int .i64 (-14)]) (by simp [results, Tryz.results77, go_sem]) rfl ⟨rfl, rfl⟩
  · refine bodyPost_ret (v := .tuple #[.int .i64 16, .int .i64 8, .int .i64 (-126)]) (by simp [results, Tryz.results77, go_sem]) rfl ⟨rfl, rfl⟩
  · refine bodyPost_ret (v := .tuple #[.int .i64 32, .int .i64 24, .int .i64 (-126)]) (by simp [results, Tryz.results77, go_sem]) rfl ⟨rfl, rfl⟩
  · refine bodyPost_ret (v := .tuple #[.int .i64 64, .int .i64 53, .int .i64 (-1022)]) (by simp [results, Tryz.results77, go_sem]) rfl ⟨rfl, rfl⟩

theorem tmod_key (n : Int) (k : Nat) (hk : k = 4 ∨ k = 6) : (wrap64 (n.tmod k + k)).tmod k = n % (k : Int) := by
  have h1 : n.tmod k = if 0 ≤ n then n % (k : Int) else -((-n) % (k : Int)) := by
    split
    · rename_i h; exact Int.tmod_eq_emod_of_nonneg h
    · rename_i h
      have e : n = -(-n) := by omega
      rw [e, Int.neg_tmod, Int.tmod_eq_emod_of_nonneg (by omega)]
      simp
  have h2 : 0 < n.tmod k + k ∧ n.tmod k + k < 12 := by
    rw [h1]
    rcases hk with rfl | rfl <;> split <;> omega
  have h3 : wrap64 (n.tmod k + k) = n.tmod k + k := by
    unfold wrap64
    omega
  rw [h3, Int.tmod_eq_emod_of_nonneg (by omega), h1]
  rcases hk with rfl | rfl <;> split <;> omega


end Go.Proofs.YtdbfkfbncmbfcaaGreatDoor
