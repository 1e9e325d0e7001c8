/- The walk of EftMachine. -/
import Derived.Test.YtlibhfojfonfjaaGreatDoorFltF
namespace Go.Proofs.YtlibhfojfonfjaaGreatDoor
set_option linter.unusedVariables false
open Go.RowKit

theorem sum_awake {e : Int} {x y : Nat} (h : SumAns .f32 (1065353216 % 4294967296) (864026624 % 4294967296) (err2 1065353216 864026624) e x y) : e = 0 ∧ x = 1065353216 ∧ y = 864026624 := by
  have he : err2 1065353216 864026624 = 0 := by decide +kernel
  rcases h with ⟨h1, h2⟩ | ⟨_, s, t, u, v, z, r, hS, h3⟩
  · rw [he] at h2
    exact absurd h2 h1
  · obtain ⟨f1, f2, f3, f4, f5, f6⟩ := hS
    have e1 : s = 1065353216 := f1.some (by decide +kernel)
    subst e1
    have e2 : t = 0 := f2.some (by decide +kernel)
    subst e2
    have e3 : u = 1065353216 := f3.some (by decide +kernel)
    subst e3
    have e4 : v = 864026624 := f4.some (by decide +kernel)
    subst e4
    have e5 : z = 0 := f5.some (by decide +kernel)
    subst e5
    have e6 : r = 864026624 := f6.some (by decide +kernel)
    subst e6
    rcases h3 with ⟨_, rfl, rfl, rfl⟩ | ⟨h4, _⟩
    · exact ⟨rfl, rfl, rfl⟩
    · exact absurd h4 (by decide +kernel)

theorem prod_awake {e : Int} {x y : Nat} (h : ProdAns .f32 1166018560 218103808 (1065353217 % 4294967296) (1065353217 % 4294967296) (err2 1065353217 1065353217) e x y) : e = 0 ∧ x = 1065353218 ∧ y = 679477248 := by
  have he : err2 1065353217 1065353217 = 0 := by decide +kernel
  rcases h with ⟨h1, h2⟩ | ⟨_, p, r, ok, ⟨fp, c, d, h, l, ⟨f1, f2, f3, f4⟩, hR⟩, h3⟩
  · rw [he] at h2
    exact absurd h2 h1
  · have ep : p = 1065353218 := fp.some (by decide +kernel)
    subst ep
    have e1 : c = 1166018561 := f1.some (by decide +kernel)
    subst e1
    have e2 : d = 1166016513 := f2.some (by decide +kernel)
    subst e2
    have e3 : h = 1065353216 := f3.some (by decide +kernel)
    subst e3
    have e4 : l = 872415232 := f4.some (by decide +kernel)
    subst e4
    rcases hR with ⟨hb, _⟩ | ⟨_, c', d', i, j, ⟨g1, g2, g3, g4⟩, hR⟩
    · exact absurd hb (by decide +kernel)
    have e1 : c' = 1166018561 := g1.some (by decide +kernel)
    subst e1
    have e2 : d' = 1166016513 := g2.some (by decide +kernel)
    subst e2
    have e3 : i = 1065353216 := g3.some (by decide +kernel)
    subst e3
    have e4 : j = 872415232 := g4.some (by decide +kernel)
    subst e4
    rcases hR with ⟨hb, _⟩ | ⟨_, g, hj, li, lj, v, x', y', ⟨k1, k2, k3, k4, k5, k6, k7, k8⟩, hok⟩
    · exact absurd hb (by decide +kernel)
    have e1 : g = 1065353216 := k1.some (by decide +kernel)
    subst e1
    have e2 : hj = 872415232 := k2.some (by decide +kernel)
    subst e2
    have e3 : li = 872415232 := k3.some (by decide +kernel)
    subst e3
    have e4 : lj = 679477248 := k4.some (by decide +kernel)
    subst e4
    have e5 : v = 3028287488 := k5.some (by decide +kernel)
    subst e5
    have e6 : x' = 3019898880 := k6.some (by decide +kernel)
    subst e6
    have e7 : y' = 0 := k7.some (by decide +kernel)
    subst e7
    have e8 : r = 679477248 := k8.some (by decide +kernel)
    subst e8
    have hok' : ok = true := by rw [hok]; decide +kernel
    rcases h3 with ⟨_, rfl, rfl, rfl⟩ | ⟨h4, _⟩
    · exact ⟨rfl, rfl, rfl⟩
    · rw [hok'] at h4; cases h4

/-- where TwoSum answers, its steps are the machine's -/
theorem sum_machine {a b : Nat} {er : Int} {x y : Nat} (h : SumAns .f64 a b er 0 x y) : ∃ t u v z, floatBits .add .f64 a b = some x ∧ floatBits .sub .f64 x a = some t ∧ floatBits .sub .f64 x t = some u ∧ floatBits .sub .f64 b t = some v ∧ floatBits .sub .f64 a u = some z ∧ floatBits .add .f64 z v = some y := by
  rcases h with ⟨h1, _⟩ | ⟨_, s, t, u, v, z, r, ⟨f1, f2, f3, f4, f5, f6⟩, h3⟩
  · exact absurd rfl h1
  · rcases h3 with ⟨hf, _, rfl, rfl⟩ | ⟨_, h4⟩
    · simp only [List.all_cons, List.all_nil, Bool.and_true, Bool.and_eq_true] at hf
      obtain ⟨a1, a2, a3, a4, a5, a6⟩ := hf
      exact ⟨t, u, v, z, f1.fin a1, f2.fin a2, f3.fin a3, f4.fin a4, f5.fin a5, f6.fin a6⟩
    · cases h4

theorem prod_machine {q least a b : Nat} {er : Int} {x y : Nat} (h : ProdAns .f64 q least a b er 0 x y) : ∃ p, floatBits .mul .f64 a b = some p ∧ x = p := by
  rcases h with ⟨h1, _⟩ | ⟨_, p, r, ok, ⟨fp, c, d, h, l, _, hR⟩, h3⟩
  · exact absurd rfl h1
  · rcases h3 with ⟨rfl, _, rfl, rfl⟩ | ⟨_, h4⟩
    · rcases hR with ⟨_, hb⟩ | ⟨_, c', d', i, j, _, hR⟩
      · cases hb
      · rcases hR with ⟨_, hb⟩ | ⟨_, g, hj, li, lj, v, x', y', _, hok⟩
        · cases hb
        · have hok := hok.symm
          simp only [List.all_cons, Bool.and_eq_true] at hok
          exact ⟨x, fp.fin hok.1.1, rfl⟩
    · cases h4

theorem awakeE_any (w : World) : Calls Tryz.prog 4 #[] w fun e w' => e = .returned (.bool true) ∧ Below w.heap.size w w' := by
  go_enter Tryz.func4, Tryz.ntmps4
  go_wp2_with fail
  refine (TwoSum_two 1065353216 864026624 w).mono ?_
  rintro _ w1 ⟨e1, x1, y1, rfl, hb1, hA1⟩
  obtain ⟨rfl, rfl, rfl⟩ := sum_awake hA1
  rw [show ansB 0 1065353216 864026624 = .tuple #[.int .u64 1065353216, .int .u64 864026624, .int .i64 0] from rfl]
  clear hA1
  go_wp2_with fail
  refine (TwoProd_two 1065353217 1065353217 w1).mono ?_
  rintro _ w2 ⟨e2, x2, y2, rfl, hb2, hA2⟩
  obtain ⟨rfl, rfl, rfl⟩ := prod_awake hA2
  rw [show ansB 0 1065353218 679477248 = .tuple #[.int .u64 1065353218, .int .u64 679477248, .int .i64 0] from rfl]
  clear hA2
  go_wp2
  go_ret
  exact ⟨rfl, hb1.trans (hb2.mono hb1.size)⟩

end Go.Proofs.YtlibhfojfonfjaaGreatDoor
