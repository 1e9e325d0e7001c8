/- The walks of vernierlaw09.finite and nan; what comes ahead of each law of layer 9. -/
import Derived.Test.YtcgceigmglikpaaDoorFusJ
import Derived.Test.YtcgceigmglikpaaDoorFusP
import Derived.Test.YtcgceigmglikpaaDoorRefO
import Derived.Test.YtcgceigmglikpaaDoorRises
namespace Go.Proofs.YtcgceigmglikpaaDoor
set_option linter.unusedVariables false
set_option linter.unusedSimpArgs false
open Go.RowKit

set_option maxRecDepth 100000 in
theorem lfinite_ok (n a : Nat) (w : World) (hn : n < 4) (ha : a < 2 ^ (fm n).w) :
    Calls Tryd.prog 37 #[.int .i64 n, .int .u64 a] w fun e w' => e = .returned (.bool (decide ((fm n).abs a < (fm n).inf))) ∧ Below w.heap.size w w' := by
  have ho := ropen_ok n a w hn ha
  unfold OpenV at ho
  have hr : (!(fm n).isNan a && !(fm n).isInf a) = decide ((fm n).abs a < (fm n).inf) := by
    unfold Fm.isNan Fm.isInf
    rw [Bool.eq_iff_iff]
    simp
    omega
  rw [← hr]
  have Ho := Lib.hid ho
  clear ho hr hn ha
  generalize (fm n).isNan a = p at *
  generalize (fm n).isInf a = q at *
  generalize (fm n).isSig a = s1 at *
  generalize (fm n).neg a = s2 at *
  generalize (opD (fm n) a).s = s3 at *
  generalize (opD (fm n) a).e = s4 at *
  generalize (opD (fm n) a).n = s5 at *
  cases p
  · cases q
    all_goals
      go_enter Tryd.func37, Tryd.ntmps37
      go_wp2_with fail
      refine Ho.out.mono ?_
      rintro _ w1 ⟨v, rfl, V, rfl, hrd, hb⟩
      obtain ⟨A3, c3, rfl, -⟩ := hrd.form
      have HB := Lib.hid hb
      clear hb hrd Ho
      go_wp2_with fail
      go_ret
      exact ⟨by simp, below_alloc' HB.out _⟩
  · go_enter Tryd.func37, Tryd.ntmps37
    go_wp2_with fail
    refine Ho.out.mono ?_
    rintro _ w1 ⟨v, rfl, V, rfl, hrd, hb⟩
    obtain ⟨A3, c3, rfl, -⟩ := hrd.form
    have HB := Lib.hid hb
    clear hb hrd Ho
    go_wp2_with fail
    go_ret
    exact ⟨by simp, below_alloc' HB.out _⟩

set_option maxRecDepth 100000 in
theorem lnan_ok (n a : Nat) (w : World) (hn : n < 4) (ha : a < 2 ^ (fm n).w) :
    Calls Tryd.prog 44 #[.int .i64 n, .int .u64 a] w fun e w' => e = .returned (.bool ((fm n).isNan a)) ∧ Below w.heap.size w w' := by
  have ho := ropen_ok n a w hn ha
  unfold OpenV at ho
  have Ho := Lib.hid ho
  clear ho hn ha
  generalize (fm n).isNan a = p at *
  generalize (fm n).isInf a = q at *
  generalize (fm n).isSig a = s1 at *
  generalize (fm n).neg a = s2 at *
  generalize (opD (fm n) a).s = s3 at *
  generalize (opD (fm n) a).e = s4 at *
  generalize (opD (fm n) a).n = s5 at *
  go_enter Tryd.func44, Tryd.ntmps44
  go_wp2_with fail
  refine Ho.out.mono ?_
  rintro _ w1 ⟨v, rfl, V, rfl, hrd, hb⟩
  obtain ⟨A3, c3, rfl, -⟩ := hrd.form
  have HB := Lib.hid hb
  clear hb hrd Ho
  have hfl : (Instr.field 85 (.agg #[.bool p, .bool s1, .bool q, .bool s2, .bool s3, .slice A3 (nd 32 s5) c3, .int .i64 s4]) 0).run Tryd.prog w1 = .ok (.bool p) w1 := by
    with_unfolding_all rfl
  go_wp2_with fail
  go_ret
  exact ⟨rfl, HB.out⟩

theorem lrank_ok (n a : Nat) (w : World) (hn : n < 4) (ha : a < 2 ^ (fm n).w) : Calls Tryd.prog 42 #[.int .i64 n, .int .u64 a] w fun e w' => e = .returned (.int .i64 (rankZ (fm n) a)) ∧ Below w.heap.size w w' :=
  (rank_ok n a w hn ha).mono fun e w' ⟨h1, h2⟩ => ⟨h1, h2 ▸ Below.refl _ _⟩

section
variable {F : Fm}
theorem fmaZ (ok : F.Ok) (m a b c : Nat) : fmaS F m a b c = fuseZ F m (prodZ F a b) (oneZ F c) := fma_z ok m a b c
theorem dotZ (ok : F.Ok) (m a b c d : Nat) : dot2S F m a b c d = fuseZ F m (prodZ F a b) (prodZ F c d) := dot_z ok m a b c d

theorem rndZ_lt (ok : F.Ok) (m : Nat) (z L : Int) (h : z ≠ 0) : (rndZ F m z L).1 < 2 ^ F.w := by
  unfold rndZ
  obtain ⟨h1, h2⟩ := cut_lt ok m (decide (z < 0)) z.natAbs L false (by omega)
  have h3 := sg_lt ok (decide (z < 0))
  have h4 := w_two ok
  omega

theorem fuseZ_lt (ok : F.Ok) (m : Nat) (x y : Qt) : (fuseZ F m x y).1 < 2 ^ F.w ∧ ((fuseZ F m x y).2 = 0 ∨ (fuseZ F m x y).2 = 1 ∨ (fuseZ F m x y).2 = 16 ∨ (fuseZ F m x y).2 = 20 ∨ (fuseZ F m x y).2 = 24) := by
  have h1 := nan_lt ok
  have h2 := inf_lt ok
  have h3 := w_two ok
  have h4 := fun s => sg_lt ok s
  have h5 := pow_pos2 (F.w - 1)
  unfold fuseZ
  split
  · exact ⟨by show F.nan < _; omega, by simp⟩
  split
  · exact ⟨by show F.nan < _; omega, by simp⟩
  split
  · exact ⟨by show F.nan < _; omega, by simp⟩
  split
  · exact ⟨by have := h4 x.neg; show F.inf + F.sg x.neg < _; omega, by simp⟩
  split
  · exact ⟨by have := h4 y.neg; show F.inf + F.sg y.neg < _; omega, by simp⟩
  split
  · exact ⟨by have := h4 (if decide (x.z = 0) && decide (y.z = 0) && (x.neg == y.neg) then x.neg else m == 4); show F.sg _ < _; omega, by simp⟩
  · rename_i h
    refine ⟨rndZ_lt ok m _ _ h, ?_⟩
    have := into_flags F m (decide (x.z + y.z < 0)) (x.z + y.z).natAbs (-5000) false
    unfold rndZ
    omega
end

/-- the struct, brought into range -/
theorem four_start (f m : Int) (a b c d : Nat) (w : World) (hf : -9223372036854775808 ≤ f ∧ f ≤ 9223372036854775807) (hm : -9223372036854775808 ≤ m ∧ m ≤ 9223372036854775807) (ha : a < 18446744073709551616) (hb : b < 18446744073709551616) (hc : c < 18446744073709551616) (hd : d < 18446744073709551616) :
    Calls Tryd.prog 36 #[.agg (fourA f m a b c d)] w fun e w' => ∃ n k a' b' c' d' : Nat, (n < 4 ∧ k ≤ 5 ∧ a' < 2 ^ (fm n).w ∧ b' < 2 ^ (fm n).w ∧ c' < 2 ^ (fm n).w ∧ d' < 2 ^ (fm n).w) ∧ e = .returned (.agg (fourA n k a' b' c' d')) ∧ Below w.heap.size w w' :=
  (four_right f m a b c d w hf hm ha hb hc hd).mono fun e w' ⟨n, k, hn, hk, h, hb⟩ => ⟨n, k, _, _, _, _, ⟨hn, hk, Nat.mod_lt _ (pow_pos2 _), Nat.mod_lt _ (pow_pos2 _), Nat.mod_lt _ (pow_pos2 _), Nat.mod_lt _ (pow_pos2 _)⟩, h, hb⟩

theorem St.set6 {w w1 : World} {a0 a1 a2 a3 a4 a5 : Value} (h : St w.heap.size w w.heap.size #[a0, a1, a2, a3, a4, a5] w1) (hG : ∀ u : World, Below w.heap.size w u → Gl u) (hR : ∀ u : World, Below w.heap.size w u → GlR u) (x0 x1 x2 x3 x4 x5 : Value) :
    St w.heap.size w w.heap.size #[x0, x1, x2, x3, x4, x5] ((((((w1.setCell ⟨w.heap.size, 0, none⟩ x0).setCell ⟨w.heap.size, 1, none⟩ x1).setCell ⟨w.heap.size, 2, none⟩ x2).setCell ⟨w.heap.size, 3, none⟩ x3).setCell ⟨w.heap.size, 4, none⟩ x4).setCell ⟨w.heap.size, 5, none⟩ x5) :=
  have hb := below_set6 h.bl (Nat.le_refl _) x0 x1 x2 x3 x4 x5
  ⟨hb, hG _ hb, hR _ hb, h.bx.set6 x0 x1 x2 x3 x4 x5⟩

theorem St.put1 {w w1 : World} {a0 a1 a2 a3 a4 a5 : Value} (h : St w.heap.size w w.heap.size #[a0, a1, a2, a3, a4, a5] w1) (hG : ∀ u : World, Below w.heap.size w u → Gl u) (hR : ∀ u : World, Below w.heap.size w u → GlR u) (x : Value) :
    St w.heap.size w w.heap.size #[a0, x, a2, a3, a4, a5] (w1.setCell ⟨w.heap.size, 1, none⟩ x) :=
  have hb := h.bl.setCell (p := ⟨w.heap.size, 1, none⟩) (Nat.le_refl _) x
  ⟨hb, hG _ hb, hR _ hb, h.bx.put 1 x _ rfl⟩

end Go.Proofs.YtcgceigmglikpaaDoor
