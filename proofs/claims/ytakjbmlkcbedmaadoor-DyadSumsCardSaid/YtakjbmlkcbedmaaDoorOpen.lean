/- What comes in as an exact number: opened to words and a natural; the row's table. -/
import Derived.Lib.SmallJoins
import Derived.Deep.Slices
import Derived.SizedLaws
import Derived.Stop.Joined
import Derived.LaidMore
import Derived.Lay
import Derived.Test.YtakjbmlkcbedmaaDoorPackB
import Derived.Test.YtakjbmlkcbedmaaDoorRows
namespace Go.Proofs.YtakjbmlkcbedmaaDoor
set_option linter.unusedVariables false
open Go.RowKit Go.ChangeShapes Go.WideShapes Go.Deep Go.Joins

theorem build_num (f : Nat → Nat) (hf : ∀ j, f j < 2 ^ 64) : ∀ n, ∃ N, N < 2 ^ (64 * n) ∧ ∀ j, j < n → dg 64 N j = f j := by
  intro n
  induction n with
  | zero => exact ⟨0, by simp, fun j h => absurd h (Nat.not_lt_zero _)⟩
  | succ n ih =>
    obtain ⟨N, h1, h2⟩ := ih
    refine ⟨setDg 64 N n (f n), setDg_lt 64 N n (f n) (n + 1) (Nat.lt_of_lt_of_le h1 (Nat.pow_le_pow_right (by decide) (by omega))) (by omega) (hf n), fun j hj => ?_⟩
    rcases Nat.lt_or_ge j n with h | h
    · rw [dg_setDg_other 64 N n j (f n) (hf n) (by omega)]; exact h2 j h
    · obtain rfl : j = n := by omega
      exact dg_setDg_same 64 N j (f j) (hf j)

/-- a slice of words that came in -/
theorem open_words {H : Type} {enc : TypeId × Value → H} {W : World} {fuel : Nat} {v : Value} {x : DataW H × List MemPlace} (h : DataW.trod enc Tryd.prog W 0 (fun _ => true) true fuel 24 [v] = some x)
    (hw : ∀ m ∈ x.1.weights Tryd.prog 24, m ≤ reachBytes) (hlt : ∀ p ∈ x.2, p.block < W.heap.size) :
    ∃ A n c N, v = .slice A n c ∧ Rd 64 W (.slice A n c) N n ∧ (A = none → c = 0) := by
  rcases open_slice Tryd.underlying24 h with ⟨e, rfl⟩ | ⟨a, len, cap, m, n, D, Pl, e, _, hl, _, hm, rfl, hi⟩
  · injection e with e
    exact ⟨none, 0, 0, 0, e, Rd.none_, fun _ => rfl⟩
  · injection e with e
    simp only [if_true] at hm
    obtain rfl := hm
    have hb : Tryd.prog.bytesOf 42 = 8 := by kernel_rfl
    have hc1 : Tryd.prog.cellsOf 42 = 1 := by kernel_rfl
    have hw' : m * 8 ≤ reachBytes := by
      refine hw (m * 8) ?_
      simp only [DataW.weights, Tryd.underlying24, hb, List.length_map, List.length_range, List.mem_cons]
      exact Or.inl (by rw [show len + (m - len) = m from by omega])
    have hcap : m ≤ 35184372088832 := by unfold reachBytes at hw'; omega
    have hcell : ∀ i, i < m → ∃ z : Int, W.cell? (a.add i) = some (.int .u64 z) ∧ 0 ≤ z ∧ z < 18446744073709551616 := by
      intro i hi'
      obtain ⟨cs', h1, h2⟩ := hi i hi'
      rw [hc1] at h1
      simp only [Nat.mul_one] at h1
      obtain ⟨z, rfl, _, wz⟩ := DataW.trod_int Tryd.underlying42 h2
      obtain ⟨_, _, hat⟩ := World.cells?_some h1
      have h3 := hat 0 (by omega)
      simp only [Lit.wf, Bool.and_eq_true, decide_eq_true_eq] at wz
      have w1 := wz.1
      have w2 := wz.2
      rw [show IntKind.u64.min = 0 from by decide] at w1
      rw [show IntKind.u64.max = 18446744073709551615 from by decide] at w2
      refine ⟨z, ?_, by omega, by omega⟩
      rw [show (a.add i).add 0 = a.add i from rfl] at h3
      simpa using h3
    obtain ⟨b, o, ix⟩ := a
    have hix : 0 < m → ix = none := by
      intro h0
      obtain ⟨z, h1, _⟩ := hcell 0 h0
      cases ix with
      | none => rfl
      | some k =>
        exfalso
        unfold World.cell? Addr.add at h1
        simp only [if_true] at h1
        split at h1 <;> simp at h1
    have hcell' : ∀ i, i < m → ∃ z : Int, W.cell? ⟨b, o + i, none⟩ = some (.int .u64 z) ∧ 0 ≤ z ∧ z < 18446744073709551616 := by
      intro i hi'
      obtain ⟨z, h1, h2⟩ := hcell i hi'
      refine ⟨z, ?_, h2⟩
      rw [hix (by omega)] at h1
      unfold Addr.add at h1
      split at h1
      · rename_i h0; subst h0; exact h1
      · exact h1
    obtain ⟨N, hN1, hN2⟩ := build_num (fun j => match W.cell? ⟨b, o + j, none⟩ with | some (.int _ z) => z.toNat % 2 ^ 64 | _ => 0) (fun j => by
      show (match W.cell? ⟨b, o + j, none⟩ with | some (.int _ z) => z.toNat % 2 ^ 64 | _ => 0) < _
      split
      · exact Nat.mod_lt _ (by decide)
      · decide) len
    refine ⟨some ⟨b, o, ix⟩, len, m, N, e, ⟨_, m, rfl, hl, by omega, hN1, fun h0 => ⟨b, o, by rw [hix (by omega)], ?_, fun j hj => ?_⟩⟩, nofun⟩
    · have := hlt (.cell b (o + 0)) (by
        refine List.mem_append_left _ ?_
        rw [hc1]
        unfold MemPlace.row
        exact List.mem_map.2 ⟨0, List.mem_range.2 (by omega), rfl⟩)
      exact this
    · obtain ⟨z, h1, h2, h3⟩ := hcell' j (by omega)
      rw [hN2 j hj, h1]
      simp only
      congr 2
      omega

/-- an exact number that came in, as three cells -/
theorem open_dyad_cells {H : Type} {enc : TypeId × Value → H} {W : World} {fuel : Nat} {c0 c1 c2 : Value} {x : DataW H × List MemPlace} (h : DataW.trod enc Tryd.prog W 0 (fun _ => true) true fuel 26 [c0, c1, c2] = some x)
    (hw : ∀ m ∈ x.1.weights Tryd.prog 26, m ≤ reachBytes) (hlt : ∀ p ∈ x.2, p.block < W.heap.size) :
    ∃ s A n c e N, c0 = .bool s ∧ c1 = .slice A n c ∧ c2 = .int .i64 e ∧ Rd 64 W (.slice A n c) N n ∧ -9223372036854775808 ≤ e ∧ e ≤ 9223372036854775807 ∧ (A = none → c = 0) := by
  obtain ⟨y0, y1, y2, m, rfl, _, hy0, hy1, hy2⟩ := trod_struct3 Tryd.underlying26 h
  have k0 : Tryd.prog.cellsOf 4 = 1 := by kernel_rfl
  have k1 : Tryd.prog.cellsOf 24 = 1 := by kernel_rfl
  have k2 : Tryd.prog.cellsOf 3 = 1 := by kernel_rfl
  simp only [k0, k1, k2, List.drop_zero, List.drop_succ_cons, List.take_succ_cons, List.take_zero] at hy0 hy1 hy2
  obtain ⟨s, e0, rfl⟩ := DataW.trod_bool Tryd.underlying4 hy0
  obtain ⟨e, e2, rfl, we⟩ := DataW.trod_int Tryd.underlying3 hy2
  obtain ⟨A, n, c, N, rfl, hR, hA⟩ := open_words hy1 (fun m hm => hw m (by
    simp only [DataW.weights, Tryd.underlying26]
    show m ∈ DataW.weightsEach Tryd.prog [4, 24, 3] _
    simp only [DataW.weightsEach, List.mem_append]
    exact Or.inr (Or.inl hm))) (fun x hx => hlt x (List.mem_append_right _ (List.mem_append_left _ hx)))
  injection e0 with e0
  injection e2 with e2
  subst e0 e2
  simp only [Lit.wf, Bool.and_eq_true, decide_eq_true_eq] at we
  have w1 := we.1
  have w2 := we.2
  rw [show IntKind.i64.min = -9223372036854775808 from by decide] at w1
  rw [show IntKind.i64.max = 9223372036854775807 from by decide] at w2
  exact ⟨s, A, n, c, e, N, rfl, rfl, rfl, hR, by omega, by omega, hA⟩

/-- an exact number that came in -/
theorem open_dyad {H : Type} {enc : TypeId × Value → H} {W : World} {base : Nat} {v : Value} {d : DataW H} {p : List MemPlace} (hv : Value.okWide Tryd.prog W .any base 26 v) (h : DataW.Trod enc Tryd.prog W 0 (fun _ => true) true 26 v d p)
    (hw : ∀ m ∈ d.weights Tryd.prog 26, m ≤ reachBytes) (hlt : ∀ x ∈ p, x.block < W.heap.size) :
    ∃ s A n c e N, v = .agg #[.bool s, .slice A n c, .int .i64 e] ∧ Rd 64 W (.slice A n c) N n ∧ -9223372036854775808 ≤ e ∧ e ≤ 9223372036854775807 ∧ (A = none → c = 0) := by
  obtain ⟨c0, c1, c2, y0, y1, y2, m, rfl, rfl, rfl, hy0, hy1, hy2⟩ := open_agg3 Tryd.underlying26 (by kernel_rfl) (by kernel_rfl) hv h
  obtain ⟨s, e0, rfl⟩ := DataW.trod_bool Tryd.underlying4 hy0
  obtain ⟨e, e2, rfl, we⟩ := DataW.trod_int Tryd.underlying3 hy2
  obtain ⟨A, n, c, N, rfl, hR, hA⟩ := open_words hy1 (fun m hm => hw m (by
    simp only [DataW.weights, Tryd.underlying26]
    show m ∈ DataW.weightsEach Tryd.prog [4, 24, 3] _
    simp only [DataW.weightsEach, List.mem_append]
    exact Or.inr (Or.inl hm))) (fun x hx => hlt x (List.mem_append_right _ (List.mem_append_left _ hx)))
  injection e0 with e0
  injection e2 with e2
  subst e0 e2
  simp only [Lit.wf, Bool.and_eq_true, decide_eq_true_eq] at we
  have w1 := we.1
  have w2 := we.2
  rw [show IntKind.i64.min = -9223372036854775808 from by decide] at w1
  rw [show IntKind.i64.max = 9223372036854775807 from by decide] at w2
  exact ⟨s, A, n, c, e, N, rfl, hR, by omega, by omega, hA⟩

end Go.Proofs.YtakjbmlkcbedmaaDoor
