/- What comes in as a list of operations: opened. -/
import Derived.Lib.SmallJoins
import Derived.Deep.Slices
import Derived.SizedLaws
import Derived.Stop.Joined
import Derived.LaidMore
import Derived.Lay
import Derived.Test.YtebmogdojpcmfaaEAlls
import Derived.OpenShut
import Derived.Test.YtebmogdojpcmfaaRows
namespace Go.Proofs.Ytebmogdojpcmfaa
set_option linter.unusedVariables false
set_option linter.unusedSimpArgs false
open Go.RowKit Go.ChangeShapes Go.WideShapes Go.Joins Go.Deep

theorem list4 {l : List Value} (h : l.length = 4) : ∃ c0 c1 c2 c3, l = [c0, c1, c2, c3] := by
  match l, h with
  | [c0, c1, c2, c3], _ => exact ⟨c0, c1, c2, c3, rfl⟩

theorem trod_i64 {H : Type} {enc : TypeId × Value → H} {W : World} {fuel : Nat} {c : Value} {x : DataW H × List MemPlace} (h : DataW.trod enc Try.prog W 0 (fun _ => true) true fuel 3 [c] = some x) : ∃ z : Int, c = .int .i64 z := by
  obtain ⟨z, e, _, _⟩ := DataW.trod_int Try.underlying3 h
  injection e with e
  exact ⟨z, e⟩

theorem trod_u64 {H : Type} {enc : TypeId × Value → H} {W : World} {fuel : Nat} {c : Value} {x : DataW H × List MemPlace} (h : DataW.trod enc Try.prog W 0 (fun _ => true) true fuel 24 [c] = some x) : ∃ a : Nat, c = .int .u64 a ∧ a < 18446744073709551616 := by
  obtain ⟨z, e, _, wz⟩ := DataW.trod_int Try.underlying24 h
  injection e with e
  simp only [Lit.wf, Bool.and_eq_true, decide_eq_true_eq] at wz
  rw [show IntKind.u64.min = 0 from by decide, show IntKind.u64.max = 18446744073709551615 from by decide] at wz
  refine ⟨z.toNat, ?_, by omega⟩
  rw [e, Int.toNat_of_nonneg wz.1]

set_option maxRecDepth 100000 in
theorem open_op4 {H : Type} {enc : TypeId × Value → H} {W : World} {fuel : Nat} {cs : List Value} {x : DataW H × List MemPlace} (h : DataW.trod enc Try.prog W 0 (fun _ => true) true fuel 26 cs = some x) :
    ∃ (kd f : Int) (a c : Nat), cs = [.int .i64 kd, .int .i64 f, .int .u64 a, .int .u64 c] ∧ a < 18446744073709551616 ∧ c < 18446744073709551616 := by
  obtain ⟨xs, n, rfl, _, hlen, hx, hg⟩ := DataW.trod_struct Try.underlying26 h
  have hc4 : Try.prog.cellsOf 26 = 4 := by kernel_rfl
  have k1 : Try.prog.cellsOf 3 = 1 := by kernel_rfl
  have k2 : Try.prog.cellsOf 24 = 1 := by kernel_rfl
  rw [hc4] at hlen
  obtain ⟨c0, c1, c2, c3, rfl⟩ := list4 hlen
  have hx4 : xs.length = 4 := hx
  match xs, hx4 with
  | [y0, y1, y2, y3], _ =>
    have h0 := hg 0 _ rfl
    have h1 := hg 1 _ rfl
    have h2 := hg 2 _ rfl
    have h3 := hg 3 _ rfl
    simp only [k1, k2, List.drop_zero, List.drop_succ_cons, List.take_succ_cons, List.take_zero, List.getElem?_cons_zero, List.getElem?_cons_succ] at h0 h1 h2 h3
    obtain ⟨kd, rfl⟩ := trod_i64 h0
    obtain ⟨f, rfl⟩ := trod_i64 h1
    obtain ⟨a, rfl, la⟩ := trod_u64 h2
    obtain ⟨c, rfl, lc⟩ := trod_u64 h3
    exact ⟨kd, f, a, c, rfl, la, lc⟩

set_option maxRecDepth 100000 in
theorem open_ops4 {H : Type} {enc : TypeId × Value → H} {W : World} {base : Nat} {v : Value} {d : DataW H} {p : List MemPlace} (hv : Value.okWide Try.prog W .any base 22 v) (h : DataW.Trod enc Try.prog W 0 (fun _ => true) true 22 v d p) (hlt : ∀ x ∈ p, x.block < W.heap.size) :
    ∃ A n c, v = .slice A n c ∧ n ≤ 9223372036854775807 ∧ (0 < n → ∃ b o, A = some ⟨b, o, none⟩ ∧ b < W.heap.size ∧ ∀ j, j < n → EOpAt W b o j) := by
  obtain ⟨A, len, cap, rfl⟩ := okWide_slice Try.underlying22 hv
  obtain ⟨fuel, hf⟩ := h
  have hc4 : Try.prog.cellsOf 26 = 4 := by kernel_rfl
  rcases open_slice Try.underlying22 hf with ⟨e, _⟩ | ⟨a, len', cap', m, n, D, Pl, e, _, hl, hcm, hm, hdp, hi⟩
  · have e' : Value.slice A len cap = .slice none 0 0 := by simpa [Value.cells] using e
    injection e' with e1 e2 e3
    subst e1 e2 e3
    exact ⟨none, 0, 0, rfl, Nat.zero_le _, fun h => absurd h (Nat.lt_irrefl _)⟩
  · have e' : Value.slice A len cap = .slice (some a) len' cap' := by simpa [Value.cells] using e
    injection e' with e1 e2 e3
    subst e1 e2 e3
    injection hdp with _ hp
    subst hp
    simp only [if_true] at hm
    obtain rfl := hm
    refine ⟨_, _, _, rfl, (show maxLen = 9223372036854775807 from by decide) ▸ (Nat.le_trans hl hcm), fun h0 => ?_⟩
    rw [hc4] at hi
    obtain ⟨b, o, ix⟩ := a
    have each : ∀ j, j < m → ∃ (kd f : Int) (a c' : Nat), (a < 18446744073709551616 ∧ c' < 18446744073709551616) ∧
        ∀ t (v : Value), [Value.int .i64 kd, .int .i64 f, .int .u64 a, .int .u64 c'][t]? = some v → W.cell? (((⟨b, o, ix⟩ : Addr).add (j * 4)).add t) = some v := by
      intro j hj
      obtain ⟨cs', h1, h2⟩ := hi j hj
      obtain ⟨kd, f, a, c', rfl, la, lc⟩ := open_op4 h2
      obtain ⟨_, _, hat⟩ := World.cells?_some h1
      refine ⟨kd, f, a, c', ⟨la, lc⟩, fun t v ht => ?_⟩
      have htl : t < 4 := by
        have := List.getElem?_eq_some_iff.1 ht
        obtain ⟨h, _⟩ := this
        simpa using h
      rw [hat t htl, ht]
    have hix : ix = none := by
      obtain ⟨kd, f, a, c', _, hv⟩ := each 0 (by omega)
      have h1 := hv 0 _ rfl
      cases ix with
      | none => rfl
      | some k =>
        exfalso
        unfold World.cell? Addr.add at h1
        simp only [Nat.zero_mul, if_true] at h1
        split at h1 <;> simp at h1
    subst hix
    have hadd : ∀ k t : Nat, ((⟨b, o, none⟩ : Addr).add k).add t = ⟨b, o + k + t, none⟩ := by
      intro k t
      unfold Addr.add
      split <;> split <;> simp_all
    refine ⟨b, o, rfl, ?_, fun j hj => ?_⟩
    · have := hlt (.cell b (o + 0)) (by
        refine List.mem_append_left _ ?_
        rw [hc4]
        unfold MemPlace.row
        exact List.mem_map.2 ⟨0, List.mem_range.2 (by omega), rfl⟩)
      exact this
    · obtain ⟨kd, f, a, c', hr, hv⟩ := each j (by omega)
      have key := fun t v h => (congrArg W.cell? (hadd (j * 4) t)).symm.trans (hv t v h)
      exact ⟨kd, f, a, c', hr, key 0 _ rfl, key 1 _ rfl, key 2 _ rfl, key 3 _ rfl⟩

end Go.Proofs.Ytebmogdojpcmfaa
