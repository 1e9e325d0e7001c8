/- What comes in as a list of exact numbers: opened. -/
import Derived.Test.YtakjbmlkcbedmaaDoorDOpen
import Derived.Test.YtakjbmlkcbedmaaDoorDSums
namespace Go.Proofs.YtakjbmlkcbedmaaDoor
set_option linter.unusedVariables false
set_option linter.unusedSimpArgs false
open Go.RowKit Go.ChangeShapes Go.WideShapes Go.Joins Go.Deep

theorem list3 {l : List Value} (h : l.length = 3) : ∃ c0 c1 c2, l = [c0, c1, c2] := by
  match l, h with
  | [c0, c1, c2], _ => exact ⟨c0, c1, c2, rfl⟩

set_option maxRecDepth 100000 in
theorem open_dyads {H : Type} {enc : TypeId × Value → H} {W : World} {base : Nat} {v : Value} {d : DataW H} {p : List MemPlace} (hv : Value.okWide Tryd.prog W .any base 31 v) (h : DataW.Trod enc Tryd.prog W 0 (fun _ => true) true 31 v d p)
    (hw : ∀ m ∈ d.weights Tryd.prog 31, m ≤ reachBytes) (hlt : ∀ x ∈ p, x.block < W.heap.size) :
    ∃ A n c, v = .slice A n c ∧ n * 40 ≤ 140737488355328 ∧ ∃ f : Nat → Nat × D, 0 < n → ∃ b o, A = some ⟨b, o, none⟩ ∧ b < W.heap.size ∧ ∀ j, j < n → InD W b o j (f j) := by
  obtain ⟨A, len, cap, rfl⟩ := okWide_slice Tryd.underlying31 hv
  obtain ⟨fuel, hf⟩ := h
  have hc3 : Tryd.prog.cellsOf 26 = 3 := by kernel_rfl
  have hb40 : Tryd.prog.bytesOf 26 = 40 := by kernel_rfl
  rcases open_slice Tryd.underlying31 hf with ⟨e, _⟩ | ⟨a, len', cap', m, n, DD, Pl, e, _, hl, hcm, hm, hdp, hi⟩
  · have e' : Value.slice A len cap = .slice none 0 0 := by simpa [Value.cells] using e
    injection e' with e1 e2 e3
    subst e1 e2 e3
    exact ⟨none, 0, 0, rfl, by omega, fun _ => (0, D.zero), fun h => absurd h (Nat.lt_irrefl _)⟩
  · have e' : Value.slice A len cap = .slice (some a) len' cap' := by simpa [Value.cells] using e
    injection e' with e1 e2 e3
    subst e1 e2 e3
    injection hdp with hd hp
    subst hp hd
    simp only [if_true] at hm
    obtain rfl := hm
    have hlen : len * 40 ≤ 140737488355328 := by
      have hw' : m * 40 ≤ reachBytes := by
        refine hw (m * 40) ?_
        simp only [DataW.weights, Tryd.underlying31, hb40, List.length_map, List.length_range, List.mem_cons]
        exact Or.inl (by rw [show len + (m - len) = m from by omega])
      unfold reachBytes at hw'
      omega
    refine ⟨_, _, _, rfl, hlen, ?_⟩
    rw [hc3] at hi hlt
    obtain ⟨b, o, ix⟩ := a
    have hwj : ∀ j, j < len → ∀ q ∈ (DD j).weights Tryd.prog 26, q ≤ reachBytes := by
      intro j hj q hq
      refine hw q ?_
      simp only [DataW.weights, Tryd.underlying31, List.mem_cons, List.mem_append]
      refine Or.inr ?_
      first
        | exact Or.inl (weights_all (List.mem_map.2 ⟨j, List.mem_range.2 hj, rfl⟩) q hq)
        | exact weights_all (List.mem_append_left _ (List.mem_map.2 ⟨j, List.mem_range.2 hj, rfl⟩)) q hq
    have hpj : ∀ j, j < m → ∀ q ∈ Pl j, q.block < W.heap.size := fun j hj q hq => hlt q (List.mem_append_right _ (List.mem_flatMap.2 ⟨j, List.mem_range.2 hj, hq⟩))
    have each : ∀ j, j < len → ∃ x : Nat × D, ∃ A c, (∀ t (v : Value), [Value.bool x.2.s, .slice A x.1 c, .int .i64 x.2.e][t]? = some v → W.cell? (((⟨b, o, ix⟩ : Addr).add (j * 3)).add t) = some v) ∧ Rd 64 W (.slice A x.1 c) x.2.n x.1 ∧ (A = none → c = 0) ∧ x.1 + 3 ≤ 17592186044416 := by
      intro j hj
      obtain ⟨cs', h1, h2⟩ := hi j (by omega)
      obtain ⟨_, hcl, hat⟩ := World.cells?_some h1
      obtain ⟨c0, c1, c2, rfl⟩ := list3 hcl
      obtain ⟨s, A, n1, c, e1, N, rfl, rfl, rfl, r, _, _, a1, b1⟩ := open_dyad3 h2 (hwj j hj) (hpj j (by omega))
      refine ⟨(n1, ⟨s, N, e1⟩), A, c, fun t v ht => ?_, r, a1, b1⟩
      have htl : t < 3 := by
        obtain ⟨h, _⟩ := List.getElem?_eq_some_iff.1 ht
        simpa using h
      rw [hat t htl, ht]
    have hadd : ∀ k t : Nat, ((⟨b, o, none⟩ : Addr).add k).add t = ⟨b, o + k + t, none⟩ := by
      intro k t
      unfold Addr.add
      split <;> split <;> simp_all
    refine ⟨fun j => if h : j < len then Classical.choose (each j h) else (0, D.zero), fun h0 => ?_⟩
    have hix : ix = none := by
      obtain ⟨x, A, c, hv, _⟩ := each 0 (by omega)
      have h1 := hv 0 _ rfl
      cases ix with
      | none => rfl
      | some k =>
        exfalso
        unfold World.cell? Addr.add at h1
        simp only [Nat.zero_mul, if_true] at h1
        split at h1 <;> simp at h1
    subst hix
    refine ⟨b, o, rfl, ?_, fun j hj => ?_⟩
    · have := hlt (.cell b (o + 0)) (by
        refine List.mem_append_left _ ?_
        unfold MemPlace.row
        exact List.mem_map.2 ⟨0, List.mem_range.2 (by omega), rfl⟩)
      exact this
    · simp only [dif_pos hj]
      obtain ⟨A, c, hv, hr⟩ := Classical.choose_spec (each j hj)
      have key := fun t v h => (congrArg W.cell? (hadd (j * 3) t)).symm.trans (hv t v h)
      exact ⟨A, c, ⟨key 0 _ rfl, key 1 _ rfl, key 2 _ rfl⟩, hr⟩

end Go.Proofs.YtakjbmlkcbedmaaDoor
