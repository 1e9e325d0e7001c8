/- What comes in as a list of calls of exact numbers: opened. -/
import Derived.Lib.SmallJoins
import Derived.Deep.Slices
import Derived.SizedLaws
import Derived.Stop.Joined
import Derived.LaidMore
import Derived.Lay
import Derived.OpenShut
import Derived.Test.YtakjbmlkcbedmaaDoorOpen
namespace Go.Proofs.YtakjbmlkcbedmaaDoor
set_option linter.unusedVariables false
set_option linter.unusedSimpArgs false
open Go.RowKit Go.ChangeShapes Go.WideShapes Go.Joins Go.Deep

/-- how long a list of words may be that came in -/
theorem words_len {H : Type} {enc : TypeId × Value → H} {W : World} {fuel : Nat} {A : Option Addr} {n c : Nat} {x : DataW H × List MemPlace} (h : DataW.trod enc Tryd.prog W 0 (fun _ => true) true fuel 24 [.slice A n c] = some x)
    (hw : ∀ m ∈ x.1.weights Tryd.prog 24, m ≤ reachBytes) : n + 3 ≤ 17592186044416 := by
  rcases open_slice Tryd.underlying24 h with ⟨e, rfl⟩ | ⟨a, len, cap, m, q, D, Pl, e, _, hl, _, hm, rfl, hi⟩
  · injection e with e
    injection e with e1 e2 e3
    omega
  · injection e with e
    injection e with e1 e2 e3
    subst e2
    simp only [if_true] at hm
    obtain rfl := hm
    have hb : Tryd.prog.bytesOf 42 = 8 := by kernel_rfl
    have hw' : m * 8 ≤ reachBytes := by
      refine hw (m * 8) ?_
      simp only [DataW.weights, Tryd.underlying24, hb, List.length_map, List.length_range, List.mem_cons]
      exact Or.inl (by rw [show n + (m - n) = m from by omega])
    unfold reachBytes at hw'
    omega

/-- an exact number that came in, as three cells -/
theorem open_dyad3 {H : Type} {enc : TypeId × Value → H} {W : World} {fuel : Nat} {c0 c1 c2 : Value} {x : DataW H × List MemPlace} (h : DataW.trod enc Tryd.prog W 0 (fun _ => true) true fuel 26 [c0, c1, c2] = some x)
    (hw : ∀ m ∈ x.1.weights Tryd.prog 26, m ≤ reachBytes) (hlt : ∀ p ∈ x.2, p.block < W.heap.size) :
    ∃ s A n c e N, c0 = .bool s ∧ c1 = .slice A n c ∧ c2 = .int .i64 e ∧ Rd 64 W (.slice A n c) N n ∧ -9223372036854775808 ≤ e ∧ e ≤ 9223372036854775807 ∧ (A = none → c = 0) ∧ n + 3 ≤ 17592186044416 := by
  obtain ⟨s, A, n, c, e, N, rfl, rfl, rfl, hR, h1, h2, h3⟩ := open_dyad_cells h hw hlt
  refine ⟨s, A, n, c, e, N, rfl, rfl, rfl, hR, h1, h2, h3, ?_⟩
  obtain ⟨y0, y1, y2, m, rfl, _, hy0, hy1, hy2⟩ := trod_struct3 Tryd.underlying26 h
  have k0 : Tryd.prog.cellsOf 4 = 1 := by kernel_rfl
  have k1 : Tryd.prog.cellsOf 24 = 1 := by kernel_rfl
  have k2 : Tryd.prog.cellsOf 3 = 1 := by kernel_rfl
  simp only [k0, k1, k2, List.drop_zero, List.drop_succ_cons, List.take_succ_cons, List.take_zero] at hy0 hy1 hy2
  exact words_len hy1 (fun m hm => hw m (by
    simp only [DataW.weights, Tryd.underlying26]
    show m ∈ DataW.weightsEach Tryd.prog [4, 24, 3] _
    simp only [DataW.weightsEach, List.mem_append]
    exact Or.inr (Or.inl hm)))

theorem weights_all {H : Type} {P : Program} {e : TypeId} : ∀ {l : List (DataW H)} {d : DataW H}, d ∈ l → ∀ m ∈ d.weights P e, m ∈ DataW.weightsAll P e l := by
  intro l
  induction l with
  | nil => intro d h; cases h
  | cons a l ih =>
    intro d h m hm
    unfold DataW.weightsAll
    rcases List.mem_cons.1 h with rfl | h
    · exact List.mem_append_left _ hm
    · exact List.mem_append_right _ (ih h m hm)

theorem list8 {l : List Value} (h : l.length = 8) : ∃ c0 c1 c2 c3 c4 c5 c6 c7, l = [c0, c1, c2, c3, c4, c5, c6, c7] := by
  match l, h with
  | [c0, c1, c2, c3, c4, c5, c6, c7], _ => exact ⟨c0, c1, c2, c3, c4, c5, c6, c7, rfl⟩

theorem trod_int64 {H : Type} {enc : TypeId × Value → H} {W : World} {fuel : Nat} {c : Value} {x : DataW H × List MemPlace} (h : DataW.trod enc Tryd.prog W 0 (fun _ => true) true fuel 3 [c] = some x) : ∃ z : Int, c = .int .i64 z ∧ -9223372036854775808 ≤ z ∧ z ≤ 9223372036854775807 := by
  obtain ⟨z, e, _, wz⟩ := DataW.trod_int Tryd.underlying3 h
  injection e with e
  simp only [Lit.wf, Bool.and_eq_true, decide_eq_true_eq] at wz
  have w1 := wz.1
  have w2 := wz.2
  rw [show IntKind.i64.min = -9223372036854775808 from by decide] at w1
  rw [show IntKind.i64.max = 9223372036854775807 from by decide] at w2
  exact ⟨z, e, w1, w2⟩

set_option maxRecDepth 100000 in
theorem open_opd {H : Type} {enc : TypeId × Value → H} {W : World} {fuel : Nat} {cs : List Value} {x : DataW H × List MemPlace} (h : DataW.trod enc Tryd.prog W 0 (fun _ => true) true fuel 28 cs = some x)
    (hw : ∀ m ∈ x.1.weights Tryd.prog 28, m ≤ reachBytes) (hlt : ∀ p ∈ x.2, p.block < W.heap.size) :
    ∃ (kd : Int) (s1 s2 : Bool) (A1 A2 : Option Addr) (N n1 c1 M n2 c2 : Nat) (e1 e2 k : Int), cs = [.int .i64 kd, .bool s1, .slice A1 n1 c1, .int .i64 e1, .bool s2, .slice A2 n2 c2, .int .i64 e2, .int .i64 k] ∧
      Rd 64 W (.slice A1 n1 c1) N n1 ∧ Rd 64 W (.slice A2 n2 c2) M n2 ∧ (A1 = none → c1 = 0) ∧ (A2 = none → c2 = 0) ∧ n1 + 3 ≤ 17592186044416 ∧ n2 + 3 ≤ 17592186044416 ∧ (-9223372036854775808 ≤ k ∧ k ≤ 9223372036854775807) := by
  obtain ⟨xs, n, rfl, rfl, hlen, hx, hg⟩ := DataW.trod_struct Tryd.underlying28 h
  have hc8 : Tryd.prog.cellsOf 28 = 8 := by kernel_rfl
  have k1 : Tryd.prog.cellsOf 3 = 1 := by kernel_rfl
  have k3 : Tryd.prog.cellsOf 26 = 3 := by kernel_rfl
  rw [hc8] at hlen
  obtain ⟨c0, c1, c2, c3, c4, c5, c6, c7, rfl⟩ := list8 hlen
  have hx4 : xs.length = 4 := hx
  match xs, hx4 with
  | [y0, y1, y2, y3], _ =>
    have h0 := hg 0 _ rfl
    have h1 := hg 1 _ rfl
    have h2 := hg 2 _ rfl
    have h3 := hg 3 _ rfl
    simp only [k1, k3, List.drop_zero, List.drop_succ_cons, List.take_succ_cons, List.take_zero, List.getElem?_cons_zero, List.getElem?_cons_succ] at h0 h1 h2 h3
    have hwe : ∀ m, (m ∈ y1.1.weights Tryd.prog 26 ∨ m ∈ y2.1.weights Tryd.prog 26) → m ≤ reachBytes := by
      intro m hm
      refine hw m ?_
      simp only [DataW.weights, Tryd.underlying28]
      show m ∈ DataW.weightsEach Tryd.prog [3, 26, 26, 3] [y0.1, y1.1, y2.1, y3.1]
      simp only [DataW.weightsEach, List.mem_append]
      rcases hm with hm | hm
      · exact Or.inr (Or.inl hm)
      · exact Or.inr (Or.inr (Or.inl hm))
    have hpl : ∀ p, (p ∈ y1.2 ∨ p ∈ y2.2) → p.block < W.heap.size := by
      intro p hp
      refine hlt p ?_
      simp only [List.map_cons, List.map_nil, List.flatMap_cons, List.flatMap_nil, List.append_nil, List.flatten_cons, List.flatten_nil, List.mem_append]
      rcases hp with hp | hp
      · exact Or.inr (Or.inl hp)
      · exact Or.inr (Or.inr (Or.inl hp))
    obtain ⟨kd, rfl, _⟩ := trod_int64 h0
    obtain ⟨s1, A1, n1, q1, e1, N, rfl, rfl, rfl, r1, _, _, a1, b1⟩ := open_dyad3 h1 (fun m hm => hwe m (Or.inl hm)) (fun p hp => hpl p (Or.inl hp))
    obtain ⟨s2, A2, n2, q2, e2, M, rfl, rfl, rfl, r2, _, _, a2, b2⟩ := open_dyad3 h2 (fun m hm => hwe m (Or.inr hm)) (fun p hp => hpl p (Or.inr hp))
    obtain ⟨k, rfl, hk⟩ := trod_int64 h3
    exact ⟨kd, s1, s2, A1, A2, N, n1, q1, M, n2, q2, e1, e2, k, rfl, r1, r2, a1, a2, b1, b2, hk⟩

/-- one call in a list -/
def OpD (w : World) (b o j : Nat) : Prop := ∃ (kd : Int) (s1 s2 : Bool) (A1 A2 : Option Addr) (N n1 c1 M n2 c2 : Nat) (e1 e2 k : Int),
  (Rd 64 w (.slice A1 n1 c1) N n1 ∧ Rd 64 w (.slice A2 n2 c2) M n2 ∧ (A1 = none → c1 = 0) ∧ (A2 = none → c2 = 0) ∧ n1 + 3 ≤ 17592186044416 ∧ n2 + 3 ≤ 17592186044416 ∧ (-9223372036854775808 ≤ k ∧ k ≤ 9223372036854775807)) ∧
  w.cell? ⟨b, o + j * 8, none⟩ = some (.int .i64 kd) ∧ w.cell? ⟨b, o + j * 8 + 1, none⟩ = some (.bool s1) ∧ w.cell? ⟨b, o + j * 8 + 2, none⟩ = some (.slice A1 n1 c1) ∧ w.cell? ⟨b, o + j * 8 + 3, none⟩ = some (.int .i64 e1) ∧ w.cell? ⟨b, o + j * 8 + 4, none⟩ = some (.bool s2) ∧ w.cell? ⟨b, o + j * 8 + 5, none⟩ = some (.slice A2 n2 c2) ∧ w.cell? ⟨b, o + j * 8 + 6, none⟩ = some (.int .i64 e2) ∧ w.cell? ⟨b, o + j * 8 + 7, none⟩ = some (.int .i64 k)

set_option maxRecDepth 100000 in
theorem open_opds {H : Type} {enc : TypeId × Value → H} {W : World} {base : Nat} {v : Value} {d : DataW H} {p : List MemPlace} (hv : Value.okWide Tryd.prog W .any base 22 v) (h : DataW.Trod enc Tryd.prog W 0 (fun _ => true) true 22 v d p)
    (hw : ∀ m ∈ d.weights Tryd.prog 22, m ≤ reachBytes) (hlt : ∀ x ∈ p, x.block < W.heap.size) :
    ∃ A n c, v = .slice A n c ∧ n ≤ 9223372036854775807 ∧ (0 < n → ∃ b o, A = some ⟨b, o, none⟩ ∧ b < W.heap.size ∧ ∀ j, j < n → OpD W b o j) := by
  obtain ⟨A, len, cap, rfl⟩ := okWide_slice Tryd.underlying22 hv
  obtain ⟨fuel, hf⟩ := h
  have hc8 : Tryd.prog.cellsOf 28 = 8 := by kernel_rfl
  rcases open_slice Tryd.underlying22 hf with ⟨e, _⟩ | ⟨a, len', cap', m, n, D, Pl, e, _, hl, hcm, hm, hdp, hi⟩
  · have e' : Value.slice A len cap = .slice none 0 0 := by simpa [Value.cells] using e
    injection e' with e1 e2 e3
    subst e1 e2 e3
    exact ⟨none, 0, 0, rfl, Nat.zero_le _, fun h => absurd h (Nat.lt_irrefl _)⟩
  · have e' : Value.slice A len cap = .slice (some a) len' cap' := by simpa [Value.cells] using e
    injection e' with e1 e2 e3
    subst e1 e2 e3
    injection hdp with hd hp
    subst hp hd
    simp only [if_true] at hm
    obtain rfl := hm
    refine ⟨_, _, _, rfl, (show maxLen = 9223372036854775807 from by decide) ▸ (Nat.le_trans hl hcm), fun h0 => ?_⟩
    rw [hc8] at hi hlt
    obtain ⟨b, o, ix⟩ := a
    have hwj : ∀ j, j < len → ∀ q ∈ (D j).weights Tryd.prog 28, q ≤ reachBytes := by
      intro j hj q hq
      refine hw q ?_
      simp only [DataW.weights, Tryd.underlying22, List.mem_cons, List.mem_append]
      refine Or.inr ?_
      first
        | exact Or.inl (weights_all (List.mem_map.2 ⟨j, List.mem_range.2 hj, rfl⟩) q hq)
        | exact weights_all (List.mem_append_left _ (List.mem_map.2 ⟨j, List.mem_range.2 hj, rfl⟩)) q hq
    have hpj : ∀ j, j < m → ∀ q ∈ Pl j, q.block < W.heap.size := fun j hj q hq => hlt q (List.mem_append_right _ (List.mem_flatMap.2 ⟨j, List.mem_range.2 hj, hq⟩))
    have each : ∀ j, j < len → ∃ (kd : Int) (s1 s2 : Bool) (A1 A2 : Option Addr) (N n1 c1 M n2 c2 : Nat) (e1 e2 k : Int),
        (Rd 64 W (.slice A1 n1 c1) N n1 ∧ Rd 64 W (.slice A2 n2 c2) M n2 ∧ (A1 = none → c1 = 0) ∧ (A2 = none → c2 = 0) ∧ n1 + 3 ≤ 17592186044416 ∧ n2 + 3 ≤ 17592186044416 ∧ (-9223372036854775808 ≤ k ∧ k ≤ 9223372036854775807)) ∧
        ∀ t (v : Value), [Value.int .i64 kd, .bool s1, .slice A1 n1 c1, .int .i64 e1, .bool s2, .slice A2 n2 c2, .int .i64 e2, .int .i64 k][t]? = some v → W.cell? (((⟨b, o, ix⟩ : Addr).add (j * 8)).add t) = some v := by
      intro j hj
      obtain ⟨cs', h1, h2⟩ := hi j (by omega)
      obtain ⟨kd, s1, s2, A1, A2, N, n1, c1, M, n2, c2, e1, e2, k, rfl, hh⟩ := open_opd h2 (hwj j hj) (hpj j (by omega))
      obtain ⟨_, _, hat⟩ := World.cells?_some h1
      refine ⟨kd, s1, s2, A1, A2, N, n1, c1, M, n2, c2, e1, e2, k, hh, fun t v ht => ?_⟩
      have htl : t < 8 := by
        obtain ⟨h, _⟩ := List.getElem?_eq_some_iff.1 ht
        simpa using h
      rw [hat t htl, ht]
    have hix : ix = none := by
      obtain ⟨kd, s1, s2, A1, A2, N, n1, c1, M, n2, c2, e1, e2, k, _, hv⟩ := each 0 (by omega)
      have h1 := hv 0 _ rfl
      cases ix with
      | none => rfl
      | some k =>
        exfalso
        unfold World.cell? Addr.add at h1
        simp only [Nat.zero_mul, if_true] at h1
        split at h1 <;> simp at h1
    subst hix
    have hadd : ∀ k t : Nat, ((⟨b, o, none⟩ : Addr).add k).add t = ⟨b, o + k + t, none⟩ := by
      intro k t
      unfold Addr.add
      split <;> split <;> simp_all
    refine ⟨b, o, rfl, ?_, fun j hj => ?_⟩
    · have := hlt (.cell b (o + 0)) (by
        refine List.mem_append_left _ ?_
        unfold MemPlace.row
        exact List.mem_map.2 ⟨0, List.mem_range.2 (by omega), rfl⟩)
      exact this
    · obtain ⟨kd, s1, s2, A1, A2, N, n1, c1, M, n2, c2, e1, e2, k, hr, hv⟩ := each j hj
      have key := fun t v h => (congrArg W.cell? (hadd (j * 8) t)).symm.trans (hv t v h)
      exact ⟨kd, s1, s2, A1, A2, N, n1, c1, M, n2, c2, e1, e2, k, hr, key 0 _ rfl, key 1 _ rfl, key 2 _ rfl, key 3 _ rfl, key 4 _ rfl, key 5 _ rfl, key 6 _ rfl, key 7 _ rfl⟩

end Go.Proofs.YtakjbmlkcbedmaaDoor
