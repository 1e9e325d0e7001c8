/- A row of words of the call's own, that append makes and grows. -/
import Derived.Laws.AppendOwnNone
import Derived.Test.YtomhmbnpkphcmaaDoorBase
import Derived.Test.YtomhmbnpkphcmaaDoorNatMath
namespace Go.Proofs.YtomhmbnpkphcmaaDoor
set_option linter.unusedVariables false
open Go.RowKit

/-- N's digits, M's behind them -/
theorem dg_cat (k N M n j : Nat) (hN : N < 2 ^ (k * n)) : dg k (N + M * 2 ^ (k * n)) j = if j < n then dg k N j else dg k M (j - n) := by
  split
  · rename_i h
    refine dg_of_mod k _ _ j n ?_ h
    rw [Nat.add_mul_mod_self_right]
  · rename_i h
    have h1 : dg k (N + M * 2 ^ (k * n)) j = dg k (M * 2 ^ (k * n)) j := by
      refine dg_of_div k _ _ j n ?_ (by omega)
      rw [Nat.add_mul_div_right _ _ (pow_pos2 _), Nat.mul_div_cancel _ (pow_pos2 _), Nat.div_eq_of_lt hN, Nat.zero_add]
    rw [h1]
    have h2 := dg_shift k M n (j - n)
    rwa [show n + (j - n) = j from by omega] at h2

theorem cat_lt (k N M n m : Nat) (hN : N < 2 ^ (k * n)) (hM : M < 2 ^ (k * m)) : N + M * 2 ^ (k * n) < 2 ^ (k * (n + m)) := by
  rw [Nat.mul_add, Nat.pow_add]
  have : N + M * 2 ^ (k * n) < (M + 1) * 2 ^ (k * n) := by rw [Nat.add_mul, Nat.one_mul]; omega
  have h2 := Nat.mul_le_mul_right (2 ^ (k * n)) (show M + 1 ≤ 2 ^ (k * m) from hM)
  rw [Nat.mul_comm (2 ^ (k * n))]
  omega

/-- the words of N -/
def wds (k N n : Nat) : List Value := (List.range n).map fun j => Value.int .u64 (dg k N j)

theorem wds_get {k N n j : Nat} (hj : j < n) : (wds k N n)[j]? = some (.int .u64 (dg k N j)) := by unfold wds; simp [hj]
theorem wds_len {k N n : Nat} : (wds k N n).length = n := by unfold wds; simp
theorem wds_some {k N n j : Nat} {u : Value} (h : (wds k N n)[j]? = some u) : j < n ∧ u = .int .u64 (dg k N j) := by
  have hj : j < n := by
    rcases Nat.lt_or_ge j n with h' | h'
    · exact h'
    · rw [List.getElem?_eq_none (by rw [wds_len]; exact h')] at h; cases h
  rw [wds_get hj] at h
  injection h with h
  exact ⟨hj, h.symm⟩
theorem wds_cat (k N M n m : Nat) (hN : N < 2 ^ (k * n)) : wds k N n ++ wds k M m = wds k (N + M * 2 ^ (k * n)) (n + m) := by
  refine List.ext_getElem (by simp [wds_len]) fun i h1 h2 => ?_
  have hi : i < n + m := by simpa [wds_len] using h2
  have : (wds k N n ++ wds k M m)[i]? = (wds k (N + M * 2 ^ (k * n)) (n + m))[i]? := by
    rw [wds_get hi, dg_cat k N M n i hN]
    by_cases h : i < n
    · rw [List.getElem?_append_left (by rw [wds_len]; exact h), wds_get h, if_pos h]
    · rw [List.getElem?_append_right (by rw [wds_len]; omega), wds_len, wds_get (by omega), if_neg h]
  rw [List.getElem?_eq_getElem h1, List.getElem?_eq_getElem h2] at this
  injection this

/-- v is a row of the call's own (from block B on): n words that read as N; spare room, as much as the tape said. -/
def Row (k B : Nat) (w : World) (v : Value) (N n : Nat) : Prop := w.ownsRow B 49 1 v n (wds k N n) ∧ N < 2 ^ (k * n)

section
variable {k B : Nat} {w w' : World} {v : Value} {N n : Nat}

theorem Row.form (h : Row k B w v N n) : ∃ A c, v = .slice A n c ∧ n ≤ c ∧ (A = none ∧ c = 0 ∨ ∃ g cur, A = some ⟨g, 0, none⟩ ∧ B ≤ g ∧ w.heap[g]? = some (Obj.cells cur 49 (0, 0)) ∧ cur.size = c ∧ ∀ j, j < n → cur[j]? = some (.int .u64 (dg k N j))) := by
  rcases h.1.2 with ⟨rfl, rfl⟩ | ⟨g, cap, cur, rfl, hb, hg, hn, hm, hs, ht⟩
  · exact ⟨none, 0, rfl, Nat.le_refl _, Or.inl ⟨rfl, rfl⟩⟩
  · refine ⟨_, cap, rfl, hn, Or.inr ⟨g, cur, rfl, hb, hg, by omega, fun j hj => ?_⟩⟩
    have h2 := wds_get (k := k) (N := N) hj
    rw [← ht, List.getElem?_take] at h2
    split at h2
    · simpa using h2
    · cases h2

theorem Row.rd (h : Row k B w v N n) (hn : n ≤ 35184372088832) : Rd k w v N n := by
  obtain ⟨A, c, rfl, hc, hA⟩ := h.form
  refine ⟨A, c, rfl, hc, hn, h.2, fun h0 => ?_⟩
  rcases hA with ⟨_, rfl⟩ | ⟨g, cur, rfl, hb, hg, hs, hd⟩
  · omega
  · refine ⟨g, 0, rfl, lt_size_of_some hg, fun j hj => ?_⟩
    unfold World.cell?
    simp only [hg, Nat.zero_add]
    exact hd j hj

theorem Row.fr (h : Row k B w v N n) : Fr B w v := by
  obtain ⟨A, c, rfl, hc, hA⟩ := h.form
  refine ⟨A, n, c, rfl, hc, ?_⟩
  rcases hA with ⟨_, rfl⟩ | ⟨g, cur, rfl, hb, hg, hs, hd⟩
  · exact Or.inl rfl
  · exact Or.inr ⟨g, cur, rfl, hb, hg, by omega⟩

theorem Row.heap (h : Row k B w v N n) (hb : ∀ (g : Nat) (cur : Array Value), w.heap[g]? = some (Obj.cells cur 49 (0, 0)) → w'.heap[g]? = w.heap[g]?) : Row k B w' v N n := by
  refine ⟨⟨h.1.1, ?_⟩, h.2⟩
  rcases h.1.2 with h1 | ⟨g, cap, cur, rfl, hb', hg, rest⟩
  · exact Or.inl h1
  · exact Or.inr ⟨g, cap, cur, rfl, hb', (hb g cur hg).trans hg, rest⟩

theorem Row.below (h : Row k B w v N n) (hb : Below w.heap.size w w') : Row k B w' v N n := h.heap fun g cur hg => hb.block g (lt_size_of_some hg)

theorem Row.alloc (h : Row k B w v N n) (o : Obj) : Row k B (w.alloc o) v N n := h.below ((Below.refl _ _).alloc (Nat.le_refl _) o)

theorem Row.mono {B' : Nat} (h : Row k B w v N n) (hB : B' ≤ B) : Row k B' w v N n := by
  refine ⟨⟨h.1.1, ?_⟩, h.2⟩
  rcases h.1.2 with h1 | ⟨g, cap, cur, rfl, hb, rest⟩
  · exact Or.inl h1
  · exact Or.inr ⟨g, cap, cur, rfl, Nat.le_trans hB hb, rest⟩

theorem Row.nil : Row k B w (.slice none 0 0) 0 0 := ⟨World.ownsRow_nil w B _ 1, by simp⟩

/-- '[]uint64{}' -/
theorem Row.empty (hB : B ≤ w.heap.size) : Row k B (w.alloc (Obj.cells #[] 49)) (.slice (some ⟨w.heap.size, 0, none⟩) 0 0) 0 0 :=
  ⟨⟨rfl, Or.inr ⟨w.heap.size, 0, #[], rfl, hB, heap_alloc_at w _, Nat.le_refl _, Nat.zero_le _, rfl, rfl⟩⟩, by simp⟩

/-- 'make([]uint64, 0, c)' -/
theorem Row.make0 (hB : B ≤ w.heap.size) (c : Nat) (hc : c ≤ maxLen) : Row k B (w.alloc (Obj.cells (madeCells #[.int .u64 0] c) 49)) (.slice (some ⟨w.heap.size, 0, none⟩) 0 c) 0 0 :=
  ⟨⟨rfl, Or.inr ⟨w.heap.size, c, _, rfl, hB, heap_alloc_at w _, Nat.zero_le _, hc, by rw [size_madeCells]; simp, rfl⟩⟩, by simp⟩

theorem Row.own (h : Row k B w v N n) : ∀ g, v.ownBlock = some g → B ≤ g := fun g hg => (h.1.lt g hg).1

/-- behind an append to this row: what lies below B stays -/
theorem Row.grown {a w2 : World} (h : Row k B w v N n) (hg : w.grownBy w2 v.ownBlock) (hb : Below B a w) (hB : B ≤ w.heap.size) : Below B a w2 := hb.grown hg hB h.own

end

set_option maxHeartbeats 1000000 in
/-- 'append(v, x...)': words -/
theorem wp_append_words {o : Oper} {a : Act} {w : World} {K : Act → World → Prop} {Q : Exit → Act → World → Prop} (s x : Operand) (ho : o.op = .call { callee := .builtin .append, args := #[s, x], argTypes := #[24, 24] })
    {k B : Nat} {v : Value} {N n : Nat} (hs : a.eval s = v) (hown : Row k B w v N n) {A : Option Addr} {m c M : Nat} (hx : a.eval x = .slice A m c) (hsrc : Rd k w (.slice A m c) M m) (hA : A = none → c = 0)
    (hle : n + m ≤ 17592186044416) (hB : B ≤ w.heap.size)
    (h : ∀ v' w', Row k B w' v' (N + M * 2 ^ (k * n)) (n + m) → w.grownBy w' v.ownBlock → K (a.put o.dst v') w') : o.wp Tryd.prog a w K Q := by
  obtain ⟨i0, hi, hz0, hz1, hz2⟩ := info_parts info_word
  cases hA' : A with
  | none =>
    subst hA'
    obtain rfl := hA rfl
    obtain ⟨_, h2, _, _⟩ := hsrc.at_
    obtain rfl : m = 0 := by omega
    have hM : M = 0 := hsrc.zero_of
    subst hM
    have hrun := run_append_owned_none (P := Tryd.prog) (w := w) B 24 o.type 49 i0 1 Tryd.underlying24 hi v n _ hown.1
    unfold Oper.wp
    simp [execOp, ho, resolve, invoke, builtin, hs, hx, hrun, Result.andThen]
    have := h v w (by simpa using hown) ⟨rfl, rfl, rfl, Nat.le_refl _, fun _ _ _ => rfl⟩
    exact this
  | some ad =>
    subst hA'
    obtain ⟨_, h2, _, hr⟩ := hsrc.at_
    refine wp_append_own w s x 24 ho B 49 i0 (.int .u64 0) 1 8 Tryd.underlying24 hi hz0 hz1 hz2 rfl (by decide) v n _ hs hown.1 ad m c (wds k M m) hx (by rw [wds_len]; omega) ?_ ?_ (by simp only [maxLen]; omega) (by omega) hB ?_
    · intro j u hj
      obtain ⟨hj', rfl⟩ := wds_some hj
      obtain ⟨b, o', e, hb, hc⟩ := hr (by omega)
      injection e with e
      subst e
      have := hc j hj'
      unfold Addr.add
      split
      · rename_i h0; subst h0; simpa using this
      · simpa using this
    · intro u hu
      unfold wds at hu
      simp at hu
      obtain ⟨j, _, rfl⟩ := hu
      rfl
    · intro v' w' h3 h4 _
      refine h v' w' ⟨?_, cat_lt k N M n m hown.2 hsrc.lt⟩ h4
      rw [wds_cat k N M n m hown.2] at h3
      exact h3

end Go.Proofs.YtomhmbnpkphcmaaDoor
