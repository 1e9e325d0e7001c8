/- Words for memory: a slice of words that reads as a natural's digits; a block of the call's own; what is kept. -/
import Derived.WalkKit
import Derived.RowKit3
import Derived.Lib.Hide
import Derived.Laws.MakeOwn
import Derived.Laws.CopyOwn
import Derived.Deep.Draws
import Derived.Deep.QuietTactic
import Derived.BigQuiet
import Derived.Deep.LoopGhost
import Derived.Deep.DeepCutAuto
import Derived.Test.YtcgceigmglikpaaDoorNum
import Derived.Test.YtcgceigmglikpaaDoorShelf
namespace Go.Proofs.YtcgceigmglikpaaDoor
set_option linter.unusedVariables false
open Go.RowKit

/-- v is a slice of n words below the heap's end that reads as the digits of N in the base 2^k. -/
def Rd (k : Nat) (w : World) (v : Value) (N n : Nat) : Prop :=
  ∃ (A : Option Addr) (c : Nat), v = .slice A n c ∧ n ≤ c ∧ n ≤ 35184372088832 ∧ N < 2 ^ (k * n) ∧
    (0 < n → ∃ b o, A = some ⟨b, o, none⟩ ∧ b < w.heap.size ∧ ∀ j, j < n → w.cell? ⟨b, o + j, none⟩ = some (.int .u64 (dg k N j)))

/-- v's memory, room and all, is one block from B on, of words, not frozen; or it has no room at all. -/
def Fr (B : Nat) (w : World) (v : Value) : Prop :=
  ∃ (A : Option Addr) (n c : Nat), v = .slice A n c ∧ n ≤ c ∧ (c = 0 ∨ ∃ b arr, A = some ⟨b, 0, none⟩ ∧ B ≤ b ∧ w.heap[b]? = some (.cells arr 22 (0, 0)) ∧ c ≤ arr.size)

/-- block b is of the call's own: n words that read as the digits of N. -/
def Own (k : Nat) (w : World) (b : Nat) (N n : Nat) : Prop :=
  ∃ arr : Array Value, w.heap[b]? = some (.cells arr 22 (0, 0)) ∧ arr.size = n ∧ N < 2 ^ (k * n) ∧ ∀ j, j < n → arr[j]? = some (.int .u64 (dg k N j))

theorem lt_size_of_some {w : World} {b : Nat} {o : Obj} (h : w.heap[b]? = some o) : b < w.heap.size := by
  rcases Nat.lt_or_ge b w.heap.size with hlt | hge
  · exact hlt
  · rw [Array.getElem?_eq_none hge] at h; cases h

section
variable {k : Nat} {w w' : World} {v : Value} {N n B b : Nat}

theorem Rd.lt (h : Rd k w v N n) : N < 2 ^ (k * n) := by obtain ⟨A, c, _, _, _, h, _⟩ := h; exact h

theorem Rd.belowB (h : Rd k w v N n) (hb : Below B w w') (hB : w.heap.size ≤ B) : Rd k w' v N n := by
  obtain ⟨A, c, rfl, h1, h2, h3, h4⟩ := h
  refine ⟨A, c, rfl, h1, h2, h3, fun hn => ?_⟩
  obtain ⟨b, o, rfl, hlt, hc⟩ := h4 hn
  exact ⟨b, o, rfl, Nat.lt_of_lt_of_le hlt hb.size, fun j hj => (hb.cell (p := ⟨b, o + j, none⟩) (Nat.lt_of_lt_of_le hlt hB)).trans (hc j hj)⟩

theorem Rd.below (h : Rd k w v N n) (hb : Below w.heap.size w w') : Rd k w' v N n := h.belowB hb (Nat.le_refl _)

theorem Rd.alloc (h : Rd k w v N n) (o : Obj) : Rd k (w.alloc o) v N n := h.below ((Below.refl _ _).alloc (Nat.le_refl _) o)

theorem Rd.none_ {c : Nat} {A : Option Addr} : Rd k w (.slice A 0 c) 0 0 :=
  ⟨A, c, rfl, Nat.zero_le _, Nat.zero_le _, by simp, fun h => absurd h (by omega)⟩

theorem Rd.nil_ : Rd k w (.slice none 0 0) 0 0 := Rd.none_

theorem Rd.len (h : Rd k w v N n) : n ≤ 35184372088832 := by obtain ⟨A, c, _, _, h2, _, _⟩ := h; omega

theorem Rd.zero_of (h : Rd k w v N 0) : N = 0 := by have := h.lt; simp at this; exact this

theorem Rd.at_ {A : Option Addr} {m c : Nat} (h : Rd k w (.slice A m c) N n) : m = n ∧ n ≤ c ∧ n ≤ 35184372088832 ∧
    (0 < n → ∃ b o, A = some ⟨b, o, none⟩ ∧ b < w.heap.size ∧ ∀ j, j < n → w.cell? ⟨b, o + j, none⟩ = some (.int .u64 (dg k N j))) := by
  obtain ⟨A', c', e, h1, h2, h3, h4⟩ := h
  injection e with e1 e2 e3
  subst e1 e2 e3
  exact ⟨rfl, h1, h2, h4⟩

theorem Rd.form (h : Rd k w v N n) : ∃ A c, v = .slice A n c ∧ n ≤ c ∧ n ≤ 35184372088832 := by obtain ⟨A, c, e, h1, h2, _⟩ := h; exact ⟨A, c, e, h1, h2⟩

theorem Own.lt (h : Own k w b N n) : b < w.heap.size := by obtain ⟨arr, h, _⟩ := h; exact lt_size_of_some h

theorem Own.num (h : Own k w b N n) : N < 2 ^ (k * n) := by obtain ⟨arr, _, _, h, _⟩ := h; exact h

theorem Own.cell (h : Own k w b N n) {j : Nat} (hj : j < n) : w.cell? ⟨b, j, none⟩ = some (.int .u64 (dg k N j)) := by
  obtain ⟨arr, hb, _, _, hc⟩ := h
  unfold World.cell?
  simp only [hb]
  exact hc j hj

theorem Own.free (h : Own k w b N n) (j : Nat) : w.frozen? ⟨b, j, none⟩ = false := by
  obtain ⟨arr, hb, _, _, hc⟩ := h
  unfold World.frozen?
  simp [hb]

theorem Own.set (h : Own k w b N n) {j : Nat} (hj : j < n) {d : Nat} (hd : d < 2 ^ k) : Own k (w.setCell ⟨b, j, none⟩ (.int .u64 d)) b (setDg k N j d) n := by
  obtain ⟨arr, hb, hs, hN, hc⟩ := h
  refine ⟨arr.set! j (.int .u64 d), ?_, by simp [hs], setDg_lt k N j d n hN hj hd, fun i hi => ?_⟩
  · simp [World.setCell, Array.getElem?_modify, hb]
  · by_cases hij : i = j
    · subst hij
      rw [dg_setDg_same k N i d hd]
      simp [hs, hi]
    · rw [dg_setDg_other k N j i d hd hij, ← hc i hi]
      simp [Ne.symm hij]

theorem Own.below (h : Own k w b N n) (hb : Below B w w') (hB : b < B) : Own k w' b N n := by
  obtain ⟨arr, h1, h2⟩ := h
  exact ⟨arr, (hb.block b hB).trans h1, h2⟩

theorem Own.alloc (h : Own k w b N n) (o : Obj) : Own k (w.alloc o) b N n := h.below (B := w.heap.size) ((Below.refl _ _).alloc (Nat.le_refl _) o) h.lt

theorem Own.setOther (h : Own k w b N n) {p : Addr} (hp : p.block ≠ b) (u : Value) : Own k (w.setCell p u) b N n := by
  obtain ⟨arr, h1, h2⟩ := h
  exact ⟨arr, (Below.heap_setCell w p u b (Ne.symm hp)).trans h1, h2⟩

theorem Own.drew (h : Own k w b N n) : Own k w.drew b N n := h
theorem Own.drewN (h : Own k w b N n) (m : Nat) : Own k (w.drewN m) b N n := h
theorem Rd.drew (h : Rd k w v N n) : Rd k w.drew v N n := h
theorem Rd.drewN (h : Rd k w v N n) (m : Nat) : Rd k (w.drewN m) v N n := h
theorem Fr.drew (h : Fr B w v) : Fr B w.drew v := h
theorem Fr.drewN (h : Fr B w v) (m : Nat) : Fr B (w.drewN m) v := h

theorem Own.rd (h : Own k w b N n) (hn : n ≤ 35184372088832) : Rd k w (.slice (some ⟨b, 0, none⟩) n n) N n :=
  ⟨_, n, rfl, Nat.le_refl _, hn, h.num, fun _ => ⟨b, 0, rfl, h.lt, fun j hj => by rw [Nat.zero_add]; exact h.cell hj⟩⟩

theorem Own.fr (h : Own k w b N n) (hB : B ≤ b) : Fr B w (.slice (some ⟨b, 0, none⟩) n n) := by
  obtain ⟨arr, h1, h2, _⟩ := h
  exact ⟨_, n, n, rfl, Nat.le_refl _, Or.inr ⟨b, arr, rfl, hB, h1, by omega⟩⟩

theorem getElem?_madeCells (z : Value) (m j : Nat) (hj : j < m) : (madeCells #[z] m)[j]? = some z := by
  unfold madeCells
  simp [hj, Nat.mod_one]

theorem heap_alloc_at (w : World) (o : Obj) : (w.alloc o).heap[w.heap.size]? = some o := by
  show (w.heap.push o)[w.heap.size]? = _
  rw [Array.getElem?_push, if_pos rfl]

theorem Own.make (m : Nat) : Own k (w.alloc (.cells (madeCells #[.int .u64 0] m) 22)) w.heap.size 0 m := by
  refine ⟨madeCells #[.int .u64 0] m, heap_alloc_at w _, size_madeCells _ _, pow_pos2 _, fun j hj => ?_⟩
  rw [getElem?_madeCells _ _ _ hj, dg_zero]; rfl

theorem Fr.below (h : Fr B w v) (hb : Below w.heap.size w w') : Fr B w' v := by
  obtain ⟨A, n, c, rfl, h0, h1⟩ := h
  refine ⟨A, n, c, rfl, h0, ?_⟩
  rcases h1 with h1 | ⟨b, arr, e, hB, hh, hc⟩
  · exact Or.inl h1
  · exact Or.inr ⟨b, arr, e, hB, (hb.block b (lt_size_of_some hh)).trans hh, hc⟩

theorem Fr.mono {B' : Nat} (h : Fr B w v) (hB : B' ≤ B) : Fr B' w v := by
  obtain ⟨A, n, c, rfl, h0, h1⟩ := h
  refine ⟨A, n, c, rfl, h0, ?_⟩
  rcases h1 with h1 | ⟨b, arr, e, hb, hh, hc⟩
  · exact Or.inl h1
  · exact Or.inr ⟨b, arr, e, Nat.le_trans hB hb, hh, hc⟩

theorem Fr.none_ : Fr B w (.slice none 0 0) := ⟨none, 0, 0, rfl, Nat.le_refl _, Or.inl rfl⟩

/-- a shorter piece from the same begin -/
theorem Fr.cut {A : Option Addr} {m c m' : Nat} (h : Fr B w (.slice A m c)) (hm : m' ≤ c) : Fr B w (.slice A m' c) := by
  obtain ⟨A', n, c', e, h0, h1⟩ := h
  injection e with e1 e2 e3
  subst e1 e2 e3
  exact ⟨_, m', _, rfl, hm, h1⟩

theorem Rd.cut {A : Option Addr} {m c m' : Nat} (h : Rd k w (.slice A m c) N n) (hm : m' ≤ n) (hN : N < 2 ^ (k * m')) : Rd k w (.slice A m' c) N m' := by
  obtain ⟨rfl, h1, h2, h4⟩ := h.at_
  refine ⟨A, c, rfl, by omega, by omega, hN, fun hn => ?_⟩
  obtain ⟨b, o, e, hb, hc⟩ := h4 (by omega)
  exact ⟨b, o, e, hb, fun j hj => hc j (by omega)⟩

end

theorem info_word : (Tryd.prog.info? 22).map (fun i => (i.zero, i.size, i.bytes)) = some (some (.int .u64 0), 1, 8) := by kernel_rfl

theorem make_words (m : Nat) (hm : m ≤ 35184372088832) (w : World) :
    (Instr.makeSlice 51 (.int .i64 (m : Int)) (.int .i64 (m : Int))).run Tryd.prog w = .ok (.slice (some ⟨w.heap.size, 0, none⟩) m m) (w.alloc (.cells (madeCells #[.int .u64 0] m) 22)) := by
  obtain ⟨i0, hi, hz0, hz1, hz2⟩ := info_parts info_word
  have h := run_make (P := Tryd.prog) w 51 22 i0 (.int .u64 0) Tryd.underlying51 hi hz0 .i64 .i64 (m : Int) (m : Int) (by omega) (by omega) (by rw [hz2]; omega) (by omega)
  rw [hz1, Nat.mul_one, Int.toNat_natCast] at h
  exact h

theorem make_words1 (m : Nat) (hm : m + 1 ≤ 35184372088832) (w : World) :
    (Instr.makeSlice 51 (.int .i64 ((m : Int) + 1)) (.int .i64 ((m : Int) + 1))).run Tryd.prog w = .ok (.slice (some ⟨w.heap.size, 0, none⟩) (m + 1) (m + 1)) (w.alloc (.cells (madeCells #[.int .u64 0] (m + 1)) 22)) :=
  make_words (m + 1) hm w

theorem make_words2 (m n : Nat) (hm : m + n ≤ 35184372088832) (w : World) :
    (Instr.makeSlice 51 (.int .i64 ((m : Int) + (n : Int))) (.int .i64 ((m : Int) + (n : Int)))).run Tryd.prog w = .ok (.slice (some ⟨w.heap.size, 0, none⟩) (m + n) (m + n)) (w.alloc (.cells (madeCells #[.int .u64 0] (m + n)) 22)) := by
  have h := make_words (m + n) hm w
  rw [Int.natCast_add] at h
  exact h

theorem Own.setRow {k : Nat} {w : World} {g m : Nat} (h : Own k w g 0 m) (N n : Nat) (hn : n ≤ m) (hN : N < 2 ^ (k * n)) {cur : List Value} {t : TypeId} (hc : w.heap[g]? = some (.cells cur.toArray t (0, 0)))
    {w' : World} (hw : w'.heap[g]? = some (.cells (splice cur 0 ((List.range n).map fun j => Value.int .u64 (dg k N j))).toArray t (0, 0))) : Own k w' g N m := by
  obtain ⟨arr, h1, h2, h3, h4⟩ := h
  rw [hc] at h1
  injection h1 with h1; injection h1 with h1 h1'
  subst h1; subst h1'
  have hl : cur.length = m := by simpa using h2
  refine ⟨_, hw, by simp only [List.size_toArray]; rw [length_splice _ _ _ (by simp; omega)]; exact hl, Nat.lt_of_lt_of_le hN (Nat.pow_le_pow_right (by decide) (Nat.mul_le_mul_left k hn)), fun j hj => ?_⟩
  have h5 := h4 j hj
  simp only [List.getElem?_toArray] at h5 ⊢
  unfold splice
  simp only [List.take_zero, List.nil_append, List.length_map, List.length_range, Nat.zero_add]
  by_cases hjn : j < n
  · rw [List.getElem?_append_left (by simp; exact hjn)]; simp [hjn]
  · rw [List.getElem?_append_right (by simp; omega)]
    simp only [List.length_map, List.length_range, List.getElem?_drop, show n + (j - n) = j from by omega, h5]
    rw [dg_zero, dg_high k N j n hN (by omega)]

theorem wpList_copy_rd {w : World} {ops : Array Oper} {rest : List Oper} {o : Oper} {a : Act} {Q : Exit → Act → World → Prop} (hgd : o.guard = none) (d s : Operand)
    (ho : o.op = .call { callee := .builtin .copy, args := #[d, s], argTypes := #[51, 51] }) (g m : Nat) (A : Option Addr) (n c : Nat)
    (hd : a.eval d = .slice (some ⟨g, 0, none⟩) m m) (hs : a.eval s = .slice A n c) (k N : Nat) (hown : Own k w g 0 m) (hsrc : Rd k w (.slice A n c) N n) (hnm : n ≤ m) (B : Nat) (w0 : World) (hb : Below B w0 w) (hBg : B ≤ g)
    (h : ∀ w', Own k w' g N m → Below B w0 w' → wpList Tryd.prog ops Q rest (a.put o.dst (goInt n)) w') :
    wpList Tryd.prog ops Q (o :: rest) a w := by
  obtain ⟨arr, h1, h2, h3, h4⟩ := id hown
  obtain ⟨_, hA⟩ := hsrc.at_
  refine wpList_copy_splice hgd d s 51 51 ho 22 Tryd.underlying51 (by kernel_rfl) _ _ _ _ _ _ hd hs g 0 arr.toList 22 (by simpa using h1) ((List.range n).map fun j => Value.int .u64 (dg k N j)) (by simp; exact (Nat.min_eq_left hnm).symm) ?_ (by simp; omega) (by simp [Value.oneCell']) B w0 hb hBg ?_
  · intro hp
    simp at hp
    obtain ⟨b, o, rfl, hlt, hc⟩ := hA.2.2 hp
    refine ⟨rfl, _, rfl, fun j v hj => ?_⟩
    rw [List.getElem?_map, Option.map_eq_some_iff] at hj
    obtain ⟨q, hq, rfl⟩ := hj
    obtain ⟨hj1, rfl⟩ : j < n ∧ j = q := by
      rw [List.getElem?_eq_some_iff] at hq
      obtain ⟨h1, h2⟩ := hq
      simp at h1 h2
      exact ⟨h1, h2⟩
    have := hc j hj1
    unfold Addr.add
    by_cases h0 : j = 0
    · subst h0; simpa using this
    · simpa [h0] using this
  · intro w' hw hb'
    have := h w' (Own.setRow hown N n hnm hsrc.lt (cur := arr.toList) (by simpa using h1) hw.out) hb'
    simpa using this

theorem Fr.setCell {B : Nat} {w : World} {v : Value} (h : Fr B w v) {p : Addr} (hp : p.block < B) (u : Value) : Fr B (w.setCell p u) v := by
  obtain ⟨A, n, c, rfl, h0, h1⟩ := h
  refine ⟨A, n, c, rfl, h0, ?_⟩
  rcases h1 with h1 | ⟨b, arr, e, hB, hh, hc⟩
  · exact Or.inl h1
  · exact Or.inr ⟨b, arr, e, hB, (Below.heap_setCell w p u b (by omega)).trans hh, hc⟩

theorem Rd.setCell_fr {k B : Nat} {w : World} {v : Value} {N n : Nat} (h : Rd k w v N n) (hf : Fr B w v) {p : Addr} (hp : p.block < B) (u : Value) : Rd k (w.setCell p u) v N n := by
  obtain ⟨A, c, rfl, h1, h2, h3, h4⟩ := h
  refine ⟨A, c, rfl, h1, h2, h3, fun hn => ?_⟩
  obtain ⟨b, o, rfl, hlt, hc⟩ := h4 hn
  obtain ⟨A', n', c', e, h0, h5⟩ := hf
  injection e with e1 e2 e3
  subst e2 e3
  rcases h5 with h5 | ⟨b', arr, e', hB, hh, hc'⟩
  · omega
  · rw [e'] at e1
    injection e1 with e1
    injection e1 with e1 e4
    subst e1 e4
    refine ⟨b, 0, rfl, by simp [World.setCell]; exact hlt, fun j hj => ?_⟩
    rw [World.cell?_setCell_other w p ⟨b, 0 + j, none⟩ u (fun e => by subst e; simp at hp; omega)]
    exact hc j hj

theorem below_cell {W w1 : World} (hb : Below W.heap.size W w1) : (∀ b o, b < W.heap.size → w1.cell? ⟨b, o, none⟩ = W.cell? ⟨b, o, none⟩) ∧ (∀ b o, b < W.heap.size → w1.frozen? ⟨b, o, none⟩ = W.frozen? ⟨b, o, none⟩) :=
  ⟨fun b o h => hb.cell (p := ⟨b, o, none⟩) h, fun b o h => hb.frozen (p := ⟨b, o, none⟩) h⟩

theorem box1_cell (w : World) (c1 c2 : Array Value) (t1 t2 : TypeId) (j : Nat) : ((w.alloc (.cells c1 t1)).alloc (.cells c2 t2)).cell? ⟨w.heap.size, j, none⟩ = c1[j]? := by
  rw [World.cell?_alloc_past _ _ _ (by simp), World.cell?_alloc_at _ _ _ _ rfl]
theorem box2_cell (w : World) (c1 c2 : Array Value) (t1 t2 : TypeId) (j : Nat) : ((w.alloc (.cells c1 t1)).alloc (.cells c2 t2)).cell? ⟨w.heap.size + 1, j, none⟩ = c2[j]? := by
  rw [World.cell?_alloc_at _ _ _ _ (by simp)]
theorem box1_free (w : World) (c1 c2 : Array Value) (t1 t2 : TypeId) (j : Nat) : ((w.alloc (.cells c1 t1)).alloc (.cells c2 t2)).frozen? ⟨w.heap.size, j, none⟩ = false := by
  unfold World.frozen?
  have h : ((w.alloc (.cells c1 t1)).alloc (.cells c2 t2)).heap[w.heap.size]? = some (.cells c1 t1) := by
    rw [Below.heap_alloc _ _ _ (by simp)]; exact heap_alloc_at w _
  simp [h]
theorem box2_free (w : World) (c1 c2 : Array Value) (t1 t2 : TypeId) (j : Nat) : ((w.alloc (.cells c1 t1)).alloc (.cells c2 t2)).frozen? ⟨w.heap.size + 1, j, none⟩ = false := by
  unfold World.frozen?
  have h : ((w.alloc (.cells c1 t1)).alloc (.cells c2 t2)).heap[w.heap.size + 1]? = some (.cells c2 t2) := by
    have := heap_alloc_at (w.alloc (.cells c1 t1)) (.cells c2 t2)
    simpa using this
  simp only [h]
  simp

/-- two boxes of three cells, as they stand behind a call that left them alone -/
theorem two_boxes {w w1 : World} {a b c a' b' c' : Value} {t1 t2 : TypeId} (hb : Below ((w.alloc (.cells #[a, b, c] t1)).alloc (.cells #[a', b', c'] t2)).heap.size ((w.alloc (.cells #[a, b, c] t1)).alloc (.cells #[a', b', c'] t2)) w1) :
    (w1.cell? ⟨w.heap.size, 0, none⟩ = some a ∧ w1.cell? ⟨w.heap.size, 1, none⟩ = some b ∧ w1.cell? ⟨w.heap.size, 2, none⟩ = some c) ∧
    (w1.cell? ⟨w.heap.size + 1, 0, none⟩ = some a' ∧ w1.cell? ⟨w.heap.size + 1, 1, none⟩ = some b' ∧ w1.cell? ⟨w.heap.size + 1, 2, none⟩ = some c') ∧
    (∀ j, w1.frozen? ⟨w.heap.size, j, none⟩ = false) ∧ (∀ j, w1.frozen? ⟨w.heap.size + 1, j, none⟩ = false) := by
  obtain ⟨hc, hf⟩ := below_cell hb
  exact ⟨⟨(hc _ _ (by simp; omega)).trans (box1_cell ..), (hc _ _ (by simp; omega)).trans (box1_cell ..), (hc _ _ (by simp; omega)).trans (box1_cell ..)⟩,
    ⟨(hc _ _ (by simp)).trans (box2_cell ..), (hc _ _ (by simp)).trans (box2_cell ..), (hc _ _ (by simp)).trans (box2_cell ..)⟩,
    fun j => (hf _ _ (by simp; omega)).trans (box1_free ..), fun j => (hf _ _ (by simp)).trans (box2_free ..)⟩

/-- what the walk is told of the package-level tables -/
def Gl (w : World) : Prop := TzTab w ∧ 2 < w.heap.size

theorem Gl.below {w w' : World} (h : Gl w) (hb : Below w.heap.size w w') : Gl w' :=
  ⟨fun j hj => (hb.cell (p := ⟨2, j, none⟩) h.2).trans (h.1 j hj), Nat.lt_of_lt_of_le h.2 hb.size⟩

theorem Gl.tz {w : World} (h : Gl w) : TzTab w := h.1

theorem Gl.alloc {w : World} (h : Gl w) (o : Obj) : Gl (w.alloc o) := h.below ((Below.refl _ _).alloc (Nat.le_refl _) o)

/-- -1, 0, 1 -/
def cmpN (a b : Nat) : Int := if a < b then -1 else if b < a then 1 else 0

theorem cmpN_lt {a b : Nat} (h : a < b) : cmpN a b = -1 := by unfold cmpN; rw [if_pos h]
theorem cmpN_gt {a b : Nat} (h : b < a) : cmpN a b = 1 := by unfold cmpN; rw [if_neg (by omega), if_pos h]
theorem cmpN_eq {a b : Nat} (h : a = b) : cmpN a b = 0 := by unfold cmpN; rw [if_neg (by omega), if_neg (by omega)]

theorem add64c_ex (x y : Nat) (hx : x < 18446744073709551616) (hy : y < 18446744073709551616) : ∃ l c : Nat,
    (∀ w : World, (callFunc 152 #[.int .u64 x, .int .u64 y, .int .u64 0]).run Tryd.prog w = .ok (.value (.tuple #[.int .u64 l, .int .u64 c])) w) ∧
    Hid (x + y = l + c * 18446744073709551616) ∧ l < 18446744073709551616 ∧ c ≤ 1 :=
  ⟨_, _, fun w => add64_runc x y w, show _ = _ by omega, by omega, by omega⟩

end Go.Proofs.YtcgceigmglikpaaDoor
