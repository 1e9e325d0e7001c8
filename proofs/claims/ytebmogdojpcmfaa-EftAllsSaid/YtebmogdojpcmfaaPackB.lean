/- Packed by program: DyadA Tz DyadB DyadC Base2 DyadD DyadV DyadE DyadF DyadG. -/
import Derived.Outline
import Derived.Test.YtebmogdojpcmfaaPackA
import Derived.Deep.RegionHeld3
/- Walks of layer 3: raised, refuses, aligned. -/
namespace Go.Proofs.Ytebmogdojpcmfaa
set_option linter.unusedVariables false
open Go.RowKit

end Go.Proofs.Ytebmogdojpcmfaa

/- Exact numbers as plain data: sign, natural, exponent; the canonical form; sums. -/
namespace Go.Proofs.Ytebmogdojpcmfaa
set_option linter.unusedVariables false

/-- how many zero bits stand at the beginning of N (0 of 0) -/
def tzN (N : Nat) : Nat := if h : N = 0 then 0 else if N % 2 = 1 then 0 else 1 + tzN (N / 2)
termination_by N
decreasing_by omega

theorem tzN_zero : tzN 0 = 0 := by rw [tzN]; simp

theorem tzN_spec (N : Nat) (h : N ≠ 0) : ∃ m, N = 2 ^ tzN N * (2 * m + 1) := by
  induction N using Nat.strongRecOn with
  | _ N ih =>
    rw [tzN, dif_neg h]
    by_cases h1 : N % 2 = 1
    · rw [if_pos h1]; exact ⟨N / 2, by omega⟩
    · rw [if_neg h1]
      obtain ⟨m, hm⟩ := ih (N / 2) (by omega) (by omega)
      refine ⟨m, ?_⟩
      rw [Nat.add_comm 1, Nat.pow_succ]
      generalize 2 ^ tzN (N / 2) = p at *
      grind

theorem odd_part_unique {a b m k : Nat} (h : 2 ^ a * (2 * m + 1) = 2 ^ b * (2 * k + 1)) : a = b ∧ m = k := by
  rcases Nat.lt_trichotomy a b with hab | hab | hab
  · exfalso
    obtain ⟨t, rfl⟩ : ∃ t, b = a + t + 1 := ⟨b - a - 1, by omega⟩
    rw [Nat.pow_succ, Nat.pow_add, Nat.mul_assoc, Nat.mul_assoc] at h
    have := Nat.eq_of_mul_eq_mul_left (Nat.pow_pos (n := a) (by decide : 0 < 2)) h
    have e : 2 ^ t * (2 * (2 * k + 1)) = 2 * (2 ^ t * (2 * k + 1)) := by grind
    omega
  · subst hab
    have := Nat.eq_of_mul_eq_mul_left (Nat.pow_pos (n := a) (by decide : 0 < 2)) h
    omega
  · exfalso
    obtain ⟨t, rfl⟩ : ∃ t, a = b + t + 1 := ⟨a - b - 1, by omega⟩
    rw [Nat.pow_succ, Nat.pow_add, Nat.mul_assoc, Nat.mul_assoc] at h
    have := Nat.eq_of_mul_eq_mul_left (Nat.pow_pos (n := b) (by decide : 0 < 2)) h
    have e : 2 ^ t * (2 * (2 * m + 1)) = 2 * (2 ^ t * (2 * m + 1)) := by grind
    omega

theorem tzN_unique {N z m : Nat} (h : N = 2 ^ z * (2 * m + 1)) : tzN N = z := by
  have h0 : N ≠ 0 := by
    rw [h]; exact Nat.ne_of_gt (Nat.mul_pos (pow_pos2 z) (by omega))
  obtain ⟨k, hk⟩ := tzN_spec N h0
  rw [h] at hk
  have := (odd_part_unique hk).1
  rw [← h] at this
  exact this.symm

/-- the first digit that is not 0, at place i: the zeros before it and in it -/
theorem tzN_digits (N i m t : Nat) (h0 : N % 2 ^ (64 * i) = 0) (hd : dg 64 N i = 2 ^ t * (2 * m + 1)) (ht : t < 64) : tzN N = 64 * i + t := by
  have e1 := Nat.div_add_mod N (2 ^ (64 * i))
  rw [h0, Nat.add_zero] at e1
  have e2 := div_succ 64 N i
  rw [hd] at e2
  have e3 : N = 2 ^ (64 * i + t) * (2 * (N / 2 ^ (64 * (i + 1)) * 2 ^ (63 - t) + m) + 1) := by
    have e4 : (2 : Nat) ^ 64 = 2 ^ t * (2 * 2 ^ (63 - t)) := by
      rw [← Nat.pow_succ', ← Nat.pow_add]; congr 1; omega
    rw [e4] at e2
    rw [e2] at e1
    rw [Nat.pow_add]
    generalize N / 2 ^ (64 * (i + 1)) = R at *
    generalize 2 ^ (64 * i) = A at *
    generalize 2 ^ t = T at *
    generalize 2 ^ (63 - t) = U at *
    grind
  exact tzN_unique e3

theorem tzN_le (N n : Nat) (h : N < 2 ^ n) (h0 : N ≠ 0) : tzN N < n := by
  obtain ⟨m, hm⟩ := tzN_spec N h0
  rcases Nat.lt_or_ge (tzN N) n with hlt | hge
  · exact hlt
  · exfalso
    have h1 : 2 ^ n ≤ 2 ^ tzN N := Nat.pow_le_pow_right (by decide) hge
    have h2 : 2 ^ tzN N ≤ N := by
      have : 2 ^ tzN N * 1 ≤ 2 ^ tzN N * (2 * m + 1) := Nat.mul_le_mul_left _ (by omega)
      rw [← hm, Nat.mul_one] at this
      exact this
    omega

/-- an exact number: n * 2^e, below zero where s -/
structure D where
  s : Bool
  n : Nat
  e : Int

def D.zero : D := ⟨false, 0, 0⟩

/-- the canonical number, within no limits -/
def oddD (d : D) : D := if d.n = 0 then D.zero else ⟨d.s, d.n / 2 ^ tzN d.n, d.e + tzN d.n⟩

/-- the canonical number, or the answer's error -/
def ansD (d : D) : D × Int := if 1024 < nd 64 (oddD d).n then (D.zero, 5) else if (oddD d).e < -40000 ∨ 40000 < (oddD d).e then (D.zero, 30) else (oddD d, 0)

/-- the sum of two numbers at one exponent -/
def addXY (s1 s2 : Bool) (X Y : Nat) (m : Int) : D := if s1 = s2 then oddD ⟨s1, X + Y, m⟩ else if X < Y then oddD ⟨s2, Y - X, m⟩ else oddD ⟨s1, X - Y, m⟩

/-- the sum of two canonical numbers -/
def sumD (a b : D) : D :=
  if a.n = 0 then b else if b.n = 0 then a else
  addXY a.s b.s (a.n * 2 ^ (a.e - min a.e b.e).toNat) (b.n * 2 ^ (b.e - min a.e b.e).toNat) (min a.e b.e)

theorem sumD_nz {a b : D} (ha : a.n ≠ 0) (hb : b.n ≠ 0) : sumD a b = addXY a.s b.s (a.n * 2 ^ (a.e - min a.e b.e).toNat) (b.n * 2 ^ (b.e - min a.e b.e).toNat) (min a.e b.e) := by
  unfold sumD; rw [if_neg ha, if_neg hb]

/-- the argument's error: of n words, exponent e -/
def refD (n : Nat) (e : Int) : Int := if 1024 < n then 5 else if e < -40000 ∨ 40000 < e then 30 else 0

theorem oddD_zero (s : Bool) (e : Int) : oddD ⟨s, 0, e⟩ = D.zero := by simp [oddD]

/-- Canon: of n words -/
def canonD (n : Nat) (d : D) : D × Int := if refD n d.e = 0 then ansD d else (D.zero, refD n d.e)

/-- the errors of two arguments -/
def twoD (n1 : Nat) (e1 : Int) (n2 : Nat) (e2 : Int) : Int := if refD n1 e1 = 0 then refD n2 e2 else refD n1 e1

theorem refD_zero {n : Nat} {e : Int} (h : refD n e = 0) : n ≤ 1024 ∧ -40000 ≤ e ∧ e ≤ 40000 := by
  unfold refD at h; split at h
  · omega
  · split at h <;> omega

theorem refD_cases (n : Nat) (e : Int) : refD n e = 0 ∨ refD n e = 5 ∨ refD n e = 30 := by
  unfold refD; split
  · omega
  · split <;> omega

theorem oddD_le (d : D) : (oddD d).n ≤ d.n := by
  unfold oddD; split
  · exact Nat.zero_le _
  · exact Nat.div_le_self _ _

theorem oddD_e (d : D) (L : Nat) (h : d.n < 2 ^ L) (lo hi : Int) (h1 : lo ≤ d.e) (h2 : d.e + L ≤ hi) (h3 : lo ≤ 0) (h4 : 0 ≤ hi) : lo ≤ (oddD d).e ∧ (oddD d).e ≤ hi := by
  unfold oddD; split
  · exact ⟨h3, h4⟩
  · rename_i h0
    have := tzN_le d.n L h h0
    show lo ≤ d.e + tzN d.n ∧ d.e + tzN d.n ≤ hi
    omega

theorem pow_shift_lt {N L s : Nat} (h : N < 2 ^ L) : N * 2 ^ s < 2 ^ (L + s) := by
  rw [Nat.pow_add]; exact Nat.mul_lt_mul_of_pos_right h (pow_pos2 s)

theorem sumD_e (a b : D) (L : Nat) (R : Int) (ha : a.n < 2 ^ L) (hb : b.n < 2 ^ L) (h1 : -R ≤ a.e ∧ a.e ≤ R) (h2 : -R ≤ b.e ∧ b.e ≤ R) (h3 : 0 ≤ R) :
    -(3 * R + L + 1) ≤ (sumD a b).e ∧ (sumD a b).e ≤ 3 * R + L + 1 := by
  unfold sumD; split
  · omega
  · split
    · omega
    · have hX : a.n * 2 ^ (a.e - min a.e b.e).toNat < 2 ^ (L + (2 * R).toNat) := Nat.lt_of_lt_of_le (pow_shift_lt ha) (Nat.pow_le_pow_right (by decide) (by omega))
      have hY : b.n * 2 ^ (b.e - min a.e b.e).toNat < 2 ^ (L + (2 * R).toNat) := Nat.lt_of_lt_of_le (pow_shift_lt hb) (Nat.pow_le_pow_right (by decide) (by omega))
      generalize a.n * 2 ^ (a.e - min a.e b.e).toNat = X at *
      generalize b.n * 2 ^ (b.e - min a.e b.e).toNat = Y at *
      have e : 2 ^ (L + (2 * R).toNat + 1) = 2 ^ (L + (2 * R).toNat) + 2 ^ (L + (2 * R).toNat) := by rw [Nat.pow_succ]; omega
      unfold addXY
      split
      · exact oddD_e _ (L + (2 * R).toNat + 1) (by show X + Y < _; omega) _ _ (by show _ ≤ min a.e b.e; omega) (by show min a.e b.e + _ ≤ _; omega) (by omega) (by omega)
      · split
        · exact oddD_e _ (L + (2 * R).toNat + 1) (by show Y - X < _; omega) _ _ (by show _ ≤ min a.e b.e; omega) (by show min a.e b.e + _ ≤ _; omega) (by omega) (by omega)
        · exact oddD_e _ (L + (2 * R).toNat + 1) (by show X - Y < _; omega) _ _ (by show _ ≤ min a.e b.e; omega) (by show min a.e b.e + _ ≤ _; omega) (by omega) (by omega)

end Go.Proofs.Ytebmogdojpcmfaa

/- Walks of layer 3: refuses, odd, answer. -/
namespace Go.Proofs.Ytebmogdojpcmfaa
set_option linter.unusedVariables false
open Go.RowKit

/-- the value x reads as the exact number d, its words without zeros at their end -/
def Dv (w : World) (x : Value) (d : D) : Prop := ∃ v, x = .agg #[.bool d.s, v, .int .i64 d.e] ∧ Rd 64 w v d.n (nd 64 d.n)
/-- likewise, its words in memory from B on -/
def DV (B : Nat) (w : World) (x : Value) (d : D) : Prop := ∃ A c, x = .agg #[.bool d.s, .slice A (nd 64 d.n) c, .int .i64 d.e] ∧ nd 64 d.n ≤ c ∧ nd 64 d.n ≤ 35184372088832 ∧ Rd 64 w (.slice A (nd 64 d.n) c) d.n (nd 64 d.n) ∧ Fr B w (.slice A (nd 64 d.n) c)

theorem Dv.below {w w' : World} {x : Value} {d : D} (h : Dv w x d) (hb : Below w.heap.size w w') : Dv w' x d := by
  obtain ⟨v, rfl, h⟩ := h; exact ⟨v, rfl, h.below hb⟩
theorem DV.below {B : Nat} {w w' : World} {x : Value} {d : D} (h : DV B w x d) (hb : Below w.heap.size w w') : DV B w' x d := by
  obtain ⟨A, c, rfl, h1, h2, h3, h4⟩ := h; exact ⟨A, c, rfl, h1, h2, h3.below hb, h4.below hb⟩
theorem DV.mono {B B' : Nat} {w : World} {x : Value} {d : D} (h : DV B w x d) (hB : B' ≤ B) : DV B' w x d := by
  obtain ⟨A, c, rfl, h1, h2, h3, h4⟩ := h; exact ⟨A, c, rfl, h1, h2, h3, h4.mono hB⟩
theorem DV.dv {B : Nat} {w : World} {x : Value} {d : D} (h : DV B w x d) : Dv w x d := by
  obtain ⟨A, c, rfl, _, _, h, _⟩ := h; exact ⟨_, rfl, h⟩
theorem DV.setCell {B : Nat} {w : World} {x : Value} {d : D} (h : DV B w x d) {p : Addr} (hp : p.block < B) (u : Value) : DV B (w.setCell p u) x d := by
  obtain ⟨A, c, rfl, h1, h2, h3, h4⟩ := h; exact ⟨A, c, rfl, h1, h2, h3.setCell_fr h4 hp u, h4.setCell hp u⟩
theorem DV.zero {B : Nat} {w : World} : DV B w (.agg #[.bool false, .slice none 0 0, .int .i64 0]) D.zero :=
  ⟨none, 0, by rw [show D.zero.n = 0 from rfl, nd_zero]; rfl, by rw [show D.zero.n = 0 from rfl, nd_zero]; omega, by rw [show D.zero.n = 0 from rfl, nd_zero]; omega, by rw [show D.zero.n = 0 from rfl, nd_zero]; exact Rd.nil_, by rw [show D.zero.n = 0 from rfl, nd_zero]; exact Fr.none_⟩
theorem Dv.zero {w : World} : Dv w (.agg #[.bool false, .slice none 0 0, .int .i64 0]) D.zero := (DV.zero (B := 0)).dv

end Go.Proofs.Ytebmogdojpcmfaa

/- Walks of layer 3: answer, aligned, sum. -/
namespace Go.Proofs.Ytebmogdojpcmfaa
set_option linter.unusedVariables false
open Go.RowKit

theorem keep_cell {W w1 : World} {b o : Nat} {x : Value} (hb : Below W.heap.size W w1) (h : W.cell? ⟨b, o, none⟩ = some x) : w1.cell? ⟨b, o, none⟩ = some x :=
  (hb.cell (p := ⟨b, o, none⟩) (World.block_lt_of_cell? W _ h)).trans h

theorem keep_below {W w1 w2 : World} (h : Below W.heap.size W w1) (hb : Below w1.heap.size w1 w2) : Below W.heap.size W w2 := h.trans (hb.mono h.size)

end Go.Proofs.Ytebmogdojpcmfaa

/- More words for memory: boxes of structs, as they stand behind a call. -/
namespace Go.Proofs.Ytebmogdojpcmfaa
set_option linter.unusedVariables false
open Go.RowKit

/-- block g is three cells, not frozen -/
def Box3 (w : World) (g : Nat) (a b c : Value) : Prop := ∃ t, w.heap[g]? = some (.cells #[a, b, c] t (0, 0))

theorem Box3.cells {w : World} {g : Nat} {a b c : Value} (h : Box3 w g a b c) :
    w.cell? ⟨g, 0, none⟩ = some a ∧ w.cell? ⟨g, 1, none⟩ = some b ∧ w.cell? ⟨g, 2, none⟩ = some c ∧ (∀ j, w.frozen? ⟨g, j, none⟩ = false) ∧ g < w.heap.size := by
  obtain ⟨t, h⟩ := h
  refine ⟨?_, ?_, ?_, fun j => ?_, lt_size_of_some h⟩
  · unfold World.cell?; simp only [h]; rfl
  · unfold World.cell?; simp only [h]; rfl
  · unfold World.cell?; simp only [h]; rfl
  · unfold World.frozen?; simp only [h]; simp

theorem Box3.keep {w w' : World} {g : Nat} {a b c : Value} (h : Box3 w g a b c) (hb : Below w.heap.size w w') : Box3 w' g a b c := by
  obtain ⟨t, h⟩ := h
  exact ⟨t, (hb.block g (lt_size_of_some h)).trans h⟩

theorem Box3.alloc {w : World} {g : Nat} {a b c : Value} (h : Box3 w g a b c) (o : Obj) : Box3 (w.alloc o) g a b c := h.keep ((Below.refl _ _).alloc (Nat.le_refl _) o)
theorem Box3.new (w : World) (a b c : Value) (t : TypeId) : Box3 (w.alloc (.cells #[a, b, c] t)) w.heap.size a b c := ⟨t, heap_alloc_at w _⟩
theorem Box3.new1 (w : World) (o : Obj) (a b c : Value) (t : TypeId) : Box3 ((w.alloc o).alloc (.cells #[a, b, c] t)) (w.heap.size + 1) a b c :=
  ⟨t, by have := heap_alloc_at (w.alloc o) (.cells #[a, b, c] t); simpa using this⟩
theorem Box3.new2 (w : World) (o o' : Obj) (a b c : Value) (t : TypeId) : Box3 (((w.alloc o).alloc o').alloc (.cells #[a, b, c] t)) (w.heap.size + 1 + 1) a b c :=
  ⟨t, by have := heap_alloc_at ((w.alloc o).alloc o') (.cells #[a, b, c] t); simpa using this⟩

theorem below1 (w : World) (o : Obj) : Below w.heap.size w (w.alloc o) := (Below.refl _ _).alloc (Nat.le_refl _) _
theorem below2 (w : World) (o o' : Obj) : Below w.heap.size w ((w.alloc o).alloc o') := (below1 w o).alloc (by simp) _
theorem below3 (w : World) (o o' o'' : Obj) : Below w.heap.size w (((w.alloc o).alloc o').alloc o'') := (below2 w o o').alloc (by simp; omega) _

/-- three stores into one box -/
theorem below_box {B : Nat} {w0 w : World} (h : Below B w0 w) {g : Nat} (hg : B ≤ g) (a b c : Value) : Below B w0 (((w.setCell ⟨g, 0, none⟩ a).setCell ⟨g, 1, none⟩ b).setCell ⟨g, 2, none⟩ c) :=
  ((h.setCell hg _).setCell hg _).setCell hg _
theorem DV.setBox {B : Nat} {w : World} {x : Value} {d : D} (h : DV B w x d) {g : Nat} (hg : g < B) (a b c : Value) : DV B (((w.setCell ⟨g, 0, none⟩ a).setCell ⟨g, 1, none⟩ b).setCell ⟨g, 2, none⟩ c) x d :=
  ((h.setCell hg _).setCell hg _).setCell hg _

theorem cell_box_other {w : World} {g g' o : Nat} {a b c x : Value} (hne : g' ≠ g) (h : w.cell? ⟨g', o, none⟩ = some x) :
    (((w.setCell ⟨g, 0, none⟩ a).setCell ⟨g, 1, none⟩ b).setCell ⟨g, 2, none⟩ c).cell? ⟨g', o, none⟩ = some x := by
  rw [World.cell?_setCell_other _ _ _ _ (fun e => by injection e with e1; omega), World.cell?_setCell_other _ _ _ _ (fun e => by injection e with e1; omega), World.cell?_setCell_other _ _ _ _ (fun e => by injection e with e1; omega)]
  exact h

/-- what is below B, and behind a call -/
theorem keep_belowB {B : Nat} {w0 w1 w2 : World} (h : Below B w0 w1) (hb : Below w1.heap.size w1 w2) (hB : B ≤ w0.heap.size) : Below B w0 w2 := h.trans (hb.mono (Nat.le_trans hB h.size))

end Go.Proofs.Ytebmogdojpcmfaa

/- Walks of layer 3: sum. -/
namespace Go.Proofs.Ytebmogdojpcmfaa
set_option linter.unusedVariables false
open Go.RowKit

theorem below_drewN {B : Nat} {w0 w : World} (h : Below B w0 w) (n : Nat) : Below B w0 (w.drewN n) := ⟨h.os, h.tape, h.output, h.size, h.block⟩

theorem nd_shift_le (N s : Nat) {L : Nat} (h : nd 64 N + s ≤ L) : nd 64 (N * 2 ^ s) ≤ L := by
  refine nd_le 64 _ L (by decide) ?_
  have h1 := lt_nd 64 N (by decide)
  have h2 := Nat.mul_lt_mul_of_pos_right h1 (pow_pos2 s)
  rw [← Nat.pow_add] at h2
  exact Nat.lt_of_lt_of_le h2 (Nat.pow_le_pow_right (by decide) (by omega))

end Go.Proofs.Ytebmogdojpcmfaa

/- The values of exact numbers: whole numbers of units 2^L. -/
namespace Go.Proofs.Ytebmogdojpcmfaa
set_option linter.unusedVariables false

/-- -1, 0 or 1 -/
def sgD (s : Bool) (N : Nat) : Int := if N = 0 then 0 else if s then -1 else 1

/-- d in units of 2^L -/
def D.i (L : Int) (d : D) : Int := (if d.s then -(d.n : Int) else (d.n : Int)) * 2 ^ (d.e - L).toNat

/-- is it written canonically? -/
def D.can (d : D) : Prop := d = D.zero ∨ d.n % 2 = 1

def sgI (x : Int) : Int := if x = 0 then 0 else if x < 0 then -1 else 1

theorem ipow_pos (k : Nat) : (0 : Int) < 2 ^ k := Int.pow_pos (by decide)

theorem D.i_zero (L : Int) : D.zero.i L = 0 := by simp [D.i, D.zero]

theorem D.i_neg (L : Int) (s : Bool) (n : Nat) (e : Int) : D.i L ⟨!s, n, e⟩ = - D.i L ⟨s, n, e⟩ := by
  unfold D.i
  cases s <;> simp [Int.neg_mul]

theorem oddD_can (d : D) : (oddD d).can := by
  unfold oddD
  split
  · exact Or.inl rfl
  · rename_i h
    obtain ⟨m, hm⟩ := tzN_spec d.n h
    refine Or.inr ?_
    show d.n / 2 ^ tzN d.n % 2 = 1
    have : d.n / 2 ^ tzN d.n = 2 * m + 1 := by
      rw [hm]
      have e : tzN (2 ^ tzN d.n * (2 * m + 1)) = tzN d.n := by rw [← hm]
      rw [e]
      exact Nat.mul_div_cancel_left _ (pow_pos2 _)
    omega

theorem oddD_low (d : D) (L : Int) (h : L ≤ d.e) (h0 : L ≤ 0) : L ≤ (oddD d).e := by
  unfold oddD
  split
  · exact h0
  · show L ≤ d.e + tzN d.n; omega

theorem i_odd (d : D) (L : Int) (h : L ≤ d.e) : (oddD d).i L = d.i L := by
  unfold oddD
  split
  · rename_i h0
    rw [D.i_zero]
    unfold D.i; rw [h0]; simp
  · rename_i h0
    obtain ⟨m, hm⟩ := tzN_spec d.n h0
    unfold D.i
    simp only
    have e1 : d.n / 2 ^ tzN d.n = 2 * m + 1 := by
      conv => lhs; lhs; rw [hm]
      exact Nat.mul_div_cancel_left _ (pow_pos2 _)
    have e2 : (d.e + (tzN d.n : Int) - L).toNat = tzN d.n + (d.e - L).toNat := by omega
    have e3 : (d.n : Int) = 2 ^ tzN d.n * (2 * (m : Int) + 1) := by
      have := congrArg (fun x : Nat => (x : Int)) hm
      simpa using this
    rw [e1, e2, Int.pow_add, e3]
    generalize (2 : Int) ^ tzN d.n = p
    generalize (2 : Int) ^ (d.e - L).toNat = q
    have e4 : ((2 * m + 1 : Nat) : Int) = 2 * (m : Int) + 1 := by omega
    rw [e4]
    split <;> grind

theorem i_shift (s : Bool) (n : Nat) (e m L : Int) (h1 : m ≤ e) (h2 : L ≤ m) : D.i L ⟨s, n * 2 ^ (e - m).toNat, m⟩ = D.i L ⟨s, n, e⟩ := by
  unfold D.i
  simp only
  have e1 : (e - L).toNat = (e - m).toNat + (m - L).toNat := by omega
  rw [e1, Int.pow_add]
  have e2 : ((n * 2 ^ (e - m).toNat : Nat) : Int) = (n : Int) * 2 ^ (e - m).toNat := by simp
  rw [e2]
  generalize (2 : Int) ^ (e - m).toNat = p
  generalize (2 : Int) ^ (m - L).toNat = q
  split <;> grind

theorem i_addXY (s1 s2 : Bool) (X Y : Nat) (m L : Int) (h : L ≤ m) : (addXY s1 s2 X Y m).i L = D.i L ⟨s1, X, m⟩ + D.i L ⟨s2, Y, m⟩ := by
  unfold addXY
  split
  · rename_i hs
    rw [i_odd _ L h]
    subst hs
    unfold D.i
    simp only
    generalize (2 : Int) ^ (m - L).toNat = q
    have e : ((X + Y : Nat) : Int) = (X : Int) + (Y : Int) := by omega
    rw [e]
    split <;> grind
  · rename_i hs
    have hs2 : s1 = !s2 := by cases s1 <;> cases s2 <;> simp_all
    split
    · rename_i hlt
      rw [i_odd _ L h]
      unfold D.i
      simp only
      generalize (2 : Int) ^ (m - L).toNat = q
      have e : ((Y - X : Nat) : Int) = (Y : Int) - (X : Int) := by omega
      rw [e, hs2]
      cases s2 <;> simp <;> grind
    · rename_i hge
      rw [i_odd _ L h]
      unfold D.i
      simp only
      generalize (2 : Int) ^ (m - L).toNat = q
      have e : ((X - Y : Nat) : Int) = (X : Int) - (Y : Int) := by omega
      rw [e, hs2]
      cases s2 <;> simp <;> grind

theorem i_of_zero {d : D} (h : d.n = 0) (L : Int) : d.i L = 0 := by unfold D.i; rw [h]; simp

theorem i_sum (a b : D) (L : Int) (ha : L ≤ a.e) (hb : L ≤ b.e) : (sumD a b).i L = a.i L + b.i L := by
  unfold sumD
  split
  · rename_i h; rw [i_of_zero h]; omega
  · split
    · rename_i h; rw [i_of_zero h]; omega
    · rw [i_addXY _ _ _ _ _ L (by omega), i_shift _ _ _ _ _ (by omega) (by omega), i_shift _ _ _ _ _ (by omega) (by omega)]

theorem sumD_low (a b : D) (L : Int) (ha : L ≤ a.e) (hb : L ≤ b.e) (h0 : L ≤ 0) : L ≤ (sumD a b).e := by
  unfold sumD
  split
  · exact hb
  · split
    · exact ha
    · unfold addXY
      split
      · exact oddD_low _ L (by show L ≤ min a.e b.e; omega) h0
      · split
        · exact oddD_low _ L (by show L ≤ min a.e b.e; omega) h0
        · exact oddD_low _ L (by show L ≤ min a.e b.e; omega) h0

theorem sumD_can {a b : D} (ha : a.can) (hb : b.can) : (sumD a b).can := by
  unfold sumD
  split
  · exact hb
  · split
    · exact ha
    · unfold addXY
      split
      · exact oddD_can _
      · split <;> exact oddD_can _

theorem sgD_i (d : D) (L : Int) : sgD d.s d.n = sgI (d.i L) := by
  unfold sgD sgI D.i
  have hp := ipow_pos (d.e - L).toNat
  generalize (2 : Int) ^ (d.e - L).toNat = q at *
  by_cases h : d.n = 0
  · simp [h]
  · rw [if_neg h]
    have hn : (0 : Int) < d.n := by omega
    have hq : (0 : Int) < (d.n : Int) * q := Int.mul_pos hn hp
    cases hs : d.s
    · simp only [Bool.false_eq_true, if_false]
      rw [if_neg (by omega), if_neg (by omega)]
    · simp only [if_true]
      rw [if_neg (by simp; omega), if_pos (by rw [Int.neg_mul]; omega)]

theorem can_odd (d : D) (h : d.can) : oddD d = d := by
  rcases h with h | h
  · rw [h]; exact oddD_zero _ _
  · unfold oddD
    rw [if_neg (by intro h0; rw [h0] at h; simp at h)]
    have : tzN d.n = 0 := by rw [tzN, dif_neg (by intro h0; rw [h0] at h; simp at h), if_pos h]
    rw [this]
    cases d; simp

theorem can_inj {a b : D} {L : Int} (ha : a.can) (hb : b.can) (h1 : L ≤ a.e) (h2 : L ≤ b.e) (h : a.i L = b.i L) : a = b := by
  have key : ∀ (d : D), d.can → L ≤ d.e → (d.i L = 0 ↔ d = D.zero) := by
    intro d hd hl
    constructor
    · intro h0
      rcases hd with hd | hd
      · exact hd
      · exfalso
        unfold D.i at h0
        have hp := ipow_pos (d.e - L).toNat
        have hn : (0 : Int) < d.n := by omega
        have := Int.mul_pos hn hp
        split at h0
        · rw [Int.neg_mul] at h0; omega
        · omega
    · intro h0; rw [h0]; exact D.i_zero L
  by_cases hz : a.i L = 0
  · rw [(key a ha h1).1 hz, (key b hb h2).1 (by rw [← h]; exact hz)]
  · have hza : a ≠ D.zero := fun e => hz ((key a ha h1).2 e)
    have hzb : b ≠ D.zero := fun e => hz (by rw [h]; exact (key b hb h2).2 e)
    have oa : a.n % 2 = 1 := ha.resolve_left hza
    have ob : b.n % 2 = 1 := hb.resolve_left hzb
    unfold D.i at h
    have pa := ipow_pos (a.e - L).toNat
    have pb := ipow_pos (b.e - L).toNat
    have na : (0 : Int) < (a.n : Int) * 2 ^ (a.e - L).toNat := Int.mul_pos (by omega) pa
    have nb : (0 : Int) < (b.n : Int) * 2 ^ (b.e - L).toNat := Int.mul_pos (by omega) pb
    have hs : a.s = b.s := by
      cases ea : a.s <;> cases eb : b.s <;> rw [ea, eb] at h <;> first | rfl | (exfalso; simp only [if_true, Bool.false_eq_true, if_false, Int.neg_mul] at h; omega)
    have hm : a.n * 2 ^ (a.e - L).toNat = b.n * 2 ^ (b.e - L).toNat := by
      have : (a.n : Int) * 2 ^ (a.e - L).toNat = (b.n : Int) * 2 ^ (b.e - L).toNat := by
        rw [hs] at h
        cases eb : b.s <;> rw [eb] at h <;> simp only [if_true, Bool.false_eq_true, if_false, Int.neg_mul] at h <;> omega
      have h' : ((a.n * 2 ^ (a.e - L).toNat : Nat) : Int) = ((b.n * 2 ^ (b.e - L).toNat : Nat) : Int) := by simpa using this
      omega
    obtain ⟨m, hm1⟩ : ∃ m, a.n = 2 * m + 1 := ⟨a.n / 2, by omega⟩
    obtain ⟨k, hk1⟩ : ∃ k, b.n = 2 * k + 1 := ⟨b.n / 2, by omega⟩
    have hu := odd_part_unique (a := (a.e - L).toNat) (b := (b.e - L).toNat) (m := m) (k := k) (by rw [← hm1, ← hk1, Nat.mul_comm, hm, Nat.mul_comm])
    have hn : a.n = b.n := by omega
    have he : a.e = b.e := by omega
    cases a; cases b
    simp only [D.mk.injEq]
    exact ⟨hs, hn, he⟩

end Go.Proofs.Ytebmogdojpcmfaa

/- Walks of layer 3: two, Canon, Neg, Sign, Top, FromInt. -/
namespace Go.Proofs.Ytebmogdojpcmfaa
set_option linter.unusedVariables false
open Go.RowKit

/-- x is an exact number that came in: sign s, n words that read as N, exponent e. -/
def Da (w : World) (x : Value) (s : Bool) (N n : Nat) (e : Int) : Prop := ∃ A c, x = .agg #[.bool s, .slice A n c, .int .i64 e] ∧ n ≤ c ∧ n ≤ 35184372088832 ∧ Rd 64 w (.slice A n c) N n

theorem Da.below {w w' : World} {x : Value} {s : Bool} {N n : Nat} {e : Int} (h : Da w x s N n e) (hb : Below w.heap.size w w') : Da w' x s N n e := by
  obtain ⟨A, c, rfl, h1, h2, h3⟩ := h; exact ⟨A, c, rfl, h1, h2, h3.below hb⟩

theorem DV.da {B : Nat} {w : World} {x : Value} {d : D} (h : DV B w x d) : Da w x d.s d.n (nd 64 d.n) d.e := by
  obtain ⟨A, c, rfl, h1, h2, h3, _⟩ := h; exact ⟨A, c, rfl, h1, h2, h3⟩

end Go.Proofs.Ytebmogdojpcmfaa

/- Walks of layer 3: Neg, Sign, Top, FromInt, Scale. -/
namespace Go.Proofs.Ytebmogdojpcmfaa
set_option linter.unusedVariables false
open Go.RowKit

theorem Box3.setOther {w : World} {g : Nat} {a b c : Value} (h : Box3 w g a b c) {p : Addr} (hp : p.block ≠ g) (u : Value) : Box3 (w.setCell p u) g a b c := by
  obtain ⟨t, h⟩ := h
  exact ⟨t, (Below.heap_setCell w p u g (Ne.symm hp)).trans h⟩

def negD (n : Nat) (d : D) : D × Int := if refD n d.e = 0 then ansD ⟨!d.s, d.n, d.e⟩ else (D.zero, refD n d.e)

def topD (n : Nat) (d : D) : Int × Int := if refD n d.e = 0 then (if d.n = 0 then (0, 31) else ((bl d.n : Int) - 1 + d.e, 0)) else (0, refD n d.e)

end Go.Proofs.Ytebmogdojpcmfaa

/- Walks of layer 3: FromInt, Scale, Floor. -/
namespace Go.Proofs.Ytebmogdojpcmfaa
set_option linter.unusedVariables false
open Go.RowKit

theorem Box3.set0 {w : World} {g : Nat} {a b c : Value} (h : Box3 w g a b c) (x : Value) : Box3 (w.setCell ⟨g, 0, none⟩ x) g x b c := by
  obtain ⟨t, h⟩ := h
  refine ⟨t, ?_⟩
  simp [World.setCell, Array.getElem?_modify, h]
theorem Box3.set1 {w : World} {g : Nat} {a b c : Value} (h : Box3 w g a b c) (x : Value) : Box3 (w.setCell ⟨g, 1, none⟩ x) g a x c := by
  obtain ⟨t, h⟩ := h
  refine ⟨t, ?_⟩
  simp [World.setCell, Array.getElem?_modify, h]
theorem Box3.set2 {w : World} {g : Nat} {a b c : Value} (h : Box3 w g a b c) (x : Value) : Box3 (w.setCell ⟨g, 2, none⟩ x) g a b x := by
  obtain ⟨t, h⟩ := h
  refine ⟨t, ?_⟩
  simp [World.setCell, Array.getElem?_modify, h]
theorem Box3.setAll {w : World} {g : Nat} {a b c : Value} (h : Box3 w g a b c) (x y z : Value) : Box3 (((w.setCell ⟨g, 0, none⟩ x).setCell ⟨g, 1, none⟩ y).setCell ⟨g, 2, none⟩ z) g x y z := ((h.set0 x).set1 y).set2 z
theorem Box3.otherAll {w : World} {g g' : Nat} {a b c : Value} (h : Box3 w g a b c) (hg : g' ≠ g) (x y z : Value) : Box3 (((w.setCell ⟨g', 0, none⟩ x).setCell ⟨g', 1, none⟩ y).setCell ⟨g', 2, none⟩ z) g a b c :=
  ((h.setOther (p := ⟨g', 0, none⟩) hg x).setOther (p := ⟨g', 1, none⟩) hg y).setOther (p := ⟨g', 2, none⟩) hg z

theorem Rd.one (w : World) (x : Nat) (hx : x < 18446744073709551616) : Rd 64 (w.alloc (.cells #[.int .u64 x] 24)) (.slice (some ⟨w.heap.size, 0, none⟩) 1 1) x 1 := by
  refine ⟨_, 1, rfl, Nat.le_refl _, by omega, by simpa using hx, fun _ => ⟨w.heap.size, 0, rfl, by simp, fun j hj => ?_⟩⟩
  obtain rfl : j = 0 := by omega
  rw [World.cell?_alloc_at _ _ _ _ rfl]
  have : dg 64 x 0 = x := by unfold dg; simp; exact hx
  rw [this]; rfl

def fromIntD (x : Int) : D := oddD ⟨decide (x < 0), x.natAbs, 0⟩

end Go.Proofs.Ytebmogdojpcmfaa
