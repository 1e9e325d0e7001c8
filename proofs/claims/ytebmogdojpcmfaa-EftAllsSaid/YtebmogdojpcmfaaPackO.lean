/- Packed by program: RouA RouB RouC RouD RouE RouF RouG RouH RouI. -/
import Derived.Test.YtebmogdojpcmfaaPackB
import Derived.Test.YtebmogdojpcmfaaPackR
import Derived.Deep.CutBlock
import Derived.Test.YtebmogdojpcmfaaPackF
import Derived.StillTailTactics
/- Walks of layer 2 for rounding: left, Shl, divides, Jam. -/
namespace Go.Proofs.Ytebmogdojpcmfaa
set_option linter.unusedVariables false
open Go.RowKit

end Go.Proofs.Ytebmogdojpcmfaa

/- Walks of layer 2 for rounding: divides, Jam; what four times a quotient with a sticky bit tells. -/
namespace Go.Proofs.Ytebmogdojpcmfaa
set_option linter.unusedVariables false
open Go.RowKit

theorem dvd_tzN {N s : Nat} (h : N ≠ 0) : N % 2 ^ s = 0 ↔ s ≤ tzN N := by
  obtain ⟨m, hm⟩ := tzN_spec N h
  constructor
  · intro h1
    rcases Nat.lt_or_ge (tzN N) s with h2 | h2
    · exfalso
      obtain ⟨t, ht⟩ : ∃ t, s = tzN N + 1 + t := ⟨s - tzN N - 1, by omega⟩
      have h3 := Nat.div_add_mod N (2 ^ s)
      rw [h1, Nat.add_zero, ht, Nat.pow_add, Nat.pow_succ] at h3
      have h4 : 2 ^ tzN N * (2 * (2 ^ t * (N / (2 ^ tzN N * 2 * 2 ^ t)))) = 2 ^ tzN N * (2 * m + 1) := by
        rw [← hm]; rw [← h3]; grind
      have := Nat.eq_of_mul_eq_mul_left (pow_pos2 _) h4
      omega
    · exact h2
  · intro h1
    obtain ⟨t, ht⟩ : ∃ t, tzN N = s + t := ⟨tzN N - s, by omega⟩
    rw [hm, ht, Nat.pow_add, Nat.mul_assoc]
    exact Nat.mul_mod_right _ _

/-- shifted right; the lowest bit is 1 where a bit that fell out was -/
def jamN (N s : Nat) : Nat := if N % 2 ^ s = 0 then N / 2 ^ s else N / 2 ^ s ||| 1

theorem Fr.rd_set {k B : Nat} {w : World} {v : Value} {N n : Nat} (h : Rd k w v N n) (hf : Fr B w v) (hn : 0 < n) (d : Nat) (hd : d < 2 ^ k) :
    ∃ b c arr, v = .slice (some ⟨b, 0, none⟩) n c ∧ B ≤ b ∧ w.heap[b]? = some (.cells arr 24 (0, 0)) ∧ 0 < arr.size ∧ w.cell? ⟨b, 0, none⟩ = some (.int .u64 (dg k N 0)) ∧ w.frozen? ⟨b, 0, none⟩ = false ∧
      Rd k (w.setCell ⟨b, 0, none⟩ (.int .u64 d)) v (setDg k N 0 d) n ∧ Fr B (w.setCell ⟨b, 0, none⟩ (.int .u64 d)) v := by
  obtain ⟨A, c, rfl, h1, h2, h3, h4⟩ := h
  obtain ⟨b, o, rfl, hlt, hc⟩ := h4 hn
  obtain ⟨A', n', c', e, h0, h5⟩ := hf
  injection e with e1 e2 e3
  subst e2 e3
  rcases h5 with h5 | ⟨b', arr, e', hB, hh, hc'⟩
  · omega
  · rw [e'] at e1
    injection e1 with e1
    injection e1 with e1 e4
    subst e1 e4
    have hc0 := hc 0 hn
    rw [Nat.zero_add] at hc0
    have hsz : 0 < arr.size := by omega
    have hnew : (w.setCell ⟨b, 0, none⟩ (.int .u64 d)).heap[b]? = some (.cells (arr.set! 0 (.int .u64 d)) 24 (0, 0)) := by
      simp [World.setCell, Array.getElem?_modify, hh]
    refine ⟨b, c, arr, rfl, hB, hh, hsz, hc0, by unfold World.frozen?; simp [hh], ?_, ?_⟩
    · refine ⟨_, c, rfl, h1, h2, setDg_lt k N 0 d n h3 hn hd, fun _ => ⟨b, 0, rfl, by simp [World.setCell]; exact hlt, fun j hj => ?_⟩⟩
      unfold World.cell?
      simp only [hnew]
      have hcj := hc j hj
      unfold World.cell? at hcj
      simp only [hh] at hcj
      rw [Nat.zero_add] at hcj ⊢
      by_cases h00 : j = 0
      · subst h00
        rw [dg_setDg_same k N 0 d hd]
        simp [hsz]
      · rw [dg_setDg_other k N 0 j d hd h00, ← hcj]
        simp [Ne.symm h00]
    · exact ⟨_, n, c, rfl, h0, Or.inr ⟨b, _, rfl, hB, hnew, by simp; exact hc'⟩⟩

theorem or_one (q : Nat) : setDg 64 q 0 (dg 64 q 0 ||| 1) = q ||| 1 := by
  have h1 := setDg_add 64 q 0 (dg 64 q 0 ||| 1)
  simp only [Nat.mul_zero, Nat.pow_zero, Nat.mul_one] at h1
  have h2 : dg 64 q 0 = q % 2 ^ 64 := by unfold dg; simp
  rw [h2] at h1 ⊢
  have e1 : ∀ x : Nat, x ||| 1 = x + (1 - x % 2) := by
    intro x
    have a := Nat.two_pow_add_eq_or_of_lt (i := 1) (b := 1) (by decide) (x / 2)
    have b : x % 2 = 0 ∨ x % 2 = 1 := by omega
    have c := Nat.div_add_mod x 2
    rcases b with b | b
    · rw [Nat.pow_one] at a
      have : 2 * (x / 2) = x := by omega
      rw [this] at a
      omega
    · have e : x ||| 1 = x := by
        apply Nat.eq_of_testBit_eq
        intro i
        rw [Nat.testBit_or]
        cases i with
        | zero => simp [Nat.testBit_zero, b]
        | succ i => simp [Nat.testBit_succ]
      rw [e, b]; rfl
  rw [e1, e1] at *
  have : q % 2 ^ 64 % 2 = q % 2 := by omega
  omega

theorem or_one_lt {x : Nat} (h : x < 18446744073709551616) : x ||| 1 < 18446744073709551616 := Nat.or_lt_two_pow (n := 64) h (by decide)

theorem or_one_nd {q : Nat} (h : q ≠ 0) : nd 64 (q ||| 1) = nd 64 q := by
  have h1 := lt_nd 64 q (by decide)
  have h2 := nd_le_pow 64 q h
  have hp := nd_pos 64 q h
  refine nd_unique 64 _ _ (by decide) ?_ (Or.inr (Nat.le_trans h2 Nat.left_le_or))
  exact Nat.or_lt_two_pow h1 (Nat.one_lt_two_pow (by omega))

end Go.Proofs.Ytebmogdojpcmfaa

/- Walks of layer 5: further, cut. -/
namespace Go.Proofs.Ytebmogdojpcmfaa
set_option linter.unusedVariables false
open Go.RowKit

/-- a box of any cells -/
def Bx (w : World) (g : Nat) (arr : Array Value) : Prop := ∃ t, w.heap[g]? = some (.cells arr t (0, 0))
theorem Bx.new (w : World) (arr : Array Value) (t : TypeId) : Bx (w.alloc (.cells arr t)) w.heap.size arr := ⟨t, heap_alloc_at w _⟩
theorem Bx.below {w w' : World} {g : Nat} {arr : Array Value} (h : Bx w g arr) (hb : Below w.heap.size w w') : Bx w' g arr := by
  obtain ⟨t, h⟩ := h; exact ⟨t, (hb.block g (lt_size_of_some h)).trans h⟩
theorem Bx.cell {w : World} {g : Nat} {arr : Array Value} (h : Bx w g arr) (i : Nat) {v : Value} (hv : arr[i]? = some v) : w.cell? ⟨g, i, none⟩ = some v := by
  obtain ⟨t, h⟩ := h
  unfold World.cell?
  simp only [h]
  exact hv
theorem Bx.free {w : World} {g : Nat} {arr : Array Value} (h : Bx w g arr) (i : Nat) : w.frozen? ⟨g, i, none⟩ = false := by
  obtain ⟨t, h⟩ := h; unfold World.frozen?; simp [h]

/-- four times the quotient, with a sticky bit -/
def jN (n : Nat) (d : Int) : Nat := if 2 ≤ d then jamN n (d - 2).toNat else n * 2 ^ (2 - d).toNat

theorem or_one_eq (x : Nat) : x ||| 1 = x + (1 - x % 2) := by
  have a := Nat.two_pow_add_eq_or_of_lt (i := 1) (b := 1) (by decide) (x / 2)
  have b : x % 2 = 0 ∨ x % 2 = 1 := by omega
  have c := Nat.div_add_mod x 2
  rcases b with b | b
  · rw [Nat.pow_one] at a
    have : 2 * (x / 2) = x := by omega
    rw [this] at a
    omega
  · have e : x ||| 1 = x := by
      apply Nat.eq_of_testBit_eq
      intro i
      rw [Nat.testBit_or]
      cases i with
      | zero => simp [Nat.testBit_zero, b]
      | succ i => simp [Nat.testBit_succ]
    rw [e, b]; rfl

theorem jN_facts (n : Nat) (d : Int) : jN n d / 4 = flr n d ∧ (∀ more : Bool, (if more then jN n d % 4 ||| 1 else jN n d % 4) = rst n more d) := by
  unfold jN
  by_cases h2 : 2 ≤ d
  · rw [if_pos h2]
    obtain ⟨s, hs⟩ : ∃ s : Nat, d = s + 2 := ⟨(d - 2).toNat, by omega⟩
    subst hs
    have e1 : ((s : Int) + 2 - 2).toNat = s := by omega
    have e2 : ((s : Int) + 2).toNat = s + 2 := by omega
    have e3 : (-((s : Int) + 2)).toNat = 0 := by omega
    unfold flr rst jamN
    rw [e1, e2, e3, Nat.pow_zero, Nat.mul_one, Nat.pow_add]
    have hq := Nat.div_add_mod n (2 ^ s)
    have hl := Nat.mod_lt n (pow_pos2 s)
    have hd : n / (2 ^ s * 2 ^ 2) = n / 2 ^ s / 4 := by rw [← Nat.div_div_eq_div_mul]
    have hm : n % (2 ^ s * 2 ^ 2) = 2 ^ s * (n / 2 ^ s % 4) + n % 2 ^ s := by rw [Nat.mod_mul, show (2 : Nat) ^ 2 = 4 from rfl]; omega
    rw [hd, hm]
    generalize n / 2 ^ s = q at *
    generalize n % 2 ^ s = r at *
    have hp := pow_pos2 s
    generalize 2 ^ s = c at *
    have hk : q % 4 = 0 ∨ q % 4 = 1 ∨ q % 4 = 2 ∨ q % 4 = 3 := by omega
    constructor
    · split
      · rfl
      · rw [or_one_eq]; omega
    · intro more
      unfold cls
      by_cases h0 : r = 0
      · rw [if_pos h0, h0, Nat.add_zero]
        rcases hk with k | k | k | k <;> rw [k]
        · cases more <;> simp
        · have a1 : ¬ c * 1 = 0 := by omega
          have a2 : 2 * (c * 1) < c * 2 ^ 2 := by omega
          rw [if_neg a1, if_pos a2]; cases more <;> rfl
        · have a1 : ¬ c * 2 = 0 := by omega
          have a2 : ¬ 2 * (c * 2) < c * 2 ^ 2 := by omega
          have a3 : 2 * (c * 2) = c * 2 ^ 2 := by omega
          rw [if_neg a1, if_neg a2]; cases more <;> simp [a3]
        · have a1 : ¬ c * 3 = 0 := by omega
          have a2 : ¬ 2 * (c * 3) < c * 2 ^ 2 := by omega
          have a3 : ¬ 2 * (c * 3) = c * 2 ^ 2 := by omega
          have a4 : ¬ (2 * (c * 3) = c * 2 ^ 2 ∧ more = false) := fun h => a3 h.1
          rw [if_neg a1, if_neg a2, if_neg a4]; cases more <;> rfl
      · rw [if_neg h0, or_one_eq q]
        rcases hk with k | k | k | k <;> rw [k]
        · have e : (q + (1 - q % 2)) % 4 = 1 := by omega
          have a1 : ¬ c * 0 + r = 0 := by omega
          have a2 : 2 * (c * 0 + r) < c * 2 ^ 2 := by omega
          rw [e, if_neg a1, if_pos a2]; cases more <;> rfl
        · have e : (q + (1 - q % 2)) % 4 = 1 := by omega
          have a1 : ¬ c * 1 + r = 0 := by omega
          have a2 : 2 * (c * 1 + r) < c * 2 ^ 2 := by omega
          rw [e, if_neg a1, if_pos a2]; cases more <;> rfl
        · have e : (q + (1 - q % 2)) % 4 = 3 := by omega
          have a1 : ¬ c * 2 + r = 0 := by omega
          have a2 : ¬ 2 * (c * 2 + r) < c * 2 ^ 2 := by omega
          have a3 : ¬ 2 * (c * 2 + r) = c * 2 ^ 2 := by omega
          have a4 : ¬ (2 * (c * 2 + r) = c * 2 ^ 2 ∧ more = false) := fun h => a3 h.1
          rw [e, if_neg a1, if_neg a2, if_neg a4]; cases more <;> rfl
        · have e : (q + (1 - q % 2)) % 4 = 3 := by omega
          have a1 : ¬ c * 3 + r = 0 := by omega
          have a2 : ¬ 2 * (c * 3 + r) < c * 2 ^ 2 := by omega
          have a3 : ¬ 2 * (c * 3 + r) = c * 2 ^ 2 := by omega
          have a4 : ¬ (2 * (c * 3 + r) = c * 2 ^ 2 ∧ more = false) := fun h => a3 h.1
          rw [e, if_neg a1, if_neg a2, if_neg a4]; cases more <;> rfl
  · rw [if_neg h2]
    by_cases h1 : d = 1
    · subst h1
      unfold flr rst cls
      rw [show ((2 : Int) - 1).toNat = 1 by omega, show ((1 : Int)).toNat = 1 by omega, show (-(1 : Int)).toNat = 0 by omega, Nat.pow_zero, Nat.mul_one, Nat.pow_one]
      refine ⟨by omega, fun more => ?_⟩
      rcases (show n % 2 = 0 ∨ n % 2 = 1 by omega) with k | k
      · have e : n * 2 % 4 = 0 := by omega
        rw [k, e]; cases more <;> rfl
      · have e : n * 2 % 4 = 2 := by omega
        rw [k, e]; cases more <;> rfl
    · obtain ⟨t, ht⟩ : ∃ t : Nat, d = -(t : Int) := ⟨(-d).toNat, by omega⟩
      subst ht
      unfold flr rst cls
      rw [show (2 - -(t : Int)).toNat = t + 2 by omega, show (-(t : Int)).toNat = 0 by omega, show (- -(t : Int)).toNat = t by omega, Nat.pow_zero, Nat.div_one, Nat.mod_one, Nat.pow_add, ← Nat.mul_assoc]
      generalize n * 2 ^ t = x
      refine ⟨by omega, fun more => ?_⟩
      have e : x * 2 ^ 2 % 4 = 0 := by omega
      rw [e]; cases more <;> rfl

end Go.Proofs.Ytebmogdojpcmfaa

/- Walks of layer 5: cut. -/
namespace Go.Proofs.Ytebmogdojpcmfaa
set_option linter.unusedVariables false
open Go.RowKit

/-- a number under rounding, as cells -/
def numA (neg : Bool) (x : Value) (e : Int) (more : Bool) : Array Value := #[.bool neg, x, .int .i64 e, .bool more]

theorem dg0_mod4 (J : Nat) : dg 64 J 0 % 4 = J % 4 := by unfold dg; rw [Nat.mul_zero, Nat.pow_zero, Nat.div_one]; omega
theorem dg0_mod2 (J : Nat) : dg 64 J 0 % 2 = J % 2 := by unfold dg; rw [Nat.mul_zero, Nat.pow_zero, Nat.div_one]; omega

theorem beq_one (z : Nat) : ((z : Int) == 1) = decide (z = 1) := by
  by_cases h : z = 1
  · subst h; rfl
  · simp [h]; omega

theorem jamN_lt (n s k : Nat) (h : n < 2 ^ k) (hk : 1 ≤ k) : jamN n s < 2 ^ k := by
  have h1 := Nat.lt_of_le_of_lt (Nat.div_le_self n (2 ^ s)) h
  unfold jamN; split
  · exact h1
  · exact Nat.or_lt_two_pow h1 (Nat.one_lt_two_pow (by omega))

end Go.Proofs.Ytebmogdojpcmfaa

/- Walks of layer 5: top, tiny, modeError, refuses, beyond. -/
namespace Go.Proofs.Ytebmogdojpcmfaa
set_option linter.unusedVariables false
open Go.RowKit

end Go.Proofs.Ytebmogdojpcmfaa

/- Walks of layer 5: refuses. -/
namespace Go.Proofs.Ytebmogdojpcmfaa
set_option linter.unusedVariables false
open Go.RowKit

/-- the error of a format and a mode -/
def rfS (f m : Int) : Int := if f < 0 ∨ 4 ≤ f then 2 else if m < 0 ∨ 5 < m then 3 else 0

theorem rfS_ok {f m : Int} (h : rfS f m = 0) : ∃ n k : Nat, f = n ∧ n < 4 ∧ m = k ∧ k ≤ 5 := by
  unfold rfS at h
  split at h
  · omega
  · split at h
    · omega
    · exact ⟨f.toNat, m.toNat, by omega, by omega, by omega, by omega⟩
theorem rfS_of {n k : Nat} (h : n < 4) (hk : k ≤ 5) : rfS n k = 0 := by
  unfold rfS; rw [if_neg (by omega), if_neg (by omega)]

theorem Bx.set4 {w : World} {g : Nat} {a b c d : Value} (h : Bx w g #[a, b, c, d]) (x0 x1 x2 x3 : Value) : Bx ((((w.setCell ⟨g, 0, none⟩ x0).setCell ⟨g, 1, none⟩ x1).setCell ⟨g, 2, none⟩ x2).setCell ⟨g, 3, none⟩ x3) g #[x0, x1, x2, x3] := by
  obtain ⟨t, h⟩ := h
  refine ⟨t, ?_⟩
  simp [World.setCell, Array.getElem?_modify, h]

theorem keep_free {W w1 : World} {b o : Nat} (hb : Below W.heap.size W w1) (hlt : b < W.heap.size) (h : W.frozen? ⟨b, o, none⟩ = false) : w1.frozen? ⟨b, o, none⟩ = false := (hb.frozen (p := ⟨b, o, none⟩) hlt).trans h

end Go.Proofs.Ytebmogdojpcmfaa

/- Walks of layer 5: tiny. -/
namespace Go.Proofs.Ytebmogdojpcmfaa
set_option linter.unusedVariables false
open Go.RowKit

theorem cut_room (F : Fm) (ok : F.Ok) (n : Nat) (e q : Int) (h0 : n ≠ 0) (hq : topE n e - F.p + 1 ≤ q) (h2 : q - e < 2) : 2 - (q - e) ≤ 65536 ∧ nd 64 (n * 2 ^ (2 - (q - e)).toNat) ≤ 1024 := by
  have h1 := topE_ge n e h0
  have hp := ok.p53
  have hb := bl_lt n
  have hbp := bl_pos n h0
  unfold topE at *
  refine ⟨by omega, ?_⟩
  have : n * 2 ^ (2 - (q - e)).toNat < 2 ^ (64 * 1) := by
    refine Nat.lt_of_lt_of_le (Nat.mul_lt_mul_of_pos_right hb (pow_pos2 _)) ?_
    rw [← Nat.pow_add]
    exact Nat.pow_le_pow_right (by decide) (by omega)
  have := nd_le 64 _ 1 (by decide) this
  omega

theorem flr_lt_p (F : Fm) (n : Nat) (e q : Int) (h0 : n ≠ 0) (hq : topE n e - F.p + 1 ≤ q) : flr n (q - e) < 2 ^ F.p := by
  obtain ⟨L, hL1, hL2⟩ : ∃ L : Int, L ≤ e ∧ L ≤ q := ⟨min e q, by omega, by omega⟩
  have ht := topE_ge n e h0
  obtain ⟨a1, a2⟩ := flr_units n e q L hL1 hL2
  obtain ⟨b1, b2⟩ := top_units n e L h0 hL1
  have e1 : (topE n e - L).toNat + 1 ≤ F.p + (q - L).toNat := by omega
  have e2 := Nat.pow_le_pow_right (show 0 < 2 by decide) e1
  rw [Nat.pow_add 2 F.p] at e2
  exact Nat.lt_of_mul_lt_mul_right (Nat.lt_of_le_of_lt a1 (Nat.lt_of_lt_of_le b2 e2))

theorem cut_le_p (F : Fm) (m : Nat) (neg : Bool) (n : Nat) (e q : Int) (more : Bool) (h0 : n ≠ 0) (hq : topE n e - F.p + 1 ≤ q) : cutS m neg n more (q - e) ≤ 2 ^ F.p ∧ bl (cutS m neg n more (q - e)) ≤ F.p + 1 := by
  have h := flr_lt_p F n e q h0 hq
  have h1 : cutS m neg n more (q - e) ≤ 2 ^ F.p := by unfold cutS; split <;> omega
  exact ⟨h1, bl_le_of_lt (Nat.lt_of_le_of_lt h1 (Nat.pow_lt_pow_right (by decide) (Nat.lt_succ_self _)))⟩

def tinyB (F : Fm) (m : Nat) (neg : Bool) (n : Nat) (e : Int) (more : Bool) : Bool := decide (topE n e < F.emin) && decide (topE n e - F.p + bl (cutS m neg n more (topE n e - F.p + 1 - e)) < F.emin)

theorem Bx.num {w : World} {g : Nat} {neg : Bool} {x : Value} {e : Int} {more : Bool} (h : Bx w g (numA neg x e more)) : w.cell? ⟨g, 0, none⟩ = some (.bool neg) ∧ w.cell? ⟨g, 1, none⟩ = some x ∧ w.cell? ⟨g, 2, none⟩ = some (.int .i64 e) ∧ w.cell? ⟨g, 3, none⟩ = some (.bool more) :=
  ⟨h.cell 0 rfl, h.cell 1 rfl, h.cell 2 rfl, h.cell 3 rfl⟩

end Go.Proofs.Ytebmogdojpcmfaa

/- Walks of layer 5: into. -/
namespace Go.Proofs.Ytebmogdojpcmfaa
set_option linter.unusedVariables false
open Go.RowKit

theorem into_def (F : Fm) (m : Nat) (neg : Bool) (n : Nat) (e : Int) (more : Bool) (U : Nat) (Q : Int) (hQ : Q = quE F n e) (hU : U = cutS m neg n more (Q - e)) :
    intoS F m neg n e more = if F.emax < topE n e then (beyondS F m neg, 20) else if F.emax < Q + bl U - 1 then (beyondS F m neg, 20) else ((Q - F.low).toNat * 2 ^ (F.p - 1) + U + F.sg neg, if rst n more (Q - e) = 0 then 0 else if tinyB F m neg n e more = true then 24 else 16) := by
  subst hQ hU
  unfold intoS tinyB
  simp only [Bool.and_eq_true, decide_eq_true_eq]

end Go.Proofs.Ytebmogdojpcmfaa

/- Walks of layer 5: Parts. -/
namespace Go.Proofs.Ytebmogdojpcmfaa
set_option linter.unusedVariables false
open Go.RowKit

/-- a number of 128 bits, as a value -/
def WV (N : Nat) : Value := .agg #[.int .u64 ((N / 18446744073709551616 : Nat) : Int), .int .u64 ((N % 18446744073709551616 : Nat) : Int)]

theorem Rd.two (w : World) (lo hi : Nat) (hlo : lo < 18446744073709551616) (hhi : hi < 18446744073709551616) (N : Nat) (hN : N = lo + hi * 18446744073709551616) : Rd 64 (w.alloc (.cells #[.int .u64 lo, .int .u64 hi] 24)) (.slice (some ⟨w.heap.size, 0, none⟩) 2 2) N 2 := by
  refine ⟨_, 2, rfl, Nat.le_refl _, by omega, by rw [hN]; show _ < 2 ^ 128; omega, fun _ => ⟨w.heap.size, 0, rfl, by simp, fun j hj => ?_⟩⟩
  rw [World.cell?_alloc_at _ _ _ _ rfl]
  rcases (show j = 0 ∨ j = 1 by omega) with rfl | rfl
  · have : dg 64 N 0 = lo := by unfold dg; rw [Nat.mul_zero, Nat.pow_zero, Nat.div_one, hN]; omega
    rw [this]; rfl
  · have : dg 64 N 1 = hi := by unfold dg; rw [hN]; show (lo + hi * 18446744073709551616) / 18446744073709551616 % 18446744073709551616 = hi; omega
    rw [this]; rfl

/-- what Parts answers of (N and more) * 2^e -/
def partsS (F : Fm) (m : Nat) (neg : Bool) (N : Nat) (e : Int) (more : Bool) : Nat × Nat := if N = 0 then (F.sg neg, 0) else intoS F m neg N e more

end Go.Proofs.Ytebmogdojpcmfaa
