/- Walks of layer 5: further, cut. -/
import Derived.Deep.CutBlock
import Derived.Test.YtcgceigmglikpaaDoorRouB
namespace Go.Proofs.YtcgceigmglikpaaDoor
set_option linter.unusedVariables false
open Go.RowKit

/-- a box of any cells -/
def Bx (w : World) (g : Nat) (arr : Array Value) : Prop := ∃ t, w.heap[g]? = some (.cells arr t (0, 0))
theorem Bx.new (w : World) (arr : Array Value) (t : TypeId) : Bx (w.alloc (.cells arr t)) w.heap.size arr := ⟨t, heap_alloc_at w _⟩
theorem Bx.below {w w' : World} {g : Nat} {arr : Array Value} (h : Bx w g arr) (hb : Below w.heap.size w w') : Bx w' g arr := by
  obtain ⟨t, h⟩ := h; exact ⟨t, (hb.block g (lt_size_of_some h)).trans h⟩
theorem Bx.cell {w : World} {g : Nat} {arr : Array Value} (h : Bx w g arr) (i : Nat) {v : Value} (hv : arr[i]? = some v) : w.cell? ⟨g, i, none⟩ = some v := by
  obtain ⟨t, h⟩ := h
  unfold World.cell?
  simp only [h]
  exact hv
theorem Bx.free {w : World} {g : Nat} {arr : Array Value} (h : Bx w g arr) (i : Nat) : w.frozen? ⟨g, i, none⟩ = false := by
  obtain ⟨t, h⟩ := h; unfold World.frozen?; simp [h]

/-- four times the quotient, with a sticky bit -/
def jN (n : Nat) (d : Int) : Nat := if 2 ≤ d then jamN n (d - 2).toNat else n * 2 ^ (2 - d).toNat

theorem or_one_eq (x : Nat) : x ||| 1 = x + (1 - x % 2) := by
  have a := Nat.two_pow_add_eq_or_of_lt (i := 1) (b := 1) (by decide) (x / 2)
  have b : x % 2 = 0 ∨ x % 2 = 1 := by omega
  have c := Nat.div_add_mod x 2
  rcases b with b | b
  · rw [Nat.pow_one] at a
    have : 2 * (x / 2) = x := by omega
    rw [this] at a
    omega
  · have e : x ||| 1 = x := by
      apply Nat.eq_of_testBit_eq
      intro i
      rw [Nat.testBit_or]
      cases i with
      | zero => simp [Nat.testBit_zero, b]
      | succ i => simp [Nat.testBit_succ]
    rw [e, b]; rfl

theorem jN_facts (n : Nat) (d : Int) : jN n d / 4 = flr n d ∧ (∀ more : Bool, (if more then jN n d % 4 ||| 1 else jN n d % 4) = rst n more d) := by
  unfold jN
  by_cases h2 : 2 ≤ d
  · rw [if_pos h2]
    obtain ⟨s, hs⟩ : ∃ s : Nat, d = s + 2 := ⟨(d - 2).toNat, by omega⟩
    subst hs
    have e1 : ((s : Int) + 2 - 2).toNat = s := by omega
    have e2 : ((s : Int) + 2).toNat = s + 2 := by omega
    have e3 : (-((s : Int) + 2)).toNat = 0 := by omega
    unfold flr rst jamN
    rw [e1, e2, e3, Nat.pow_zero, Nat.mul_one, Nat.pow_add]
    have hq := Nat.div_add_mod n (2 ^ s)
    have hl := Nat.mod_lt n (pow_pos2 s)
    have hd : n / (2 ^ s * 2 ^ 2) = n / 2 ^ s / 4 := by rw [← Nat.div_div_eq_div_mul]
    have hm : n % (2 ^ s * 2 ^ 2) = 2 ^ s * (n / 2 ^ s % 4) + n % 2 ^ s := by rw [Nat.mod_mul, show (2 : Nat) ^ 2 = 4 from rfl]; omega
    rw [hd, hm]
    generalize n / 2 ^ s = q at *
    generalize n % 2 ^ s = r at *
    have hp := pow_pos2 s
    generalize 2 ^ s = c at *
    have hk : q % 4 = 0 ∨ q % 4 = 1 ∨ q % 4 = 2 ∨ q % 4 = 3 := by omega
    constructor
    · split
      · rfl
      · rw [or_one_eq]; omega
    · intro more
      unfold cls
      by_cases h0 : r = 0
      · rw [if_pos h0, h0, Nat.add_zero]
        rcases hk with k | k | k | k <;> rw [k]
        · cases more <;> simp
        · have a1 : ¬ c * 1 = 0 := by omega
          have a2 : 2 * (c * 1) < c * 2 ^ 2 := by omega
          rw [if_neg a1, if_pos a2]; cases more <;> rfl
        · have a1 : ¬ c * 2 = 0 := by omega
          have a2 : ¬ 2 * (c * 2) < c * 2 ^ 2 := by omega
          have a3 : 2 * (c * 2) = c * 2 ^ 2 := by omega
          rw [if_neg a1, if_neg a2]; cases more <;> simp [a3]
        · have a1 : ¬ c * 3 = 0 := by omega
          have a2 : ¬ 2 * (c * 3) < c * 2 ^ 2 := by omega
          have a3 : ¬ 2 * (c * 3) = c * 2 ^ 2 := by omega
          have a4 : ¬ (2 * (c * 3) = c * 2 ^ 2 ∧ more = false) := fun h => a3 h.1
          rw [if_neg a1, if_neg a2, if_neg a4]; cases more <;> rfl
      · rw [if_neg h0, or_one_eq q]
        rcases hk with k | k | k | k <;> rw [k]
        · have e : (q + (1 - q % 2)) % 4 = 1 := by omega
          have a1 : ¬ c * 0 + r = 0 := by omega
          have a2 : 2 * (c * 0 + r) < c * 2 ^ 2 := by omega
          rw [e, if_neg a1, if_pos a2]; cases more <;> rfl
        · have e : (q + (1 - q % 2)) % 4 = 1 := by omega
          have a1 : ¬ c * 1 + r = 0 := by omega
          have a2 : 2 * (c * 1 + r) < c * 2 ^ 2 := by omega
          rw [e, if_neg a1, if_pos a2]; cases more <;> rfl
        · have e : (q + (1 - q % 2)) % 4 = 3 := by omega
          have a1 : ¬ c * 2 + r = 0 := by omega
          have a2 : ¬ 2 * (c * 2 + r) < c * 2 ^ 2 := by omega
          have a3 : ¬ 2 * (c * 2 + r) = c * 2 ^ 2 := by omega
          have a4 : ¬ (2 * (c * 2 + r) = c * 2 ^ 2 ∧ more = false) := fun h => a3 h.1
          rw [e, if_neg a1, if_neg a2, if_neg a4]; cases more <;> rfl
        · have e : (q + (1 - q % 2)) % 4 = 3 := by omega
          have a1 : ¬ c * 3 + r = 0 := by omega
          have a2 : ¬ 2 * (c * 3 + r) < c * 2 ^ 2 := by omega
          have a3 : ¬ 2 * (c * 3 + r) = c * 2 ^ 2 := by omega
          have a4 : ¬ (2 * (c * 3 + r) = c * 2 ^ 2 ∧ more = false) := fun h => a3 h.1
          rw [e, if_neg a1, if_neg a2, if_neg a4]; cases more <;> rfl
  · rw [if_neg h2]
    by_cases h1 : d = 1
    · subst h1
      unfold flr rst cls
      rw [show ((2 : Int) - 1).toNat = 1 by omega, show ((1 : Int)).toNat = 1 by omega, show (-(1 : Int)).toNat = 0 by omega, Nat.pow_zero, Nat.mul_one, Nat.pow_one]
      refine ⟨by omega, fun more => ?_⟩
      rcases (show n % 2 = 0 ∨ n % 2 = 1 by omega) with k | k
      · have e : n * 2 % 4 = 0 := by omega
        rw [k, e]; cases more <;> rfl
      · have e : n * 2 % 4 = 2 := by omega
        rw [k, e]; cases more <;> rfl
    · obtain ⟨t, ht⟩ : ∃ t : Nat, d = -(t : Int) := ⟨(-d).toNat, by omega⟩
      subst ht
      unfold flr rst cls
      rw [show (2 - -(t : Int)).toNat = t + 2 by omega, show (-(t : Int)).toNat = 0 by omega, show (- -(t : Int)).toNat = t by omega, Nat.pow_zero, Nat.div_one, Nat.mod_one, Nat.pow_add, ← Nat.mul_assoc]
      generalize n * 2 ^ t = x
      refine ⟨by omega, fun more => ?_⟩
      have e : x * 2 ^ 2 % 4 = 0 := by omega
      rw [e]; cases more <;> rfl

theorem further_any (m : Nat) (neg odd : Bool) (r : Nat) (w : World) (hm : m ≤ 5) (h1 : 1 ≤ r) (h3 : r ≤ 3) :
    Calls Tryd.prog 160 #[.int .i64 m, .bool neg, .bool odd, .int .u64 r] w fun e w' => e = .returned (.bool (upB m neg odd r)) ∧ w = w' := by
  have hm' : m = 0 ∨ m = 1 ∨ m = 2 ∨ m = 3 ∨ m = 4 ∨ m = 5 := by omega
  have hr' : r = 1 ∨ r = 2 ∨ r = 3 := by omega
  rcases hm' with rfl | rfl | rfl | rfl | rfl | rfl <;> rcases hr' with rfl | rfl | rfl <;> cases neg <;> cases odd
  all_goals
    go_enter Tryd.func160, Tryd.ntmps160
    go_wp2
    go_ret
    exact ⟨rfl, rfl⟩

end Go.Proofs.YtcgceigmglikpaaDoor
