/- The values of exact numbers: whole numbers of units 2^L. -/
import Derived.Test.YtcgceigmglikpaaDoorTz
namespace Go.Proofs.YtcgceigmglikpaaDoor
set_option linter.unusedVariables false

/-- -1, 0 or 1 -/
def sgD (s : Bool) (N : Nat) : Int := if N = 0 then 0 else if s then -1 else 1

/-- d in units of 2^L -/
def D.i (L : Int) (d : D) : Int := (if d.s then -(d.n : Int) else (d.n : Int)) * 2 ^ (d.e - L).toNat

/-- is it written canonically? -/
def D.can (d : D) : Prop := d = D.zero ∨ d.n % 2 = 1

def sgI (x : Int) : Int := if x = 0 then 0 else if x < 0 then -1 else 1

theorem ipow_pos (k : Nat) : (0 : Int) < 2 ^ k := Int.pow_pos (by decide)

theorem D.i_zero (L : Int) : D.zero.i L = 0 := by simp [D.i, D.zero]

theorem D.i_neg (L : Int) (s : Bool) (n : Nat) (e : Int) : D.i L ⟨!s, n, e⟩ = - D.i L ⟨s, n, e⟩ := by
  unfold D.i
  cases s <;> simp [Int.neg_mul]

theorem oddD_can (d : D) : (oddD d).can := by
  unfold oddD
  split
  · exact Or.inl rfl
  · rename_i h
    obtain ⟨m, hm⟩ := tzN_spec d.n h
    refine Or.inr ?_
    show d.n / 2 ^ tzN d.n % 2 = 1
    have : d.n / 2 ^ tzN d.n = 2 * m + 1 := by
      rw [hm]
      have e : tzN (2 ^ tzN d.n * (2 * m + 1)) = tzN d.n := by rw [← hm]
      rw [e]
      exact Nat.mul_div_cancel_left _ (pow_pos2 _)
    omega

theorem oddD_low (d : D) (L : Int) (h : L ≤ d.e) (h0 : L ≤ 0) : L ≤ (oddD d).e := by
  unfold oddD
  split
  · exact h0
  · show L ≤ d.e + tzN d.n; omega

theorem i_odd (d : D) (L : Int) (h : L ≤ d.e) : (oddD d).i L = d.i L := by
  unfold oddD
  split
  · rename_i h0
    rw [D.i_zero]
    unfold D.i; rw [h0]; simp
  · rename_i h0
    obtain ⟨m, hm⟩ := tzN_spec d.n h0
    unfold D.i
    simp only
    have e1 : d.n / 2 ^ tzN d.n = 2 * m + 1 := by
      conv => lhs; lhs; rw [hm]
      exact Nat.mul_div_cancel_left _ (pow_pos2 _)
    have e2 : (d.e + (tzN d.n : Int) - L).toNat = tzN d.n + (d.e - L).toNat := by omega
    have e3 : (d.n : Int) = 2 ^ tzN d.n * (2 * (m : Int) + 1) := by
      have := congrArg (fun x : Nat => (x : Int)) hm
      simpa using this
    rw [e1, e2, Int.pow_add, e3]
    generalize (2 : Int) ^ tzN d.n = p
    generalize (2 : Int) ^ (d.e - L).toNat = q
    have e4 : ((2 * m + 1 : Nat) : Int) = 2 * (m : Int) + 1 := by omega
    rw [e4]
    split <;> grind

theorem i_shift (s : Bool) (n : Nat) (e m L : Int) (h1 : m ≤ e) (h2 : L ≤ m) : D.i L ⟨s, n * 2 ^ (e - m).toNat, m⟩ = D.i L ⟨s, n, e⟩ := by
  unfold D.i
  simp only
  have e1 : (e - L).toNat = (e - m).toNat + (m - L).toNat := by omega
  rw [e1, Int.pow_add]
  have e2 : ((n * 2 ^ (e - m).toNat : Nat) : Int) = (n : Int) * 2 ^ (e - m).toNat := by simp
  rw [e2]
  generalize (2 : Int) ^ (e - m).toNat = p
  generalize (2 : Int) ^ (m - L).toNat = q
  split <;> grind

theorem i_addXY (s1 s2 : Bool) (X Y : Nat) (m L : Int) (h : L ≤ m) : (addXY s1 s2 X Y m).i L = D.i L ⟨s1, X, m⟩ + D.i L ⟨s2, Y, m⟩ := by
  unfold addXY
  split
  · rename_i hs
    rw [i_odd _ L h]
    subst hs
    unfold D.i
    simp only
    generalize (2 : Int) ^ (m - L).toNat = q
    have e : ((X + Y : Nat) : Int) = (X : Int) + (Y : Int) := by omega
    rw [e]
    split <;> grind
  · rename_i hs
    have hs2 : s1 = !s2 := by cases s1 <;> cases s2 <;> simp_all
    split
    · rename_i hlt
      rw [i_odd _ L h]
      unfold D.i
      simp only
      generalize (2 : Int) ^ (m - L).toNat = q
      have e : ((Y - X : Nat) : Int) = (Y : Int) - (X : Int) := by omega
      rw [e, hs2]
      cases s2 <;> simp <;> grind
    · rename_i hge
      rw [i_odd _ L h]
      unfold D.i
      simp only
      generalize (2 : Int) ^ (m - L).toNat = q
      have e : ((X - Y : Nat) : Int) = (X : Int) - (Y : Int) := by omega
      rw [e, hs2]
      cases s2 <;> simp <;> grind

theorem i_of_zero {d : D} (h : d.n = 0) (L : Int) : d.i L = 0 := by unfold D.i; rw [h]; simp

theorem i_sum (a b : D) (L : Int) (ha : L ≤ a.e) (hb : L ≤ b.e) : (sumD a b).i L = a.i L + b.i L := by
  unfold sumD
  split
  · rename_i h; rw [i_of_zero h]; omega
  · split
    · rename_i h; rw [i_of_zero h]; omega
    · rw [i_addXY _ _ _ _ _ L (by omega), i_shift _ _ _ _ _ (by omega) (by omega), i_shift _ _ _ _ _ (by omega) (by omega)]

theorem sumD_low (a b : D) (L : Int) (ha : L ≤ a.e) (hb : L ≤ b.e) (h0 : L ≤ 0) : L ≤ (sumD a b).e := by
  unfold sumD
  split
  · exact hb
  · split
    · exact ha
    · unfold addXY
      split
      · exact oddD_low _ L (by show L ≤ min a.e b.e; omega) h0
      · split
        · exact oddD_low _ L (by show L ≤ min a.e b.e; omega) h0
        · exact oddD_low _ L (by show L ≤ min a.e b.e; omega) h0

theorem sumD_can {a b : D} (ha : a.can) (hb : b.can) : (sumD a b).can := by
  unfold sumD
  split
  · exact hb
  · split
    · exact ha
    · unfold addXY
      split
      · exact oddD_can _
      · split <;> exact oddD_can _

theorem sgD_i (d : D) (L : Int) : sgD d.s d.n = sgI (d.i L) := by
  unfold sgD sgI D.i
  have hp := ipow_pos (d.e - L).toNat
  generalize (2 : Int) ^ (d.e - L).toNat = q at *
  by_cases h : d.n = 0
  · simp [h]
  · rw [if_neg h]
    have hn : (0 : Int) < d.n := by omega
    have hq : (0 : Int) < (d.n : Int) * q := Int.mul_pos hn hp
    cases hs : d.s
    · simp only [Bool.false_eq_true, if_false]
      rw [if_neg (by omega), if_neg (by omega)]
    · simp only [if_true]
      rw [if_neg (by simp; omega), if_pos (by rw [Int.neg_mul]; omega)]

theorem can_odd (d : D) (h : d.can) : oddD d = d := by
  rcases h with h | h
  · rw [h]; exact oddD_zero _ _
  · unfold oddD
    rw [if_neg (by intro h0; rw [h0] at h; simp at h)]
    have : tzN d.n = 0 := by rw [tzN, dif_neg (by intro h0; rw [h0] at h; simp at h), if_pos h]
    rw [this]
    cases d; simp

theorem can_inj {a b : D} {L : Int} (ha : a.can) (hb : b.can) (h1 : L ≤ a.e) (h2 : L ≤ b.e) (h : a.i L = b.i L) : a = b := by
  have key : ∀ (d : D), d.can → L ≤ d.e → (d.i L = 0 ↔ d = D.zero) := by
    intro d hd hl
    constructor
    · intro h0
      rcases hd with hd | hd
      · exact hd
      · exfalso
        unfold D.i at h0
        have hp := ipow_pos (d.e - L).toNat
        have hn : (0 : Int) < d.n := by omega
        have := Int.mul_pos hn hp
        split at h0
        · rw [Int.neg_mul] at h0; omega
        · omega
    · intro h0; rw [h0]; exact D.i_zero L
  by_cases hz : a.i L = 0
  · rw [(key a ha h1).1 hz, (key b hb h2).1 (by rw [← h]; exact hz)]
  · have hza : a ≠ D.zero := fun e => hz ((key a ha h1).2 e)
    have hzb : b ≠ D.zero := fun e => hz (by rw [h]; exact (key b hb h2).2 e)
    have oa : a.n % 2 = 1 := ha.resolve_left hza
    have ob : b.n % 2 = 1 := hb.resolve_left hzb
    unfold D.i at h
    have pa := ipow_pos (a.e - L).toNat
    have pb := ipow_pos (b.e - L).toNat
    have na : (0 : Int) < (a.n : Int) * 2 ^ (a.e - L).toNat := Int.mul_pos (by omega) pa
    have nb : (0 : Int) < (b.n : Int) * 2 ^ (b.e - L).toNat := Int.mul_pos (by omega) pb
    have hs : a.s = b.s := by
      cases ea : a.s <;> cases eb : b.s <;> rw [ea, eb] at h <;> first | rfl | (exfalso; simp only [if_true, Bool.false_eq_true, if_false, Int.neg_mul] at h; omega)
    have hm : a.n * 2 ^ (a.e - L).toNat = b.n * 2 ^ (b.e - L).toNat := by
      have : (a.n : Int) * 2 ^ (a.e - L).toNat = (b.n : Int) * 2 ^ (b.e - L).toNat := by
        rw [hs] at h
        cases eb : b.s <;> rw [eb] at h <;> simp only [if_true, Bool.false_eq_true, if_false, Int.neg_mul] at h <;> omega
      have h' : ((a.n * 2 ^ (a.e - L).toNat : Nat) : Int) = ((b.n * 2 ^ (b.e - L).toNat : Nat) : Int) := by simpa using this
      omega
    obtain ⟨m, hm1⟩ : ∃ m, a.n = 2 * m + 1 := ⟨a.n / 2, by omega⟩
    obtain ⟨k, hk1⟩ : ∃ k, b.n = 2 * k + 1 := ⟨b.n / 2, by omega⟩
    have hu := odd_part_unique (a := (a.e - L).toNat) (b := (b.e - L).toNat) (m := m) (k := k) (by rw [← hm1, ← hk1, Nat.mul_comm, hm, Nat.mul_comm])
    have hn : a.n = b.n := by omega
    have he : a.e = b.e := by omega
    cases a; cases b
    simp only [D.mk.injEq]
    exact ⟨hs, hn, he⟩

end Go.Proofs.YtcgceigmglikpaaDoor
