/- Packed by program: Rnd MulS MulL. -/
import Derived.Test.YtlibhfojfonfjaaGreatDoorPackA
/- Rounding into a format, as plain numbers: bits, flags; the value alone counts; order is kept. -/
namespace Go.Proofs.YtlibhfojfonfjaaGreatDoor
set_option linter.unusedVariables false

/-- a format: width, precision, least and greatest exponent -/
structure Fm where
  w : Nat
  p : Nat
  emin : Int
  emax : Int

def fm (f : Nat) : Fm := match f with
  | 0 => ⟨16, 11, -14, 15⟩
  | 1 => ⟨16, 8, -126, 127⟩
  | 2 => ⟨32, 24, -126, 127⟩
  | _ => ⟨64, 53, -1022, 1023⟩

structure Fm.Ok (F : Fm) : Prop where
  p8 : 8 ≤ F.p
  p53 : F.p ≤ 53
  pw : F.p + 5 ≤ F.w
  w64 : F.w ≤ 64
  emx : F.emax = 2 ^ (F.w - F.p - 1) - 1
  emn : F.emin = 1 - F.emax
  b16 : 15 ≤ F.emax
  b1023 : F.emax ≤ 1023

theorem fm_ok (f : Nat) : (fm f).Ok := by
  match f with
  | 0 => exact ⟨by decide, by decide, by decide, by decide, by decide, by decide, by decide, by decide⟩
  | 1 => exact ⟨by decide, by decide, by decide, by decide, by decide, by decide, by decide, by decide⟩
  | 2 => exact ⟨by decide, by decide, by decide, by decide, by decide, by decide, by decide, by decide⟩
  | n + 3 => exact (show Fm.Ok ⟨64, 53, -1022, 1023⟩ from ⟨by decide, by decide, by decide, by decide, by decide, by decide, by decide, by decide⟩)

/-- the exponent of the least numbers' places -/
def Fm.low (F : Fm) : Int := F.emin - F.p + 1

/-- what lies above a whole number of h: 0 nothing, 1 less than a half, 2 a half, 3 more -/
def cls (r h : Nat) (more : Bool) : Nat := if r = 0 then (if more then 1 else 0) else if 2 * r < h then 1 else if 2 * r = h ∧ more = false then 2 else 3
/-- n in places of 2^d, rounded down -/
def flr (n : Nat) (d : Int) : Nat := n * 2 ^ (-d).toNat / 2 ^ d.toNat
def rst (n : Nat) (more : Bool) (d : Int) : Nat := cls (n * 2 ^ (-d).toNat % 2 ^ d.toNat) (2 ^ d.toNat) more
/-- does a number that is not whole go on to the one further from zero? -/
def upB (m : Nat) (neg odd : Bool) (rest : Nat) : Bool := match m with
  | 0 => rest == 3 || (rest == 2 && odd)
  | 1 => decide (2 ≤ rest)
  | 2 => false
  | 3 => !neg
  | 4 => neg
  | _ => !odd
def goesUp (m : Nat) (neg : Bool) (n : Nat) (more : Bool) (d : Int) : Bool := rst n more d != 0 && upB m neg (decide (flr n d % 2 = 1)) (rst n more d)
/-- n in places of 2^d, rounded -/
def cutS (m : Nat) (neg : Bool) (n : Nat) (more : Bool) (d : Int) : Nat := if goesUp m neg n more d then flr n d + 1 else flr n d
/-- the greatest e with 2^e at most the number -/
def topE (n : Nat) (e : Int) : Int := e + bl n - 1
def Fm.inf (F : Fm) : Nat := (2 ^ (F.w - F.p) - 1) * 2 ^ (F.p - 1)
def Fm.sg (F : Fm) (neg : Bool) : Nat := if neg then 2 ^ (F.w - 1) else 0
/-- does what is too great become infinite? -/
def infB (m : Nat) (neg : Bool) : Bool := m == 0 || m == 1 || (m == 3 && !neg) || (m == 4 && neg)
def beyondS (F : Fm) (m : Nat) (neg : Bool) : Nat := (if infB m neg then F.inf else F.inf - 1) + F.sg neg
def quE (F : Fm) (n : Nat) (e : Int) : Int := max (topE n e) F.emin - F.p + 1
/-- n * 2^e (and more), not zero, rounded into the format: bits and flags -/
def intoS (F : Fm) (m : Nat) (neg : Bool) (n : Nat) (e : Int) (more : Bool) : Nat × Nat :=
  if F.emax < topE n e then (beyondS F m neg, 20)
  else if F.emax < quE F n e + bl (cutS m neg n more (quE F n e - e)) - 1 then (beyondS F m neg, 20)
  else ((quE F n e - F.low).toNat * 2 ^ (F.p - 1) + cutS m neg n more (quE F n e - e) + F.sg neg,
    if rst n more (quE F n e - e) = 0 then 0
    else if topE n e < F.emin ∧ topE n e - F.p + bl (cutS m neg n more (topE n e - F.p + 1 - e)) < F.emin then 24 else 16)

/-- units of 2^L -/
def uN (L : Int) (n : Nat) (e : Int) : Nat := n * 2 ^ (e - L).toNat
/-- the significand and the exponent of the bits without a sign (as if the exponent had no bound) -/
def Fm.sig (F : Fm) (b : Nat) : Nat := if b / 2 ^ (F.p - 1) = 0 then b else 2 ^ (F.p - 1) + b % 2 ^ (F.p - 1)
def Fm.xp (F : Fm) (b : Nat) : Int := if b / 2 ^ (F.p - 1) = 0 then F.low else F.low + (b / 2 ^ (F.p - 1) : Nat) - 1
/-- the value of bits, in units of 2^L -/
def Fm.vl (F : Fm) (L : Int) (b : Nat) : Nat := uN L (F.sig b) (F.xp b)

/-- the bits of a whole number of places -/
theorem vl_bits (F : Fm) (hp : 1 ≤ F.p) (L : Int) (k u : Nat) (hL : L ≤ F.low) (hu : u ≤ 2 ^ F.p) (hk : k = 0 ∨ 2 ^ (F.p - 1) ≤ u) : F.vl L (k * 2 ^ (F.p - 1) + u) = u * 2 ^ (F.low + k - L).toNat := by
  obtain ⟨p, hp'⟩ : ∃ p, F.p = p + 1 := ⟨F.p - 1, by omega⟩
  have hP := pow_pos2 p
  unfold Fm.vl Fm.sig Fm.xp uN
  rw [hp', Nat.add_sub_cancel] at hk ⊢
  rw [hp', Nat.pow_succ] at hu
  rcases Nat.lt_or_ge u (2 ^ p) with h | h
  · obtain rfl : k = 0 := by omega
    have e : (0 * 2 ^ p + u) / 2 ^ p = 0 := by rw [Nat.zero_mul, Nat.zero_add]; exact Nat.div_eq_of_lt h
    rw [if_pos e, if_pos e]; simp
  · rcases Nat.lt_or_ge u (2 ^ p * 2) with h2 | h2
    · have e : (k * 2 ^ p + u) / 2 ^ p = k + 1 := by
        rw [Nat.mul_comm, Nat.mul_add_div hP]
        have : u / 2 ^ p = 1 := by
          rw [Nat.div_eq_iff (by omega)]; omega
        omega
      have e2 : (k * 2 ^ p + u) % 2 ^ p = u - 2 ^ p := by
        rw [Nat.mul_comm, Nat.mul_add_mod, Nat.mod_eq_sub_mod h, Nat.mod_eq_of_lt (by omega)]
      rw [if_neg (by omega), if_neg (by omega), e, e2]
      congr 1
      · omega
      · congr 2; omega
    · obtain rfl : u = 2 ^ p * 2 := by omega
      have e : (k * 2 ^ p + 2 ^ p * 2) / 2 ^ p = k + 2 := by
        rw [Nat.mul_comm, Nat.mul_add_div hP, Nat.mul_div_cancel_left _ hP]
      have e2 : (k * 2 ^ p + 2 ^ p * 2) % 2 ^ p = 0 := by
        rw [Nat.mul_comm, Nat.mul_add_mod]; simp
      rw [if_neg (by omega), if_neg (by omega), e, e2, Nat.add_zero]
      rw [show (F.low + ((k + 2 : Nat) : Int) - 1 - L).toNat = (F.low + (k : Int) - L).toNat + 1 by omega, Nat.pow_succ]
      generalize 2 ^ (F.low + (k : Int) - L).toNat = q
      generalize 2 ^ p = P
      grind

theorem flr_nonneg (n : Nat) (s : Nat) : flr n (s : Int) = n / 2 ^ s := by unfold flr; simp
theorem flr_neg (n : Nat) (s : Nat) : flr n (-(s : Int)) = n * 2 ^ s := by unfold flr; simp

/-- flr in units: the number lies between flr and flr + 1 places -/
theorem flr_units (n : Nat) (e q L : Int) (hL : L ≤ e) (hq : L ≤ q) : flr n (q - e) * 2 ^ (q - L).toNat ≤ uN L n e ∧ uN L n e < (flr n (q - e) + 1) * 2 ^ (q - L).toNat := by
  unfold flr uN
  have h1 : (q - e).toNat + (e - L).toNat = (-(q - e)).toNat + (q - L).toNat := by omega
  generalize hs : (q - e).toNat = s at *
  generalize ht : (-(q - e)).toNat = t at *
  generalize ha : (e - L).toNat = a at *
  generalize hb : (q - L).toNat = b at *
  have hst : s = 0 ∨ t = 0 := by omega
  rcases hst with rfl | rfl
  · rw [Nat.pow_zero, Nat.div_one, Nat.zero_add] at *
    rw [h1, Nat.pow_add, ← Nat.mul_assoc]
    refine ⟨Nat.le_refl _, Nat.mul_lt_mul_of_pos_right (by omega) (pow_pos2 b)⟩
  · rw [Nat.pow_zero, Nat.mul_one, Nat.zero_add] at *
    rw [← h1, Nat.pow_add, ← Nat.mul_assoc, ← Nat.mul_assoc]
    refine ⟨Nat.mul_le_mul_right _ (Nat.div_mul_le_self _ _), Nat.mul_lt_mul_of_pos_right ?_ (pow_pos2 a)⟩
    rw [Nat.mul_comm]; exact Nat.lt_mul_div_succ n (pow_pos2 s)

theorem rst_exact (n : Nat) (e q L : Int) (hL : L ≤ e) (hq : L ≤ q) : rst n false (q - e) = 0 ↔ flr n (q - e) * 2 ^ (q - L).toNat = uN L n e := by
  unfold rst cls flr uN
  have h1 : (q - e).toNat + (e - L).toNat = (-(q - e)).toNat + (q - L).toNat := by omega
  generalize hs : (q - e).toNat = s at *
  generalize ht : (-(q - e)).toNat = t at *
  generalize ha : (e - L).toNat = a at *
  generalize hb : (q - L).toNat = b at *
  have hst : s = 0 ∨ t = 0 := by omega
  rcases hst with rfl | rfl
  · rw [Nat.pow_zero, Nat.div_one, Nat.zero_add] at *
    rw [h1, Nat.pow_add, ← Nat.mul_assoc]
    simp [Nat.mod_one]
  · rw [Nat.pow_zero, Nat.mul_one, Nat.zero_add] at *
    rw [← h1, Nat.pow_add, ← Nat.mul_assoc]
    constructor
    · intro h
      split at h
      · rename_i h0
        rw [Nat.div_mul_cancel (Nat.dvd_of_mod_eq_zero h0)]
      · split at h <;> first | omega | (split at h <;> omega)
    · intro h
      have := Nat.eq_of_mul_eq_mul_right (pow_pos2 a) h
      rw [if_pos]
      · rfl
      · have h2 := Nat.div_add_mod n (2 ^ s)
        rw [Nat.mul_comm] at h2; omega

theorem vl_small (F : Fm) (hp : 1 ≤ F.p) (L : Int) (u : Nat) (hL : L ≤ F.low) (hu : u ≤ 2 ^ F.p) : F.vl L u = u * 2 ^ (F.low - L).toNat := by
  have := vl_bits F hp L 0 u hL hu (Or.inl rfl)
  simpa using this

/-- any bits: k, and a whole number of places -/
theorem bits_parts (F : Fm) (hp : 1 ≤ F.p) (b : Nat) : ∃ k u, b = k * 2 ^ (F.p - 1) + u ∧ u < 2 ^ F.p ∧ (k = 0 ∨ 2 ^ (F.p - 1) ≤ u) ∧ F.sig b = u ∧ F.xp b = F.low + k := by
  obtain ⟨p, hp'⟩ : ∃ p, F.p = p + 1 := ⟨F.p - 1, by omega⟩
  have hP := pow_pos2 p
  unfold Fm.sig Fm.xp
  rw [hp', Nat.add_sub_cancel, Nat.pow_succ]
  have h1 := Nat.div_add_mod b (2 ^ p)
  have h2 := Nat.mod_lt b hP
  by_cases h : b / 2 ^ p = 0
  · rw [if_pos h, if_pos h]
    rw [h] at h1
    exact ⟨0, b, by omega, by omega, Or.inl rfl, rfl, by simp⟩
  · rw [if_neg h, if_neg h]
    obtain ⟨k, hk⟩ : ∃ k, b / 2 ^ p = k + 1 := ⟨b / 2 ^ p - 1, by have := Nat.pos_of_ne_zero h; omega⟩
    rw [hk] at h1 ⊢
    rw [Nat.mul_add, Nat.mul_one, Nat.mul_comm] at h1
    exact ⟨k, 2 ^ p + b % 2 ^ p, by omega, by omega, Or.inr (by omega), rfl, by omega⟩

theorem vl_succ (F : Fm) (hp : 1 ≤ F.p) (L : Int) (b : Nat) (hL : L ≤ F.low) : F.vl L (b + 1) = F.vl L b + 2 ^ (F.xp b - L).toNat := by
  obtain ⟨k, u, rfl, h1, h2, h3, h4⟩ := bits_parts F hp b
  rw [h4, Nat.add_assoc, vl_bits F hp L k (u + 1) hL (by omega) (by omega), vl_bits F hp L k u hL (by omega) h2, Nat.add_mul, Nat.one_mul]

theorem vl_lt (F : Fm) (hp : 1 ≤ F.p) (L : Int) (hL : L ≤ F.low) {a b : Nat} (h : a < b) : F.vl L a < F.vl L b := by
  obtain ⟨t, rfl⟩ : ∃ t, b = a + 1 + t := ⟨b - a - 1, by omega⟩
  clear h
  induction t with
  | zero => rw [Nat.add_zero, vl_succ F hp L a hL]; have := pow_pos2 (F.xp a - L).toNat; omega
  | succ t ih => rw [← Nat.add_assoc, vl_succ F hp L _ hL]; have := pow_pos2 (F.xp (a + 1 + t) - L).toNat; omega

theorem vl_le (F : Fm) (hp : 1 ≤ F.p) (L : Int) (hL : L ≤ F.low) {a b : Nat} (h : a ≤ b) : F.vl L a ≤ F.vl L b := by
  rcases Nat.lt_or_ge a b with h1 | h1
  · exact Nat.le_of_lt (vl_lt F hp L hL h1)
  · rw [show a = b by omega]; exact Nat.le_refl _

theorem lt_of_vl (F : Fm) (hp : 1 ≤ F.p) (L : Int) (hL : L ≤ F.low) {a b : Nat} (h : F.vl L a < F.vl L b) : a < b := by
  rcases Nat.lt_or_ge a b with h1 | h1
  · exact h1
  · have := vl_le F hp L hL h1; omega

/-- the bits of what is rounded down (as if the exponent had no bound) -/
def floS (F : Fm) (n : Nat) (e : Int) : Nat := (quE F n e - F.low).toNat * 2 ^ (F.p - 1) + flr n (quE F n e - e)

theorem top_units (n : Nat) (e L : Int) (h0 : n ≠ 0) (hL : L ≤ e) : 2 ^ (topE n e - L).toNat ≤ uN L n e ∧ uN L n e < 2 ^ ((topE n e - L).toNat + 1) := by
  have h1 := bl_ge n h0
  have h2 := bl_lt n
  have h3 := bl_pos n h0
  unfold topE uN
  have e1 : (e + (bl n : Int) - 1 - L).toNat = (bl n - 1) + (e - L).toNat := by omega
  rw [e1]
  constructor
  · rw [Nat.pow_add]; exact Nat.mul_le_mul_right _ h1
  · rw [show bl n - 1 + (e - L).toNat + 1 = bl n + (e - L).toNat by omega, Nat.pow_add]; exact Nat.mul_lt_mul_of_pos_right h2 (pow_pos2 _)

theorem topE_ge (n : Nat) (e : Int) (h0 : n ≠ 0) : e ≤ topE n e := by have := bl_pos n h0; unfold topE; omega

theorem quE_low (F : Fm) (n : Nat) (e : Int) : F.low ≤ quE F n e := by unfold quE Fm.low; omega

/-- how many places -/
theorem flr_range (F : Fm) (hp : 1 ≤ F.p) (n : Nat) (e : Int) (h0 : n ≠ 0) : flr n (quE F n e - e) < 2 ^ F.p ∧ (quE F n e = F.low ∧ topE n e ≤ F.emin ∨ 2 ^ (F.p - 1) ≤ flr n (quE F n e - e)) ∧ (topE n e < F.emin → flr n (quE F n e - e) < 2 ^ (F.p - 1)) ∧ (F.emin ≤ topE n e → 2 ^ (F.p - 1) ≤ flr n (quE F n e - e)) := by
  obtain ⟨L, hL1, hL2⟩ : ∃ L : Int, L ≤ e ∧ L ≤ F.low := ⟨min e F.low, by omega, by omega⟩
  have hq := quE_low F n e
  have ht := topE_ge n e h0
  obtain ⟨a1, a2⟩ := flr_units n e (quE F n e) L hL1 (by omega)
  obtain ⟨b1, b2⟩ := top_units n e L h0 hL1
  generalize uN L n e = X at *
  generalize hu : flr n (quE F n e - e) = u at *
  have hlt : u < 2 ^ F.p := by
    have e1 : (topE n e - L).toNat + 1 ≤ F.p + (quE F n e - L).toNat := by unfold quE Fm.low at *; omega
    have e2 := Nat.pow_le_pow_right (show 0 < 2 by decide) e1
    rw [Nat.pow_add 2 F.p] at e2
    exact Nat.lt_of_mul_lt_mul_right (Nat.lt_of_le_of_lt a1 (Nat.lt_of_lt_of_le b2 e2))
  have hge : F.emin ≤ topE n e → 2 ^ (F.p - 1) ≤ u := by
    intro h
    have e1 : (F.p - 1) + (quE F n e - L).toNat ≤ (topE n e - L).toNat := by unfold quE Fm.low at *; omega
    have e2 := Nat.pow_le_pow_right (show 0 < 2 by decide) e1
    rw [Nat.pow_add 2 (F.p - 1)] at e2
    exact Nat.le_of_lt_succ (Nat.lt_of_mul_lt_mul_right (Nat.lt_of_le_of_lt (Nat.le_trans e2 b1) a2))
  refine ⟨hlt, ?_, ?_, hge⟩
  · by_cases h : F.emin ≤ topE n e
    · exact Or.inr (hge h)
    · left; unfold quE Fm.low; constructor <;> omega
  · intro h
    have e1 : (topE n e - L).toNat + 1 ≤ (F.p - 1) + (quE F n e - L).toNat := by unfold quE Fm.low at *; omega
    have e2 := Nat.pow_le_pow_right (show 0 < 2 by decide) e1
    rw [Nat.pow_add 2 (F.p - 1)] at e2
    exact Nat.lt_of_mul_lt_mul_right (Nat.lt_of_le_of_lt a1 (Nat.lt_of_lt_of_le b2 e2))

theorem floS_vl (F : Fm) (hp : 1 ≤ F.p) (n : Nat) (e L : Int) (h0 : n ≠ 0) (hL1 : L ≤ e) (hL2 : L ≤ F.low) : F.vl L (floS F n e) = flr n (quE F n e - e) * 2 ^ (quE F n e - L).toNat ∧ F.vl L (floS F n e + 1) = (flr n (quE F n e - e) + 1) * 2 ^ (quE F n e - L).toNat := by
  obtain ⟨h1, h2, _, _⟩ := flr_range F hp n e h0
  have hq := quE_low F n e
  unfold floS
  have e1 : F.low + ((quE F n e - F.low).toNat : Int) - L = quE F n e - L := by omega
  constructor
  · rw [vl_bits F hp L _ _ hL2 (by omega) (by omega), e1]
  · rw [Nat.add_assoc, vl_bits F hp L _ _ hL2 (by omega) (by omega), e1]

/-- the number lies between the bits rounded down and the next ones -/
theorem floS_units (F : Fm) (hp : 1 ≤ F.p) (n : Nat) (e L : Int) (h0 : n ≠ 0) (hL1 : L ≤ e) (hL2 : L ≤ F.low) : F.vl L (floS F n e) ≤ uN L n e ∧ uN L n e < F.vl L (floS F n e + 1) := by
  obtain ⟨h1, h2⟩ := floS_vl F hp n e L h0 hL1 hL2
  rw [h1, h2]
  exact flr_units n e (quE F n e) L hL1 (by have := quE_low F n e; omega)

theorem floS_exact (F : Fm) (hp : 1 ≤ F.p) (n : Nat) (e L : Int) (h0 : n ≠ 0) (hL1 : L ≤ e) (hL2 : L ≤ F.low) : rst n false (quE F n e - e) = 0 ↔ F.vl L (floS F n e) = uN L n e := by
  rw [(floS_vl F hp n e L h0 hL1 hL2).1]
  exact rst_exact n e (quE F n e) L hL1 (by have := quE_low F n e; omega)

theorem floS_unique (F : Fm) (hp : 1 ≤ F.p) (n : Nat) (e L : Int) (h0 : n ≠ 0) (hL1 : L ≤ e) (hL2 : L ≤ F.low) {b : Nat} (h1 : F.vl L b ≤ uN L n e) (h2 : uN L n e < F.vl L (b + 1)) : floS F n e = b := by
  obtain ⟨a1, a2⟩ := floS_units F hp n e L h0 hL1 hL2
  have := lt_of_vl F hp L hL2 (Nat.lt_of_le_of_lt h1 a2)
  have := lt_of_vl F hp L hL2 (Nat.lt_of_le_of_lt a1 h2)
  omega

theorem inf_eq (F : Fm) (ok : F.Ok) : F.inf = (F.emax - F.p + 1 - F.low).toNat * 2 ^ (F.p - 1) + 2 ^ F.p ∧ F.inf + 2 ^ (F.p - 1) = 2 ^ (F.w - 1) := by
  obtain ⟨p8, p53, pw, w64, emx, emn, b16, b1023⟩ := ok
  obtain ⟨p, hp'⟩ : ∃ p, F.p = p + 1 := ⟨F.p - 1, by omega⟩
  obtain ⟨t, ht⟩ : ∃ t, F.w = F.p + 1 + t := ⟨F.w - F.p - 1, by omega⟩
  have e1 : F.w - F.p - 1 = t := by omega
  have e2 : F.w - F.p = t + 1 := by omega
  rw [e1] at emx
  have h2 : (2 : Int) ^ t = ((2 ^ t : Nat) : Int) := by simp
  rw [h2] at emx
  have hT := pow_pos2 t
  have hT3 : 2 ^ 4 ≤ 2 ^ t := Nat.pow_le_pow_right (by decide) (by omega)
  constructor
  · unfold Fm.inf Fm.low
    rw [e2, hp', Nat.add_sub_cancel, Nat.pow_succ, Nat.pow_succ]
    have e3 : (F.emax - ((p + 1 : Nat) : Int) + 1 - (F.emin - ((p + 1 : Nat) : Int) + 1)).toNat = 2 ^ t * 2 - 3 := by omega
    rw [e3]
    generalize 2 ^ t = T at *
    generalize 2 ^ p = P at *
    obtain ⟨x, rfl⟩ : ∃ x, T = x + 16 := ⟨T - 16, by omega⟩
    rw [show (x + 16) * 2 - 1 = 2 * x + 31 by omega, show (x + 16) * 2 - 3 = 2 * x + 29 by omega]
    grind
  · unfold Fm.inf
    rw [show F.w - 1 = (t + 1) + (F.p - 1) by omega, Nat.pow_add, e2]
    generalize 2 ^ (F.p - 1) = P at *
    have := pow_pos2 (t + 1)
    generalize 2 ^ (t + 1) = T at *
    obtain ⟨x, rfl⟩ : ∃ x, T = x + 1 := ⟨T - 1, by omega⟩
    rw [Nat.add_sub_cancel]; grind

/-- the value of the infinite bits, as if the exponent had no bound -/
theorem vl_inf (F : Fm) (ok : F.Ok) (L : Int) (hL : L ≤ F.low) : F.vl L F.inf = 2 ^ (F.emax + 1 - L).toNat := by
  have hp : 1 ≤ F.p := by have := ok.p8; omega
  rw [(inf_eq F ok).1, vl_bits F hp L _ _ hL (Nat.le_refl _) (Or.inr (Nat.pow_le_pow_right (by decide) (by omega))), ← Nat.pow_add]
  congr 1
  have := ok.b16; have := ok.emn
  unfold Fm.low at *; omega

/-- too great: as if the exponent had no bound the bits would be at least the infinite ones -/
theorem top_inf (F : Fm) (ok : F.Ok) (n : Nat) (e : Int) (h0 : n ≠ 0) : F.emax < topE n e ↔ F.inf ≤ floS F n e := by
  have hp : 1 ≤ F.p := by have := ok.p8; omega
  obtain ⟨L, hL1, hL2⟩ : ∃ L : Int, L ≤ e ∧ L ≤ F.low := ⟨min e F.low, by omega, by omega⟩
  obtain ⟨a1, a2⟩ := floS_units F hp n e L h0 hL1 hL2
  obtain ⟨b1, b2⟩ := top_units n e L h0 hL1
  have hv := vl_inf F ok L hL2
  have hle : L ≤ F.emax + 1 := by have := ok.b16; have := ok.emn; unfold Fm.low at hL2; omega
  constructor
  · intro h
    have : 2 ^ (F.emax + 1 - L).toNat ≤ 2 ^ (topE n e - L).toNat := Nat.pow_le_pow_right (by decide) (by omega)
    have := lt_of_vl F hp L hL2 (a := F.inf) (b := floS F n e + 1) (by omega)
    omega
  · intro h
    have h5 := Nat.le_trans (vl_le F hp L hL2 h) a1
    have h2 : 2 ^ (F.emax + 1 - L).toNat < 2 ^ ((topE n e - L).toNat + 1) := by rw [hv] at h5; exact Nat.lt_of_le_of_lt h5 b2
    have := (Nat.pow_lt_pow_iff_right (show 1 < 2 by decide)).1 h2
    have := topE_ge n e h0
    omega

theorem flr_or (F : Fm) (hp : 1 ≤ F.p) (n : Nat) (e : Int) (h0 : n ≠ 0) : (quE F n e - F.low).toNat = 0 ∨ 2 ^ (F.p - 1) ≤ flr n (quE F n e - e) := by
  rcases (flr_range F hp n e h0).2.1 with h | h
  · left; omega
  · exact Or.inr h

/-- the bits of the number without its sign -/
def magS (F : Fm) (m : Nat) (neg : Bool) (n : Nat) (e : Int) (more : Bool) : Nat :=
  if F.emax < topE n e then (if infB m neg then F.inf else F.inf - 1) else if goesUp m neg n more (quE F n e - e) then floS F n e + 1 else floS F n e

theorem rst_le (n : Nat) (more : Bool) (d : Int) : rst n more d ≤ 3 := by
  unfold rst cls; split
  · split <;> omega
  · split
    · omega
    · split <;> omega

theorem upB_inf {m : Nat} {neg : Bool} {r : Nat} (hr : r ≤ 3) (h : upB m neg true r = true) : infB m neg = true := by
  unfold upB at h; unfold infB
  split at h <;> simp_all

theorem pow_split (p : Nat) (hp : 1 ≤ p) : 2 ^ p = 2 ^ (p - 1) * 2 := by
  obtain ⟨q, rfl⟩ : ∃ q, p = q + 1 := ⟨p - 1, by omega⟩
  rw [Nat.pow_succ, Nat.add_sub_cancel]

/-- where the rounded number is too great: it was the greatest one, and went up -/
theorem over_top (F : Fm) (ok : F.Ok) (m : Nat) (neg : Bool) (n : Nat) (e : Int) (more : Bool) (h0 : n ≠ 0) (h1 : ¬ F.emax < topE n e) :
    (F.emax < quE F n e + bl (cutS m neg n more (quE F n e - e)) - 1 → goesUp m neg n more (quE F n e - e) = true ∧ floS F n e + 1 = F.inf ∧ infB m neg = true) ∧
    (¬ F.emax < quE F n e + bl (cutS m neg n more (quE F n e - e)) - 1 → magS F m neg n e more < F.inf) := by
  have hp : 1 ≤ F.p := by have := ok.p8; omega
  obtain ⟨a1, a2, a3, a4⟩ := flr_range F hp n e h0
  have hinf := (inf_eq F ok).1
  have hP := pow_split F.p hp
  have hPp := pow_pos2 (F.p - 1)
  have hq : quE F n e ≤ F.emax - F.p + 1 := by have := ok.b16; have := ok.emn; unfold quE; omega
  have hql := quE_low F n e
  have hmag : magS F m neg n e more = (quE F n e - F.low).toNat * 2 ^ (F.p - 1) + cutS m neg n more (quE F n e - e) := by
    unfold magS cutS floS; rw [if_neg h1]; split <;> omega
  have hc : cutS m neg n more (quE F n e - e) ≤ 2 ^ F.p := by unfold cutS; split <;> omega
  rw [hmag, hinf]
  generalize hu : cutS m neg n more (quE F n e - e) = u at *
  constructor
  · intro h
    have hb : F.p < bl u := by omega
    have hul : 2 ^ F.p ≤ u := by
      rcases Nat.lt_or_ge u (2 ^ F.p) with hlt | hge
      · have := bl_le_of_lt hlt; omega
      · exact hge
    have hu2 : u = 2 ^ F.p := by omega
    have hbu : bl u = F.p + 1 := by rw [hu2]; exact bl_unique (Nat.le_refl _) (by rw [Nat.pow_succ]; omega)
    have hqe : quE F n e = F.emax - F.p + 1 := by omega
    have hg : goesUp m neg n more (quE F n e - e) = true := by
      unfold cutS at hu
      split at hu
      · assumption
      · omega
    have hf : flr n (quE F n e - e) + 1 = 2 ^ F.p := by unfold cutS at hu; rw [if_pos hg] at hu; omega
    refine ⟨hg, ?_, ?_⟩
    · unfold floS; rw [Nat.add_assoc, hf, hqe]
    · unfold goesUp at hg
      rw [Bool.and_eq_true] at hg
      have hodd : decide (flr n (quE F n e - e) % 2 = 1) = true := by
        rw [decide_eq_true_eq]
        omega
      rw [hodd] at hg
      exact upB_inf (rst_le _ _ _) hg.2
  · intro h
    have hb : quE F n e + bl u - 1 ≤ F.emax := by omega
    rcases Int.lt_or_le (quE F n e) (F.emax - F.p + 1) with hlt | hge
    · have : (quE F n e - F.low).toNat + 1 ≤ (F.emax - F.p + 1 - F.low).toNat := by omega
      have := Nat.mul_le_mul_right (2 ^ (F.p - 1)) this
      rw [Nat.add_mul] at this
      omega
    · have hqe : quE F n e = F.emax - F.p + 1 := by omega
      have : u < 2 ^ F.p := Nat.lt_of_lt_of_le (bl_lt u) (Nat.pow_le_pow_right (by decide) (by omega))
      rw [hqe]
      omega

theorem into_bits (F : Fm) (ok : F.Ok) (m : Nat) (neg : Bool) (n : Nat) (e : Int) (more : Bool) (h0 : n ≠ 0) :
    (intoS F m neg n e more).1 = magS F m neg n e more + F.sg neg := by
  unfold intoS
  split
  · rename_i h; unfold magS beyondS; rw [if_pos h]
  · rename_i h
    obtain ⟨h1, h2⟩ := over_top F ok m neg n e more h0 h
    split
    · rename_i h3
      obtain ⟨a1, a2, a3⟩ := h1 h3
      unfold magS beyondS; rw [if_neg h, if_pos a1, if_pos a3, a2]
    · unfold magS cutS floS; rw [if_neg h]; split <;> simp <;> omega

theorem mag_le (F : Fm) (ok : F.Ok) (m : Nat) (neg : Bool) (n : Nat) (e : Int) (more : Bool) (h0 : n ≠ 0) : magS F m neg n e more ≤ F.inf := by
  by_cases h : F.emax < topE n e
  · unfold magS; rw [if_pos h]; split <;> omega
  · obtain ⟨h1, h2⟩ := over_top F ok m neg n e more h0 h
    by_cases h3 : F.emax < quE F n e + bl (cutS m neg n more (quE F n e - e)) - 1
    · obtain ⟨a1, a2, a3⟩ := h1 h3
      unfold magS; rw [if_neg h, if_pos a1, a2]; exact Nat.le_refl _
    · exact Nat.le_of_lt (h2 h3)

/-- the flags: none just where the number is exact -/
theorem into_flags (F : Fm) (m : Nat) (neg : Bool) (n : Nat) (e : Int) (more : Bool) : (intoS F m neg n e more).2 = 0 ∨ (intoS F m neg n e more).2 = 16 ∨ (intoS F m neg n e more).2 = 20 ∨ (intoS F m neg n e more).2 = 24 := by
  unfold intoS
  split
  · simp
  · split
    · simp
    · simp only
      split
      · simp
      · split <;> simp

theorem goesUp_exact {m : Nat} {neg : Bool} {n : Nat} {more : Bool} {d : Int} (h : rst n more d = 0) : goesUp m neg n more d = false := by
  unfold goesUp; rw [h]; rfl

theorem into_exact (F : Fm) (ok : F.Ok) (m : Nat) (neg : Bool) (n : Nat) (e : Int) (more : Bool) (h0 : n ≠ 0) :
    (intoS F m neg n e more).2 = 0 ↔ (¬ F.emax < topE n e ∧ rst n more (quE F n e - e) = 0) := by
  unfold intoS
  split
  · rename_i h; simp; omega
  · rename_i h
    obtain ⟨h1, h2⟩ := over_top F ok m neg n e more h0 h
    split
    · rename_i h3
      obtain ⟨a1, a2, a3⟩ := h1 h3
      constructor
      · intro h; cases h
      · intro h; rw [goesUp_exact h.2] at a1; cases a1
    · simp only
      split
      · rename_i h4; exact ⟨fun _ => ⟨h, h4⟩, fun _ => rfl⟩
      · rename_i h4
        constructor
        · intro h5; split at h5 <;> cases h5
        · intro h5; exact absurd h5.2 h4

theorem flr_eq_units (n : Nat) (e q L : Int) (hL : L ≤ e) (hq : L ≤ q) : flr n (q - e) = uN L n e / 2 ^ (q - L).toNat := by
  obtain ⟨h1, h2⟩ := flr_units n e q L hL hq
  rw [eq_comm, Nat.div_eq_iff (pow_pos2 _)]
  rw [Nat.add_mul, Nat.one_mul] at h2
  omega

theorem mod_units (n : Nat) (e q L : Int) (hL : L ≤ e) (hq : L ≤ q) : ∃ c, 0 < c ∧ uN L n e % 2 ^ (q - L).toNat = n * 2 ^ (-(q - e)).toNat % 2 ^ (q - e).toNat * c ∧ (n * 2 ^ (-(q - e)).toNat % 2 ^ (q - e).toNat ≠ 0 → 2 ^ (q - L).toNat = 2 ^ (q - e).toNat * c) := by
  unfold uN
  have h1 : (q - e).toNat + (e - L).toNat = (-(q - e)).toNat + (q - L).toNat := by omega
  generalize hs : (q - e).toNat = s at *
  generalize ht : (-(q - e)).toNat = t at *
  generalize ha : (e - L).toNat = a at *
  generalize hb : (q - L).toNat = b at *
  have hst : s = 0 ∨ t = 0 := by omega
  rcases hst with rfl | rfl
  · refine ⟨1, by omega, ?_, ?_⟩
    · rw [Nat.zero_add] at h1
      rw [h1, Nat.pow_add, ← Nat.mul_assoc, Nat.mul_mod_left]; simp [Nat.mod_one]
    · simp [Nat.mod_one]
  · rw [Nat.zero_add] at h1
    refine ⟨2 ^ a, pow_pos2 a, ?_, fun _ => ?_⟩
    · rw [← h1, Nat.pow_add, Nat.mul_mod_mul_right, Nat.pow_zero, Nat.mul_one]
    · rw [← h1, Nat.pow_add]

theorem cls_scale (r h c : Nat) (hc : 0 < c) : cls (r * c) (h * c) false = cls r h false := by
  unfold cls
  by_cases h0 : r = 0
  · subst h0; simp
  · have : r * c ≠ 0 := Nat.ne_of_gt (Nat.mul_pos (by omega) hc)
    rw [if_neg this, if_neg h0]
    have e1 : 2 * (r * c) < h * c ↔ 2 * r < h := by rw [← Nat.mul_assoc]; exact Nat.mul_lt_mul_right hc
    have e2 : 2 * (r * c) = h * c ↔ 2 * r = h := by
      rw [← Nat.mul_assoc]; exact ⟨fun h => Nat.eq_of_mul_eq_mul_right hc h, fun h => by rw [h]⟩
    simp only [e1, e2]

theorem cls_zero (h h' : Nat) (more : Bool) : cls 0 h more = cls 0 h' more := by unfold cls; simp

theorem rst_units (n : Nat) (e q L : Int) (hL : L ≤ e) (hq : L ≤ q) : rst n false (q - e) = cls (uN L n e % 2 ^ (q - L).toNat) (2 ^ (q - L).toNat) false := by
  obtain ⟨c, hc, h1, h2⟩ := mod_units n e q L hL hq
  unfold rst
  rw [h1]
  by_cases h0 : n * 2 ^ (-(q - e)).toNat % 2 ^ (q - e).toNat = 0
  · rw [h0, Nat.zero_mul]; exact cls_zero _ _ _
  · rw [h2 h0, cls_scale _ _ _ hc]

theorem uN_self (L : Int) (n : Nat) : uN L n L = n := by unfold uN; simp

theorem rst_units' (n : Nat) (e q L : Int) (hL : L ≤ e) (hq : L ≤ q) : rst n false (q - e) = rst (uN L n e) false (q - L) := by
  rw [rst_units n e q L hL hq, rst_units (uN L n e) L q L (Int.le_refl _) hq, uN_self]

theorem flr_units' (n : Nat) (e q L : Int) (hL : L ≤ e) (hq : L ≤ q) : flr n (q - e) = flr (uN L n e) (q - L) := by
  rw [flr_eq_units n e q L hL hq, flr_eq_units (uN L n e) L q L (Int.le_refl _) hq, uN_self]

theorem goesUp_units (m : Nat) (neg : Bool) (n : Nat) (e q L : Int) (hL : L ≤ e) (hq : L ≤ q) : goesUp m neg n false (q - e) = goesUp m neg (uN L n e) false (q - L) := by
  unfold goesUp; rw [rst_units' n e q L hL hq, flr_units' n e q L hL hq]

theorem cut_units (m : Nat) (neg : Bool) (n : Nat) (e q L : Int) (hL : L ≤ e) (hq : L ≤ q) : cutS m neg n false (q - e) = cutS m neg (uN L n e) false (q - L) := by
  unfold cutS; rw [goesUp_units m neg n e q L hL hq, flr_units' n e q L hL hq]

theorem uN_ne (L : Int) (n : Nat) (e : Int) (h0 : n ≠ 0) : uN L n e ≠ 0 := Nat.ne_of_gt (Nat.mul_pos (by omega) (pow_pos2 _))

theorem topE_units (n : Nat) (e L : Int) (h0 : n ≠ 0) (hL : L ≤ e) : topE (uN L n e) L = topE n e := by
  unfold topE uN; rw [bl_shl _ _ h0]; omega

theorem into_units (F : Fm) (m : Nat) (neg : Bool) (n : Nat) (e L : Int) (h0 : n ≠ 0) (hL : L ≤ e) (hq : L ≤ F.low) (ht : L ≤ topE n e - F.p + 1) : intoS F m neg n e false = intoS F m neg (uN L n e) L false := by
  have hql := quE_low F n e
  have e0 := topE_units n e L h0 hL
  have e1 : quE F (uN L n e) L = quE F n e := by unfold quE; rw [e0]
  unfold intoS
  rw [e0, e1, cut_units m neg n e (quE F n e) L hL (by omega), rst_units' n e (quE F n e) L hL (by omega), cut_units m neg n e (topE n e - F.p + 1) L hL (by omega)]

theorem uN_shift (L : Int) (n k : Nat) (e : Int) (h : L ≤ e - k) : uN L (n * 2 ^ k) (e - k) = uN L n e := by
  unfold uN; rw [Nat.mul_assoc, ← Nat.pow_add]; congr 2; omega

/-- the rounding hangs on the value alone -/
theorem into_scale (F : Fm) (m : Nat) (neg : Bool) (n k : Nat) (e : Int) (h0 : n ≠ 0) : intoS F m neg (n * 2 ^ k) (e - k) false = intoS F m neg n e false := by
  have h1 : n * 2 ^ k ≠ 0 := Nat.ne_of_gt (Nat.mul_pos (by omega) (pow_pos2 _))
  have ht : topE (n * 2 ^ k) (e - k) = topE n e := by unfold topE; rw [bl_shl _ _ h0]; omega
  obtain ⟨L, hL1, hL2, hL3⟩ : ∃ L : Int, L ≤ e - k ∧ L ≤ F.low ∧ L ≤ topE n e - F.p + 1 := ⟨min (e - k) (min F.low (topE n e - F.p + 1)), by omega, by omega, by omega⟩
  rw [into_units F m neg (n * 2 ^ k) (e - k) L h1 hL1 hL2 (by rw [ht]; exact hL3), into_units F m neg n e L h0 (by omega) hL2 hL3, uN_shift L n k e hL1]

theorem into_eq (F : Fm) (m : Nat) (neg : Bool) (n n' : Nat) (e e' : Int) (h0 : n ≠ 0) (L : Int) (hL : L ≤ e) (hL' : L ≤ e') (h : uN L n e = uN L n' e') : intoS F m neg n e false = intoS F m neg n' e' false := by
  have h0' : n' ≠ 0 := by
    rintro rfl
    have := uN_ne L n e h0
    rw [h] at this; exact this (by simp [uN])
  have a := into_scale F m neg n (e - L).toNat e h0
  have b := into_scale F m neg n' (e' - L).toNat e' h0'
  rw [← a, ← b]
  rw [show e - ((e - L).toNat : Int) = L by omega, show e' - ((e' - L).toNat : Int) = L by omega]
  unfold uN at h
  rw [h]

theorem cls_mono (h : Nat) {r r' : Nat} (hr : r ≤ r') : cls r h false ≤ cls r' h false := by
  unfold cls
  by_cases a : r = 0
  · rw [if_pos a]; simp
  · rw [if_neg a, if_neg (show r' ≠ 0 by omega)]
    by_cases b : 2 * r < h
    · rw [if_pos b]
      by_cases c : 2 * r' < h
      · rw [if_pos c]; omega
      · rw [if_neg c]; split <;> omega
    · rw [if_neg b, if_neg (show ¬ 2 * r' < h by omega)]
      by_cases c : 2 * r = h ∧ false = false
      · rw [if_pos c]; split <;> omega
      · rw [if_neg c, if_neg (by simp at c ⊢; omega)]; exact Nat.le_refl _

theorem upB_mono (m : Nat) (neg odd : Bool) {r r' : Nat} (h : r ≤ r') (h3 : r' ≤ 3) (hu : upB m neg odd r = true) : upB m neg odd r' = true := by
  unfold upB at *
  split at hu
  · simp only [Bool.or_eq_true, Bool.and_eq_true, beq_iff_eq] at hu ⊢
    rcases hu with hu | hu
    · left; omega
    · rcases Nat.lt_or_ge r' 3 with h4 | h4
      · right; exact ⟨by omega, hu.2⟩
      · left; omega
  · simp only [decide_eq_true_eq] at hu ⊢; omega
  · exact hu
  · exact hu
  · exact hu
  · exact hu

theorem goesUp_mono (m : Nat) (neg : Bool) {n n' : Nat} (d : Int) (h : n ≤ n') (hf : flr n d = flr n' d) (hu : goesUp m neg n false d = true) : goesUp m neg n' false d = true := by
  unfold goesUp at *
  rw [Bool.and_eq_true] at *
  have hr : rst n false d ≤ rst n' false d := by
    unfold rst
    refine cls_mono _ ?_
    unfold flr at hf
    have h1 := Nat.div_add_mod (n * 2 ^ (-d).toNat) (2 ^ d.toNat)
    have h2 := Nat.div_add_mod (n' * 2 ^ (-d).toNat) (2 ^ d.toNat)
    have h3 := Nat.mul_le_mul_right (2 ^ (-d).toNat) h
    rw [hf] at h1
    omega
  rw [← hf]
  refine ⟨?_, upB_mono m neg _ hr (rst_le _ _ _) hu.2⟩
  have := hu.1
  simp at this ⊢
  omega

theorem floS_mono (F : Fm) (hp : 1 ≤ F.p) {n n' : Nat} (e : Int) (h0 : n ≠ 0) (h : n ≤ n') : floS F n e ≤ floS F n' e := by
  obtain ⟨L, hL1, hL2⟩ : ∃ L : Int, L ≤ e ∧ L ≤ F.low := ⟨min e F.low, by omega, by omega⟩
  obtain ⟨a1, a2⟩ := floS_units F hp n e L h0 hL1 hL2
  obtain ⟨b1, b2⟩ := floS_units F hp n' e L (by omega) hL1 hL2
  have h1 : uN L n e ≤ uN L n' e := Nat.mul_le_mul_right _ h
  have := lt_of_vl F hp L hL2 (a := floS F n e) (b := floS F n' e + 1) (by omega)
  omega

theorem topE_mono {n n' : Nat} (e : Int) (h : n ≤ n') : topE n e ≤ topE n' e := by have := bl_mono h; unfold topE; omega

/-- equal bits, equal places -/
theorem quE_of_floS (F : Fm) (hp : 1 ≤ F.p) {n n' : Nat} (e : Int) (h0 : n ≠ 0) (h : n ≤ n') (hf : floS F n e = floS F n' e) : quE F n e = quE F n' e := by
  have h1 := topE_mono e h
  have h2 : quE F n e ≤ quE F n' e := by unfold quE; omega
  rcases Int.lt_or_le (quE F n e) (quE F n' e) with h3 | h3
  · exfalso
    obtain ⟨a1, _⟩ := flr_range F hp n e h0
    obtain ⟨_, b1, _⟩ := flr_range F hp n' e (by omega)
    have hl := quE_low F n e
    have b2 : 2 ^ (F.p - 1) ≤ flr n' (quE F n' e - e) := by omega
    have hP := pow_split F.p hp
    have : (quE F n e - F.low).toNat + 1 ≤ (quE F n' e - F.low).toNat := by omega
    have := Nat.mul_le_mul_right (2 ^ (F.p - 1)) this
    rw [Nat.add_mul] at this
    unfold floS at hf
    omega
  · omega

/-- rounding keeps order -/
theorem mag_mono (F : Fm) (ok : F.Ok) (m : Nat) (neg : Bool) {n n' : Nat} (e : Int) (h0 : n ≠ 0) (h : n ≤ n') : magS F m neg n e false ≤ magS F m neg n' e false := by
  have hp : 1 ≤ F.p := by have := ok.p8; omega
  have h1 := topE_mono e h
  have hle := mag_le F ok m neg n e false h0
  by_cases hb' : F.emax < topE n' e
  · by_cases hb : F.emax < topE n e
    · unfold magS; rw [if_pos hb, if_pos hb']; exact Nat.le_refl _
    · have e' : magS F m neg n' e false = if infB m neg then F.inf else F.inf - 1 := by unfold magS; rw [if_pos hb']
      rw [e']
      split
      · exact hle
      · rename_i hi
        obtain ⟨g1, g2⟩ := over_top F ok m neg n e false h0 hb
        by_cases h3 : F.emax < quE F n e + bl (cutS m neg n false (quE F n e - e)) - 1
        · exact absurd (g1 h3).2.2 hi
        · have := g2 h3; omega
  · have hb : ¬ F.emax < topE n e := by omega
    have hf := floS_mono F hp e h0 h
    unfold magS
    rw [if_neg hb, if_neg hb']
    rcases Nat.lt_or_ge (floS F n e) (floS F n' e) with h2 | h2
    · split <;> split <;> omega
    · have he : floS F n e = floS F n' e := by omega
      have hq := quE_of_floS F hp e h0 h he
      have hfl : flr n (quE F n e - e) = flr n' (quE F n e - e) := by
        unfold floS at he
        rw [← hq] at he; omega
      rw [← hq]
      split
      · rename_i hg
        rw [if_pos (goesUp_mono m neg _ h hfl hg)]; omega
      · split <;> omega

theorem cls_sticky (r s k x : Nat) (hs : 1 ≤ s) (h1 : r * 2 ^ k < x) (h2 : x < (r + 1) * 2 ^ k) : cls x (2 ^ s * 2 ^ k) false = cls r (2 ^ s) true := by
  obtain ⟨t, rfl⟩ : ∃ t, s = t + 1 := ⟨s - 1, by omega⟩
  unfold cls
  rw [Nat.pow_succ] at *
  have hk := pow_pos2 k
  have ht := pow_pos2 t
  generalize 2 ^ k = c at *
  generalize 2 ^ t = T at *
  rw [if_neg (show x ≠ 0 by omega)]
  rcases Nat.lt_or_ge r T with h | h
  · have h3 := Nat.mul_le_mul_right c h
    rw [Nat.succ_mul] at h3
    rw [Nat.add_mul, Nat.one_mul] at h2
    have h4 : T * 2 * c = 2 * (T * c) := by grind
    rw [if_pos (show 2 * x < T * 2 * c by omega)]
    by_cases h0 : r = 0
    · rw [if_pos h0]; rfl
    · rw [if_neg h0, if_pos (by omega)]
  · have h3 := Nat.mul_le_mul_right c h
    have h4 : T * 2 * c = 2 * (T * c) := by grind
    rw [if_neg (show ¬ 2 * x < T * 2 * c by omega), if_neg (show ¬ (2 * x = T * 2 * c ∧ false = false) by omega), if_neg (show r ≠ 0 by omega), if_neg (by omega), if_neg (by simp)]

theorem flr_sticky (n k x : Nat) (s : Int) (hs : 1 ≤ s) (h1 : n * 2 ^ k < x) (h2 : x < (n + 1) * 2 ^ k) : flr x (s + k) = flr n s ∧ rst x false (s + k) = rst n true s := by
  have e1 : (s + (k : Int)).toNat = s.toNat + k := by omega
  have e2 : (-(s + (k : Int))).toNat = 0 := by omega
  have e3 : (-s).toNat = 0 := by omega
  unfold flr rst
  rw [e1, e2, e3, Nat.pow_zero, Nat.mul_one, Nat.mul_one, Nat.pow_add]
  have hk := pow_pos2 k
  have hsn : 1 ≤ s.toNat := by omega
  have hx : x / 2 ^ k = n := by
    rw [Nat.add_mul, Nat.one_mul] at h2
    rw [Nat.div_eq_iff hk]
    omega
  have e4 : x / (2 ^ s.toNat * 2 ^ k) = n / 2 ^ s.toNat := by rw [Nat.mul_comm, ← Nat.div_div_eq_div_mul, hx]
  refine ⟨e4, ?_⟩
  refine cls_sticky _ _ _ _ hsn ?_ ?_
  · have a := Nat.div_add_mod x (2 ^ s.toNat * 2 ^ k)
    have b := Nat.div_add_mod n (2 ^ s.toNat)
    rw [e4] at a
    generalize n / 2 ^ s.toNat = q at *
    generalize n % 2 ^ s.toNat = r at *
    generalize x % (2 ^ s.toNat * 2 ^ k) = r' at *
    generalize 2 ^ s.toNat = A at *
    generalize 2 ^ k = B at *
    rw [← b, Nat.add_mul] at h1
    have : A * B * q = A * q * B := by grind
    omega
  · have a := Nat.div_add_mod x (2 ^ s.toNat * 2 ^ k)
    have b := Nat.div_add_mod n (2 ^ s.toNat)
    rw [e4] at a
    generalize n / 2 ^ s.toNat = q at *
    generalize n % 2 ^ s.toNat = r at *
    generalize x % (2 ^ s.toNat * 2 ^ k) = r' at *
    generalize 2 ^ s.toNat = A at *
    generalize 2 ^ k = B at *
    rw [← b] at h2
    have : (A * q + r + 1) * B = A * B * q + (r + 1) * B := by grind
    omega

/-- an unknown rest: any one between rounds alike -/
theorem into_sticky (F : Fm) (m : Nat) (neg : Bool) (n k x : Nat) (e : Int) (hb : F.p + 1 ≤ bl n) (h1 : n * 2 ^ k < x) (h2 : x < (n + 1) * 2 ^ k) : intoS F m neg n e true = intoS F m neg x (e - k) false := by
  have h0 : n ≠ 0 := by rintro rfl; rw [bl_zero] at hb; omega
  have hbl : bl x = bl n + k := by
    have a := bl_ge n h0
    have b := bl_lt n
    have c : 2 ^ (bl n - 1 + k) ≤ x := by
      rw [Nat.pow_add]; exact Nat.le_trans (Nat.mul_le_mul_right _ a) (Nat.le_of_lt h1)
    have d : x < 2 ^ (bl n - 1 + k + 1) := by
      rw [show bl n - 1 + k + 1 = bl n + k by omega, Nat.pow_add]
      exact Nat.lt_of_lt_of_le h2 (Nat.mul_le_mul_right _ b)
    have := bl_unique c d
    omega
  have ht : topE x (e - k) = topE n e := by unfold topE; rw [hbl]; omega
  have hq : quE F x (e - k) = quE F n e := by unfold quE; rw [ht]
  have key : ∀ q : Int, topE n e - F.p + 1 ≤ q → flr x (q - (e - k)) = flr n (q - e) ∧ rst x false (q - (e - k)) = rst n true (q - e) := by
    intro q hq
    rw [show q - (e - (k : Int)) = (q - e) + k by omega]
    exact flr_sticky n k x (q - e) (by unfold topE at hq; omega) h1 h2
  have g : ∀ q : Int, topE n e - F.p + 1 ≤ q → cutS m neg x false (q - (e - k)) = cutS m neg n true (q - e) := by
    intro q hq
    obtain ⟨a, b⟩ := key q hq
    unfold cutS goesUp; rw [a, b]
  have hqq : topE n e - F.p + 1 ≤ quE F n e := by unfold quE; omega
  unfold intoS
  rw [ht, hq, g _ hqq, g _ (Int.le_refl _), (key _ hqq).2]

end Go.Proofs.YtlibhfojfonfjaaGreatDoor

/- Products and sums of floats, as plain numbers. -/
namespace Go.Proofs.YtlibhfojfonfjaaGreatDoor
set_option linter.unusedVariables false

def Fm.neg (F : Fm) (a : Nat) : Bool := decide (2 ^ (F.w - 1) ≤ a)
def Fm.abs (F : Fm) (a : Nat) : Nat := a % 2 ^ (F.w - 1)
/-- the sign turned -/
def Fm.flip (F : Fm) (a : Nat) : Nat := F.abs a + F.sg (!F.neg a)
def Fm.isNan (F : Fm) (a : Nat) : Bool := decide (F.inf < F.abs a)
def Fm.isSig (F : Fm) (a : Nat) : Bool := F.isNan a && decide (F.abs a < F.inf + 2 ^ (F.p - 2))
def Fm.isInf (F : Fm) (a : Nat) : Bool := decide (F.abs a = F.inf)
def Fm.isZero (F : Fm) (a : Nat) : Bool := decide (F.abs a = 0)
def Fm.nan (F : Fm) : Nat := F.inf + 2 ^ (F.p - 2)
def Fm.mag (F : Fm) (a : Nat) : Nat := F.sig (F.abs a)
def Fm.ex (F : Fm) (a : Nat) : Int := F.xp (F.abs a)

/-- the product: bits and flags -/
def mulS (F : Fm) (m : Nat) (a b : Nat) : Nat × Nat :=
  if F.isNan a || F.isNan b then (F.nan, if F.isSig a || F.isSig b then 1 else 0)
  else if (F.isInf a && F.isZero b) || (F.isZero a && F.isInf b) then (F.nan, 1)
  else if F.isInf a || F.isInf b then (F.inf + F.sg (F.neg a != F.neg b), 0)
  else if F.isZero a || F.isZero b then (F.sg (F.neg a != F.neg b), 0)
  else intoS F m (F.neg a != F.neg b) (F.mag a * F.mag b) (F.ex a + F.ex b) false

/-- a whole number of units 2^L, not zero, rounded -/
def rndZ (F : Fm) (m : Nat) (z : Int) (L : Int) : Nat × Nat := intoS F m (decide (z < 0)) z.natAbs L false
/-- the value of finite bits, in units of 2^L -/
def Fm.val (F : Fm) (L : Int) (a : Nat) : Int := if F.neg a then -(F.vl L (F.abs a) : Int) else (F.vl L (F.abs a) : Int)

/-- the sum: bits and flags -/
def addS (F : Fm) (m : Nat) (a b : Nat) : Nat × Nat :=
  if F.isSig a || F.isSig b then (F.nan, 1)
  else if F.isNan a || F.isNan b then (F.nan, 0)
  else if F.isInf a && F.isInf b && F.neg a != F.neg b then (F.nan, 1)
  else if F.isInf a then (a, 0)
  else if F.isInf b then (b, 0)
  else if F.val F.low a + F.val F.low b = 0 then (F.sg (if F.isZero a && F.isZero b && F.neg a == F.neg b then F.neg a else m == 4), 0)
  else rndZ F m (F.val F.low a + F.val F.low b) F.low

section
variable {F : Fm}

theorem sg_lt (ok : F.Ok) (s : Bool) : F.sg s ≤ 2 ^ (F.w - 1) := by
  unfold Fm.sg; split
  · exact Nat.le_refl _
  · exact Nat.zero_le _
theorem inf_lt (ok : F.Ok) : F.inf < 2 ^ (F.w - 1) := by have := (inf_eq F ok).2; have := pow_pos2 (F.p - 1); omega
theorem w_two (ok : F.Ok) : 2 ^ F.w = 2 ^ (F.w - 1) * 2 := pow_split F.w (by have := ok.pw; omega)
theorem abs_lt (a : Nat) : F.abs a < 2 ^ (F.w - 1) := Nat.mod_lt _ (pow_pos2 _)
theorem neg_mk {x : Nat} {s : Bool} (h : x < 2 ^ (F.w - 1)) : F.neg (x + F.sg s) = s := by
  have := pow_pos2 (F.w - 1)
  unfold Fm.neg Fm.sg; cases s <;> simp <;> omega
theorem abs_mk {x : Nat} {s : Bool} (h : x < 2 ^ (F.w - 1)) : F.abs (x + F.sg s) = x := by
  unfold Fm.abs Fm.sg; cases s
  · simp; exact Nat.mod_eq_of_lt h
  · simp; exact Nat.mod_eq_of_lt h
theorem parts_mk (ok : F.Ok) {a : Nat} (h : a < 2 ^ F.w) : a = F.abs a + F.sg (F.neg a) := by
  have hw := w_two ok
  unfold Fm.abs Fm.neg Fm.sg
  by_cases h1 : 2 ^ (F.w - 1) ≤ a
  · rw [decide_eq_true h1, if_pos rfl, Nat.mod_eq_sub_mod h1, Nat.mod_eq_of_lt (by omega)]; omega
  · rw [decide_eq_false h1, Nat.mod_eq_of_lt (by omega)]; simp
theorem abs_flip (a : Nat) : F.abs (F.flip a) = F.abs a := abs_mk (abs_lt a)
theorem neg_flip (a : Nat) : F.neg (F.flip a) = !F.neg a := neg_mk (abs_lt a)
theorem flip_mk {x : Nat} {s : Bool} (h : x < 2 ^ (F.w - 1)) : F.flip (x + F.sg s) = x + F.sg (!s) := by
  unfold Fm.flip; rw [abs_mk h, neg_mk h]
theorem isNan_flip (a : Nat) : F.isNan (F.flip a) = F.isNan a := by unfold Fm.isNan; rw [abs_flip]
theorem isSig_flip (a : Nat) : F.isSig (F.flip a) = F.isSig a := by unfold Fm.isSig; rw [abs_flip, isNan_flip]
theorem isInf_flip (a : Nat) : F.isInf (F.flip a) = F.isInf a := by unfold Fm.isInf; rw [abs_flip]
theorem isZero_flip (a : Nat) : F.isZero (F.flip a) = F.isZero a := by unfold Fm.isZero; rw [abs_flip]
theorem mag_flip (a : Nat) : F.mag (F.flip a) = F.mag a := by unfold Fm.mag; rw [abs_flip]
theorem ex_flip (a : Nat) : F.ex (F.flip a) = F.ex a := by unfold Fm.ex; rw [abs_flip]
theorem flip_lt (ok : F.Ok) (a : Nat) : F.flip a < 2 ^ F.w := by
  have h1 := abs_lt (F := F) a
  have h2 := sg_lt ok (!F.neg a)
  have := w_two ok
  unfold Fm.flip; omega

/-- the mode that does to the opposite what m does -/
def mir (m : Nat) : Nat := if m = 3 then 4 else if m = 4 then 3 else m

theorem upB_mir (m : Nat) (neg odd : Bool) (r : Nat) : upB (mir m) (!neg) odd r = upB m neg odd r := by
  unfold mir
  by_cases h3 : m = 3
  · subst h3; simp [upB]
  · by_cases h4 : m = 4
    · subst h4; simp [upB]
    · rw [if_neg h3, if_neg h4]
      match m, h3, h4 with
      | 0, _, _ => rfl
      | 1, _, _ => rfl
      | 2, _, _ => rfl
      | n + 5, _, _ => rfl
theorem infB_mir (m : Nat) (neg : Bool) : infB (mir m) (!neg) = infB m neg := by
  unfold mir infB
  by_cases h3 : m = 3
  · subst h3; simp
  · by_cases h4 : m = 4
    · subst h4; simp
    · rw [if_neg h3, if_neg h4, beq_false_of_ne h3, beq_false_of_ne h4]; simp
theorem cut_mir (m : Nat) (neg : Bool) (n : Nat) (more : Bool) (d : Int) : cutS (mir m) (!neg) n more d = cutS m neg n more d := by
  unfold cutS goesUp; rw [upB_mir]
theorem beyond_mir (ok : F.Ok) (m : Nat) (neg : Bool) : beyondS F (mir m) (!neg) = F.flip (beyondS F m neg) := by
  unfold beyondS
  rw [infB_mir, flip_mk]
  have := inf_lt ok
  split <;> omega
theorem cut_lt (ok : F.Ok) (m : Nat) (neg : Bool) (n : Nat) (e : Int) (more : Bool) (h0 : n ≠ 0) : (intoS F m neg n e more).1 = magS F m neg n e more + F.sg neg ∧ magS F m neg n e more < 2 ^ (F.w - 1) :=
  ⟨into_bits F ok m neg n e more h0, Nat.lt_of_le_of_lt (mag_le F ok m neg n e more h0) (inf_lt ok)⟩
theorem into_mir (ok : F.Ok) (m : Nat) (neg : Bool) (n : Nat) (e : Int) (more : Bool) (h0 : n ≠ 0) : intoS F (mir m) (!neg) n e more = (F.flip (intoS F m neg n e more).1, (intoS F m neg n e more).2) := by
  obtain ⟨h1, h2⟩ := cut_lt ok m neg n e more h0
  obtain ⟨h3, h4⟩ := cut_lt ok (mir m) (!neg) n e more h0
  have hm : magS F (mir m) (!neg) n e more = magS F m neg n e more := by
    unfold magS goesUp; rw [infB_mir, upB_mir]
  refine Prod.ext ?_ ?_
  · rw [h3, h1, hm, flip_mk h2]
  · unfold intoS
    rw [cut_mir, cut_mir]
    split
    · rfl
    · split <;> rfl

theorem mul_comm_S (m a b : Nat) : mulS F m a b = mulS F m b a := by
  unfold mulS
  rw [Bool.or_comm (F.isNan a), Bool.or_comm (F.isSig a), Bool.or_comm (F.isInf a && F.isZero b), Bool.and_comm (F.isZero a), Bool.and_comm (F.isInf a) (F.isZero b), Bool.or_comm (F.isInf a), Bool.or_comm (F.isZero a), Nat.mul_comm (F.mag a), Int.add_comm (F.ex a), show (F.neg a != F.neg b) = (F.neg b != F.neg a) from bne_comm]

theorem sig_ne (hp : 1 ≤ F.p) {b : Nat} (h : b ≠ 0) : F.sig b ≠ 0 := by
  unfold Fm.sig; split
  · exact h
  · have := pow_pos2 (F.p - 1); omega
theorem mag_ne (hp : 1 ≤ F.p) {a : Nat} (h : F.isZero a = false) : F.mag a ≠ 0 := by
  unfold Fm.isZero at h; unfold Fm.mag
  exact sig_ne hp (by simpa using h)
theorem bne_not (x y : Bool) : (x != !y) = !(x != y) := by cases x <;> cases y <;> rfl
theorem nan_lt (ok : F.Ok) : F.nan < 2 ^ (F.w - 1) := by
  have h1 := (inf_eq F ok).2
  have : 2 ^ (F.p - 1) = 2 ^ (F.p - 2) * 2 := by have := pow_split (F.p - 1) (by have := ok.p8; omega); rw [this]; congr 1
  have := pow_pos2 (F.p - 2)
  unfold Fm.nan; omega
theorem nan_isNan (ok : F.Ok) : F.isNan F.nan = true := by
  have h := abs_mk (F := F) (s := false) (nan_lt ok)
  simp only [Fm.sg, Bool.false_eq_true, if_false, Nat.add_zero] at h
  unfold Fm.isNan; rw [h]; have := pow_pos2 (F.p - 2); simp [Fm.nan]; omega

/-- the opposite of one factor, in the mirrored mode -/
theorem mul_mir (ok : F.Ok) (m a b : Nat) : (mulS F (mir m) a (F.flip b)).2 = (mulS F m a b).2 ∧
    (F.isNan (mulS F m a b).1 = true ∧ (mulS F (mir m) a (F.flip b)).1 = (mulS F m a b).1 ∨ F.isNan (mulS F m a b).1 = false ∧ (mulS F (mir m) a (F.flip b)).1 = F.flip (mulS F m a b).1) := by
  have hp : 1 ≤ F.p := by have := ok.p8; omega
  unfold mulS
  rw [isNan_flip, isSig_flip, isInf_flip, isZero_flip, mag_flip, ex_flip, neg_flip, bne_not]
  by_cases h1 : (F.isNan a || F.isNan b) = true
  · simp only [if_pos h1]; exact ⟨trivial, Or.inl ⟨nan_isNan ok, trivial⟩⟩
  simp only [if_neg h1]
  by_cases h2 : ((F.isInf a && F.isZero b) || (F.isZero a && F.isInf b)) = true
  · simp only [if_pos h2]; exact ⟨trivial, Or.inl ⟨nan_isNan ok, trivial⟩⟩
  simp only [if_neg h2]
  have key : ∀ x s, x ≤ F.inf → F.isNan (x + F.sg s) = false := by
    intro x s hx
    unfold Fm.isNan; rw [abs_mk (Nat.lt_of_le_of_lt hx (inf_lt ok))]; simp; exact hx
  by_cases h3 : (F.isInf a || F.isInf b) = true
  · simp only [if_pos h3]
    exact ⟨trivial, Or.inr ⟨key _ _ (Nat.le_refl _), (flip_mk (inf_lt ok)).symm⟩⟩
  simp only [if_neg h3]
  by_cases h4 : (F.isZero a || F.isZero b) = true
  · simp only [if_pos h4]
    refine ⟨trivial, Or.inr ⟨by have := key 0 (F.neg a != F.neg b) (Nat.zero_le _); simpa using this, ?_⟩⟩
    have := flip_mk (F := F) (x := 0) (s := F.neg a != F.neg b) (pow_pos2 _)
    simp only [Nat.zero_add] at this
    exact this.symm
  simp only [if_neg h4]
  simp only [Bool.or_eq_true, not_or, Bool.not_eq_true] at h4
  have h0 : F.mag a * F.mag b ≠ 0 := Nat.mul_ne_zero (mag_ne hp h4.1) (mag_ne hp h4.2)
  rw [into_mir ok m _ _ _ _ h0]
  refine ⟨rfl, Or.inr ⟨?_, rfl⟩⟩
  show F.isNan (intoS F m _ _ _ _).1 = false
  rw [into_bits F ok m _ _ _ _ h0]
  exact key _ _ (mag_le F ok m _ _ _ _ h0)

end

end Go.Proofs.YtlibhfojfonfjaaGreatDoor

/- Laws of products as plain numbers: by 1, by 2; order. -/
namespace Go.Proofs.YtlibhfojfonfjaaGreatDoor
set_option linter.unusedVariables false

section
variable {F : Fm}

theorem low_xp (b : Nat) : F.low ≤ F.xp b := by
  unfold Fm.xp; split
  · exact Int.le_refl _
  · rename_i h; have := Nat.pos_of_ne_zero h; omega

/-- a number of the format is rounded to itself -/
theorem into_self (ok : F.Ok) (m : Nat) (neg : Bool) {b : Nat} (h0 : b ≠ 0) (hb : b < F.inf) : intoS F m neg (F.sig b) (F.xp b) false = (b + F.sg neg, 0) := by
  have hp : 1 ≤ F.p := by have := ok.p8; omega
  have hs := sig_ne hp h0
  have hl := low_xp (F := F) b
  have hf : floS F (F.sig b) (F.xp b) = b := floS_unique F hp _ _ F.low hs hl (Int.le_refl _) (Nat.le_refl _) (vl_lt F hp F.low (Int.le_refl _) (Nat.lt_succ_self b))
  have hr : rst (F.sig b) false (quE F (F.sig b) (F.xp b) - F.xp b) = 0 := (floS_exact F hp _ _ F.low hs hl (Int.le_refl _)).2 (by rw [hf]; rfl)
  have ht : ¬ F.emax < topE (F.sig b) (F.xp b) := by rw [top_inf F ok _ _ hs, hf]; omega
  refine Prod.ext ?_ ((into_exact F ok m neg _ _ false hs).2 ⟨ht, hr⟩)
  rw [into_bits F ok m neg _ _ false hs]
  unfold magS
  rw [if_neg ht, goesUp_exact hr, hf]; rfl

theorem zero_sg (s : Bool) : F.abs (F.sg s) = 0 ∧ F.neg (F.sg s) = s := by
  have h1 := abs_mk (F := F) (x := 0) (s := s) (pow_pos2 _)
  have h2 := neg_mk (F := F) (x := 0) (s := s) (pow_pos2 _)
  rw [Nat.zero_add] at h1 h2
  exact ⟨h1, h2⟩

/-- a power of two: its bits -/
theorem two_pow (ok : F.Ok) (k : Nat) (hk : 1 ≤ k) (hk2 : k * 2 ^ (F.p - 1) < F.inf) : F.abs (k * 2 ^ (F.p - 1)) = k * 2 ^ (F.p - 1) ∧ F.neg (k * 2 ^ (F.p - 1)) = false ∧ F.mag (k * 2 ^ (F.p - 1)) = 2 ^ (F.p - 1) ∧ F.ex (k * 2 ^ (F.p - 1)) = F.low + k - 1 := by
  have h := Nat.lt_trans hk2 (inf_lt ok)
  have h1 := abs_mk (F := F) (s := false) h
  have h2 := neg_mk (F := F) (s := false) h
  simp only [Fm.sg, Bool.false_eq_true, if_false, Nat.add_zero] at h1 h2
  refine ⟨h1, h2, ?_, ?_⟩
  · unfold Fm.mag Fm.sig
    rw [h1, Nat.mul_div_cancel _ (pow_pos2 _), if_neg (by omega), Nat.mul_mod_left]; rfl
  · unfold Fm.ex Fm.xp
    rw [h1, Nat.mul_div_cancel _ (pow_pos2 _), if_neg (by omega)]

def Fm.one (F : Fm) : Nat := F.emax.toNat * 2 ^ (F.p - 1)
def Fm.two (F : Fm) : Nat := (F.emax.toNat + 1) * 2 ^ (F.p - 1)

theorem inf_emax (ok : F.Ok) : F.inf = (2 * F.emax.toNat + 1) * 2 ^ (F.p - 1) := by
  obtain ⟨p8, p53, pw, w64, emx, emn, b16, b1023⟩ := ok
  unfold Fm.inf
  congr 1
  obtain ⟨t, ht⟩ : ∃ t, F.w - F.p = t + 1 := ⟨F.w - F.p - 1, by omega⟩
  rw [show F.w - F.p - 1 = t by omega] at emx
  have h2 : (2 : Int) ^ t = ((2 ^ t : Nat) : Int) := by simp
  rw [h2] at emx
  rw [ht, Nat.pow_succ]
  have := pow_pos2 t
  omega

theorem one_ok (ok : F.Ok) : F.abs F.one = F.one ∧ F.neg F.one = false ∧ F.mag F.one = 2 ^ (F.p - 1) ∧ F.ex F.one = 1 - F.p ∧ F.one ≠ 0 ∧ F.one < F.inf := by
  have hi := inf_emax ok
  have hP := pow_pos2 (F.p - 1)
  have h1 : 1 ≤ F.emax.toNat := by have := ok.b16; omega
  have hlt : F.emax.toNat * 2 ^ (F.p - 1) < F.inf := by rw [hi]; exact Nat.mul_lt_mul_of_pos_right (by omega) hP
  obtain ⟨a, b, c, d⟩ := two_pow ok F.emax.toNat h1 hlt
  refine ⟨a, b, c, ?_, ?_, hlt⟩
  · unfold Fm.one; rw [d]; have := ok.emn; have := ok.b16; unfold Fm.low; omega
  · unfold Fm.one; exact Nat.ne_of_gt (Nat.mul_pos h1 hP)

theorem two_ok (ok : F.Ok) : F.abs F.two = F.two ∧ F.neg F.two = false ∧ F.mag F.two = 2 ^ (F.p - 1) ∧ F.ex F.two = 2 - F.p ∧ F.two ≠ 0 ∧ F.two < F.inf := by
  have hi := inf_emax ok
  have hP := pow_pos2 (F.p - 1)
  have h1 : 15 ≤ F.emax.toNat := by have := ok.b16; omega
  have hlt : (F.emax.toNat + 1) * 2 ^ (F.p - 1) < F.inf := by rw [hi]; exact Nat.mul_lt_mul_of_pos_right (by omega) hP
  obtain ⟨a, b, c, d⟩ := two_pow ok (F.emax.toNat + 1) (by omega) hlt
  refine ⟨a, b, c, ?_, ?_, hlt⟩
  · unfold Fm.two; rw [d]; have := ok.emn; have := ok.b16; unfold Fm.low; omega
  · unfold Fm.two; exact Nat.ne_of_gt (Nat.mul_pos (by omega) hP)

theorem fin_of {a : Nat} (h1 : F.isNan a = false) (h2 : F.isInf a = false) : F.abs a < F.inf := by
  unfold Fm.isNan at h1; unfold Fm.isInf at h2
  simp at h1 h2; omega

theorem mul_one_S (ok : F.Ok) (m : Nat) {a : Nat} (ha : a < 2 ^ F.w) : mulS F m F.one a = if F.isNan a then (F.nan, if F.isSig a then 1 else 0) else (a, 0) := by
  have hp : 1 ≤ F.p := by have := ok.p8; omega
  obtain ⟨h1, h2, h3, h4, h5, h6⟩ := one_ok ok
  have n1 : F.isNan F.one = false := by unfold Fm.isNan; rw [h1]; simp; omega
  have n2 : F.isSig F.one = false := by unfold Fm.isSig; rw [n1]; rfl
  have n3 : F.isInf F.one = false := by unfold Fm.isInf; rw [h1]; simp; omega
  have n4 : F.isZero F.one = false := by unfold Fm.isZero; rw [h1]; simp; exact h5
  have hpart := parts_mk ok ha
  unfold mulS
  simp only [n1, n2, n3, n4, h2, h3, h4, Bool.false_or, Bool.false_and, Bool.or_false]
  by_cases c1 : F.isNan a = true
  · rw [if_pos c1, if_pos c1]
  rw [if_neg c1, if_neg c1, if_neg (by simp)]
  by_cases c2 : F.isInf a = true
  · rw [if_pos c2]
    unfold Fm.isInf at c2
    simp at c2
    rw [c2] at hpart
    simp [← hpart]
  rw [if_neg c2]
  by_cases c3 : F.isZero a = true
  · rw [if_pos c3]
    unfold Fm.isZero at c3
    simp at c3
    rw [c3, Nat.zero_add] at hpart
    simp [← hpart]
  rw [if_neg c3]
  have hf := fin_of (by simpa using c1) (by simpa using c2)
  have h0 : F.abs a ≠ 0 := by unfold Fm.isZero at c3; simpa using c3
  rw [show (2 ^ (F.p - 1) * F.mag a) = F.mag a * 2 ^ (F.p - 1) from Nat.mul_comm _ _, show (1 - (F.p : Int) + F.ex a) = F.ex a - ((F.p - 1 : Nat) : Int) by omega, into_scale _ _ _ _ _ _ (mag_ne hp (by simpa using c3))]
  unfold Fm.mag Fm.ex
  rw [into_self ok m _ h0 hf]
  simp [← hpart]

theorem val_nz (hp : 1 ≤ F.p) {a : Nat} (L : Int) (h : F.abs a ≠ 0) : 0 < F.vl L (F.abs a) := Nat.mul_pos (Nat.pos_of_ne_zero (sig_ne hp h)) (pow_pos2 _)

theorem val_neg (hp : 1 ≤ F.p) {a : Nat} (L : Int) (h : F.abs a ≠ 0) : decide (F.val L a < 0) = F.neg a ∧ (F.val L a).natAbs = F.vl L (F.abs a) ∧ F.val L a ≠ 0 := by
  have := val_nz hp L h
  unfold Fm.val
  cases F.neg a <;> simp <;> omega

theorem val_zero {a : Nat} (L : Int) (h : F.abs a = 0) : F.val L a = 0 := by
  unfold Fm.val Fm.vl Fm.sig uN; rw [h]; simp

theorem mul_two_S (ok : F.Ok) (m : Nat) {a : Nat} (ha : a < 2 ^ F.w) : mulS F m F.two a = addS F m a a := by
  have hp : 1 ≤ F.p := by have := ok.p8; omega
  obtain ⟨h1, h2, h3, h4, h5, h6⟩ := two_ok ok
  have n1 : F.isNan F.two = false := by unfold Fm.isNan; rw [h1]; simp; omega
  have n2 : F.isSig F.two = false := by unfold Fm.isSig; rw [n1]; rfl
  have n3 : F.isInf F.two = false := by unfold Fm.isInf; rw [h1]; simp; omega
  have n4 : F.isZero F.two = false := by unfold Fm.isZero; rw [h1]; simp; exact h5
  have hpart := parts_mk ok ha
  unfold mulS addS
  simp only [n1, n2, n3, n4, h2, h3, h4, Bool.false_or, Bool.false_and, Bool.or_self, Bool.and_self, bne_self_eq_false, Bool.and_false, Bool.false_eq_true, if_false]
  by_cases c0 : F.isSig a = true
  · have c1 : F.isNan a = true := by unfold Fm.isSig at c0; rw [Bool.and_eq_true] at c0; exact c0.1
    rw [if_pos c0, if_pos c1, if_pos c0]
  by_cases c1 : F.isNan a = true
  · rw [if_pos c1, if_neg c0, if_neg c0, if_pos c1]
  rw [if_neg c1, if_neg c0, if_neg c1]
  by_cases c2 : F.isInf a = true
  · rw [if_pos c2, if_pos c2]
    unfold Fm.isInf at c2
    simp at c2
    rw [c2] at hpart
    simp [← hpart]
  rw [if_neg c2, if_neg c2, if_neg c2]
  by_cases c3 : F.isZero a = true
  · rw [if_pos c3]
    have c4 := c3
    unfold Fm.isZero at c3
    simp at c3
    rw [val_zero _ c3, if_pos (by rfl)]
    simp [c4]
  rw [if_neg c3]
  have h0 : F.abs a ≠ 0 := by unfold Fm.isZero at c3; simpa using c3
  obtain ⟨v1, v2, v3⟩ := val_neg hp F.low h0
  rw [if_neg (by omega)]
  unfold rndZ
  have e1 : decide (F.val F.low a + F.val F.low a < 0) = F.neg a := by rw [← v1]; congr 1; apply propext; omega
  have e2 : (F.val F.low a + F.val F.low a).natAbs = 2 * F.vl F.low (F.abs a) := by omega
  rw [e1, e2]
  have hne : F.mag a ≠ 0 := mag_ne hp (by simpa using c3)
  rw [show (2 ^ (F.p - 1) * F.mag a) = F.mag a * 2 ^ (F.p - 1) from Nat.mul_comm _ _, show (2 - (F.p : Int) + F.ex a) = (F.ex a + 1) - ((F.p - 1 : Nat) : Int) by omega, into_scale _ _ _ _ _ _ hne]
  have hl := low_xp (F := F) (F.abs a)
  rw [show (false != F.neg a) = F.neg a by cases F.neg a <;> rfl]
  refine into_eq F m _ _ _ _ _ hne F.low (by unfold Fm.ex; omega) (Int.le_refl _) ?_
  rw [uN_self]
  unfold Fm.vl uN Fm.mag Fm.ex
  rw [show (F.xp (F.abs a) + 1 - F.low).toNat = (F.xp (F.abs a) - F.low).toNat + 1 by omega, Nat.pow_succ]
  generalize 2 ^ (F.xp (F.abs a) - F.low).toNat = q
  grind

/-- the magnitude of what is answered -/
theorem into_abs (ok : F.Ok) (m : Nat) (neg : Bool) (n : Nat) (e : Int) (more : Bool) (h0 : n ≠ 0) : F.abs (intoS F m neg n e more).1 = magS F m neg n e more := by
  obtain ⟨h1, h2⟩ := cut_lt ok m neg n e more h0
  rw [h1, abs_mk h2]

theorem mag_units (ok : F.Ok) (m : Nat) (neg : Bool) (n : Nat) (e L : Int) (h0 : n ≠ 0) (hL : L ≤ e) : magS F m neg n e false = magS F m neg (uN L n e) L false := by
  rw [← into_abs ok m neg n e false h0, ← into_abs ok m neg (uN L n e) L false (uN_ne L n e h0)]
  rw [into_eq F m neg n (uN L n e) e L h0 L hL (Int.le_refl _) (by rw [uN_self])]

theorem vl_of_le (hp : 1 ≤ F.p) (L : Int) (hL : L ≤ F.low) {a b : Nat} (h : a ≤ b) : uN L (F.sig a) (F.xp a) ≤ uN L (F.sig b) (F.xp b) := vl_le F hp L hL h

theorem uN_mul (L M : Int) (n k : Nat) (e d : Int) (h1 : L ≤ e) (h2 : M ≤ d) : uN (L + M) (n * k) (e + d) = uN L n e * uN M k d := by
  unfold uN
  rw [show (e + d - (L + M)).toNat = (e - L).toNat + (d - M).toNat by omega, Nat.pow_add]
  generalize 2 ^ (e - L).toNat = x
  generalize 2 ^ (d - M).toNat = y
  grind

theorem mul_rises (ok : F.Ok) (m : Nat) {a b c : Nat} (ha : F.neg a = false) (hb : F.neg b = false) (fa : F.abs a < F.inf) (fb : F.abs b < F.inf) (fc : F.abs c < F.inf) (h : F.abs a ≤ F.abs b) : F.abs (mulS F m a c).1 ≤ F.abs (mulS F m b c).1 := by
  have hp : 1 ≤ F.p := by have := ok.p8; omega
  have nn : ∀ x, F.abs x < F.inf → F.isNan x = false ∧ F.isInf x = false := fun x hx => ⟨by unfold Fm.isNan; simp; omega, by unfold Fm.isInf; simp; omega⟩
  obtain ⟨a1, a2⟩ := nn a fa
  obtain ⟨b1, b2⟩ := nn b fb
  obtain ⟨c1, c2⟩ := nn c fc
  unfold mulS
  simp only [a1, a2, b1, b2, c1, c2, ha, hb, Bool.or_self, Bool.false_and, Bool.and_false, Bool.false_eq_true, if_false]
  by_cases z1 : (F.isZero a || F.isZero c) = true
  · rw [if_pos z1]; simp only; rw [(zero_sg _).1]; exact Nat.zero_le _
  rw [if_neg z1]
  simp only [Bool.or_eq_true, not_or, Bool.not_eq_true] at z1
  have za : F.abs a ≠ 0 := by have := z1.1; unfold Fm.isZero at this; simpa using this
  have z2 : F.isZero b = false := by unfold Fm.isZero; simp; omega
  rw [if_neg (by rw [z2, z1.2]; simp)]
  have ma := mag_ne hp z1.1
  have mb := mag_ne hp z2
  have mc := mag_ne hp z1.2
  have la := low_xp (F := F) (F.abs a)
  have lb := low_xp (F := F) (F.abs b)
  have lc := low_xp (F := F) (F.abs c)
  rw [into_abs ok _ _ _ _ _ (Nat.mul_ne_zero ma mc), into_abs ok _ _ _ _ _ (Nat.mul_ne_zero mb mc)]
  unfold Fm.ex
  rw [mag_units ok m _ _ _ (F.low + F.low) (Nat.mul_ne_zero ma mc) (by omega), mag_units ok m _ _ _ (F.low + F.low) (Nat.mul_ne_zero mb mc) (by omega)]
  refine mag_mono F ok m _ _ (uN_ne _ _ _ (Nat.mul_ne_zero ma mc)) ?_
  rw [uN_mul _ _ _ _ _ _ la lc, uN_mul _ _ _ _ _ _ lb lc]
  exact Nat.mul_le_mul_right _ (vl_of_le hp F.low (Int.le_refl _) h)

end

end Go.Proofs.YtlibhfojfonfjaaGreatDoor
