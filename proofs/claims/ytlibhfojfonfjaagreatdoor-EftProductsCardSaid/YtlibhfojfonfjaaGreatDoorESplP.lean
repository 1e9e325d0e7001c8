/- Layer 18: what the law of Split asks, as plain numbers. -/
import Derived.Test.YtlibhfojfonfjaaGreatDoorESpl
import Derived.Test.YtlibhfojfonfjaaGreatDoorEDoc
namespace Go.Proofs.YtlibhfojfonfjaaGreatDoor
set_option linter.unusedVariables false
set_option linter.unusedSimpArgs false
open Go.RowKit

theorem i_abs (d : D) (L : Int) : (d.i L).natAbs = d.n * 2 ^ (d.e - L).toNat := by
  unfold D.i
  rw [Int.natAbs_mul]
  have h1 : (if d.s then -(d.n : Int) else (d.n : Int)).natAbs = d.n := by split <;> simp
  have h2 : ((2 : Int) ^ (d.e - L).toNat).natAbs = 2 ^ (d.e - L).toNat := by rw [Int.natAbs_pow]; rfl
  rw [h1, h2]

section
variable {F : Fm}

theorem valD_un (ok : F.Ok) (a : Nat) : (valD F a).n * 2 ^ ((valD F a).e - F.low).toNat = F.un a ∧ F.low ≤ (valD F a).e ∧ (valD F a).can := by
  have hl : F.low ≤ F.ex a := low_xp _
  have h := i_odd ⟨F.neg a, F.mag a, F.ex a⟩ F.low hl
  refine ⟨?_, oddD_low _ F.low hl (low_ge ok).2, oddD_can _⟩
  rw [← i_abs]
  show ((oddD ⟨F.neg a, F.mag a, F.ex a⟩).i F.low).natAbs = F.un a
  rw [h, i_abs]
  rfl

theorem odd_lim {m t u k r : Nat} (hm : m % 2 = 1) (h : m * 2 ^ t = u * 2 ^ k) (hu : u ≤ 2 ^ r) (hr : 1 ≤ r) : m < 2 ^ r := by
  have hkt : k ≤ t := by
    rcases Nat.lt_or_ge t k with h1 | h1
    · exfalso
      obtain ⟨x, rfl⟩ : ∃ x, k = t + (x + 1) := ⟨k - t - 1, by omega⟩
      rw [Nat.pow_add, Nat.mul_comm (2 ^ t), ← Nat.mul_assoc] at h
      have := Nat.eq_of_mul_eq_mul_right (pow_pos2 t) h
      rw [this, Nat.pow_succ, ← Nat.mul_assoc] at hm
      omega
    · exact h1
  obtain ⟨x, rfl⟩ : ∃ x, t = k + x := ⟨t - k, by omega⟩
  rw [Nat.pow_add, Nat.mul_comm (2 ^ k), ← Nat.mul_assoc] at h
  have e := Nat.eq_of_mul_eq_mul_right (pow_pos2 k) h
  have hp := pow_pos2 x
  have h1 : m ≤ u := by rw [← e]; exact Nat.le_mul_of_pos_right m hp
  rcases Nat.lt_or_ge m (2 ^ r) with h2 | h2
  · exact h2
  · exfalso
    have h3 : m = 2 ^ r := by omega
    obtain ⟨y, rfl⟩ : ∃ y, r = y + 1 := ⟨r - 1, by omega⟩
    rw [h3, Nat.pow_succ] at hm
    omega

theorem dig_lim (ok : F.Ok) {a r : Nat} (h : ∃ k u, F.un a = u * 2 ^ k ∧ u ≤ 2 ^ r) (hr : 1 ≤ r) : (valD F a).n < 2 ^ r := by
  obtain ⟨k, u, h, hu⟩ := h
  obtain ⟨h1, h2, h3⟩ := valD_un ok a
  rcases h3 with h3 | h3
  · rw [h3]; exact pow_pos2 r
  · exact odd_lim h3 (h1.trans h) hu hr

theorem val_deep (a : Nat) (L : Int) (hL : L ≤ F.low) : F.val L a = F.val F.low a * 2 ^ (F.low - L).toNat := by
  rw [val_i, val_i]
  exact i_scale ⟨F.neg a, F.mag a, F.ex a⟩ L F.low hL (low_xp _)

/-- the sum of two values that together are a third -/
theorem add_parts (ok : F.Ok) {a x y : Nat} (fa : finP F a = true) (fx : finP F x = true) (fy : finP F y = true) (h : F.val F.low x + F.val F.low y = F.val F.low a) :
    addD (nd 64 (valD F x).n) (valD F x) (nd 64 (valD F y).n) (valD F y) = (valD F a, 0) := by
  obtain ⟨a1, a2, a3, a4⟩ := valD_facts ok (of_decide_eq_true fa)
  obtain ⟨x1, x2, x3, x4⟩ := valD_facts ok (of_decide_eq_true fx)
  obtain ⟨y1, y2, y3, y4⟩ := valD_facts ok (of_decide_eq_true fy)
  obtain ⟨d, hd, hL, hi⟩ := addD_ans (-40000) (Int.le_refl _) x1 y1
  have hl := low_ge ok
  obtain ⟨r1, r2, r3⟩ := refD_zero a1
  rw [hd, ansD_eq (d2 := valD F a) (-40000) hL r2 (by decide) (by
    rw [hi, x3 _ (Int.le_refl _), y3 _ (Int.le_refl _), a3 _ (Int.le_refl _), val_deep x _ (by omega), val_deep y _ (by omega), val_deep a _ (by omega), ← h, Int.add_mul])]
  exact ansD_can (valD_un ok a).2.2 r1 r2 r3

theorem cmp_self (ok : F.Ok) {a : Nat} (fa : finP F a = true) : cmpD (nd 64 (valD F a).n) (valD F a) (nd 64 (valD F a).n) (valD F a) = (0, 0) := by
  obtain ⟨a1, a2, a3, a4⟩ := valD_facts ok (of_decide_eq_true fa)
  rw [cmpD_val _ _ _ _ (-40000) (Int.le_refl _) a1 a1, Int.sub_self]
  rfl

theorem top_val (ok : F.Ok) {a : Nat} (fa : finP F a = true) (h0 : F.abs a ≠ 0) : topD (nd 64 (valD F a).n) (valD F a) = ((bl (F.un a) : Int) - 1 + F.low, 0) := by
  obtain ⟨a1, a2, a3, a4⟩ := valD_facts ok (of_decide_eq_true fa)
  obtain ⟨h1, h2, -⟩ := valD_un ok a
  have hn := a4.1 h0
  unfold topD
  rw [if_pos a1, if_neg hn, ← h1, bl_shl _ _ hn]
  congr 1
  omega
end

theorem half_lt' {n a : Nat} (hn : n = 2 ∨ n = 3) (la : a < 2 ^ (fm n).w) : hH (fm n) (kq n) a < 2 ^ (fm n).w ∧ hL (fm n) (kq n) a < 2 ^ (fm n).w := by
  have ok := fm_ok n
  have lq := kq_lt n hn
  have h1 : hC (fm n) (kq n) a < 2 ^ (fm n).w := mulR_lt ok lq la
  have h2 : hD (fm n) (kq n) a < 2 ^ (fm n).w := subR_lt ok h1 la
  have h3 : hH (fm n) (kq n) a < 2 ^ (fm n).w := subR_lt ok h1 h2
  exact ⟨h3, subR_lt ok la h3⟩

/-- how Split's halves are cut -/
def sK (n : Nat) : Nat := if n = 2 then 12 else 27
theorem kq_ok (n : Nat) (hn : n = 2 ∨ n = 3) : KOk (fm n) (sK n) (kq n) := by
  rcases hn with rfl | rfl
  · exact ⟨by decide, by decide, by decide, ⟨-11, by decide, by decide, by decide⟩, by decide, by decide⟩
  · exact ⟨by decide, by decide, by decide, ⟨-25, by decide, by decide, by decide⟩, by decide, by decide⟩

/-- the most of a half -/
def mostN (n : Nat) : Nat := if n = 2 then 4096 else 67108864

/-- what Split answers, for the law -/
theorem split_law {n a : Nat} (hn : n = 2 ∨ n = 3) (la : a < 2 ^ (fm n).w) :
    (finP (fm n) a = false ∧ splitE n a = (0, 0, 40)) ∨
    (finP (fm n) a = true ∧ splitE n a = (0, 0, 7) ∧ ∃ t : Int, topD (nd 64 (valA n a).n) (valA n a) = (t, 0) ∧ 99 ≤ t) ∨
    (finP (fm n) a = true ∧ ∃ h l, h < 2 ^ (fm n).w ∧ l < 2 ^ (fm n).w ∧ splitE n a = (h, l, 0) ∧ finP (fm n) h = true ∧ finP (fm n) l = true ∧ (valA n h).n < mostN n ∧ (valA n l).n < mostN n ∧
      addD (nd 64 (valA n h).n) (valA n h) (nd 64 (valA n l).n) (valA n l) = (valA n a, 0) ∧ cmpD (nd 64 (valA n a).n) (valA n a) (nd 64 (valA n a).n) (valA n a) = (0, 0)) := by
  have ok := fm_ok n
  have hn4 : n < 4 := by omega
  have hK := kq_ok n hn
  have ek : knownE n [a] = if finP (fm n) a = true then 0 else 40 := by
    unfold knownE
    rw [if_pos (by simpa using la)]
    simp only [List.all_cons, List.all_nil, Bool.and_true]
  cases fa : finP (fm n) a
  · left
    refine ⟨rfl, ?_⟩
    rw [fa] at ek
    unfold splitE
    rw [ek]
    rfl
  right
  rw [fa] at ek
  obtain ⟨s1, s2⟩ := split_all ok hK fa
  cases hall : (halfL (fm n) (kq n) a).all (finP (fm n))
  · left
    refine ⟨rfl, ?_, ?_⟩
    · unfold splitE
      rw [ek, hall]
      rfl
    · have h0 : (fm n).abs a ≠ 0 := by
        intro h
        have := (split_zero ok hK h).1
        rw [hall] at this; cases this
      rw [valA_fin hn4 la (of_decide_eq_true fa)]
      refine ⟨_, top_val ok fa h0, ?_⟩
      have h1 : ¬ ((fm n).low + bl ((fm n).un a) + sK n + 4 ≤ (fm n).emax) := by
        intro h
        have := s2 h
        rw [hall] at this; cases this
      have h2 : sK n + 103 ≤ (fm n).emax := by rcases hn with rfl | rfl <;> decide
      omega
  · right
    obtain ⟨g1, g2, g3⟩ := s1 hall
    obtain ⟨l1, l2⟩ := half_lt' hn la
    have ff : finP (fm n) (hH (fm n) (kq n) a) = true ∧ finP (fm n) (hL (fm n) (kq n) a) = true := by
      unfold halfL at hall
      simp only [List.all_cons, List.all_nil, Bool.and_true, Bool.and_eq_true] at hall
      exact ⟨hall.2.2.1, hall.2.2.2⟩
    refine ⟨rfl, hH (fm n) (kq n) a, hL (fm n) (kq n) a, l1, l2, ?_, ff.1, ff.2, ?_, ?_, ?_, ?_⟩
    · unfold splitE
      rw [ek, hall]
      rfl
    · rw [valA_fin hn4 l1 (of_decide_eq_true ff.1)]
      refine Nat.lt_of_lt_of_le (dig_lim ok g2 (by have := hK.sp; omega)) ?_
      rcases hn with rfl | rfl <;> decide
    · rw [valA_fin hn4 l2 (of_decide_eq_true ff.2)]
      refine Nat.lt_of_lt_of_le (dig_lim ok g3 (by rcases hn with rfl | rfl <;> decide)) ?_
      rcases hn with rfl | rfl <;> decide
    · rw [valA_fin hn4 l1 (of_decide_eq_true ff.1), valA_fin hn4 l2 (of_decide_eq_true ff.2), valA_fin hn4 la (of_decide_eq_true fa)]
      exact add_parts ok fa ff.1 ff.2 g1
    · rw [valA_fin hn4 la (of_decide_eq_true fa)]
      exact cmp_self ok fa

end Go.Proofs.YtlibhfojfonfjaaGreatDoor
