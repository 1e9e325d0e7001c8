/- The rest of a product is a number of the format. -/
import Derived.Test.YtcgceigmglikpaaDoorFusP
namespace Go.Proofs.YtcgceigmglikpaaDoor
set_option linter.unusedVariables false
set_option linter.unusedSimpArgs false

section
variable {F : Fm}

theorem mag_sig_lt (ok : F.Ok) (a : Nat) : F.mag a < 2 ^ F.p := by
  obtain ⟨k, u, _, hu, _, hs, _⟩ := bits_parts F (by have := ok.p8; omega) (F.abs a)
  unfold Fm.mag; rw [hs]; exact hu

theorem rst_of_neg (n : Nat) (d : Int) (h : d ≤ 0) : rst n false d = 0 := by
  unfold rst cls
  rw [show d.toNat = 0 by omega]
  simp [Nat.mod_one]

/-- at most p digits (or one power of two more): whole in places of its own top -/
theorem short_exact (p N : Nat) (hp : 1 ≤ p) (h0 : N ≠ 0) (h : N ≤ 2 ^ p) : rst N false ((bl N : Int) - p) = 0 ∧ flr N ((bl N : Int) - p) < 2 ^ p := by
  by_cases h1 : N < 2 ^ p
  · have hb := bl_le_of_lt h1
    refine ⟨rst_of_neg N _ (by omega), ?_⟩
    unfold flr
    rw [show ((bl N : Int) - p).toNat = 0 by omega, show (-((bl N : Int) - p)).toNat = p - bl N by omega, Nat.pow_zero, Nat.div_one]
    have := bl_lt N
    calc N * 2 ^ (p - bl N) < 2 ^ bl N * 2 ^ (p - bl N) := Nat.mul_lt_mul_of_pos_right this (pow_pos2 _)
      _ = 2 ^ p := by rw [← Nat.pow_add]; congr 1; omega
  · have hN : N = 2 ^ p := by omega
    have hb : bl N = p + 1 := bl_unique (by omega) (by rw [hN]; exact Nat.pow_lt_pow_right (by decide) (Nat.lt_succ_self p))
    have e1 : ((bl N : Int) - p) = 1 := by omega
    rw [e1]
    have hs := pow_split p hp
    have := pow_pos2 (p - 1)
    unfold rst flr cls
    rw [hN, hs]
    simp
    omega

/-- a short number is in the format, or too small -/
theorem short_into (ok : F.Ok) (m : Nat) (s : Bool) (N : Nat) (E : Int) (h0 : N ≠ 0) (h : N ≤ 2 ^ F.p) (ht : topE N E ≤ F.emax) : (intoS F m s N E false).2 = 0 ∨ (intoS F m s N E false).2 = 24 := by
  have hp : 1 ≤ F.p := by have := ok.p8; omega
  obtain ⟨x1, x2⟩ := short_exact F.p N hp h0 h
  have hbp := bl_pos N h0
  by_cases hr : rst N false (quE F N E - E) = 0
  · exact Or.inl ((into_exact F ok m s N E false h0).2 ⟨by omega, hr⟩)
  · right
    have hlow : topE N E < F.emin := by
      rcases Int.lt_or_le (topE N E) F.emin with h1 | h1
      · exact h1
      · exfalso
        apply hr
        rw [show quE F N E - E = (bl N : Int) - F.p by unfold quE topE at *; omega]
        exact x1
    have hq : quE F N E = F.low := by unfold quE Fm.low; omega
    have hE : E < F.low := by
      rcases Int.lt_or_le E F.low with h1 | h1
      · exact h1
      · exact absurd (rst_of_neg N _ (by omega)) hr
    have hs := pow_split F.p hp
    have hpp := pow_pos2 (F.p - 1)
    have hfl : flr N (quE F N E - E) ≤ 2 ^ (F.p - 1) := by
      unfold flr
      rw [show (-(quE F N E - E)).toNat = 0 by omega, Nat.pow_zero, Nat.mul_one]
      obtain ⟨k, hk⟩ : ∃ k, (quE F N E - E).toNat = k + 1 := ⟨(quE F N E - E).toNat - 1, by omega⟩
      rw [hk]
      have : 2 ≤ 2 ^ (k + 1) := by have := pow_pos2 k; rw [Nat.pow_succ]; omega
      have h2 : N / 2 ^ (k + 1) ≤ N / 2 := Nat.div_le_div_left this (by decide)
      omega
    have hbl : bl (cutS m s N false (quE F N E - E)) ≤ F.p + 1 := by
      refine bl_le_of_lt ?_
      rw [Nat.pow_succ]
      unfold cutS
      split <;> omega
    have hmx : F.low + F.p ≤ F.emax := by have := ok.b16; have := ok.emn; unfold Fm.low; omega
    unfold intoS
    rw [if_neg (by omega), if_neg (by omega)]
    simp only
    rw [if_neg hr]
    have e2 : topE N E - F.p + 1 - E = (bl N : Int) - F.p := by unfold topE; omega
    have hc : cutS m s N false (topE N E - F.p + 1 - E) = flr N ((bl N : Int) - F.p) := by
      rw [e2]; unfold cutS; rw [goesUp_exact x1, if_neg (by simp)]
    rw [hc]
    have := bl_le_of_lt x2
    rw [if_pos ⟨hlow, by omega⟩]

/-- rounded to the nearest: off by half a place at most -/
theorem cut_near (s : Bool) (n : Nat) (d : Int) (hd : 0 < d) : ∃ k h : Nat, k = cutS 0 s n false d ∧ 2 ^ d.toNat = 2 * h ∧ n ≤ k * 2 ^ d.toNat + h ∧ k * 2 ^ d.toNat ≤ n + h := by
  obtain ⟨j, hj⟩ : ∃ j, d.toNat = j + 1 := ⟨d.toNat - 1, by omega⟩
  refine ⟨_, 2 ^ j, rfl, by rw [hj, Nat.pow_succ]; omega, ?_⟩
  have hdm := Nat.div_add_mod n (2 ^ d.toNat)
  have hlt := Nat.mod_lt n (pow_pos2 d.toNat)
  have hP : 2 ^ d.toNat = 2 * 2 ^ j := by rw [hj, Nat.pow_succ]; omega
  have hf : flr n d = n / 2 ^ d.toNat := by unfold flr; rw [show (-d).toNat = 0 by omega]; simp
  have hr : rst n false d = cls (n % 2 ^ d.toNat) (2 ^ d.toNat) false := by unfold rst; rw [show (-d).toNat = 0 by omega]; simp
  unfold cutS goesUp
  rw [hf, hr]
  generalize n / 2 ^ d.toNat = q at *
  generalize n % 2 ^ d.toNat = r at *
  generalize 2 ^ d.toNat = P at *
  generalize 2 ^ j = H at *
  unfold cls upB
  rw [Nat.mul_comm] at hdm
  by_cases c1 : r = 0
  · rw [if_pos c1]; simp; omega
  rw [if_neg c1]
  by_cases c2 : 2 * r < P
  · rw [if_pos c2]; simp; omega
  rw [if_neg c2]
  by_cases c3 : 2 * r = P
  · rw [if_pos (show 2 * r = P ∧ false = false from ⟨c3, rfl⟩)]
    by_cases c4 : q % 2 = 1
    · simp [c4, Nat.add_mul]; omega
    · simp [c4]; omega
  · rw [if_neg (show ¬ (2 * r = P ∧ false = false) from fun h => c3 h.1)]
    simp [Nat.add_mul]; omega

/-- an inexact product without underflow is not small -/
theorem top_near (ok : F.Ok) (m : Nat) (s : Bool) (x : Nat) (E : Int) (h0 : x ≠ 0) (hg : (intoS F m s x E false).2 = 16) : F.emin - 1 ≤ topE x E ∧ topE x E ≤ F.emax := by
  have hp : 1 ≤ F.p := by have := ok.p8; omega
  unfold intoS at hg
  split at hg
  · cases hg
  · rename_i h1
    refine ⟨?_, by omega⟩
    split at hg
    · cases hg
    · simp only at hg
      split at hg
      · cases hg
      · split at hg
        · cases hg
        · rename_i h3
          rcases Int.lt_or_le (topE x E) (F.emin - 1) with h4 | h4
          · exfalso
            apply h3
            refine ⟨by omega, ?_⟩
            have e2 : topE x E - F.p + 1 - E = (bl x : Int) - F.p := by unfold topE; omega
            rw [e2]
            have hfl : flr x ((bl x : Int) - F.p) < 2 ^ F.p := by
              unfold flr
              have hb := bl_lt x
              by_cases hc : bl x ≤ F.p
              · rw [show ((bl x : Int) - F.p).toNat = 0 by omega, show (-((bl x : Int) - F.p)).toNat = F.p - bl x by omega, Nat.pow_zero, Nat.div_one]
                calc x * 2 ^ (F.p - bl x) < 2 ^ bl x * 2 ^ (F.p - bl x) := Nat.mul_lt_mul_of_pos_right hb (pow_pos2 _)
                  _ = 2 ^ F.p := by rw [← Nat.pow_add]; congr 1; omega
              · rw [show ((bl x : Int) - F.p).toNat = bl x - F.p by omega, show (-((bl x : Int) - F.p)).toNat = 0 by omega, Nat.pow_zero, Nat.mul_one]
                refine Nat.div_lt_of_lt_mul ?_
                rw [← Nat.pow_add, show bl x - F.p + F.p = bl x by omega]
                exact hb
            have : bl (cutS m s x false ((bl x : Int) - F.p)) ≤ F.p + 1 := by
              refine bl_le_of_lt ?_
              rw [Nat.pow_succ]
              have := pow_pos2 F.p
              unfold cutS
              split <;> omega
            omega
          · exact h4

theorem val_sg (L : Int) (s : Bool) : F.val L (F.sg s) = 0 := val_zero L (zero_sg s).1
theorem fin_sg (ok : F.Ok) (s : Bool) : F.abs (F.sg s) < F.inf := by rw [(zero_sg s).1]; exact inf_pos ok

theorem val_into_exact (ok : F.Ok) (m : Nat) (s : Bool) (n : Nat) (e L : Int) (h0 : n ≠ 0) (hL1 : L ≤ e) (hL2 : L ≤ F.low) (h : (intoS F m s n e false).2 = 0) :
    F.abs (intoS F m s n e false).1 < F.inf ∧ F.val L (intoS F m s n e false).1 = sI s (uN L n e) := by
  have hx := (flag_exact ok m s n e h0).1 h
  have hb := bot_lt ok n e h0
  have hu := (bot_units ok n e L h0 hL1 hL2).2.1.2 hx
  rw [into_bits F ok m s n e false h0, mag_exact ok m s n e h0 hx]
  have hil := inf_lt ok
  exact ⟨by rw [abs_mk (by omega)]; exact hb, by rw [val_mk ok L s (by omega), hu]⟩

/-- the rest of a product, rounded to the nearest even -/
theorem rest_law (ok : F.Ok) (m : Nat) {a b : Nat} (fa : F.abs a < F.inf) (fb : F.abs b < F.inf) (hg : (mulS F 0 a b).2 = 0 ∨ (mulS F 0 a b).2 = 16) (fp : F.abs (mulS F 0 a b).1 < F.inf)
    (hu : (fuseZ F m (prodZ F a b) (oneZ F (F.flip (mulS F 0 a b).1))).2 ≠ 24) :
    (fuseZ F m (prodZ F a b) (oneZ F (F.flip (mulS F 0 a b).1))).2 = 0 ∧ F.abs (fuseZ F m (prodZ F a b) (oneZ F (F.flip (mulS F 0 a b).1))).1 < F.inf ∧
    F.val (-2500) a * F.val (-2500) b = F.val (-5000) (mulS F 0 a b).1 + F.val (-5000) (fuseZ F m (prodZ F a b) (oneZ F (F.flip (mulS F 0 a b).1))).1 := by
  have hl := low_ge ok
  have hp : 1 ≤ F.p := by have := ok.p8; omega
  have na : F.isNan a = false := by unfold Fm.isNan; simp; omega
  have nb : F.isNan b = false := by unfold Fm.isNan; simp; omega
  have ia : F.isInf a = false := by unfold Fm.isInf; simp; omega
  have ib : F.isInf b = false := by unfold Fm.isInf; simp; omega
  have np : F.isNan (mulS F 0 a b).1 = false := by unfold Fm.isNan; simp; omega
  have ip : F.isInf (mulS F 0 a b).1 = false := by unfold Fm.isInf; simp; omega
  have hfz := fuseZ_fin (F := F) m (x := prodZ F a b) (y := oneZ F (F.flip (mulS F 0 a b).1)) (by unfold prodZ; simp [na, nb, ia, ib, sig_nan]) (by unfold oneZ; simp only [isSig_flip, isNan_flip, isInf_flip]; simp [np, ip, sig_nan])
  rw [hfz] at hu ⊢
  have hz : (prodZ F a b).z = F.val (-2500) a * F.val (-2500) b := by unfold prodZ; simp [na, nb, ia, ib]
  have hy : (oneZ F (F.flip (mulS F 0 a b).1)).z = -F.val (-5000) (mulS F 0 a b).1 := by unfold oneZ; simp only [isNan_flip, isInf_flip, val_flip]; simp [np, ip]
  rw [hz, hy] at hu ⊢
  by_cases c0 : F.val (-2500) a * F.val (-2500) b + -F.val (-5000) (mulS F 0 a b).1 = 0
  · rw [if_pos c0]
    exact ⟨rfl, fin_sg ok _, by rw [val_sg]; omega⟩
  rw [if_neg c0] at hu ⊢
  -- the product is not zero
  have za : F.abs a ≠ 0 ∧ F.abs b ≠ 0 := by
    constructor
    · intro h
      apply c0
      have e : F.isZero a = true := by unfold Fm.isZero; simpa using h
      have : (mulS F 0 a b).1 = F.sg (F.neg a != F.neg b) := by unfold mulS; simp [na, nb, ia, ib, e]
      rw [this, val_sg, val_zero _ h]; simp
    · intro h
      apply c0
      have e : F.isZero b = true := by unfold Fm.isZero; simpa using h
      have : (mulS F 0 a b).1 = F.sg (F.neg a != F.neg b) := by unfold mulS; simp [na, nb, ia, ib, e]
      rw [this, val_sg, val_zero _ h]; simp
  have hmi := mul_into ok 0 fa fb za.1 za.2
  have hi := prod_i ok fa fb
  have ea := ex_range ok fa
  have eb := ex_range ok fb
  rw [i_odd _ _ (by show -5000 ≤ F.ex a + F.ex b; omega), sI_i] at hi
  rw [hmi] at hg hu c0 ⊢
  rw [← hi] at hu c0 ⊢
  have hx0 : F.mag a * F.mag b ≠ 0 := Nat.mul_ne_zero (sig_ne hp za.1) (sig_ne hp za.2)
  have hxl : F.mag a * F.mag b < 2 ^ (2 * F.p) := by
    rw [show 2 * F.p = F.p + F.p by omega, Nat.pow_add]
    exact Nat.mul_lt_mul'' (mag_sig_lt ok a) (mag_sig_lt ok b)
  have hE1 : (-5000 : Int) ≤ F.ex a + F.ex b := by omega
  generalize F.mag a * F.mag b = x at *
  generalize F.ex a + F.ex b = E at *
  generalize (F.neg a != F.neg b) = s at *
  clear hmi hfz hz hy ea eb fp np ip hi
  have hx2 := hxl
  have hv := into_bits F ok 0 s x E false hx0
  have hml := mag_le F ok 0 s x E false hx0
  have hil := inf_lt ok
  have hL2 : (-5000 : Int) ≤ F.low := by omega
  rcases hg with hg | hg
  · exfalso
    apply c0
    rw [(val_into_exact ok 0 s x E (-5000) hx0 hE1 hL2 hg).2]
    omega
  obtain ⟨t1, t2⟩ := top_near ok 0 s x E hx0 hg
  have hblx := bl_le_of_lt hxl
  have hrst : rst x false (quE F x E - E) ≠ 0 := by
    intro h
    have := (into_exact F ok 0 s x E false hx0).2 ⟨by omega, h⟩
    omega
  have hqE : 0 < quE F x E - E := by
    rcases Int.lt_or_le 0 (quE F x E - E) with h | h
    · exact h
    · exact absurd (rst_of_neg x _ h) hrst
  obtain ⟨k, h, hk, hh, hn1, hn2⟩ := cut_near s x (quE F x E - E) hqE
  obtain ⟨f1, f2⟩ := floS_vl F hp x E (-5000) hx0 hE1 hL2
  have hvl : F.vl (-5000) (magS F 0 s x E false) = k * 2 ^ (quE F x E - -5000).toNat := by
    rw [hk]
    unfold magS cutS
    rw [if_neg (by omega)]
    split
    · exact f2
    · exact f1
  have hval : F.val (-5000) (intoS F 0 s x E false).1 = sI s (k * 2 ^ (quE F x E - E).toNat * 2 ^ (E - -5000).toNat) := by
    rw [hv, val_mk ok _ s (by omega), hvl, Nat.mul_assoc, ← Nat.pow_add]
    congr 4
    omega
  have hux : uN (-5000) x E = x * 2 ^ (E - -5000).toNat := rfl
  rw [hval, hux] at c0 hu ⊢
  have hP := pow_pos2 (E - -5000).toNat
  have hhp : h ≤ 2 ^ F.p := by
    have e1 : (quE F x E - E).toNat ≤ F.p + 1 := by unfold quE topE at *; omega
    have e2 := Nat.pow_le_pow_right (show 0 < 2 by decide) e1
    rw [Nat.pow_succ] at e2
    omega
  have htq : E + (quE F x E - E).toNat - 1 ≤ F.emax := by have := ok.p8; have := ok.b16; have := ok.emn; unfold quE topE at *; omega
  generalize (quE F x E - E).toNat = j at *
  generalize hPP : 2 ^ (E - -5000).toNat = P at *
  generalize hKJ : k * 2 ^ j = Y at *
  -- the rest: N units of 2^E
  obtain ⟨s', N, hN0, hN1, hNz⟩ : ∃ (s' : Bool) (N : Nat), N ≠ 0 ∧ N ≤ h ∧ sI s (x * P) + -sI s (Y * P) = sI s' (N * P) := by
    have hne : x ≠ Y := by
      intro e
      apply c0
      rw [e]; omega
    rcases Nat.lt_or_gt_of_ne hne with h1 | h1
    · refine ⟨!s, Y - x, by omega, by omega, ?_⟩
      have e : Y * P = x * P + (Y - x) * P := by rw [← Nat.add_mul]; congr 1; omega
      rw [e]
      generalize x * P = u
      generalize (Y - x) * P = v
      cases s <;> simp [sI] <;> omega
    · refine ⟨s, x - Y, by omega, by omega, ?_⟩
      have e : x * P = Y * P + (x - Y) * P := by rw [← Nat.add_mul]; congr 1; omega
      rw [e]
      generalize Y * P = u
      generalize (x - Y) * P = v
      cases s <;> simp [sI] <;> omega
  have hsum : sI s (x * P) = sI s (Y * P) + sI s' (N * P) := by omega
  rw [hNz] at hu c0 ⊢
  have hrn : rndZ F m (sI s' (N * P)) (-5000) = intoS F m s' N E false := by
    have h1 := into_rndZ (F := F) m ⟨s', N, E⟩ (-5000) hN0 hE1
    rw [sI_i] at h1
    rw [h1]
    unfold uN
    rw [hPP]
  rw [hrn] at hu ⊢
  have hbn : bl N ≤ j := by
    refine bl_le_of_lt ?_
    have := pow_pos2 j
    omega
  have hfl := short_into ok m s' N E hN0 (by omega) (by unfold topE; omega)
  have h00 := hfl.resolve_right hu
  obtain ⟨v1, v2⟩ := val_into_exact ok m s' N E (-5000) hN0 hE1 hL2 h00
  refine ⟨h00, v1, ?_⟩
  rw [v2, hsum]
  unfold uN
  rw [hPP]

end
end Go.Proofs.YtcgceigmglikpaaDoor
