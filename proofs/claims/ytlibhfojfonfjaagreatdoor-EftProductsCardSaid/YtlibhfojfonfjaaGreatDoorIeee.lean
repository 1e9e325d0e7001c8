/- The machine's rounding (Ieee) is the document's, to the nearest even. -/
import Derived.Laws.FloatArith
import Derived.Test.YtlibhfojfonfjaaGreatDoorPackR
namespace Go.Proofs.YtlibhfojfonfjaaGreatDoor
set_option linter.unusedVariables false

/-- the kit's format of a format's number -/
def kindOf (k : FloatKind) : Nat := match k with | .f32 => 2 | .f64 => 3

theorem even_cut (neg : Bool) (n drop : Nat) : Ieee.Toward.even.cut neg n drop = cutS 0 neg n false (drop : Int) := by
  have e1 : flr n (drop : Int) = n / 2 ^ drop := flr_nonneg n drop
  have e2 : rst n false (drop : Int) = cls (n % 2 ^ drop) (2 ^ drop) false := by unfold rst; simp
  unfold cutS goesUp
  rw [e1, e2]
  unfold Ieee.Toward.cut
  simp only [Nat.shiftLeft_eq, Nat.one_mul]
  rcases Nat.le_total drop (n.log2 + 2) with h | h
  · rw [Nat.min_eq_left h]
    have hcp := pow_pos2 drop
    generalize n / 2 ^ drop = q
    generalize n % 2 ^ drop = r
    generalize 2 ^ drop = c at *
    unfold cls upB
    by_cases h0 : r = 0
    · subst h0
      simp; omega
    · rw [if_neg h0]
      by_cases h1 : 2 * r < c
      · have a : ¬ c < 2 * r := by omega
        have b : ¬ c = 2 * r := by omega
        simp [h1, a, b]
      · by_cases h2 : 2 * r = c
        · have a : ¬ c < 2 * r := by omega
          by_cases h3 : q % 2 = 1 <;> simp [h2, h3]
        · have a : c < 2 * r := by omega
          simp [h1, h2, a]
  · rw [Nat.min_eq_right h]
    have hn : n < 2 ^ (n.log2 + 1) := Nat.lt_log2_self
    have e3 : 2 ^ (n.log2 + 2) = 2 ^ (n.log2 + 1) * 2 := Nat.pow_succ ..
    have e4 : 2 ^ (n.log2 + 2) ≤ 2 ^ drop := Nat.pow_le_pow_right (by decide) h
    rw [Nat.div_eq_of_lt (show n < 2 ^ (n.log2 + 2) by omega), Nat.mod_eq_of_lt (show n < 2 ^ (n.log2 + 2) by omega), Nat.div_eq_of_lt (show n < 2 ^ drop by omega), Nat.mod_eq_of_lt (show n < 2 ^ drop by omega)]
    have a : ¬ 2 ^ (n.log2 + 2) < 2 * n := by omega
    have c : 2 * n < 2 ^ drop := by omega
    unfold cls upB
    by_cases h0 : n = 0
    · subst h0; simp
    · simp [h0, a, c]

theorem even_cut_int (neg : Bool) (n : Nat) (d : Int) : Ieee.Toward.even.cut neg (n <<< (-d).toNat) d.toNat = cutS 0 neg n false d := by
  rw [even_cut, Nat.shiftLeft_eq]
  have a1 : (-(d.toNat : Int)).toNat = 0 := by omega
  have a2 : ((d.toNat : Int)).toNat = d.toNat := by omega
  have e1 : flr (n * 2 ^ (-d).toNat) (d.toNat : Int) = flr n d := by unfold flr; rw [a1, a2, Nat.pow_zero, Nat.mul_one]
  have e2 : rst (n * 2 ^ (-d).toNat) false (d.toNat : Int) = rst n false d := by unfold rst; rw [a1, a2, Nat.pow_zero, Nat.mul_one]
  unfold cutS goesUp
  rw [e1, e2]

/-- is f the format F? -/
structure Same (f : Ieee.Format) (F : Fm) : Prop where
  p : F.p = f.fractionBits + 1
  w : F.w = f.exponentBits + f.fractionBits + 1
  low : F.low = f.leastPlace

theorem same_of (k : FloatKind) : Same k.format (fm (kindOf k)) := by
  cases k
  · exact ⟨by decide, by decide, by decide⟩
  · exact ⟨by decide, by decide, by decide⟩

theorem Same.inf {f : Ieee.Format} {F : Fm} (h : Same f F) : f.infRung = F.inf := by
  unfold Ieee.Format.infRung Ieee.Format.binade Fm.inf
  rw [h.p, h.w]
  rw [show f.exponentBits + f.fractionBits + 1 - (f.fractionBits + 1) = f.exponentBits by omega, Nat.add_sub_cancel]

theorem Same.word {f : Ieee.Format} {F : Fm} (h : Same f F) (neg : Bool) (r : Nat) : f.word neg r = r + F.sg neg := by
  unfold Ieee.Format.word Ieee.Format.signWeight Fm.sg
  rw [h.w, Nat.add_sub_cancel]
  cases neg <;> simp; omega

theorem nearest_eq {f : Ieee.Format} {F : Fm} (h : Same f F) (ok : F.Ok) (neg : Bool) (n : Nat) (e : Int) (h0 : n ≠ 0) : f.nearest neg n e = (intoS F 0 neg n e false).1 := by
  rw [into_bits F ok 0 neg n e false h0]
  unfold Ieee.Format.nearest
  rw [if_neg h0]
  have ht : topE n e = e + n.log2 := by unfold topE bl; rw [if_neg h0]; omega
  have hq : max (e + n.log2 - f.fractionBits) f.leastPlace = quE F n e := by
    have hl := h.low
    unfold quE; unfold Fm.low at hl; rw [ht, ← hl, h.p] at *; omega
  simp only [hq]
  rw [h.word, ← h.low]
  congr 1
  rw [show e - quE F n e = -(quE F n e - e) by omega, even_cut_int, h.inf]
  have hb : f.binade = 2 ^ (F.p - 1) := by unfold Ieee.Format.binade; rw [h.p, Nat.add_sub_cancel]
  rw [hb]
  have hmag := mag_le F ok 0 neg n e false h0
  have htop := top_inf F ok n e h0
  unfold magS at *
  have hc : (quE F n e - F.low).toNat * 2 ^ (F.p - 1) + cutS 0 neg n false (quE F n e - e) = if goesUp 0 neg n false (quE F n e - e) = true then floS F n e + 1 else floS F n e := by
    unfold cutS floS; split <;> omega
  rw [hc]
  by_cases h1 : F.emax < topE n e
  · rw [if_pos h1, if_pos (show infB 0 neg = true from rfl)]
    have := htop.1 h1
    refine Nat.min_eq_right ?_
    split <;> omega
  · rw [if_neg h1] at hmag ⊢
    exact Nat.min_eq_left hmag

end Go.Proofs.YtlibhfojfonfjaaGreatDoor
