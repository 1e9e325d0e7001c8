/- vernierref06.Round, as plain numbers: what its steps need. -/
import Derived.Test.YtebmogdojpcmfaaRefW
import Derived.Test.YtebmogdojpcmfaaPackR
namespace Go.Proofs.Ytebmogdojpcmfaa
set_option linter.unusedVariables false

section
variable {F : Fm}
theorem cut_flr (m : Nat) (neg : Bool) (n : Nat) (more : Bool) (d : Int) : cutS m neg n more d ≤ flr n d + 1 ∧ flr n d ≤ cutS m neg n more d := by
  unfold cutS; split <;> omega

theorem flr_top (p n : Nat) (e : Int) (h0 : n ≠ 0) : flr n (topE n e - p + 1 - e) < 2 ^ p := by
  obtain ⟨L, hL⟩ : ∃ L, L = min e (topE n e - p + 1) := ⟨_, rfl⟩
  have h1 := flr_units n e (topE n e - p + 1) L (by omega) (by omega)
  have h2 := (top_units n e L h0 (by omega)).2
  have h3 := topE_ge n e h0
  generalize topE n e = T at *
  have e1 : (T - L).toNat + 1 = p + (T - p + 1 - L).toNat := by omega
  rw [e1, Nat.pow_add] at h2
  exact Nat.lt_of_mul_lt_mul_right (Nat.lt_of_le_of_lt h1.1 h2)

structure RoundF (F : Fm) (m : Nat) (neg : Bool) (n : Nat) (e : Int) : Prop where
  c1 : cutS m neg n false (quE F n e - e) ≤ 2 ^ F.p
  c2 : cutS m neg n false (topE n e - F.p + 1 - e) ≤ 2 ^ F.p
  z : cutS m neg n false (quE F n e - e) = 0 → (quE F n e - F.low).toNat = 0
  lt : ¬ F.emax < topE n e → ¬ F.emax < quE F n e + bl (cutS m neg n false (quE F n e - e)) - 1 → (quE F n e - F.low).toNat * 2 ^ (F.p - 1) + cutS m neg n false (quE F n e - e) + F.sg neg < 2 ^ F.w

theorem round_facts (ok : F.Ok) (m : Nat) (neg : Bool) (n : Nat) (e : Int) (h0 : n ≠ 0) : RoundF F m neg n e := by
  have hp : 1 ≤ F.p := by have := ok.p8; omega
  have h1 := (flr_range F hp n e h0).1
  have h2 := flr_top F.p n e h0
  have h3 := cut_flr m neg n false (quE F n e - e)
  have h4 := cut_flr m neg n false (topE n e - F.p + 1 - e)
  have h5 := flr_or F hp n e h0
  have hpp := pow_pos2 (F.p - 1)
  refine ⟨by omega, by omega, fun h => by omega, fun g1 g2 => ?_⟩
  have hc := (cut_lt ok m neg n e false h0)
  have e1 : intoS F m neg n e false = ((quE F n e - F.low).toNat * 2 ^ (F.p - 1) + cutS m neg n false (quE F n e - e) + F.sg neg, (intoS F m neg n e false).2) := by
    refine Prod.ext ?_ rfl
    show (intoS F m neg n e false).1 = _
    unfold intoS
    rw [if_neg g1, if_neg g2]
  have e2 : (intoS F m neg n e false).1 = (quE F n e - F.low).toNat * 2 ^ (F.p - 1) + cutS m neg n false (quE F n e - e) + F.sg neg := by rw [e1]
  have hs := sg_lt ok neg
  have hw := w_two ok
  rw [← e2]
  omega
end
end Go.Proofs.Ytebmogdojpcmfaa
