/- Walks of vernierref03: Bad, Low. -/
import Derived.Test.YtakjbmlkcbedmaaDoorRefA
import Derived.Test.YtakjbmlkcbedmaaDoorRefN
import Derived.Test.YtakjbmlkcbedmaaDoorDRefP
import Derived.Deep.LoopGhost
namespace Go.Proofs.YtakjbmlkcbedmaaDoor
set_option linter.unusedVariables false
set_option linter.unusedSimpArgs false
open Go.RowKit

theorem rBad_any (s : Bool) (A : Option Addr) (n c : Nat) (e : Int) (w : World) (hn : n ≤ 35184372088832) :
    Calls Tryd.prog 8 #[.agg #[.bool s, .slice A n c, .int .i64 e]] w fun e' w' => e' = .returned (.int .i64 (refD n e)) ∧ Below w.heap.size w w' := by
  by_cases h1 : 1024 < n
  · have E : Hid (refD n e = 5) := by show _ = _; unfold refD; rw [if_pos h1]
    have h1' : (1024 : Int) < n := by omega
    go_enter Tryd.func8, Tryd.ntmps8
    go_wp2
    go_ret
    exact ⟨by rw [E.out]; rfl, (Below.refl _ _).alloc (Nat.le_refl _) _⟩
  · have h1' : decide ((1024 : Int) < n) = false := by simp; omega
    by_cases h2 : e < -40000
    · have E : Hid (refD n e = 30) := by show _ = _; unfold refD; rw [if_neg h1, if_pos (Or.inl h2)]
      go_enter Tryd.func8, Tryd.ntmps8
      go_wp2
      go_ret
      exact ⟨by rw [E.out]; rfl, (Below.refl _ _).alloc (Nat.le_refl _) _⟩
    · have h2' : decide (e < -40000) = false := by simpa using h2
      by_cases h3 : 40000 < e
      · have E : Hid (refD n e = 30) := by show _ = _; unfold refD; rw [if_neg h1, if_pos (Or.inr h3)]
        go_enter Tryd.func8, Tryd.ntmps8
        go_wp2
        go_ret
        exact ⟨by rw [E.out]; rfl, (Below.refl _ _).alloc (Nat.le_refl _) _⟩
      · have E : Hid (refD n e = 0) := by show _ = _; unfold refD; rw [if_neg h1, if_neg (by omega)]
        have h3' : decide (40000 < e) = false := by simpa using h3
        go_enter Tryd.func8, Tryd.ntmps8
        go_wp2
        go_ret
        exact ⟨by rw [E.out]; rfl, (Below.refl _ _).alloc (Nat.le_refl _) _⟩

/-- the first digit that is not 0, at place i: the zeros before it and in it -/
theorem tzN_digits32 (N i m t : Nat) (h0 : N % 2 ^ (32 * i) = 0) (hd : dg 32 N i = 2 ^ t * (2 * m + 1)) (ht : t < 32) : tzN N = 32 * i + t := by
  have e1 := Nat.div_add_mod N (2 ^ (32 * i))
  rw [h0, Nat.add_zero] at e1
  have e2 := div_succ 32 N i
  rw [hd] at e2
  have e3 : N = 2 ^ (32 * i + t) * (2 * (N / 2 ^ (32 * (i + 1)) * 2 ^ (31 - t) + m) + 1) := by
    have e4 : (2 : Nat) ^ 32 = 2 ^ t * (2 * 2 ^ (31 - t)) := by
      rw [← Nat.pow_succ', ← Nat.pow_add]; congr 1; omega
    rw [e4] at e2
    rw [e2] at e1
    rw [Nat.pow_add]
    generalize N / 2 ^ (32 * (i + 1)) = R at *
    generalize 2 ^ (32 * i) = A at *
    generalize 2 ^ t = T at *
    generalize 2 ^ (31 - t) = U at *
    grind
  exact tzN_unique e3

/-- one digit more is zero -/
theorem mod_next32 {N j : Nat} (h : N % 2 ^ (32 * j) = 0) (hd : dg 32 N j = 0) : N % 2 ^ (32 * (j + 1)) = 0 := by
  have e1 := Nat.div_add_mod N (2 ^ (32 * j))
  rw [h, Nat.add_zero] at e1
  have e2 := div_succ 32 N j
  rw [hd, Nat.add_zero] at e2
  have e3 : 2 ^ (32 * (j + 1)) = 2 ^ (32 * j) * 2 ^ 32 := by rw [← Nat.pow_add]; congr 1
  generalize N / 2 ^ (32 * (j + 1)) = q at e2
  rw [e2] at e1
  rw [e3]
  refine Nat.mod_eq_zero_of_dvd ⟨q, ?_⟩
  rw [← e1, Nat.mul_assoc, Nat.mul_comm q]

theorem low_in {N j m : Nat} (hN : N ≠ 0) (hl : N < 2 ^ (32 * m)) (h : N % 2 ^ (32 * j) = 0) : j < m := by
  rcases Nat.lt_or_ge j m with h1 | h1
  · exact h1
  · exfalso
    have := Nat.mod_eq_of_lt (Nat.lt_of_lt_of_le hl (Nat.pow_le_pow_right (show 0 < 2 by decide) (show 32 * m ≤ 32 * j by omega)))
    omega

set_option maxRecDepth 100000 in
set_option maxHeartbeats 2000000 in
theorem rLow_any (v : Value) (N : Nat) (w : World) (h : Rd 32 w v N (nd 32 N)) (h0 : N ≠ 0) (hn : nd 32 N ≤ 1000000) :
    Calls Tryd.prog 74 #[v] w fun e w' => e = .returned (.int .i64 (tzN N)) ∧ w = w' := by
  obtain ⟨A, c, rfl, hc, hcm⟩ := h.form
  obtain ⟨_, _, _, hr⟩ := h.at_
  obtain ⟨b, o, rfl, hb', hcell⟩ := hr (nd_pos 32 N h0)
  have hlt := h.lt
  clear h hr
  generalize nd 32 N = m at *
  have HC := Lib.hid hcell
  have HL := Lib.hid hlt
  have H0 := Lib.hid h0
  clear hcell hlt h0
  go_enter Tryd.func74, Tryd.ntmps74
  go_wp2_with fail
  go_loopw [3] (fun v wr => ∃ j : Nat, v = .int .i64 (j : Nat) ∧ Hid (N % 2 ^ (32 * j) = 0) ∧ w = wr) (fun v _ => m - (intOf v).toNat)
  case atStart => exact ⟨0, rfl, Lib.hid (by simp [Nat.mod_one]), rfl⟩
  case round =>
    obtain ⟨j, rfl, hz, rfl⟩ := hrel
    have hj := low_in H0.out HL.out hz.out
    have hck := HC.out j hj
    have hdl := dg32_lt N j
    obtain ⟨y, hy⟩ : ∃ y, y = dg 32 N j := ⟨_, rfl⟩
    rw [← hy] at hck hdl
    by_cases hy0 : y = 0
    · have Hn := Lib.hid (mod_next32 hz.out (by rw [← hy]; exact hy0))
      subst hy0
      clear hy HC HL
      go_wp2_with fail
      go_roundw
      case rel => exact ⟨j + 1, by go_num, Hn, by first | trivial | rfl⟩
      case measure => simp only [intOf]; omega
    · have t1 : ((y : Int) == 0) = false := by rw [beq_eq_false_iff_ne]; omega
      have HY := Lib.hid hy
      have HZ := Lib.hid hz.out
      have hw2 : IntKind.i64.wrap (32 * (j : Int)) = ((32 * j : Nat) : Int) := by rw [IntKind.wrap_i64]; omega
      clear hy hz HC HL H0
      go_wp2_with fail
      clear hw2
      go_loopw [4, 5] (fun s x wr => ∃ t : Nat, s = .int .i64 ((32 * j + t : Nat) : Int) ∧ x = .int .u64 ((y / 2 ^ t : Nat) : Int) ∧ Hid (y % 2 ^ t = 0) ∧ w = wr) (fun _ x _ => (intOf x).toNat)
      case atStart => exact ⟨0, rfl, by simp, Lib.hid (by simp [Nat.mod_one]), rfl⟩
      case round =>
        obtain ⟨t, rfl, rfl, hm, rfl⟩ := hrel
        have he := Nat.div_add_mod y (2 ^ t)
        rw [hm.out, Nat.add_zero] at he
        have hp := pow_pos2 t
        obtain ⟨x, hx⟩ : ∃ x, x = y / 2 ^ t := ⟨_, rfl⟩
        rw [← hx] at he
        rw [← hx]
        have hx0 : x ≠ 0 := by rintro rfl; rw [Nat.mul_zero] at he; omega
        have hxy : x ≤ y := by rw [hx]; exact Nat.div_le_self _ _
        have ht : t < 32 := by
          rcases Nat.lt_or_ge t 32 with h | h
          · exact h
          · exfalso
            have h1 : 2 ^ 32 ≤ 2 ^ t := Nat.pow_le_pow_right (by decide) h
            have h2 := Nat.le_mul_of_pos_right (2 ^ t) (show 0 < x by omega)
            omega
        by_cases h2 : x % 2 = 0
        · have e2 : (x : Int).tmod 2 = 0 := by rw [Int.tmod_eq_emod_of_nonneg (by omega)]; omega
          have hnext : x / 2 = y / 2 ^ (t + 1) := by rw [hx, Nat.pow_succ, Nat.div_div_eq_div_mul]
          have hmn : y % 2 ^ (t + 1) = 0 := by
            refine Nat.mod_eq_zero_of_dvd ⟨x / 2, ?_⟩
            rw [Nat.pow_succ, Nat.mul_assoc, show 2 * (x / 2) = x by omega, he]
          have Hn := Lib.hid hnext
          have Hm := Lib.hid hmn
          have hd2 : (x : Int) / 2 = ((x / 2 : Nat) : Int) := by omega
          have hw3 : IntKind.u64.wrap ((x / 2 : Nat) : Int) = ((x / 2 : Nat) : Int) := by rw [IntKind.wrap_u64]; omega
          have hw4 : IntKind.u64.wrap ((x : Int) / 2) = ((x / 2 : Nat) : Int) := by rw [hd2, hw3]
          have hw5 : IntKind.i64.wrap (((32 * j + t : Nat) : Int) + 1) = ((32 * j + (t + 1) : Nat) : Int) := by rw [IntKind.wrap_i64]; omega
          obtain ⟨J, hJ⟩ : ∃ J, J = 32 * j + t := ⟨_, rfl⟩
          obtain ⟨J1, hJ1⟩ : ∃ J, J = 32 * j + (t + 1) := ⟨_, rfl⟩
          rw [← hJ, ← hJ1] at hw5
          rw [← hJ]
          obtain ⟨z, hz2⟩ : ∃ z, z = x / 2 := ⟨_, rfl⟩
          rw [← hz2] at hw3 hw4 hd2 Hn
          have hzx : z < x := by omega
          have HJ := Lib.hid hJ1
          clear hx hnext hJ hJ1 hz2 he hp hm hmn h2 ht hxy
          go_wp2_with fail
          go_roundw
          case rel => exact ⟨t + 1, by rw [HJ.out], by rw [Hn.out], Hm, by first | trivial | rfl⟩
          case measure => simp only [intOf]; omega
        · have e2 : (x : Int).tmod 2 = 1 := by rw [Int.tmod_eq_emod_of_nonneg (by omega)]; omega
          have H : Hid (tzN N = 32 * j + t) := tzN_digits32 N j (x / 2) t HZ.out (by rw [← HY.out, show 2 * (x / 2) + 1 = x by omega, he]) ht
          clear hx he hp hm h2 ht hxy
          go_wp2_with fail
          go_ret
          exact ⟨by rw [H.out]; rfl, rfl⟩

end Go.Proofs.YtakjbmlkcbedmaaDoor
