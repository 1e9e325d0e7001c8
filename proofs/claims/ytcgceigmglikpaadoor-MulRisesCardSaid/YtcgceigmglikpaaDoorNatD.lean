/- Walks of layer 2: right, Shr. -/
import Derived.Outline
import Derived.Test.YtcgceigmglikpaaDoorNatC
namespace Go.Proofs.YtcgceigmglikpaaDoor
set_option linter.unusedVariables false
open Go.RowKit

set_option maxRecDepth 100000 in
set_option maxHeartbeats 1000000 in
theorem right_any (v : Value) (N n s : Nat) (w : World) (hv : Rd 64 w v N n) (hs : s ≤ 9223372036854775807) :
    Calls Tryd.prog 154 #[v, .int .i64 s] w fun e w' => ∃ v', e = .returned v' ∧ Rd 64 w' v' (N / 2 ^ s) (nd 64 (N / 2 ^ s)) ∧ Fr w.heap.size w' v' ∧ Below w.heap.size w w' := by
  have HN := Lib.hid (lt_nd 64 N (by decide))
  have hnN := Nat.le_trans (nd_le 64 N n (by decide) hv.lt) hv.len
  by_cases hw : nd 64 N ≤ s / 64
  · have hz : N / 2 ^ s = 0 := by
      apply Nat.div_eq_of_lt
      refine Nat.lt_of_lt_of_le HN.out (Nat.pow_le_pow_right (by decide) ?_)
      have := Nat.div_mul_le_self s 64
      omega
    have Hz := Lib.hid hz
    clear hz
    go_enter Tryd.func154, Tryd.ntmps154
    go_wp2_with fail
    refine (trim_any v 64 N n 0 w (by decide) hv).mono ?_
    rintro e w1 ⟨v1, rfl, hv1, _, rfl⟩
    obtain ⟨A1, c1, rfl, hc1, hcm1⟩ := hv1.form
    have t1 : decide (((nd 64 N : Nat) : Int) ≤ ((s : Int) / 64)) = true := by simp; omega
    generalize nd 64 N = a at *
    go_wp2
    go_ret
    rw [Hz.out, nd_zero]
    exact ⟨_, rfl, Rd.nil_, Fr.none_, Below.refl _ _⟩
  · obtain ⟨q, r, hqr, hr⟩ : ∃ q r, s = 64 * q + r ∧ r < 64 := ⟨s / 64, s % 64, by omega, by omega⟩
    have Hqr := Lib.hid hqr
    have hq : (s : Int) / 64 = (q : Int) := by omega
    have hr' : (s : Int) % 64 = (r : Int) := by omega
    have hqa : q < nd 64 N := by omega
    obtain ⟨L, hL⟩ : ∃ L, nd 64 N = q + L := ⟨nd 64 N - q, by omega⟩
    have HL := Lib.hid hL
    have hmk := fun wx => make_words L (by omega) wx
    rw [show ((L : Nat) : Int) = (nd 64 N : Int) - (q : Int) from by omega] at hmk
    have hRL : N / 2 ^ s < 2 ^ (64 * L) := by
      rw [Nat.div_lt_iff_lt_mul (pow_pos2 s), ← Nat.pow_add]
      refine Nat.lt_of_lt_of_le HN.out (Nat.pow_le_pow_right (by decide) (by omega))
    have HRL := Lib.hid hRL
    have hLL : L ≤ 35184372088832 := by omega
    clear hqr hL hRL hw
    go_enter Tryd.func154, Tryd.ntmps154
    go_wp2_with fail
    refine (trim_any v 64 N n 0 w (by decide) hv).mono ?_
    rintro e w1 ⟨v1, rfl, hv1, _, rfl⟩
    obtain ⟨A1, c1, rfl, hc1, hcm1⟩ := hv1.form
    obtain ⟨_, _, _, hrX⟩ := hv1.at_
    generalize nd 64 N = a at *
    have t1 : decide (a ≤ q) = false := by simp; omega
    go_wp2
    simp only [hr']
    clear hq hr'
    go_loopw [26] (fun i wr => ∃ j : Nat, j ≤ L ∧ i = .int .i64 j ∧ Own 64 wr w.heap.size (N / 2 ^ s % 2 ^ (64 * j)) L ∧ Below w.heap.size w wr) (fun i _ => L - (intOf i).toNat)
    case atStart => exact ⟨0, Nat.zero_le _, rfl, by simpa [Nat.mod_one] using Own.make L, (Below.refl _ _).alloc (Nat.le_refl _) _⟩
    case round =>
      obtain ⟨j, hj, rfl, hown, hbw⟩ := hrel
      by_cases hjL : j < L
      · have hf := hown.free j
        have hoc := hown.cell hjL
        obtain ⟨b1, o1, rfl, hb1, hcell1⟩ := hrX (by omega)
        have hk1 : wr.cell? ⟨b1, o1 + (q + j), none⟩ = _ := (hbw.cell (p := ⟨b1, o1 + (q + j), none⟩) hb1).trans (hcell1 (q + j) (by have := HL.out; omega))
        have hqj : (q : Int) + j < a := by have := HL.out; omega
        have hx := dg64_lt N (q + j)
        obtain ⟨d1, hd1, Hd1⟩ : ∃ d1 : Nat, ((dg 64 N (q + j) : Nat) : Int) / 2 ^ r = (d1 : Int) ∧ Hid (d1 = dg 64 N (q + j) / 2 ^ r) := ⟨_, by simp, rfl⟩
        have hd1l : d1 < 18446744073709551616 := by rw [Hd1.out]; exact Nat.lt_of_le_of_lt (Nat.div_le_self _ _) hx
        have hos := hown.set (j := j) hjL (d := d1) hd1l
        by_cases hq1 : q + j + 1 < a
        · have hk2 : wr.cell? ⟨b1, o1 + (q + j + 1), none⟩ = _ := (hbw.cell (p := ⟨b1, o1 + (q + j + 1), none⟩) hb1).trans (hcell1 (q + j + 1) hq1)
          have hq1' : (q : Int) + j + 1 < a := by omega
          go_wp2
          go_region
          go_wp2
          go_roundw
          case rel =>
            refine ⟨j + 1, by omega, by go_num, ?_, ((hbw.setCell (Nat.le_refl _) _).setCell (Nat.le_refl _) _).drew⟩
            rw [right_step N q r j d1 hr Hd1.out, ← Hqr.out, ← setDg_build, ← setDg_setDg 64 _ j d1 _ hd1l]
            exact (hos.set hjL (dg_lt 64 _ j)).drew
          case measure => simp [intOf]; omega
        · have hq1' : decide ((q : Int) + j + 1 < a) = false := by simp; omega
          go_wp2
          go_roundw
          case rel =>
            refine ⟨j + 1, by omega, by go_num, ?_, hbw.setCell (Nat.le_refl _) _⟩
            have e : dg 64 (N / 2 ^ s) j = d1 := by
              rw [Hqr.out, shr_digit N q r j hr, dg_high 64 N (q + j + 1) a HN.out (by omega), Hd1.out]; simp
            rw [← setDg_build, e]
            exact hos
          case measure => simp [intOf]; omega
      · obtain rfl : j = L := by omega
        rw [Nat.mod_eq_of_lt HRL.out] at hown
        go_wp2_with fail
        refine (trim_any _ 64 (N / 2 ^ s) j w.heap.size _ (by decide) (hown.rd hLL)).mono ?_
        rintro e w3 ⟨v3, rfl, h3, h3f, rfl⟩
        go_wp2
        go_ret
        exact ⟨_, rfl, h3, h3f (hown.fr (Nat.le_refl _)), hbw⟩

set_option maxHeartbeats 400000 in
theorem Shr_any (v : Value) (N n s : Nat) (w : World) (hv : Rd 64 w v N n) (hs : s ≤ 9223372036854775807) :
    Calls Tryd.prog 128 #[v, .int .i64 s] w fun e w' => ∃ v', e = .returned (.tuple #[v', .int .i64 0]) ∧ Rd 64 w' v' (N / 2 ^ s) (nd 64 (N / 2 ^ s)) ∧ Fr w.heap.size w' v' ∧ Below w.heap.size w w' := by
  go_enter Tryd.func128, Tryd.ntmps128
  go_wp2_with fail
  refine (right_any v N n s w hv hs).mono ?_
  rintro e w1 ⟨v1, rfl, h1, h2, h3⟩
  go_wp2
  go_ret2
  exact ⟨_, rfl, h1, h2, h3⟩

end Go.Proofs.YtcgceigmglikpaaDoor
