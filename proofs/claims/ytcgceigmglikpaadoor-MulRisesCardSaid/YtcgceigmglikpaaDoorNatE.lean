/- Walks of layer 2: product. -/
import Derived.Outline
import Derived.Test.YtcgceigmglikpaaDoorNatD
namespace Go.Proofs.YtcgceigmglikpaaDoor
set_option linter.unusedVariables false
open Go.RowKit

set_option maxRecDepth 100000 in
set_option maxHeartbeats 2000000 in
theorem product_any (v u : Value) (N n M m : Nat) (w : World) (hv : Rd 64 w v N n) (hu : Rd 64 w u M m) (hn : nd 64 N + nd 64 M ≤ 35184372088832) :
    Calls Tryd.prog 130 #[v, u] w fun e w' => ∃ v', e = .returned v' ∧ Rd 64 w' v' (N * M) (nd 64 (N * M)) ∧ Fr w.heap.size w' v' ∧ Below w.heap.size w w' := by
  have HN := Lib.hid (lt_nd 64 N (by decide))
  have HM := Lib.hid (lt_nd 64 M (by decide))
  have hmk := fun wx => make_words2 (nd 64 N) (nd 64 M) hn wx
  go_enter Tryd.func130, Tryd.ntmps130
  go_wp2_with fail
  refine (trim_any v 64 N n 0 w (by decide) hv).mono ?_
  rintro e w1 ⟨v1, rfl, hv1, _, rfl⟩
  obtain ⟨A1, c1, rfl, hc1, hcm1⟩ := hv1.form
  go_wp2_with fail
  refine (trim_any u 64 M m 0 w (by decide) hu).mono ?_
  rintro e w1 ⟨u1, rfl, hu1, _, rfl⟩
  obtain ⟨A2, c2, rfl, hc2, hcm2⟩ := hu1.form
  obtain ⟨_, _, _, hrX⟩ := hv1.at_
  obtain ⟨_, _, _, hrY⟩ := hu1.at_
  clear hv hu
  generalize nd 64 N = a at *
  generalize nd 64 M = b at *
  go_wp2
  clear hmk
  go_loopw [26] (fun i wr => ∃ j : Nat, j ≤ a ∧ i = .int .i64 j ∧ Own 64 wr w.heap.size (N % 2 ^ (64 * j) * M) (a + b) ∧ Below w.heap.size w wr) (fun i _ => a - (intOf i).toNat)
  case atStart => exact ⟨0, Nat.zero_le _, rfl, by simpa [Nat.mod_one] using Own.make (a + b), (Below.refl _ _).alloc (Nat.le_refl _) _⟩
  case round =>
    obtain ⟨i, hi, rfl, hown, hbw⟩ := hrel
    by_cases hia : i < a
    · obtain ⟨b1, o1, rfl, hb1, hcell1⟩ := hrX (by omega)
      have hk1 : wr.cell? ⟨b1, o1 + i, none⟩ = _ := (hbw.cell (p := ⟨b1, o1 + i, none⟩) hb1).trans (hcell1 i hia)
      have hst := Lib.hid (ProdInv.start N M b _ i rfl HM.out)
      have hx := dg64_lt N i
      obtain ⟨x, hxe⟩ : ∃ x, x = dg 64 N i := ⟨_, rfl⟩
      rw [← hxe] at hk1 hx
      have Hx := Lib.hid hxe
      clear hxe hrX hcell1
      obtain ⟨wo, rfl⟩ : ∃ wo : World, wo = wr := ⟨_, rfl⟩
      obtain ⟨P0, hP0⟩ : ∃ P0, P0 = N % 2 ^ (64 * i) * M := ⟨_, rfl⟩
      rw [← hP0] at hown hst
      clear hP0
      go_wp2
      go_loopw [8, 33] (fun c k wr => ∃ j cr P : Nat, j ≤ b ∧ k = .int .i64 j ∧ c = .int .u64 cr ∧ ProdInv N M b P i j cr ∧ Own 64 wr w.heap.size P (a + b) ∧ Below w.heap.size w wr) (fun _ k _ => b - (intOf k).toNat)
      case atStart => exact ⟨0, 0, _, Nat.zero_le _, rfl, rfl, hst.out, hown, hbw⟩
      case round =>
        obtain ⟨j, cr, P, hj, rfl, rfl, hinv, hown, hbw⟩ := hrel
        have hcr := hinv.2.1
        by_cases hjb : j < b
        · obtain ⟨b2, o2, rfl, hb2, hcell2⟩ := hrY (by omega)
          have hk2 : wr.cell? ⟨b2, o2 + j, none⟩ = _ := (hbw.cell (p := ⟨b2, o2 + j, none⟩) hb2).trans (hcell2 j hjb)
          have hoc := hown.cell (j := i + j) (by omega)
          have hf := hown.free (i + j)
          have hy := dg64_lt M j
          have hp := dg64_lt P (i + j)
          obtain ⟨hi0, hhi⟩ : ∃ h, h = x * dg 64 M j / 18446744073709551616 := ⟨_, rfl⟩
          obtain ⟨lo0, hlo⟩ : ∃ h, h = x * dg 64 M j % 18446744073709551616 := ⟨_, rfl⟩
          have hlol : lo0 < 18446744073709551616 := by rw [hlo]; exact Nat.mod_lt _ (by decide)
          obtain ⟨l1, k1, hadd1, he1, hl1, hk1'⟩ := add64c_ex lo0 (dg 64 P (i + j)) hlol hp
          obtain ⟨l2, k2, hadd2, he2, hl2, hk2'⟩ := add64c_ex l1 cr hl1 hcr
          obtain ⟨t, ht⟩ : ∃ t, t = x * dg 64 M j + dg 64 P (i + j) + cr := ⟨_, rfl⟩
          obtain ⟨g1, g2, g3, g4⟩ := prod_digit x (dg 64 M j) (dg 64 P (i + j)) cr hi0 lo0 l1 k1 l2 k2 t hx hy hp hcr hhi hlo he1.out he2.out hl1 hl2 ht
          have hst2 := Lib.hid (hinv.step (t := t) hjb (by rw [← Hx.out]; exact ht))
          have hos := Lib.hid (hown.set (j := i + j) (by omega) hl2)
          have G1 := Lib.hid g1
          have G2 := Lib.hid g2
          have Hhi := Lib.hid hhi
          have Hlo := Lib.hid hlo
          have hmul := mul64_any x (dg 64 M j)
          rw [← hhi, ← hlo] at hmul
          clear g1 g2 hhi hlo ht hcell2 hrY hinv hown
          generalize dg 64 M j = y at *
          generalize dg 64 P (i + j) = p at *
          go_wp2_with fail
          refine (hmul _ hx hy).mono ?_
          rintro e w3 ⟨rfl, rfl⟩
          clear hmul
          go_wp2
          go_roundw
          case rel =>
            refine ⟨j + 1, hi0 + k1 + k2, _, by omega, by go_num, by go_num, ?_, hos.out, hbw.setCell (Nat.le_refl _) _⟩
            rw [G1.out, G2.out]
            exact hst2.out
          case measure => simp [intOf]; omega
        · obtain rfl : j = b := by omega
          have hoc := hown.cell (j := i + j) (by omega)
          have hf := hown.free (i + j)
          have hos := hown.set (j := i + j) (by omega) (d := cr) hcr
          rw [hinv.last HM.out] at hos
          have Hos := Lib.hid hos
          clear hos hinv hown hst hrY
          generalize dg 64 P (i + j) = p at *
          go_wp2
          go_roundw
          case rel => exact ⟨i + 1, by omega, by go_num, Hos.out, hbw.setCell (Nat.le_refl _) _⟩
          case measure => simp [intOf]; omega
    · obtain rfl : i = a := by omega
      rw [Nat.mod_eq_of_lt HN.out] at hown
      go_wp2_with fail
      refine (trim_any _ 64 (N * M) (i + b) w.heap.size _ (by decide) (hown.rd hn)).mono ?_
      rintro e w3 ⟨v3, rfl, h3, h3f, rfl⟩
      go_wp2
      go_ret
      exact ⟨_, rfl, h3, h3f (hown.fr (Nat.le_refl _)), hbw⟩

end Go.Proofs.YtcgceigmglikpaaDoor
