/- Walks of layer 3: raised, refuses, aligned. -/
import Derived.Outline
import Derived.Test.YtcgceigmglikpaaDoorNatF
namespace Go.Proofs.YtcgceigmglikpaaDoor
set_option linter.unusedVariables false
open Go.RowKit

set_option maxRecDepth 100000 in
set_option maxHeartbeats 1000000 in
theorem raised_any (v : Value) (N n s : Nat) (w : World) (hv : Rd 64 w v N n) (hs : n + s ≤ 17592186044416) :
    Calls Tryd.prog 155 #[v, .int .i64 s] w fun e w' => ∃ v', e = .returned v' ∧ Rd 64 w' v' (N * 2 ^ s) (nd 64 (N * 2 ^ s)) ∧ Fr w.heap.size w' v' ∧ Below w.heap.size w w' := by
  obtain ⟨A1, c1, rfl, hc1, hcm1⟩ := hv.form
  obtain ⟨_, _, _, hrX⟩ := hv.at_
  have HN := Lib.hid hv.lt
  by_cases hn : n = 0
  · subst hn
    have h0 := hv.zero_of
    subst h0
    go_enter Tryd.func155, Tryd.ntmps155
    go_wp2
    go_ret
    rw [nd_zero]
    exact ⟨_, rfl, Rd.nil_, Fr.none_, Below.refl _ _⟩
  · obtain ⟨q, r, hqr, hr⟩ : ∃ q r, s = 64 * q + r ∧ r < 64 := ⟨s / 64, s % 64, by omega, by omega⟩
    have hq : (s : Int) / 64 = (q : Int) := by omega
    have hr' : (s : Int) % 64 = (r : Int) := by omega
    have hz : ((n : Int) == 0) = false := by rw [beq_eq_false_iff_ne]; omega
    have hmk := fun wx => make_words (q + n + 1) (by omega) wx
    rw [show ((q + n + 1 : Nat) : Int) = (q : Int) + n + 1 from by omega] at hmk
    have hLL : q + n + 1 ≤ 35184372088832 := by omega
    have Hqr := Lib.hid hqr
    clear hqr hn
    go_enter Tryd.func155, Tryd.ntmps155
    go_wp2
    try simp only [hr', hq]
    clear hq hr' hmk
    go_loopw [26] (fun i wr => ∃ j : Nat, j ≤ n ∧ i = .int .i64 j ∧ Own 64 wr w.heap.size (N % 2 ^ (64 * j) * 2 ^ s) (q + n + 1) ∧ Below w.heap.size w wr) (fun i _ => n - (intOf i).toNat)
    case atStart =>
      exact ⟨0, Nat.zero_le _, rfl, by simpa [Nat.mod_one] using Own.make (q + n + 1), (Below.refl _ _).alloc (Nat.le_refl _) _⟩
    case round =>
      obtain ⟨j, hj, rfl, hown, hbw⟩ := hrel
      by_cases hjn : j < n
      · have hoc := hown.cell (j := q + j) (by omega)
        have hoc2 := hown.cell (j := q + j + 1) (by omega)
        have hf := hown.free (q + j)
        have hf2 := hown.free (q + j + 1)
        obtain ⟨b1, o1, rfl, hb1, hcell1⟩ := hrX (by omega)
        have hk1 : wr.cell? ⟨b1, o1 + j, none⟩ = _ := (hbw.cell (p := ⟨b1, o1 + j, none⟩) hb1).trans (hcell1 j hjn)
        have hx := dg64_lt N j
        obtain ⟨e1, e2, e3⟩ := raise_step N q r j hr
        have hp := dg64_lt (N % 2 ^ (64 * j) * 2 ^ s) (q + j)
        rw [← Hqr.out] at e1 e2 e3
        obtain ⟨d1, hd1⟩ : ∃ d, d = dg 64 (N % 2 ^ (64 * j) * 2 ^ s) (q + j) ||| (dg 64 N j * 2 ^ r % 18446744073709551616) := ⟨_, rfl⟩
        obtain ⟨d2, hd2⟩ : ∃ d, d = dg 64 N j / 2 ^ (64 - r) := ⟨_, rfl⟩
        have hb1' : bits BinOp.or IntKind.u64 ((dg 64 (N % 2 ^ (64 * j) * 2 ^ s) (q + j) : Nat) : Int) (IntKind.u64.wrap (((dg 64 N j : Nat) : Int) * 2 ^ r)) = (d1 : Int) := by
          rw [wrap_shl_nat, or_nat _ _ hp (Nat.mod_lt _ (by decide)), hd1]
        have hb2' : ((dg 64 N j : Nat) : Int) / 2 ^ (64 - r) = (d2 : Int) := by rw [hd2]; simp
        have hd2l : d2 < 18446744073709551616 := by rw [hd2]; exact Nat.lt_of_le_of_lt (Nat.div_le_self _ _) hx
        rw [← hd1] at e1 e2 e3
        rw [← hd2] at e1
        have hos := hown.set (j := q + j) (by omega) (d := d1) e2
        have hos2 := Lib.hid (hos.set (j := q + j + 1) (by omega) (d := d2) hd2l)
        have Hos := Lib.hid hos
        have E1 := Lib.hid e1
        have E3 := Lib.hid e3
        have Hd2 := Lib.hid hd2
        clear e1 e3 hd1 hd2 hos hown hrX hcell1
        generalize dg 64 (N % 2 ^ (64 * j) * 2 ^ s) (q + j) = p at *
        generalize dg 64 (N % 2 ^ (64 * j) * 2 ^ s) (q + j + 1) = p2 at *
        by_cases hr0 : 0 < r
        · generalize dg 64 N j = x at *
          go_wp2
          go_roundw
          case rel => exact ⟨j + 1, by omega, by go_num, by rw [← E1.out]; exact hos2.out, (hbw.setCell (Nat.le_refl _) _).setCell (Nat.le_refl _) _⟩
          case measure => simp [intOf]; omega
        · have hr0' : decide (0 < r) = false := by simpa using hr0
          have hr1 : r = 0 := by omega
          have hd20 : d2 = 0 := by rw [Hd2.out, hr1]; exact Nat.div_eq_of_lt hx
          have E4 : Hid (setDg 64 (N % 2 ^ (64 * j) * 2 ^ s) (q + j) d1 = N % 2 ^ (64 * (j + 1)) * 2 ^ s) := by
            show _ = _
            rw [← E1.out, hd20, setDg_self 64 _ _ E3.out]
          clear hr1 hd20
          generalize dg 64 N j = x at *
          go_wp2
          go_roundw
          case rel => exact ⟨j + 1, by omega, by go_num, by rw [← E4.out]; exact Hos.out, hbw.setCell (Nat.le_refl _) _⟩
          case measure => simp [intOf]; omega
      · obtain rfl : j = n := by omega
        rw [Nat.mod_eq_of_lt HN.out] at hown
        go_wp2_with fail
        refine (Trim_any _ (N * 2 ^ s) (q + j + 1) _ (hown.rd hLL)).mono ?_
        rintro e w3 ⟨v3, rfl, h3, h3f, h3b⟩
        go_wp2
        go_ret
        exact ⟨_, rfl, h3, h3f.mono hbw.size, hbw.trans (h3b.mono hbw.size)⟩

end Go.Proofs.YtcgceigmglikpaaDoor
