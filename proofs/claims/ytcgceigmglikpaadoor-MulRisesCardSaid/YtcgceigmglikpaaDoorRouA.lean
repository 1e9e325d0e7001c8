/- Walks of layer 2 for rounding: left, Shl, divides, Jam. -/
import Derived.Test.YtcgceigmglikpaaDoorDyadE
import Derived.Test.YtcgceigmglikpaaDoorRnd
namespace Go.Proofs.YtcgceigmglikpaaDoor
set_option linter.unusedVariables false
open Go.RowKit

set_option maxRecDepth 100000 in
set_option maxHeartbeats 1000000 in
theorem left_any (v : Value) (N n s : Nat) (w : World) (hv : Rd 64 w v N n) (hs : n + s ≤ 17592186044416) :
    Calls Tryd.prog 167 #[v, .int .i64 s] w fun e w' => ∃ v', e = .returned v' ∧ Rd 64 w' v' (N * 2 ^ s) (nd 64 (N * 2 ^ s)) ∧ Fr w.heap.size w' v' ∧ Below w.heap.size w w' := by
  by_cases h0 : N = 0
  · subst h0
    go_enter Tryd.func167, Tryd.ntmps167
    go_wp2_with fail
    refine (trim_any v 64 0 n 0 w (by decide) hv).mono ?_
    rintro e w1 ⟨v1, rfl, h1, _, rfl⟩
    rw [nd_zero] at h1
    obtain ⟨A, c, rfl, hc, hcm⟩ := h1.form
    go_wp2
    go_ret
    rw [Nat.zero_mul, nd_zero]
    exact ⟨_, rfl, Rd.nil_, Fr.none_, Below.refl _ _⟩
  · have hp := nd_pos 64 N h0
    have hle := nd_le 64 N n (by decide) hv.lt
    go_enter Tryd.func167, Tryd.ntmps167
    obtain ⟨q, r, hqr, hr⟩ : ∃ q r, s = 64 * q + r ∧ r < 64 := ⟨s / 64, s % 64, by omega, by omega⟩
    have hq : (s : Int) / 64 = (q : Int) := by omega
    have hr' : (s : Int) % 64 = (r : Int) := by omega
    go_wp2_with fail
    refine (trim_any v 64 N n 0 w (by decide) hv).mono ?_
    rintro e w1 ⟨v1, rfl, h1, _, rfl⟩
    have HN := Lib.hid h1.lt
    clear hv h0
    generalize nd 64 N = a at *
    obtain ⟨A1, c1, rfl, hc1, hcm1⟩ := h1.form
    obtain ⟨_, _, _, hrX⟩ := h1.at_
    have hz : ((a : Int) == 0) = false := by rw [beq_eq_false_iff_ne]; omega
    have hmk := fun wx => make_words (q + a + 1) (by omega) wx
    rw [show ((q + a + 1 : Nat) : Int) = (q : Int) + a + 1 from by omega] at hmk
    have hLL : q + a + 1 ≤ 35184372088832 := by omega
    have Hqr := Lib.hid hqr
    clear hqr
    go_wp2
    try simp only [hr']
    clear hq hr' hmk
    go_loopw [27] (fun i wr => ∃ j : Nat, j ≤ a ∧ i = .int .i64 j ∧ Own 64 wr w.heap.size (N % 2 ^ (64 * j) * 2 ^ s) (q + a + 1) ∧ Below w.heap.size w wr) (fun i _ => a - (intOf i).toNat)
    case atStart =>
      exact ⟨0, Nat.zero_le _, rfl, by simpa [Nat.mod_one] using Own.make (q + a + 1), (Below.refl _ _).alloc (Nat.le_refl _) _⟩
    case round =>
      obtain ⟨j, hj, rfl, hown, hbw⟩ := hrel
      by_cases hjn : j < a
      · have hoc := hown.cell (j := q + j) (by omega)
        have hoc2 := hown.cell (j := q + j + 1) (by omega)
        have hf := hown.free (q + j)
        have hf2 := hown.free (q + j + 1)
        obtain ⟨b1, o1, rfl, hb1, hcell1⟩ := hrX (by omega)
        have hk1 : wr.cell? ⟨b1, o1 + j, none⟩ = _ := (hbw.cell (p := ⟨b1, o1 + j, none⟩) hb1).trans (hcell1 j hjn)
        have hx := dg64_lt N j
        obtain ⟨e1, e2, e3⟩ := raise_step N q r j hr
        have hp := dg64_lt (N % 2 ^ (64 * j) * 2 ^ s) (q + j)
        rw [← Hqr.out] at e1 e2 e3
        obtain ⟨d1, hd1⟩ : ∃ d, d = dg 64 (N % 2 ^ (64 * j) * 2 ^ s) (q + j) ||| (dg 64 N j * 2 ^ r % 18446744073709551616) := ⟨_, rfl⟩
        obtain ⟨d2, hd2⟩ : ∃ d, d = dg 64 N j / 2 ^ (64 - r) := ⟨_, rfl⟩
        have hb1' : bits BinOp.or IntKind.u64 ((dg 64 (N % 2 ^ (64 * j) * 2 ^ s) (q + j) : Nat) : Int) (IntKind.u64.wrap (((dg 64 N j : Nat) : Int) * 2 ^ r)) = (d1 : Int) := by
          rw [wrap_shl_nat, or_nat _ _ hp (Nat.mod_lt _ (by decide)), hd1]
        have hb2' : ((dg 64 N j : Nat) : Int) / 2 ^ (64 - r) = (d2 : Int) := by rw [hd2]; simp
        have hd2l : d2 < 18446744073709551616 := by rw [hd2]; exact Nat.lt_of_le_of_lt (Nat.div_le_self _ _) hx
        rw [← hd1] at e1 e2 e3
        rw [← hd2] at e1
        have hos := hown.set (j := q + j) (by omega) (d := d1) e2
        have hos2 := Lib.hid (hos.set (j := q + j + 1) (by omega) (d := d2) hd2l)
        have E1 := Lib.hid e1
        clear e1 e3 hd1 hd2 hos hown hrX hcell1
        generalize dg 64 (N % 2 ^ (64 * j) * 2 ^ s) (q + j) = p at *
        generalize dg 64 (N % 2 ^ (64 * j) * 2 ^ s) (q + j + 1) = p2 at *
        generalize dg 64 N j = x at *
        go_wp2
        go_region
        go_wp2
        go_roundw
        case rel => exact ⟨j + 1, by omega, by go_num, by rw [← E1.out]; exact hos2.out.drew, ((hbw.setCell (Nat.le_refl _) _).setCell (Nat.le_refl _) _).drew⟩
        case measure => simp [intOf]; omega
      · obtain rfl : j = a := by omega
        rw [Nat.mod_eq_of_lt HN.out] at hown
        go_wp2_with fail
        refine (trim_any _ 64 (N * 2 ^ s) (q + j + 1) w.heap.size _ (by decide) (hown.rd hLL)).mono ?_
        rintro e w3 ⟨v3, rfl, h3, h3f, rfl⟩
        go_wp2
        go_ret
        exact ⟨_, rfl, h3, h3f (hown.fr (Nat.le_refl _)), hbw⟩

set_option maxHeartbeats 1000000 in
theorem Shl_ok (v : Value) (N n s : Nat) (w : World) (hv : Rd 64 w v N n) (hs : s ≤ 65536) (hn : n ≤ 1000000) (hN : nd 64 N ≤ 1024) (hNs : nd 64 (N * 2 ^ s) ≤ 1024) :
    Calls Tryd.prog 159 #[v, .int .i64 s] w fun e w' => ∃ v', e = .returned (.tuple #[v', .int .i64 0]) ∧ Rd 64 w' v' (N * 2 ^ s) (nd 64 (N * 2 ^ s)) ∧ Fr w.heap.size w' v' ∧ Below w.heap.size w w' := by
  obtain ⟨A1, c1, rfl, hc1, hcm1⟩ := hv.form
  have hal : Below w.heap.size w (w.alloc (Obj.cells #[Value.slice A1 n c1] 51)) := (Below.refl _ _).alloc (Nat.le_refl _) _
  have hcs : ∀ j, j < 1 → (w.alloc (Obj.cells #[Value.slice A1 n c1] 51)).cell? ⟨w.heap.size, j, none⟩ = some ((fun _ => Value.slice A1 n c1) j) := fun j hj => by
    rw [World.cell?_alloc_at _ _ _ _ rfl]
    match j, hj with
    | 0, _ => rfl
  have hb : anyBig (fun _ => N) 1 = false := anyBig_false fun j hj => by show nd 64 N ≤ 1024; omega
  have hb2 : anyBig (fun _ => N * 2 ^ s) 1 = false := anyBig_false fun j hj => by show nd 64 (N * 2 ^ s) ≤ 1024; omega
  have H1 := fun (wx : World) (h : wx = w.alloc (Obj.cells #[Value.slice A1 n c1] 51)) => great_any w.heap.size 1 1 (fun _ => Value.slice A1 n c1) (fun _ => N) (fun _ => n) _ (by omega) hcs (fun j hj => hv.below hal)
  rw [hb] at H1
  have HH1 := Lib.hid (H1 _ rfl)
  have Hv := Lib.hid (hv.below hal)
  have HB := Lib.hid hal
  clear H1 hcs hb hv hal
  go_enter Tryd.func159, Tryd.ntmps159
  go_wp2_with fail
  refine HH1.out.mono ?_
  rintro e w1 ⟨rfl, rfl⟩
  go_wp2_with fail
  refine (left_any (.slice A1 n c1) N n s _ Hv.out (by omega)).mono ?_
  rintro e w2 ⟨v2, rfl, h2, hF2, hb2'⟩
  obtain ⟨A3, c3, rfl, hc3, hcm3⟩ := h2.form
  have hal3 : Below w2.heap.size w2 (w2.alloc (Obj.cells #[Value.slice A3 (nd 64 (N * 2 ^ s)) c3] 51)) := (Below.refl _ _).alloc (Nat.le_refl _) _
  have hcs : ∀ j, j < 1 → (w2.alloc (Obj.cells #[Value.slice A3 (nd 64 (N * 2 ^ s)) c3] 51)).cell? ⟨w2.heap.size, j, none⟩ = some ((fun _ => Value.slice A3 (nd 64 (N * 2 ^ s)) c3) j) := fun j hj => by
    rw [World.cell?_alloc_at _ _ _ _ rfl]
    match j, hj with
    | 0, _ => rfl
  have H2 := great_any w2.heap.size 1 1 (fun _ => Value.slice A3 (nd 64 (N * 2 ^ s)) c3) (fun _ => N * 2 ^ s) (fun _ => nd 64 (N * 2 ^ s)) _ (by omega) hcs (fun j hj => h2.below hal3)
  rw [hb2] at H2
  have HH2 := Lib.hid H2
  replace HB := Lib.hid (HB.out.trans (hb2'.mono HB.out.size))
  replace HB := Lib.hid (HB.out.trans (hal3.mono HB.out.size))
  have HR := Lib.hid (h2.below hal3)
  have HF := Lib.hid ((hF2.below hal3).mono (B' := w.heap.size) (by simp))
  clear H2 hcs hal3 h2 hF2 hb2' hb2 HH1 Hv
  go_wp2_with fail
  refine HH2.out.mono ?_
  rintro e w3 ⟨rfl, rfl⟩
  go_wp2
  go_ret2
  exact ⟨_, rfl, HR.out, HF.out, HB.out⟩

end Go.Proofs.YtcgceigmglikpaaDoor
