/- Packed by program: RouA RouB RouC RouD RouE RouF RouG RouH RouI. -/
import Derived.Test.YtlibhfojfonfjaaGreatDoorPackB
import Derived.Test.YtlibhfojfonfjaaGreatDoorPackR
import Derived.Deep.CutBlock
import Derived.Test.YtlibhfojfonfjaaGreatDoorPackF
import Derived.StillTailTactics
/- Walks of layer 2 for rounding: left, Shl, divides, Jam. -/
namespace Go.Proofs.YtlibhfojfonfjaaGreatDoor
set_option linter.unusedVariables false
open Go.RowKit

set_option maxRecDepth 100000 in
set_option maxHeartbeats 1000000 in
theorem left_any (v : Value) (N n s : Nat) (w : World) (hv : Rd 64 w v N n) (hs : n + s ≤ 17592186044416) :
    Calls Tryz.prog 119 #[v, .int .i64 s] w fun e w' => ∃ v', e = .returned v' ∧ Rd 64 w' v' (N * 2 ^ s) (nd 64 (N * 2 ^ s)) ∧ Fr w.heap.size w' v' ∧ Below w.heap.size w w' := by
  by_cases h0 : N = 0
  · subst h0
    go_enter Tryz.func119, Tryz.ntmps119
    go_wp2_with fail
    refine (trim_any v 64 0 n 0 w (by decide) hv).mono ?_
    rintro e w1 ⟨v1, rfl, h1, _, rfl⟩
    rw [nd_zero] at h1
    obtain ⟨A, c, rfl, hc, hcm⟩ := h1.form
    go_wp2
    go_ret
    rw [Nat.zero_mul, nd_zero]
    exact ⟨_, rfl, Rd.nil_, Fr.none_, Below.refl _ _⟩
  · have hp := nd_pos 64 N h0
    have hle := nd_le 64 N n (by decide) hv.lt
    go_enter Tryz.func119, Tryz.ntmps119
    obtain ⟨q, r, hqr, hr⟩ : ∃ q r, s = 64 * q + r ∧ r < 64 := ⟨s / 64, s % 64, by omega, by omega⟩
    have hq : (s : Int) / 64 = (q : Int) := by omega
    have hr' : (s : Int) % 64 = (r : Int) := by omega
    go_wp2_with fail
    refine (trim_any v 64 N n 0 w (by decide) hv).mono ?_
    rintro e w1 ⟨v1, rfl, h1, _, rfl⟩
    have HN := Lib.hid h1.lt
    clear hv h0
    generalize nd 64 N = a at *
    obtain ⟨A1, c1, rfl, hc1, hcm1⟩ := h1.form
    obtain ⟨_, _, _, hrX⟩ := h1.at_
    have hz : ((a : Int) == 0) = false := by rw [beq_eq_false_iff_ne]; omega
    have hmk := fun wx => make_words (q + a + 1) (by omega) wx
    rw [show ((q + a + 1 : Nat) : Int) = (q : Int) + a + 1 from by omega] at hmk
    have hLL : q + a + 1 ≤ 35184372088832 := by omega
    have Hqr := Lib.hid hqr
    clear hqr
    go_wp2
    try simp only [hr']
    clear hq hr' hmk
    go_loopw [27] (fun i wr => ∃ j : Nat, j ≤ a ∧ i = .int .i64 j ∧ Own 64 wr w.heap.size (N % 2 ^ (64 * j) * 2 ^ s) (q + a + 1) ∧ Below w.heap.size w wr) (fun i _ => a - (intOf i).toNat)
    case atStart =>
      exact ⟨0, Nat.zero_le _, rfl, by simpa [Nat.mod_one] using Own.make (q + a + 1), (Below.refl _ _).alloc (Nat.le_refl _) _⟩
    case round =>
      obtain ⟨j, hj, rfl, hown, hbw⟩ := hrel
      by_cases hjn : j < a
      · have hoc := hown.cell (j := q + j) (by omega)
        have hoc2 := hown.cell (j := q + j + 1) (by omega)
        have hf := hown.free (q + j)
        have hf2 := hown.free (q + j + 1)
        obtain ⟨b1, o1, rfl, hb1, hcell1⟩ := hrX (by omega)
        have hk1 : wr.cell? ⟨b1, o1 + j, none⟩ = _ := (hbw.cell (p := ⟨b1, o1 + j, none⟩) hb1).trans (hcell1 j hjn)
        have hx := dg64_lt N j
        obtain ⟨e1, e2, e3⟩ := raise_step N q r j hr
        have hp := dg64_lt (N % 2 ^ (64 * j) * 2 ^ s) (q + j)
        rw [← Hqr.out] at e1 e2 e3
        obtain ⟨d1, hd1⟩ : ∃ d, d = dg 64 (N % 2 ^ (64 * j) * 2 ^ s) (q + j) ||| (dg 64 N j * 2 ^ r % 18446744073709551616) := ⟨_, rfl⟩
        obtain ⟨d2, hd2⟩ : ∃ d, d = dg 64 N j / 2 ^ (64 - r) := ⟨_, rfl⟩
        have hb1' : bits BinOp.or IntKind.u64 ((dg 64 (N % 2 ^ (64 * j) * 2 ^ s) (q + j) : Nat) : Int) (IntKind.u64.wrap (((dg 64 N j : Nat) : Int) * 2 ^ r)) = (d1 : Int) := by
          rw [wrap_shl_nat, or_nat _ _ hp (Nat.mod_lt _ (by decide)), hd1]
        have hb2' : ((dg 64 N j : Nat) : Int) / 2 ^ (64 - r) = (d2 : Int) := by rw [hd2]; simp
        have hd2l : d2 < 18446744073709551616 := by rw [hd2]; exact Nat.lt_of_le_of_lt (Nat.div_le_self _ _) hx
        rw [← hd1] at e1 e2 e3
        rw [← hd2] at e1
        have hos := hown.set (j := q + j) (by omega) (d := d1) e2
        have hos2 := Lib.hid (hos.set (j := q + j + 1) (by omega) (d := d2) hd2l)
        have E1 := Lib.hid e1
        clear e1 e3 hd1 hd2 hos hown hrX hcell1
        generalize dg 64 (N % 2 ^ (64 * j) * 2 ^ s) (q + j) = p at *
        generalize dg 64 (N % 2 ^ (64 * j) * 2 ^ s) (q + j + 1) = p2 at *
        generalize dg 64 N j = x at *
        go_wp2
        go_region
        go_wp2
        go_roundw
        case rel => exact ⟨j + 1, by omega, by go_num, by rw [← E1.out]; exact hos2.out.drew, ((hbw.setCell (Nat.le_refl _) _).setCell (Nat.le_refl _) _).drew⟩
        case measure => simp [intOf]; omega
      · obtain rfl : j = a := by omega
        rw [Nat.mod_eq_of_lt HN.out] at hown
        go_wp2_with fail
        refine (trim_any _ 64 (N * 2 ^ s) (q + j + 1) w.heap.size _ (by decide) (hown.rd hLL)).mono ?_
        rintro e w3 ⟨v3, rfl, h3, h3f, rfl⟩
        go_wp2
        go_ret
        exact ⟨_, rfl, h3, h3f (hown.fr (Nat.le_refl _)), hbw⟩

set_option maxHeartbeats 1000000 in
theorem Shl_ok (v : Value) (N n s : Nat) (w : World) (hv : Rd 64 w v N n) (hs : s ≤ 65536) (hn : n ≤ 1000000) (hN : nd 64 N ≤ 1024) (hNs : nd 64 (N * 2 ^ s) ≤ 1024) :
    Calls Tryz.prog 110 #[v, .int .i64 s] w fun e w' => ∃ v', e = .returned (.tuple #[v', .int .i64 0]) ∧ Rd 64 w' v' (N * 2 ^ s) (nd 64 (N * 2 ^ s)) ∧ Fr w.heap.size w' v' ∧ Below w.heap.size w w' := by
  obtain ⟨A1, c1, rfl, hc1, hcm1⟩ := hv.form
  have hal : Below w.heap.size w (w.alloc (Obj.cells #[Value.slice A1 n c1] 26)) := (Below.refl _ _).alloc (Nat.le_refl _) _
  have hcs : ∀ j, j < 1 → (w.alloc (Obj.cells #[Value.slice A1 n c1] 26)).cell? ⟨w.heap.size, j, none⟩ = some ((fun _ => Value.slice A1 n c1) j) := fun j hj => by
    rw [World.cell?_alloc_at _ _ _ _ rfl]
    match j, hj with
    | 0, _ => rfl
  have hb : anyBig (fun _ => N) 1 = false := anyBig_false fun j hj => by show nd 64 N ≤ 1024; omega
  have hb2 : anyBig (fun _ => N * 2 ^ s) 1 = false := anyBig_false fun j hj => by show nd 64 (N * 2 ^ s) ≤ 1024; omega
  have H1 := fun (wx : World) (h : wx = w.alloc (Obj.cells #[Value.slice A1 n c1] 26)) => great_any w.heap.size 1 1 (fun _ => Value.slice A1 n c1) (fun _ => N) (fun _ => n) _ (by omega) hcs (fun j hj => hv.below hal)
  rw [hb] at H1
  have HH1 := Lib.hid (H1 _ rfl)
  have Hv := Lib.hid (hv.below hal)
  have HB := Lib.hid hal
  clear H1 hcs hb hv hal
  go_enter Tryz.func110, Tryz.ntmps110
  go_wp2_with fail
  refine HH1.out.mono ?_
  rintro e w1 ⟨rfl, rfl⟩
  go_wp2_with fail
  refine (left_any (.slice A1 n c1) N n s _ Hv.out (by omega)).mono ?_
  rintro e w2 ⟨v2, rfl, h2, hF2, hb2'⟩
  obtain ⟨A3, c3, rfl, hc3, hcm3⟩ := h2.form
  have hal3 : Below w2.heap.size w2 (w2.alloc (Obj.cells #[Value.slice A3 (nd 64 (N * 2 ^ s)) c3] 26)) := (Below.refl _ _).alloc (Nat.le_refl _) _
  have hcs : ∀ j, j < 1 → (w2.alloc (Obj.cells #[Value.slice A3 (nd 64 (N * 2 ^ s)) c3] 26)).cell? ⟨w2.heap.size, j, none⟩ = some ((fun _ => Value.slice A3 (nd 64 (N * 2 ^ s)) c3) j) := fun j hj => by
    rw [World.cell?_alloc_at _ _ _ _ rfl]
    match j, hj with
    | 0, _ => rfl
  have H2 := great_any w2.heap.size 1 1 (fun _ => Value.slice A3 (nd 64 (N * 2 ^ s)) c3) (fun _ => N * 2 ^ s) (fun _ => nd 64 (N * 2 ^ s)) _ (by omega) hcs (fun j hj => h2.below hal3)
  rw [hb2] at H2
  have HH2 := Lib.hid H2
  replace HB := Lib.hid (HB.out.trans (hb2'.mono HB.out.size))
  replace HB := Lib.hid (HB.out.trans (hal3.mono HB.out.size))
  have HR := Lib.hid (h2.below hal3)
  have HF := Lib.hid ((hF2.below hal3).mono (B' := w.heap.size) (by simp))
  clear H2 hcs hal3 h2 hF2 hb2' hb2 HH1 Hv
  go_wp2_with fail
  refine HH2.out.mono ?_
  rintro e w3 ⟨rfl, rfl⟩
  go_wp2
  go_ret2
  exact ⟨_, rfl, HR.out, HF.out, HB.out⟩

end Go.Proofs.YtlibhfojfonfjaaGreatDoor

/- Walks of layer 2 for rounding: divides, Jam; what four times a quotient with a sticky bit tells. -/
namespace Go.Proofs.YtlibhfojfonfjaaGreatDoor
set_option linter.unusedVariables false
open Go.RowKit

theorem dvd_tzN {N s : Nat} (h : N ≠ 0) : N % 2 ^ s = 0 ↔ s ≤ tzN N := by
  obtain ⟨m, hm⟩ := tzN_spec N h
  constructor
  · intro h1
    rcases Nat.lt_or_ge (tzN N) s with h2 | h2
    · exfalso
      obtain ⟨t, ht⟩ : ∃ t, s = tzN N + 1 + t := ⟨s - tzN N - 1, by omega⟩
      have h3 := Nat.div_add_mod N (2 ^ s)
      rw [h1, Nat.add_zero, ht, Nat.pow_add, Nat.pow_succ] at h3
      have h4 : 2 ^ tzN N * (2 * (2 ^ t * (N / (2 ^ tzN N * 2 * 2 ^ t)))) = 2 ^ tzN N * (2 * m + 1) := by
        rw [← hm]; rw [← h3]; grind
      have := Nat.eq_of_mul_eq_mul_left (pow_pos2 _) h4
      omega
    · exact h2
  · intro h1
    obtain ⟨t, ht⟩ : ∃ t, tzN N = s + t := ⟨tzN N - s, by omega⟩
    rw [hm, ht, Nat.pow_add, Nat.mul_assoc]
    exact Nat.mul_mod_right _ _

set_option maxHeartbeats 1000000 in
theorem divides_any (v : Value) (N n s : Nat) (w : World) (hv : Rd 64 w v N n) (hs : s ≤ 9223372036854775807) (hT : TzTab w) :
    Calls Tryz.prog 118 #[v, .int .i64 s] w fun e w' => e = .returned (.bool (decide (N % 2 ^ s = 0))) ∧ w = w' := by
  have hn35 : nd 64 N ≤ 35184372088832 := Nat.le_trans (nd_le 64 N n (by decide) hv.lt) hv.len
  obtain ⟨R, hR⟩ : ∃ R, Hid (R = decide (N % 2 ^ s = 0)) := ⟨_, Lib.hid rfl⟩
  rw [← hR.out]
  go_enter Tryz.func118, Tryz.ntmps118
  go_wp2_with fail
  refine (trim_any v 64 N n 0 w (by decide) hv).mono ?_
  rintro e w1 ⟨v1, rfl, h1, _, rfl⟩
  obtain ⟨A1, c1, rfl, hc1, hcm1⟩ := h1.form
  obtain ⟨_, _, _, hrX⟩ := h1.at_
  have HN := Lib.hid h1.lt
  clear hv h1
  generalize nd 64 N = a at *
  go_wp2
  go_loop [10] (fun i => ∃ j : Nat, j ≤ a ∧ i = .int .i64 j ∧ Hid (N % 2 ^ (64 * j) = 0)) (fun i => a - (intOf i).toNat)
  case atStart => exact ⟨0, Nat.zero_le _, rfl, Lib.hid (by simp [Nat.mod_one])⟩
  case round =>
    obtain ⟨j, hj, rfl, hz⟩ := hrel
    by_cases hja : j < a
    · obtain ⟨b1, o1, rfl, hb1, hcell1⟩ := hrX (by omega)
      have hk := hcell1 j hja
      by_cases h0 : dg 64 N j = 0
      · have hnext : Hid (N % 2 ^ (64 * (j + 1)) = 0) := by show _ = _; rw [mod_succ, hz.out, h0]; simp
        rw [h0] at hk
        clear hrX hcell1 h0 hz
        go_wp2
        go_round
        case rel => exact ⟨j + 1, by omega, by go_num, hnext⟩
        case measure => simp [intOf]; omega
      · have hx := dg64_lt N j
        have hzz : ((dg 64 N j : Nat) : Int) ≠ 0 := by omega
        have t1 : (((dg 64 N j : Nat) : Int) != 0) = true := by simpa using h0
        have htz := tz64_any (dg 64 N j) w hx hT
        obtain ⟨m, hm1, hm2⟩ := tz_spec (dg 64 N j) hx h0
        have htN := tzN_digits N j m (tz (dg 64 N j)) hz.out hm1 hm2
        have hN0 : N ≠ 0 := by rintro rfl; rw [dg_zero] at h0; exact h0 rfl
        have E : Hid (R = decide ((s : Int) ≤ 64 * (j : Int) + (tz (dg 64 N j) : Int))) := by
          show _ = _
          rw [hR.out]
          congr 1
          refine propext ((dvd_tzN hN0).trans ?_)
          rw [htN]; omega
        have Htz := Lib.hid htz
        clear hrX hcell1 htz h0 hzz hm1 htN hN0 hz hR hT
        generalize tz (dg 64 N j) = z at *
        generalize dg 64 N j = x at *
        go_wp2_with fail
        refine Htz.out.mono ?_
        rintro e w3 ⟨rfl, rfl⟩
        clear Htz
        go_wp2
        go_ret
        exact ⟨by rw [E.out]; rfl, rfl⟩
    · obtain rfl : j = a := by omega
      have hN0 : N = 0 := by rw [← Nat.mod_eq_of_lt HN.out]; exact hz.out
      have E : Hid (R = true) := by show _ = _; rw [hR.out, hN0]; simp
      clear hrX hR hN0 hz hT
      go_wp2
      go_ret
      exact ⟨by rw [E.out]; rfl, rfl⟩

/-- shifted right; the lowest bit is 1 where a bit that fell out was -/
def jamN (N s : Nat) : Nat := if N % 2 ^ s = 0 then N / 2 ^ s else N / 2 ^ s ||| 1

theorem Fr.rd_set {k B : Nat} {w : World} {v : Value} {N n : Nat} (h : Rd k w v N n) (hf : Fr B w v) (hn : 0 < n) (d : Nat) (hd : d < 2 ^ k) :
    ∃ b c arr, v = .slice (some ⟨b, 0, none⟩) n c ∧ B ≤ b ∧ w.heap[b]? = some (.cells arr 22 (0, 0)) ∧ 0 < arr.size ∧ w.cell? ⟨b, 0, none⟩ = some (.int .u64 (dg k N 0)) ∧ w.frozen? ⟨b, 0, none⟩ = false ∧
      Rd k (w.setCell ⟨b, 0, none⟩ (.int .u64 d)) v (setDg k N 0 d) n ∧ Fr B (w.setCell ⟨b, 0, none⟩ (.int .u64 d)) v := by
  obtain ⟨A, c, rfl, h1, h2, h3, h4⟩ := h
  obtain ⟨b, o, rfl, hlt, hc⟩ := h4 hn
  obtain ⟨A', n', c', e, h0, h5⟩ := hf
  injection e with e1 e2 e3
  subst e2 e3
  rcases h5 with h5 | ⟨b', arr, e', hB, hh, hc'⟩
  · omega
  · rw [e'] at e1
    injection e1 with e1
    injection e1 with e1 e4
    subst e1 e4
    have hc0 := hc 0 hn
    rw [Nat.zero_add] at hc0
    have hsz : 0 < arr.size := by omega
    have hnew : (w.setCell ⟨b, 0, none⟩ (.int .u64 d)).heap[b]? = some (.cells (arr.set! 0 (.int .u64 d)) 22 (0, 0)) := by
      simp [World.setCell, Array.getElem?_modify, hh]
    refine ⟨b, c, arr, rfl, hB, hh, hsz, hc0, by unfold World.frozen?; simp [hh], ?_, ?_⟩
    · refine ⟨_, c, rfl, h1, h2, setDg_lt k N 0 d n h3 hn hd, fun _ => ⟨b, 0, rfl, by simp [World.setCell]; exact hlt, fun j hj => ?_⟩⟩
      unfold World.cell?
      simp only [hnew]
      have hcj := hc j hj
      unfold World.cell? at hcj
      simp only [hh] at hcj
      rw [Nat.zero_add] at hcj ⊢
      by_cases h00 : j = 0
      · subst h00
        rw [dg_setDg_same k N 0 d hd]
        simp [hsz]
      · rw [dg_setDg_other k N 0 j d hd h00, ← hcj]
        simp [Ne.symm h00]
    · exact ⟨_, n, c, rfl, h0, Or.inr ⟨b, _, rfl, hB, hnew, by simp; exact hc'⟩⟩

theorem or_one (q : Nat) : setDg 64 q 0 (dg 64 q 0 ||| 1) = q ||| 1 := by
  have h1 := setDg_add 64 q 0 (dg 64 q 0 ||| 1)
  simp only [Nat.mul_zero, Nat.pow_zero, Nat.mul_one] at h1
  have h2 : dg 64 q 0 = q % 2 ^ 64 := by unfold dg; simp
  rw [h2] at h1 ⊢
  have e1 : ∀ x : Nat, x ||| 1 = x + (1 - x % 2) := by
    intro x
    have a := Nat.two_pow_add_eq_or_of_lt (i := 1) (b := 1) (by decide) (x / 2)
    have b : x % 2 = 0 ∨ x % 2 = 1 := by omega
    have c := Nat.div_add_mod x 2
    rcases b with b | b
    · rw [Nat.pow_one] at a
      have : 2 * (x / 2) = x := by omega
      rw [this] at a
      omega
    · have e : x ||| 1 = x := by
        apply Nat.eq_of_testBit_eq
        intro i
        rw [Nat.testBit_or]
        cases i with
        | zero => simp [Nat.testBit_zero, b]
        | succ i => simp [Nat.testBit_succ]
      rw [e, b]; rfl
  rw [e1, e1] at *
  have : q % 2 ^ 64 % 2 = q % 2 := by omega
  omega

theorem or_one_lt {x : Nat} (h : x < 18446744073709551616) : x ||| 1 < 18446744073709551616 := Nat.or_lt_two_pow (n := 64) h (by decide)

theorem or_one_nd {q : Nat} (h : q ≠ 0) : nd 64 (q ||| 1) = nd 64 q := by
  have h1 := lt_nd 64 q (by decide)
  have h2 := nd_le_pow 64 q h
  have hp := nd_pos 64 q h
  refine nd_unique 64 _ _ (by decide) ?_ (Or.inr (Nat.le_trans h2 Nat.left_le_or))
  exact Nat.or_lt_two_pow h1 (Nat.one_lt_two_pow (by omega))

set_option maxRecDepth 100000 in
set_option maxHeartbeats 2000000 in
theorem Jam_any (v : Value) (N n s : Nat) (w : World) (hv : Rd 64 w v N n) (hs : s ≤ 9223372036854775807) (hT : Gl w) :
    Calls Tryz.prog 109 #[v, .int .i64 s] w fun e w' => ∃ v', e = .returned (.tuple #[v', .int .i64 0]) ∧ Rd 64 w' v' (jamN N s) (nd 64 (jamN N s)) ∧ Fr w.heap.size w' v' ∧ Below w.heap.size w w' := by
  obtain ⟨A0, c0, rfl, hc0, hcm0⟩ := hv.form
  have HT := Lib.hid hT
  clear hT
  go_enter Tryz.func109, Tryz.ntmps109
  go_wp2_with fail
  refine (right_any (.slice A0 n c0) N n s w hv hs).mono ?_
  rintro e w1 ⟨v1, rfl, h1, hF1, hb1⟩
  have HB := Lib.hid hb1
  have hT1 := (HT.out.below hb1).1
  have hv1 := hv.below hb1
  obtain ⟨q, hq⟩ : ∃ q, q = N / 2 ^ s := ⟨_, rfl⟩
  rw [← hq] at h1
  have Hq := Lib.hid hq
  clear hb1 HT hv hq
  obtain ⟨A1, c1, rfl, hc1, hcm1⟩ := h1.form
  go_wp2_with fail
  refine (divides_any (.slice A0 n c0) N n s w1 hv1 hs hT1).mono ?_
  rintro e w2 ⟨rfl, rfl⟩
  clear hT1 hv1
  by_cases hd : N % 2 ^ s = 0
  · have t1 : decide (N % 2 ^ s = 0) = true := by simp [hd]
    have E : Hid (jamN N s = q) := by show _ = _; unfold jamN; rw [if_pos hd, Hq.out]
    rw [t1]
    clear hd t1
    go_wp2
    go_ret2
    rw [E.out]
    exact ⟨_, rfl, h1, hF1, HB.out⟩
  · have t1 : decide (N % 2 ^ s = 0) = false := by simp [hd]
    have E : Hid (jamN N s = q ||| 1) := by show _ = _; unfold jamN; rw [if_neg hd, Hq.out]
    rw [t1]
    clear hd t1
    by_cases h0 : q = 0
    · have hn0 : nd 64 q = 0 := by rw [h0, nd_zero]
      rw [hn0] at *
      have E2 : Hid (jamN N s = 1) := by show _ = _; rw [E.out, h0]; rfl
      clear h0 hn0 Hq E
      go_wp2
      go_ret2
      rw [E2.out]
      have h11 : nd 64 1 = 1 := nd_word (by decide) (by decide)
      have hR := Rd.one w1 1 (by decide)
      rw [h11]
      exact ⟨_, rfl, hR, ⟨_, 1, 1, rfl, Nat.le_refl _, Or.inr ⟨w1.heap.size, _, rfl, HB.out.size, heap_alloc_at w1 _, by simp⟩⟩, HB.out.alloc HB.out.size _⟩
    · have hp := nd_pos 64 q h0
      have hz : ((nd 64 q : Int) == 0) = false := by rw [beq_eq_false_iff_ne]; omega
      obtain ⟨b, c, arr, he, hB, hh, hsz, hcell, hfr, hR2, hF2⟩ := Fr.rd_set h1 hF1 hp (dg 64 q 0 ||| 1) (Nat.or_lt_two_pow (n := 64) (dg64_lt q 0) (by decide))
      injection he with he1 he2 he3
      subst he1 he3
      rw [or_one] at hR2
      have hx := dg64_lt q 0
      have hor : bits .or .u64 ((dg 64 q 0 : Nat) : Int) 1 = ((dg 64 q 0 ||| 1 : Nat) : Int) := or_nat _ 1 hx (by decide)
      have HR2 := Lib.hid hR2
      have HF2 := Lib.hid hF2
      have E3 := Lib.hid (or_one_nd h0)
      clear h0 h1 hF1 hR2 hF2 hh hsz Hq
      generalize (dg 64 q 0 ||| 1) = y at *
      generalize dg 64 q 0 = x at *
      generalize nd 64 q = m at *
      go_wp2
      go_ret2
      rw [E.out, E3.out]
      exact ⟨_, rfl, HR2.out, HF2.out, HB.out.setCell hB _⟩

end Go.Proofs.YtlibhfojfonfjaaGreatDoor

/- Walks of layer 5: further, cut. -/
namespace Go.Proofs.YtlibhfojfonfjaaGreatDoor
set_option linter.unusedVariables false
open Go.RowKit

/-- a box of any cells -/
def Bx (w : World) (g : Nat) (arr : Array Value) : Prop := ∃ t, w.heap[g]? = some (.cells arr t (0, 0))
theorem Bx.new (w : World) (arr : Array Value) (t : TypeId) : Bx (w.alloc (.cells arr t)) w.heap.size arr := ⟨t, heap_alloc_at w _⟩
theorem Bx.below {w w' : World} {g : Nat} {arr : Array Value} (h : Bx w g arr) (hb : Below w.heap.size w w') : Bx w' g arr := by
  obtain ⟨t, h⟩ := h; exact ⟨t, (hb.block g (lt_size_of_some h)).trans h⟩
theorem Bx.cell {w : World} {g : Nat} {arr : Array Value} (h : Bx w g arr) (i : Nat) {v : Value} (hv : arr[i]? = some v) : w.cell? ⟨g, i, none⟩ = some v := by
  obtain ⟨t, h⟩ := h
  unfold World.cell?
  simp only [h]
  exact hv
theorem Bx.free {w : World} {g : Nat} {arr : Array Value} (h : Bx w g arr) (i : Nat) : w.frozen? ⟨g, i, none⟩ = false := by
  obtain ⟨t, h⟩ := h; unfold World.frozen?; simp [h]

/-- four times the quotient, with a sticky bit -/
def jN (n : Nat) (d : Int) : Nat := if 2 ≤ d then jamN n (d - 2).toNat else n * 2 ^ (2 - d).toNat

theorem or_one_eq (x : Nat) : x ||| 1 = x + (1 - x % 2) := by
  have a := Nat.two_pow_add_eq_or_of_lt (i := 1) (b := 1) (by decide) (x / 2)
  have b : x % 2 = 0 ∨ x % 2 = 1 := by omega
  have c := Nat.div_add_mod x 2
  rcases b with b | b
  · rw [Nat.pow_one] at a
    have : 2 * (x / 2) = x := by omega
    rw [this] at a
    omega
  · have e : x ||| 1 = x := by
      apply Nat.eq_of_testBit_eq
      intro i
      rw [Nat.testBit_or]
      cases i with
      | zero => simp [Nat.testBit_zero, b]
      | succ i => simp [Nat.testBit_succ]
    rw [e, b]; rfl

theorem jN_facts (n : Nat) (d : Int) : jN n d / 4 = flr n d ∧ (∀ more : Bool, (if more then jN n d % 4 ||| 1 else jN n d % 4) = rst n more d) := by
  unfold jN
  by_cases h2 : 2 ≤ d
  · rw [if_pos h2]
    obtain ⟨s, hs⟩ : ∃ s : Nat, d = s + 2 := ⟨(d - 2).toNat, by omega⟩
    subst hs
    have e1 : ((s : Int) + 2 - 2).toNat = s := by omega
    have e2 : ((s : Int) + 2).toNat = s + 2 := by omega
    have e3 : (-((s : Int) + 2)).toNat = 0 := by omega
    unfold flr rst jamN
    rw [e1, e2, e3, Nat.pow_zero, Nat.mul_one, Nat.pow_add]
    have hq := Nat.div_add_mod n (2 ^ s)
    have hl := Nat.mod_lt n (pow_pos2 s)
    have hd : n / (2 ^ s * 2 ^ 2) = n / 2 ^ s / 4 := by rw [← Nat.div_div_eq_div_mul]
    have hm : n % (2 ^ s * 2 ^ 2) = 2 ^ s * (n / 2 ^ s % 4) + n % 2 ^ s := by rw [Nat.mod_mul, show (2 : Nat) ^ 2 = 4 from rfl]; omega
    rw [hd, hm]
    generalize n / 2 ^ s = q at *
    generalize n % 2 ^ s = r at *
    have hp := pow_pos2 s
    generalize 2 ^ s = c at *
    have hk : q % 4 = 0 ∨ q % 4 = 1 ∨ q % 4 = 2 ∨ q % 4 = 3 := by omega
    constructor
    · split
      · rfl
      · rw [or_one_eq]; omega
    · intro more
      unfold cls
      by_cases h0 : r = 0
      · rw [if_pos h0, h0, Nat.add_zero]
        rcases hk with k | k | k | k <;> rw [k]
        · cases more <;> simp
        · have a1 : ¬ c * 1 = 0 := by omega
          have a2 : 2 * (c * 1) < c * 2 ^ 2 := by omega
          rw [if_neg a1, if_pos a2]; cases more <;> rfl
        · have a1 : ¬ c * 2 = 0 := by omega
          have a2 : ¬ 2 * (c * 2) < c * 2 ^ 2 := by omega
          have a3 : 2 * (c * 2) = c * 2 ^ 2 := by omega
          rw [if_neg a1, if_neg a2]; cases more <;> simp [a3]
        · have a1 : ¬ c * 3 = 0 := by omega
          have a2 : ¬ 2 * (c * 3) < c * 2 ^ 2 := by omega
          have a3 : ¬ 2 * (c * 3) = c * 2 ^ 2 := by omega
          have a4 : ¬ (2 * (c * 3) = c * 2 ^ 2 ∧ more = false) := fun h => a3 h.1
          rw [if_neg a1, if_neg a2, if_neg a4]; cases more <;> rfl
      · rw [if_neg h0, or_one_eq q]
        rcases hk with k | k | k | k <;> rw [k]
        · have e : (q + (1 - q % 2)) % 4 = 1 := by omega
          have a1 : ¬ c * 0 + r = 0 := by omega
          have a2 : 2 * (c * 0 + r) < c * 2 ^ 2 := by omega
          rw [e, if_neg a1, if_pos a2]; cases more <;> rfl
        · have e : (q + (1 - q % 2)) % 4 = 1 := by omega
          have a1 : ¬ c * 1 + r = 0 := by omega
          have a2 : 2 * (c * 1 + r) < c * 2 ^ 2 := by omega
          rw [e, if_neg a1, if_pos a2]; cases more <;> rfl
        · have e : (q + (1 - q % 2)) % 4 = 3 := by omega
          have a1 : ¬ c * 2 + r = 0 := by omega
          have a2 : ¬ 2 * (c * 2 + r) < c * 2 ^ 2 := by omega
          have a3 : ¬ 2 * (c * 2 + r) = c * 2 ^ 2 := by omega
          have a4 : ¬ (2 * (c * 2 + r) = c * 2 ^ 2 ∧ more = false) := fun h => a3 h.1
          rw [e, if_neg a1, if_neg a2, if_neg a4]; cases more <;> rfl
        · have e : (q + (1 - q % 2)) % 4 = 3 := by omega
          have a1 : ¬ c * 3 + r = 0 := by omega
          have a2 : ¬ 2 * (c * 3 + r) < c * 2 ^ 2 := by omega
          have a3 : ¬ 2 * (c * 3 + r) = c * 2 ^ 2 := by omega
          have a4 : ¬ (2 * (c * 3 + r) = c * 2 ^ 2 ∧ more = false) := fun h => a3 h.1
          rw [e, if_neg a1, if_neg a2, if_neg a4]; cases more <;> rfl
  · rw [if_neg h2]
    by_cases h1 : d = 1
    · subst h1
      unfold flr rst cls
      rw [show ((2 : Int) - 1).toNat = 1 by omega, show ((1 : Int)).toNat = 1 by omega, show (-(1 : Int)).toNat = 0 by omega, Nat.pow_zero, Nat.mul_one, Nat.pow_one]
      refine ⟨by omega, fun more => ?_⟩
      rcases (show n % 2 = 0 ∨ n % 2 = 1 by omega) with k | k
      · have e : n * 2 % 4 = 0 := by omega
        rw [k, e]; cases more <;> rfl
      · have e : n * 2 % 4 = 2 := by omega
        rw [k, e]; cases more <;> rfl
    · obtain ⟨t, ht⟩ : ∃ t : Nat, d = -(t : Int) := ⟨(-d).toNat, by omega⟩
      subst ht
      unfold flr rst cls
      rw [show (2 - -(t : Int)).toNat = t + 2 by omega, show (-(t : Int)).toNat = 0 by omega, show (- -(t : Int)).toNat = t by omega, Nat.pow_zero, Nat.div_one, Nat.mod_one, Nat.pow_add, ← Nat.mul_assoc]
      generalize n * 2 ^ t = x
      refine ⟨by omega, fun more => ?_⟩
      have e : x * 2 ^ 2 % 4 = 0 := by omega
      rw [e]; cases more <;> rfl

theorem further_any (m : Nat) (neg odd : Bool) (r : Nat) (w : World) (hm : m ≤ 5) (h1 : 1 ≤ r) (h3 : r ≤ 3) :
    Calls Tryz.prog 111 #[.int .i64 m, .bool neg, .bool odd, .int .u64 r] w fun e w' => e = .returned (.bool (upB m neg odd r)) ∧ w = w' := by
  have hm' : m = 0 ∨ m = 1 ∨ m = 2 ∨ m = 3 ∨ m = 4 ∨ m = 5 := by omega
  have hr' : r = 1 ∨ r = 2 ∨ r = 3 := by omega
  rcases hm' with rfl | rfl | rfl | rfl | rfl | rfl <;> rcases hr' with rfl | rfl | rfl <;> cases neg <;> cases odd
  all_goals
    go_enter Tryz.func111, Tryz.ntmps111
    go_wp2
    go_ret
    exact ⟨rfl, rfl⟩

end Go.Proofs.YtlibhfojfonfjaaGreatDoor

/- Walks of layer 5: cut. -/
namespace Go.Proofs.YtlibhfojfonfjaaGreatDoor
set_option linter.unusedVariables false
open Go.RowKit

/-- a number under rounding, as cells -/
def numA (neg : Bool) (x : Value) (e : Int) (more : Bool) : Array Value := #[.bool neg, x, .int .i64 e, .bool more]

theorem Jam_int (v : Value) (N n : Nat) (t : Int) (w : World) (hv : Rd 64 w v N n) (h0 : 0 ≤ t) (hs : t ≤ 9223372036854775807) (hT : Gl w) :
    Calls Tryz.prog 109 #[v, .int .i64 t] w fun e w' => ∃ v', e = .returned (.tuple #[v', .int .i64 0]) ∧ Rd 64 w' v' (jamN N t.toNat) (nd 64 (jamN N t.toNat)) ∧ Fr w.heap.size w' v' ∧ Below w.heap.size w w' := by
  obtain ⟨s, rfl⟩ := Int.eq_ofNat_of_zero_le h0
  exact Jam_any v N n s w hv (by omega) hT

theorem Shl_int (v : Value) (N n : Nat) (t : Int) (w : World) (hv : Rd 64 w v N n) (h0 : 0 ≤ t) (hs : t ≤ 65536) (hn : n ≤ 1000000) (hN : nd 64 N ≤ 1024) (hNs : nd 64 (N * 2 ^ t.toNat) ≤ 1024) :
    Calls Tryz.prog 110 #[v, .int .i64 t] w fun e w' => ∃ v', e = .returned (.tuple #[v', .int .i64 0]) ∧ Rd 64 w' v' (N * 2 ^ t.toNat) (nd 64 (N * 2 ^ t.toNat)) ∧ Fr w.heap.size w' v' ∧ Below w.heap.size w w' := by
  obtain ⟨s, rfl⟩ := Int.eq_ofNat_of_zero_le h0
  exact Shl_ok v N n s w hv (by omega) hn hN hNs

theorem dg0_mod4 (J : Nat) : dg 64 J 0 % 4 = J % 4 := by unfold dg; rw [Nat.mul_zero, Nat.pow_zero, Nat.div_one]; omega
theorem dg0_mod2 (J : Nat) : dg 64 J 0 % 2 = J % 2 := by unfold dg; rw [Nat.mul_zero, Nat.pow_zero, Nat.div_one]; omega

theorem beq_one (z : Nat) : ((z : Int) == 1) = decide (z = 1) := by
  by_cases h : z = 1
  · subst h; rfl
  · simp [h]; omega

theorem jamN_lt (n s k : Nat) (h : n < 2 ^ k) (hk : 1 ≤ k) : jamN n s < 2 ^ k := by
  have h1 := Nat.lt_of_le_of_lt (Nat.div_le_self n (2 ^ s)) h
  unfold jamN; split
  · exact h1
  · exact Nat.or_lt_two_pow h1 (Nat.one_lt_two_pow (by omega))

set_option maxRecDepth 100000 in
set_option maxHeartbeats 8000000 in
theorem cut_any (neg : Bool) (A : Option Addr) (n nn c : Nat) (e q : Int) (more : Bool) (m : Nat) (w : World) (hv : Rd 64 w (.slice A nn c) n nn) (hm : m ≤ 5) (hnn : nn ≤ 1024) (he : -1000000 ≤ e ∧ e ≤ 1000000) (hq : -1000000 ≤ q ∧ q ≤ 1000000)
    (hj : q - e < 2 → 2 - (q - e) ≤ 65536 ∧ nd 64 (n * 2 ^ (2 - (q - e)).toNat) ≤ 1024) (hG : Gl w) :
    Calls Tryz.prog 96 #[.agg (numA neg (.slice A nn c) e more), .int .i64 m, .int .i64 q] w fun e' w' => ∃ v', e' = .returned (.tuple #[v', .bool (rst n more (q - e) != 0)]) ∧ Rd 64 w' v' (cutS m neg n more (q - e)) (nd 64 (cutS m neg n more (q - e))) ∧ Fr w.heap.size w' v' ∧ Below w.heap.size w w' := by
  obtain ⟨hj4, hjr⟩ := jN_facts n (q - e)
  have Hj4 := Lib.hid hj4
  have Hjr := Lib.hid (hjr more)
  have hnd := nd_le 64 n nn (by decide) hv.lt
  clear hj4 hjr
  obtain ⟨r, hr⟩ : ∃ r, r = rst n more (q - e) := ⟨_, rfl⟩
  have hr3 : r ≤ 3 := by rw [hr]; exact rst_le _ _ _
  obtain ⟨U, hU⟩ : ∃ U, U = cutS m neg n more (q - e) := ⟨_, rfl⟩
  obtain ⟨bb, hbb⟩ : ∃ bb, bb = (r != 0) := ⟨_, rfl⟩
  rw [← hr, ← hU, ← hbb]
  have Hbb := Lib.hid hbb
  clear hbb
  unfold cutS goesUp at hU
  rw [← hr] at hU Hjr
  have HU := Lib.hid hU
  clear hU hr
  obtain ⟨J, hJ⟩ : ∃ J, J = jN n (q - e) := ⟨_, rfl⟩
  rw [← hJ] at Hj4 Hjr
  have hJJ := hJ
  unfold jN at hJJ
  have HJ := Lib.hid hJJ
  obtain ⟨K, hK⟩ : ∃ K, K = 1024 := ⟨_, rfl⟩
  have hJlt : J < 2 ^ (64 * K) := by
    rw [hJJ]
    split
    · exact jamN_lt _ _ _ (Nat.lt_of_lt_of_le hv.lt (Nat.pow_le_pow_right (by decide) (by omega))) (by omega)
    · rename_i h; exact Nat.lt_of_lt_of_le (lt_nd 64 _ (by decide)) (Nat.pow_le_pow_right (by decide) (by have := (hj (by omega)).2; omega))
  have hfl9 : nd 64 (flr n (q - e)) ≤ 1024 := by rw [← Hj4.out, ← hK]; exact nd_le 64 _ _ (by decide) (Nat.lt_of_le_of_lt (Nat.div_le_self _ _) hJlt)
  clear hJ hJJ hJlt hK
  have Hv := Lib.hid hv
  have HG := Lib.hid hG
  have b0 := Bx.new w (numA neg (.slice A nn c) e more) 116
  have hb0 := below1 w (.cells (numA neg (.slice A nn c) e more) 116)
  obtain ⟨W, hW⟩ : ∃ W, W = w.alloc (.cells (numA neg (.slice A nn c) e more) 116) := ⟨_, rfl⟩
  rw [← hW] at b0 hb0
  have HW := Lib.hid hW
  have HB := Lib.hid hb0
  have B0 := Lib.hid b0
  have k0 := b0.cell 0 (show (numA neg (.slice A nn c) e more)[0]? = some (.bool neg) from rfl)
  have k1 := b0.cell 1 (show (numA neg (.slice A nn c) e more)[1]? = some (.slice A nn c) from rfl)
  have k2 := b0.cell 2 (show (numA neg (.slice A nn c) e more)[2]? = some (.int .i64 e) from rfl)
  have k3 := b0.cell 3 (show (numA neg (.slice A nn c) e more)[3]? = some (.bool more) from rfl)
  clear hv hG b0 hb0
  unfold numA at hW
  unfold numA
  go_enter Tryz.func96, Tryz.ntmps96
  go_upto_region 2 with (fail)
  rw [← hW]
  clear hW
  go_upto_if 17 with (fail)
  go_cut [8] from 17 (fun v8 wx => Rd 64 wx v8 J (nd 64 J) ∧ Fr W.heap.size wx v8 ∧ Below W.heap.size W wx)
  case first =>
    by_cases hd : 2 ≤ q - e
    · have E : Hid (J = jamN n (q - e - 2).toNat) := by show _ = _; rw [HJ.out, if_pos hd]
      go_wp2_with fail
      refine (Jam_int (.slice A nn c) n nn (q - e - 2) W (Hv.out.below HB.out) (by omega) (by omega) (HG.out.below HB.out)).mono ?_
      rintro _ w2 ⟨v2, rfl, h2, hF2, hb2⟩
      rw [← E.out] at h2
      clear E
      go_wp2_with fail
      go_meet
      case rel => exact ⟨h2, hF2, hb2⟩
    · have E : Hid (J = n * 2 ^ (2 - (q - e)).toNat) := by show _ = _; rw [HJ.out, if_neg hd]
      have hjj := hj (by omega)
      have t1 : decide (2 ≤ q - e) = false := by simpa using hd
      have hd2 : q - e < 2 := by omega
      clear hd
      go_wp2_with fail
      refine (Shl_int (.slice A nn c) n nn (2 - (q - e)) W (Hv.out.below HB.out) (by omega) hjj.1 (by omega) (by omega) hjj.2).mono ?_
      rintro _ w2 ⟨v2, rfl, h2, hF2, hb2⟩
      rw [← E.out] at h2
      clear E hjj
      go_wp2_with fail
      go_meet
      case rel => exact ⟨h2, hF2, hb2⟩
  case rest =>
    obtain ⟨jn, hjn⟩ : ∃ jn, jn = nd 64 J := ⟨_, rfl⟩
    rw [← hjn] at hcut
    have Hjn := Lib.hid hjn
    clear hjn
    obtain ⟨h2, hF2, hb2⟩ := hcut
    obtain ⟨A2, c2, rfl, hc2, hcm2⟩ := h2.form
    replace HB := Lib.hid (keep_belowB HB.out hb2 (Nat.le_refl _))
    have HBs : w.heap.size ≤ wc.heap.size := HB.out.size
    have B2 := Lib.hid (B0.out.below hb2)
    have k0 := B2.out.cell 0 (show (numA neg (.slice A nn c) e more)[0]? = some (.bool neg) from rfl)
    have k3 := B2.out.cell 3 (show (numA neg (.slice A nn c) e more)[3]? = some (.bool more) from rfl)
    have HF := Lib.hid hF2
    clear k1 k2 hF2 hb2 B0 HW HJ hj Hv hnd
    go_upto_region 6 with (fail)
    go_upto_if 42 with (fail)
    go_cut [9] from 42 (fun v9 wx => v9 = .int .u64 ((J % 4 : Nat) : Int) ∧ wx = wc)
    case first =>
      by_cases hJ0 : jn = 0
      · have e0 : J = 0 := by
          rcases Nat.eq_zero_or_pos J with h | h
          · exact h
          · have := nd_pos 64 J (by omega); have := Hjn.out; omega
        have E : Hid (J % 4 = 0) := by show _ = _; rw [e0]
        clear e0
        subst hJ0
        go_wp2_with fail
        go_meet
        case rel => exact ⟨by rw [E.out]; rfl, rfl⟩
      · obtain ⟨_, _, _, hr2⟩ := h2.at_
        obtain ⟨b, o, rfl, hb', hcell⟩ := hr2 (by omega)
        have hk := hcell 0 (by omega)
        rw [Nat.add_zero] at hk
        have hx := dg64_lt J 0
        have hand : bits .and .u64 ((dg 64 J 0 : Nat) : Int) 3 = ((J % 4 : Nat) : Int) := by
          have := bits_and_u64_nat (dg 64 J 0) 3 hx (by decide)
          have e4 : dg 64 J 0 &&& 3 = dg 64 J 0 % 2 ^ 2 := Nat.and_two_pow_sub_one_eq_mod _ 2
          rw [e4, show (2 : Nat) ^ 2 = 4 from rfl, dg0_mod4] at this
          exact this
        have hpos : 0 < jn := by omega
        clear hr2 hcell h2
        generalize dg 64 J 0 = x at *
        generalize J % 4 = y at *
        go_wp2_with fail
        go_meet
        case rel => exact ⟨rfl, rfl⟩
    case rest =>
      obtain ⟨rfl, rfl⟩ := hcut
      generalize hJ4 : J % 4 = y at *
      have HJ4 := Lib.hid hJ4
      have hy4 : y < 4 := by omega
      clear hJ4
      go_upto_region 8 with (fail)
      go_upto_if 48 with (fail)
      go_cut [9] from 48 (fun v9 wx => v9 = .int .u64 (r : Int) ∧ wx = wc)
      case first =>
        cases more
        · have E : Hid (y = r) := Hjr.out
          go_wp2_with fail
          go_meet
          case rel => exact ⟨by rw [E.out], rfl⟩
        · have E : Hid (y ||| 1 = r) := Hjr.out
          have hor : bits .or .u64 (y : Int) 1 = ((y ||| 1 : Nat) : Int) := or_nat _ 1 (by omega) (by decide)
          generalize (y ||| 1) = y2 at *
          go_wp2_with fail
          go_meet
          case rel => exact ⟨by rw [E.out], rfl⟩
      case rest =>
        obtain ⟨rfl, rfl⟩ := hcut
        have hSh := Shr_any (.slice A2 jn c2) J jn 2 wc h2 (by omega)
        rw [show J / 2 ^ 2 = J / 4 from rfl, Hj4.out] at hSh
        have HSh := Lib.hid hSh
        rw [← Hj4.out] at HU
        have hfl := Hj4.out
        obtain ⟨fl, hfl2⟩ : ∃ fl, fl = flr n (q - e) := ⟨_, rfl⟩
        rw [← hfl2] at hfl HSh hfl9
        rw [hfl] at HU
        clear hSh h2 hfl hfl2 HJ4 hy4 Hjn HF he hq Hj4
        go_wp2_with fail
        refine HSh.out.mono ?_
        rintro _ w3 ⟨v3, rfl, h3, hF3, hb3⟩
        replace HB := Lib.hid (keep_belowB HB.out hb3 (Nat.le_refl _))
        have k0 := keep_cell hb3 k0
        have HF3 := Lib.hid (hF3.mono (B' := w.heap.size) HBs)
        obtain ⟨fn, hfn⟩ : ∃ fn, fn = nd 64 fl := ⟨_, rfl⟩
        have hfs := nd_pos 64 fl
        rw [← hfn] at h3 hfs hfl9
        have Hfn := Lib.hid hfn
        clear hfn hF3 hb3 HSh
        obtain ⟨A3, c3, rfl, hc3, hcm3⟩ := h3.form
        have H3 := Lib.hid h3
        go_upto_region 11 with (fail)
        go_cut [12] from 56 (fun v12 wx => v12 = .bool (decide (fl % 2 = 1)) ∧ wx = w3)
        case first =>
          by_cases h0 : fl = 0
          · have e0 : fn = 0 := by rw [Hfn.out, h0, nd_zero]
            have E : Hid (decide (fl % 2 = 1) = false) := by show _ = _; rw [h0]; rfl
            clear h0 hfs Hfn HU H3 HF3
            subst e0
            go_wp2_with fail
            go_meet
            case rel => exact ⟨by rw [E.out], rfl⟩
          · obtain ⟨_, _, _, hr3⟩ := h3.at_
            have hpos : 0 < fn := hfs h0
            obtain ⟨b, o, rfl, hb', hcell⟩ := hr3 hpos
            have hk := hcell 0 hpos
            rw [Nat.add_zero] at hk
            have hx := dg64_lt fl 0
            have hand : bits .and .u64 ((dg 64 fl 0 : Nat) : Int) 1 = ((fl % 2 : Nat) : Int) := by
              have := bits_and_u64_nat (dg 64 fl 0) 1 hx (by decide)
              have e4 : dg 64 fl 0 &&& 1 = dg 64 fl 0 % 2 ^ 1 := Nat.and_two_pow_sub_one_eq_mod _ 1
              rw [e4, show (2 : Nat) ^ 1 = 2 from rfl, dg0_mod2] at this
              exact this
            clear hr3 hcell h3 hfs h0 HU
            generalize dg 64 fl 0 = x at *
            generalize fl % 2 = z at *
            go_wp2_with fail
            go_meet
            case rel => exact ⟨by rw [beq_one], rfl⟩
        case rest =>
          obtain ⟨rfl, rfl⟩ := hcut
          obtain ⟨od, hod⟩ : ∃ od, od = decide (fl % 2 = 1) := ⟨_, rfl⟩
          rw [← hod] at HU ⊢
          clear hod hfs h3
          by_cases h0 : r = 0
          · have E1 : Hid (U = fl) := by show _ = _; rw [HU.out, h0]; rfl
            have E2 : Hid (bb = false) := by show _ = _; rw [Hbb.out, h0]; rfl
            clear HU Hbb Hjr
            subst h0
            go_wp2_with fail
            go_ret2
            rw [E1.out, E2.out, ← Hfn.out]
            exact ⟨_, rfl, H3.out, HF3.out, HB.out⟩
          · have E2 : Hid (bb = true) := by show _ = _; rw [Hbb.out]; simpa using h0
            have t1 : ((r : Int) != 0) = true := by simpa using h0
            have hr1 : 1 ≤ r := by omega
            have hbne : (r != 0) = true := by simpa using h0
            rw [hbne, Bool.true_and] at HU
            clear Hbb h0 Hjr hbne
            go_wp2_with fail
            refine (further_any m neg od r _ hm hr1 hr3).mono ?_
            rintro _ w4 ⟨rfl, rfl⟩
            obtain ⟨ub, hub⟩ : ∃ ub, ub = upB m neg od r := ⟨_, rfl⟩
            rw [← hub] at HU ⊢
            clear hub
            cases ub
            · have E1 : Hid (U = fl) := HU.out
              clear HU
              go_wp2_with fail
              go_ret2
              rw [E1.out, E2.out, ← Hfn.out]
              exact ⟨_, rfl, H3.out, HF3.out, HB.out⟩
            · have E1 : Hid (U = fl + 1) := HU.out
              clear HU
              go_wp2_with fail
              have hR1 := Rd.one wc 1 (by decide)
              have hs9 := HB.out.size
              refine (Add_any _ _ fl fn 1 1 _ (H3.out.alloc _) hR1 (by omega) (by omega)).mono ?_
              rintro _ w5 ⟨v5, rfl, h5, hF5, hb5⟩
              replace HB := Lib.hid (keep_belowB (HB.out.alloc HB.out.size (.cells #[.int .u64 1] 22)) hb5 (Nat.le_refl _))
              have hsz := HB.out.size
              have hF5' := hF5.mono (B' := w.heap.size) (by simp; omega)
              go_wp2_with fail
              go_ret2
              rw [E1.out, E2.out]
              exact ⟨_, rfl, h5, hF5', HB.out⟩

end Go.Proofs.YtlibhfojfonfjaaGreatDoor

/- Walks of layer 5: top, tiny, modeError, refuses, beyond. -/
namespace Go.Proofs.YtlibhfojfonfjaaGreatDoor
set_option linter.unusedVariables false
open Go.RowKit

set_option maxRecDepth 100000 in
set_option maxHeartbeats 1000000 in
theorem top_num (neg : Bool) (A : Option Addr) (n nn c : Nat) (e : Int) (more : Bool) (w : World) (hv : Rd 64 w (.slice A nn c) n nn) (hnn : nn ≤ 1024) (he : -1000000 ≤ e ∧ e ≤ 1000000) :
    Calls Tryz.prog 94 #[.agg (numA neg (.slice A nn c) e more)] w fun e' w' => e' = .returned (.int .i64 (topE n e)) ∧ Below w.heap.size w w' := by
  have hbl := bl_le_of_lt hv.lt
  have hal := below1 w (.cells (numA neg (.slice A nn c) e more) 116)
  have hL := fun wx (h : Rd 64 wx (.slice A nn c) n nn) => Len_any (.slice A nn c) n nn wx h
  have HL := Lib.hid hL
  have hv2 := hv.below hal
  have w1 : IntKind.i64.wrap (e + (bl n : Int)) = e + (bl n : Int) := IntWalk.i64_in _ (by omega)
  have w2 : IntKind.i64.wrap (e + (bl n : Int) - 1) = e + (bl n : Int) - 1 := IntWalk.i64_in _ (by omega)
  obtain ⟨T, hT⟩ : ∃ T, T = topE n e := ⟨_, rfl⟩
  rw [← hT]
  unfold topE at hT
  have HT := Lib.hid hT
  unfold numA at hal hv2
  have HA := Lib.hid hal
  clear hL hv hT hal hbl
  unfold numA
  go_enter Tryz.func94, Tryz.ntmps94
  go_wp2
  go_quiet ((go_at_call 48; exact quiet_eq (HL.out _ hv2)))
  clear w1 w2
  go_wp2
  go_ret
  exact ⟨by rw [HT.out]; rfl, below_drewN HA.out _⟩

theorem modeError_any (m : Int) (w : World) : Calls Tryz.prog 93 #[.int .i64 m] w fun e w' => e = .returned (.int .i64 (if m < 0 ∨ 5 < m then 3 else 0)) ∧ w = w' := by
  obtain ⟨R, hR⟩ : ∃ R : Int, R = if m < 0 ∨ 5 < m then 3 else 0 := ⟨_, rfl⟩
  rw [← hR]
  by_cases h : m < 0
  · have E : Hid (R = 3) := by show _ = _; rw [hR, if_pos (Or.inl h)]
    clear hR
    go_enter Tryz.func93, Tryz.ntmps93
    go_wp2
    go_ret
    exact ⟨by rw [E.out]; rfl, rfl⟩
  · have t1 : decide (m < 0) = false := by simpa using h
    by_cases h5 : 5 < m
    · have E : Hid (R = 3) := by show _ = _; rw [hR, if_pos (Or.inr h5)]
      clear hR h
      go_enter Tryz.func93, Tryz.ntmps93
      go_wp2
      go_ret
      exact ⟨by rw [E.out]; rfl, rfl⟩
    · have t2 : decide (5 < m) = false := by simpa using h5
      have E : Hid (R = 0) := by show _ = _; rw [hR, if_neg (by omega)]
      clear hR h h5
      go_enter Tryz.func93, Tryz.ntmps93
      go_wp2
      go_ret
      exact ⟨by rw [E.out]; rfl, rfl⟩

set_option maxHeartbeats 1000000 in
theorem beyond_any (f m : Nat) (neg : Bool) (w : World) (hf : f < 4) (hm : m ≤ 5) (hG : GlR w) : Calls Tryz.prog 95 #[.int .i64 f, .int .i64 m, .bool neg] w fun e w' => e = .returned (.int .u64 (beyondS (fm f) m neg : Int)) ∧ Below w.heap.size w w' := by
  have h1 := Inf_ok f neg w hf hG
  have h2 := Great_ok f neg w hf hG
  have H1 := Lib.hid h1
  have H2 := Lib.hid h2
  obtain ⟨R, hR⟩ : ∃ R, R = beyondS (fm f) m neg := ⟨_, rfl⟩
  rw [← hR]
  unfold beyondS at hR
  have HR := Lib.hid hR
  clear h1 h2 hR hG
  have hm' : m = 0 ∨ m = 1 ∨ m = 2 ∨ m = 3 ∨ m = 4 ∨ m = 5 := by omega
  rcases hm' with rfl | rfl | rfl | rfl | rfl | rfl <;> cases neg
  all_goals
    have E := HR.out
    simp only [infB] at E
    have HE := Lib.hid E
    clear E HR
    go_enter Tryz.func95, Tryz.ntmps95
    go_wp2_with fail
    first
      | (refine H1.out.mono ?_
         rintro _ w1 ⟨rfl, hb1⟩
         clear H1 H2
         go_wp2
         go_ret
         exact ⟨by rw [HE.out]; rfl, hb1⟩)
      | (refine H2.out.mono ?_
         rintro _ w1 ⟨rfl, hb1⟩
         clear H1 H2
         go_wp2
         go_ret
         exact ⟨by rw [HE.out]; rfl, hb1⟩)

end Go.Proofs.YtlibhfojfonfjaaGreatDoor

/- Walks of layer 5: refuses. -/
namespace Go.Proofs.YtlibhfojfonfjaaGreatDoor
set_option linter.unusedVariables false
open Go.RowKit

/-- the error of a format and a mode -/
def rfS (f m : Int) : Int := if f < 0 ∨ 4 ≤ f then 2 else if m < 0 ∨ 5 < m then 3 else 0

theorem rfS_ok {f m : Int} (h : rfS f m = 0) : ∃ n k : Nat, f = n ∧ n < 4 ∧ m = k ∧ k ≤ 5 := by
  unfold rfS at h
  split at h
  · omega
  · split at h
    · omega
    · exact ⟨f.toNat, m.toNat, by omega, by omega, by omega, by omega⟩
theorem rfS_of {n k : Nat} (h : n < 4) (hk : k ≤ 5) : rfS n k = 0 := by
  unfold rfS; rw [if_neg (by omega), if_neg (by omega)]

theorem modeError_below (m : Int) (c : Int) (w : World) (hc : Hid (c = if m < 0 ∨ 5 < m then 3 else 0)) : Calls Tryz.prog 93 #[.int .i64 m] w fun e w' => e = .returned (.int .i64 c) ∧ Below w.heap.size w w' :=
  (modeError_any m w).mono fun e w' ⟨he, hw⟩ => ⟨by rw [hc.out]; exact he, by subst hw; exact Below.refl _ _⟩

theorem Bx.set4 {w : World} {g : Nat} {a b c d : Value} (h : Bx w g #[a, b, c, d]) (x0 x1 x2 x3 : Value) : Bx ((((w.setCell ⟨g, 0, none⟩ x0).setCell ⟨g, 1, none⟩ x1).setCell ⟨g, 2, none⟩ x2).setCell ⟨g, 3, none⟩ x3) g #[x0, x1, x2, x3] := by
  obtain ⟨t, h⟩ := h
  refine ⟨t, ?_⟩
  simp [World.setCell, Array.getElem?_modify, h]

theorem keep_free {W w1 : World} {b o : Nat} (hb : Below W.heap.size W w1) (hlt : b < W.heap.size) (h : W.frozen? ⟨b, o, none⟩ = false) : w1.frozen? ⟨b, o, none⟩ = false := (hb.frozen (p := ⟨b, o, none⟩) hlt).trans h

set_option maxRecDepth 100000 in
set_option maxHeartbeats 2000000 in
theorem refuses_m (f : Nat) (m : Int) (w : World) (hf : f < 4) (hG : GlR w) : Calls Tryz.prog 75 #[.int .i64 f, .int .i64 m] w fun e w' => e = .returned (.tuple #[PV (fm f), .int .i64 (rfS f m)]) ∧ Below w.heap.size w w' := by
  have e0 : rfS f m = if m < 0 ∨ 5 < m then 3 else 0 := by unfold rfS; rw [if_neg (by omega)]
  generalize rfS f m = c at *
  have Hc := Lib.hid e0
  clear e0
  have hP := fun wx h => Params_ok f wx hf h
  obtain ⟨F, hF⟩ : ∃ F, F = fm f := ⟨_, rfl⟩
  rw [← hF] at hP ⊢
  clear hF
  have hb0 := below1 w (Obj.cells #[.int .i64 0, .int .i64 0, .int .i64 0, .int .i64 0] 65)
  have br := Bx.new w #[.int .i64 0, .int .i64 0, .int .i64 0, .int .i64 0] 65
  go_enter Tryz.func75, Tryz.ntmps75
  go_wp2_with fail
  refine (hP _ (hG.below hb0)).mono ?_
  rintro _ w1 ⟨rfl, hb1⟩
  replace br := br.below hb1
  have HB := Lib.hid (keep_belowB hb0 hb1 (Nat.le_refl _))
  have hz := hb1.size
  simp at hz
  clear hb1 hb0 hG hP
  unfold PV
  obtain ⟨W, hW⟩ : ∃ W, W = w1.alloc (Obj.cells #[.int .i64 F.w, .int .i64 F.p, .int .i64 F.emin, .int .i64 F.emax] 65) := ⟨_, rfl⟩
  have hWb : Below w1.heap.size w1 W := by rw [hW]; exact below1 ..
  have bx : BxP F W w1.heap.size := by rw [hW]; exact BxP.new ..
  replace HB := Lib.hid (HB.out.trans (hWb.mono HB.out.size))
  have brW := br.below hWb
  obtain ⟨k0, k1, k2, k3⟩ := bx.cells
  have r0 := brW.cell 0 (show (#[Value.int .i64 0, .int .i64 0, .int .i64 0, .int .i64 0] : Array Value)[0]? = some (.int .i64 0) from rfl)
  have r1 := brW.cell 1 (show (#[Value.int .i64 0, .int .i64 0, .int .i64 0, .int .i64 0] : Array Value)[1]? = some (.int .i64 0) from rfl)
  have r2 := brW.cell 2 (show (#[Value.int .i64 0, .int .i64 0, .int .i64 0, .int .i64 0] : Array Value)[2]? = some (.int .i64 0) from rfl)
  have r3 := brW.cell 3 (show (#[Value.int .i64 0, .int .i64 0, .int .i64 0, .int .i64 0] : Array Value)[3]? = some (.int .i64 0) from rfl)
  have f0 := brW.free 0
  have f1 := brW.free 1
  have f2 := brW.free 2
  have f3 := brW.free 3
  have hlt : w.heap.size < W.heap.size := lt_size_of_some brW.choose_spec
  have BR := Lib.hid brW
  clear bx br brW hWb
  go_upto_region 4 with (fail)
  rw [← hW]
  clear hW
  have hcall : Calls Tryz.prog 93 #[.int .i64 m] W.drew fun e w' => e = .returned (.int .i64 c) ∧ w' = W.drew := (modeError_any m _).mono fun e w' ⟨he, hw⟩ => ⟨by rw [Hc.out]; exact he, hw.symm⟩
  refine wp_region_still_tail 3 (by kernel_rfl) (by kernel_rfl) ?_
  simp only [List.take_succ_cons, List.take_zero, List.drop_succ_cons, List.drop_zero]
  still_step
  still_step
  still_call hcall
  refine wpStill_nil ?_
  change wpList _ _ _ _ _ W.drew
  clear hcall
  obtain ⟨X, hX⟩ : ∃ X, X = W.drew := ⟨_, rfl⟩
  rw [← hX]
  replace HB : Hid (Below w.heap.size w X) := by show Below _ _ _; rw [hX]; exact HB.out.drew
  replace BR : Hid (Bx X w.heap.size #[.int .i64 0, .int .i64 0, .int .i64 0, .int .i64 0]) := by show Bx _ _ _; rw [hX]; exact BR.out
  have r0 : X.cell? ⟨w.heap.size, 0, none⟩ = some (.int .i64 0) := by rw [hX]; exact r0
  have r1 : X.cell? ⟨w.heap.size, 1, none⟩ = some (.int .i64 0) := by rw [hX]; exact r1
  have r2 : X.cell? ⟨w.heap.size, 2, none⟩ = some (.int .i64 0) := by rw [hX]; exact r2
  have r3 : X.cell? ⟨w.heap.size, 3, none⟩ = some (.int .i64 0) := by rw [hX]; exact r3
  have f0 := BR.out.free 0
  have f1 := BR.out.free 1
  have f2 := BR.out.free 2
  have f3 := BR.out.free 3
  have b4 := BR.out.set4 (.int .i64 F.w) (.int .i64 F.p) (.int .i64 F.emin) (.int .i64 F.emax)
  have s0 := b4.cell 0 (show (#[Value.int .i64 F.w, .int .i64 F.p, .int .i64 F.emin, .int .i64 F.emax] : Array Value)[0]? = some (.int .i64 F.w) from rfl)
  have s1 := b4.cell 1 (show (#[Value.int .i64 F.w, .int .i64 F.p, .int .i64 F.emin, .int .i64 F.emax] : Array Value)[1]? = some (.int .i64 F.p) from rfl)
  have s2 := b4.cell 2 (show (#[Value.int .i64 F.w, .int .i64 F.p, .int .i64 F.emin, .int .i64 F.emax] : Array Value)[2]? = some (.int .i64 F.emin) from rfl)
  have s3 := b4.cell 3 (show (#[Value.int .i64 F.w, .int .i64 F.p, .int .i64 F.emin, .int .i64 F.emax] : Array Value)[3]? = some (.int .i64 F.emax) from rfl)
  clear hX k0 k1 k2 k3 b4
  go_wp2
  refine bodyPost_ret (v := .tuple #[.agg #[.int .i64 F.w, .int .i64 F.p, .int .i64 F.emin, .int .i64 F.emax], .int .i64 c]) (by simp [results, Tryz.results75, go_sem, s0, s1, s2, s3]) rfl ?_
  exact ⟨rfl, (((HB.out.setCell (Nat.le_refl _) _).setCell (Nat.le_refl _) _).setCell (Nat.le_refl _) _).setCell (Nat.le_refl _) _⟩

set_option maxHeartbeats 1000000 in
theorem refuses_f (f m : Int) (w : World) (hf : f < 0 ∨ 4 ≤ f) : Calls Tryz.prog 75 #[.int .i64 f, .int .i64 m] w fun e w' => e = .returned (.tuple #[PV0, .int .i64 (rfS f m)]) ∧ Below w.heap.size w w' := by
  have e0 : rfS f m = 2 := by unfold rfS; rw [if_pos hf]
  rw [e0]
  have hb0 := below1 w (Obj.cells #[.int .i64 0, .int .i64 0, .int .i64 0, .int .i64 0] 65)
  have br := Bx.new w #[.int .i64 0, .int .i64 0, .int .i64 0, .int .i64 0] 65
  go_enter Tryz.func75, Tryz.ntmps75
  go_wp2_with fail
  refine (Params_bad f _ hf).mono ?_
  rintro _ w1 ⟨rfl, hb1⟩
  replace br := br.below hb1
  have HB := Lib.hid (keep_belowB hb0 hb1 (Nat.le_refl _))
  have hz := hb1.size
  simp at hz
  unfold PV0
  have BR := Lib.hid (br.below (below1 w1 (Obj.cells #[.int .i64 0, .int .i64 0, .int .i64 0, .int .i64 0] 65)))
  replace HB := Lib.hid (HB.out.trans ((below1 w1 (Obj.cells #[.int .i64 0, .int .i64 0, .int .i64 0, .int .i64 0] 65)).mono HB.out.size))
  obtain ⟨X, hX⟩ : ∃ X, X = w1.alloc (Obj.cells #[.int .i64 0, .int .i64 0, .int .i64 0, .int .i64 0] 65) := ⟨_, rfl⟩
  rw [← hX] at BR HB
  have k0 := (Bx.new w1 #[.int .i64 0, .int .i64 0, .int .i64 0, .int .i64 0] 65).cell 0 (show (#[Value.int .i64 0, .int .i64 0, .int .i64 0, .int .i64 0] : Array Value)[0]? = some (.int .i64 0) from rfl)
  have k1 := (Bx.new w1 #[.int .i64 0, .int .i64 0, .int .i64 0, .int .i64 0] 65).cell 1 (show (#[Value.int .i64 0, .int .i64 0, .int .i64 0, .int .i64 0] : Array Value)[1]? = some (.int .i64 0) from rfl)
  have k2 := (Bx.new w1 #[.int .i64 0, .int .i64 0, .int .i64 0, .int .i64 0] 65).cell 2 (show (#[Value.int .i64 0, .int .i64 0, .int .i64 0, .int .i64 0] : Array Value)[2]? = some (.int .i64 0) from rfl)
  have k3 := (Bx.new w1 #[.int .i64 0, .int .i64 0, .int .i64 0, .int .i64 0] 65).cell 3 (show (#[Value.int .i64 0, .int .i64 0, .int .i64 0, .int .i64 0] : Array Value)[3]? = some (.int .i64 0) from rfl)
  rw [← hX] at k0 k1 k2 k3
  have r0 := BR.out.cell 0 (show (#[Value.int .i64 0, .int .i64 0, .int .i64 0, .int .i64 0] : Array Value)[0]? = some (.int .i64 0) from rfl)
  have r1 := BR.out.cell 1 (show (#[Value.int .i64 0, .int .i64 0, .int .i64 0, .int .i64 0] : Array Value)[1]? = some (.int .i64 0) from rfl)
  have r2 := BR.out.cell 2 (show (#[Value.int .i64 0, .int .i64 0, .int .i64 0, .int .i64 0] : Array Value)[2]? = some (.int .i64 0) from rfl)
  have r3 := BR.out.cell 3 (show (#[Value.int .i64 0, .int .i64 0, .int .i64 0, .int .i64 0] : Array Value)[3]? = some (.int .i64 0) from rfl)
  have f0 := BR.out.free 0
  have f1 := BR.out.free 1
  have f2 := BR.out.free 2
  have f3 := BR.out.free 3
  have b4 := BR.out.set4 (.int .i64 0) (.int .i64 0) (.int .i64 0) (.int .i64 0)
  have s0 := b4.cell 0 (show (#[Value.int .i64 0, .int .i64 0, .int .i64 0, .int .i64 0] : Array Value)[0]? = some (.int .i64 0) from rfl)
  have s1 := b4.cell 1 (show (#[Value.int .i64 0, .int .i64 0, .int .i64 0, .int .i64 0] : Array Value)[1]? = some (.int .i64 0) from rfl)
  have s2 := b4.cell 2 (show (#[Value.int .i64 0, .int .i64 0, .int .i64 0, .int .i64 0] : Array Value)[2]? = some (.int .i64 0) from rfl)
  have s3 := b4.cell 3 (show (#[Value.int .i64 0, .int .i64 0, .int .i64 0, .int .i64 0] : Array Value)[3]? = some (.int .i64 0) from rfl)
  clear hb1 hb0 hf br b4
  go_upto_region 3 with (fail)
  rw [← hX]
  clear hX
  go_wp2
  refine bodyPost_ret (v := .tuple #[.agg #[.int .i64 0, .int .i64 0, .int .i64 0, .int .i64 0], .int .i64 2]) (by simp [results, Tryz.results75, go_sem, s0, s1, s2, s3]) rfl ?_
  exact ⟨rfl, (((HB.out.setCell (Nat.le_refl _) _).setCell (Nat.le_refl _) _).setCell (Nat.le_refl _) _).setCell (Nat.le_refl _) _⟩

end Go.Proofs.YtlibhfojfonfjaaGreatDoor

/- Walks of layer 5: tiny. -/
namespace Go.Proofs.YtlibhfojfonfjaaGreatDoor
set_option linter.unusedVariables false
open Go.RowKit

theorem cut_room (F : Fm) (ok : F.Ok) (n : Nat) (e q : Int) (h0 : n ≠ 0) (hq : topE n e - F.p + 1 ≤ q) (h2 : q - e < 2) : 2 - (q - e) ≤ 65536 ∧ nd 64 (n * 2 ^ (2 - (q - e)).toNat) ≤ 1024 := by
  have h1 := topE_ge n e h0
  have hp := ok.p53
  have hb := bl_lt n
  have hbp := bl_pos n h0
  unfold topE at *
  refine ⟨by omega, ?_⟩
  have : n * 2 ^ (2 - (q - e)).toNat < 2 ^ (64 * 1) := by
    refine Nat.lt_of_lt_of_le (Nat.mul_lt_mul_of_pos_right hb (pow_pos2 _)) ?_
    rw [← Nat.pow_add]
    exact Nat.pow_le_pow_right (by decide) (by omega)
  have := nd_le 64 _ 1 (by decide) this
  omega

theorem flr_lt_p (F : Fm) (n : Nat) (e q : Int) (h0 : n ≠ 0) (hq : topE n e - F.p + 1 ≤ q) : flr n (q - e) < 2 ^ F.p := by
  obtain ⟨L, hL1, hL2⟩ : ∃ L : Int, L ≤ e ∧ L ≤ q := ⟨min e q, by omega, by omega⟩
  have ht := topE_ge n e h0
  obtain ⟨a1, a2⟩ := flr_units n e q L hL1 hL2
  obtain ⟨b1, b2⟩ := top_units n e L h0 hL1
  have e1 : (topE n e - L).toNat + 1 ≤ F.p + (q - L).toNat := by omega
  have e2 := Nat.pow_le_pow_right (show 0 < 2 by decide) e1
  rw [Nat.pow_add 2 F.p] at e2
  exact Nat.lt_of_mul_lt_mul_right (Nat.lt_of_le_of_lt a1 (Nat.lt_of_lt_of_le b2 e2))

theorem cut_le_p (F : Fm) (m : Nat) (neg : Bool) (n : Nat) (e q : Int) (more : Bool) (h0 : n ≠ 0) (hq : topE n e - F.p + 1 ≤ q) : cutS m neg n more (q - e) ≤ 2 ^ F.p ∧ bl (cutS m neg n more (q - e)) ≤ F.p + 1 := by
  have h := flr_lt_p F n e q h0 hq
  have h1 : cutS m neg n more (q - e) ≤ 2 ^ F.p := by unfold cutS; split <;> omega
  exact ⟨h1, bl_le_of_lt (Nat.lt_of_le_of_lt h1 (Nat.pow_lt_pow_right (by decide) (Nat.lt_succ_self _)))⟩

def tinyB (F : Fm) (m : Nat) (neg : Bool) (n : Nat) (e : Int) (more : Bool) : Bool := decide (topE n e < F.emin) && decide (topE n e - F.p + bl (cutS m neg n more (topE n e - F.p + 1 - e)) < F.emin)

theorem Bx.num {w : World} {g : Nat} {neg : Bool} {x : Value} {e : Int} {more : Bool} (h : Bx w g (numA neg x e more)) : w.cell? ⟨g, 0, none⟩ = some (.bool neg) ∧ w.cell? ⟨g, 1, none⟩ = some x ∧ w.cell? ⟨g, 2, none⟩ = some (.int .i64 e) ∧ w.cell? ⟨g, 3, none⟩ = some (.bool more) :=
  ⟨h.cell 0 rfl, h.cell 1 rfl, h.cell 2 rfl, h.cell 3 rfl⟩

set_option maxRecDepth 100000 in
set_option maxHeartbeats 2000000 in
theorem tiny_any (F : Fm) (ok : F.Ok) (neg : Bool) (A : Option Addr) (n nn c : Nat) (e : Int) (more : Bool) (m : Nat) (w : World) (hv : Rd 64 w (.slice A nn c) n nn) (hm : m ≤ 5) (hnn : nn ≤ 1024) (he : -100000 ≤ e ∧ e ≤ 100000) (h0 : n ≠ 0) (hG : Gl w) :
    Calls Tryz.prog 97 #[.agg (numA neg (.slice A nn c) e more), PV F, .int .i64 m, .int .i64 (topE n e)] w fun e' w' => e' = .returned (.bool (tinyB F m neg n e more)) ∧ Below w.heap.size w w' := by
  obtain ⟨p8, p53, pw, w64, emx, emn, b16, b1023⟩ := id ok
  have hbl := bl_le_of_lt hv.lt
  have hbp := bl_pos n h0
  have hroom := cut_room F ok n e (topE n e - F.p + 1) h0 (Int.le_refl _)
  have hcl := (cut_le_p F m neg n e (topE n e - F.p + 1) more h0 (Int.le_refl _)).2
  have hT1 : e ≤ topE n e := topE_ge n e h0
  have hT2 : topE n e ≤ 200000 := by unfold topE; omega
  have hem : -1022 ≤ F.emin ∧ F.emin ≤ -14 := by omega
  obtain ⟨hem1, hem2⟩ := hem
  obtain ⟨R, hR⟩ : ∃ R, R = tinyB F m neg n e more := ⟨_, rfl⟩
  rw [← hR]
  unfold tinyB at hR
  have HR := Lib.hid hR
  clear hR emx emn b16 b1023 hbl hbp pw w64
  have bn := Bx.new w (numA neg (.slice A nn c) e more) 116
  have hb0 := below2 w (.cells (numA neg (.slice A nn c) e more) 116) (.cells #[.int .i64 F.w, .int .i64 F.p, .int .i64 F.emin, .int .i64 F.emax] 65)
  have bp := BxP.new F (w.alloc (.cells (numA neg (.slice A nn c) e more) 116)) 65
  obtain ⟨W, hW⟩ : ∃ W, W = (w.alloc (.cells (numA neg (.slice A nn c) e more) 116)).alloc (.cells #[.int .i64 F.w, .int .i64 F.p, .int .i64 F.emin, .int .i64 F.emax] 65) := ⟨_, rfl⟩
  have bnW := bn.below (below1 _ (.cells #[.int .i64 F.w, .int .i64 F.p, .int .i64 F.emin, .int .i64 F.emax] 65))
  rw [← hW] at bnW bp hb0
  rw [World.size_alloc] at bp
  obtain ⟨k0, k1, k2, k3⟩ := bnW.num
  obtain ⟨q0, q1, q2, q3⟩ := bp.cells
  have BP := Lib.hid bp
  have HB := Lib.hid hb0
  have Hv := Lib.hid (hv.below hb0)
  have HG := Lib.hid (hG.below hb0)
  clear bn bnW bp hb0 hv hG
  generalize hT : topE n e = T at *
  clear hT
  unfold numA at hW
  unfold numA PV
  by_cases ht : F.emin ≤ T
  · have E : Hid (R = false) := by show _ = _; rw [HR.out]; simp; omega
    go_enter Tryz.func97, Tryz.ntmps97
    go_upto_region 1 with (fail)
    rw [← hW]
    clear hW
    go_wp2_with fail
    go_ret
    exact ⟨by rw [E.out]; rfl, HB.out⟩
  · have t1 : decide (F.emin ≤ T) = false := by simpa using ht
    have E : Hid (R = decide (T - F.p + (bl (cutS m neg n more (T - F.p + 1 - e)) : Int) < F.emin)) := by
      show _ = _; rw [HR.out, decide_eq_true (show T < F.emin by omega), Bool.true_and]
    have hcut := fun wx hvx hGx => cut_any neg A n nn c e (T - F.p + 1) more m wx hvx hm hnn (by omega) (by omega) hroom hGx
    obtain ⟨U, hU⟩ : ∃ U, U = cutS m neg n more (T - F.p + 1 - e) := ⟨_, rfl⟩
    rw [← hU] at E hcut hcl
    have HC := Lib.hid hcut
    clear hcut hU ht hroom HR
    go_enter Tryz.func97, Tryz.ntmps97
    go_upto_region 1 with (fail)
    rw [← hW]
    clear hW
    go_wp2_with fail
    refine (HC.out W Hv.out HG.out).mono ?_
    rintro _ w2 ⟨v2, rfl, h2, hF2, hb2⟩
    replace HB := Lib.hid (keep_belowB HB.out hb2 (Nat.le_refl _))
    obtain ⟨q0, q1, q2, q3⟩ := (BP.out.below hb2).cells
    have hL := fun wx (h : Rd 64 wx v2 U (nd 64 U)) => Len_any v2 U (nd 64 U) wx h
    have HL := Lib.hid hL
    have x1 : IntKind.i64.wrap (T - (F.p : Int)) = T - (F.p : Int) := IntWalk.i64_in _ (by omega)
    have x2 : IntKind.i64.wrap (T - (F.p : Int) + (bl U : Int)) = T - (F.p : Int) + (bl U : Int) := IntWalk.i64_in _ (by omega)
    clear hL HC hb2 hF2 t1
    go_upto_region 4 with (fail)
    go_quiet ((go_at_call 48; exact quiet_eq (HL.out _ h2)))
    clear x1 x2
    go_wp2
    go_ret
    exact ⟨by rw [E.out]; rfl, below_drewN HB.out _⟩

end Go.Proofs.YtlibhfojfonfjaaGreatDoor

/- Walks of layer 5: into. -/
namespace Go.Proofs.YtlibhfojfonfjaaGreatDoor
set_option linter.unusedVariables false
open Go.RowKit

theorem into_def (F : Fm) (m : Nat) (neg : Bool) (n : Nat) (e : Int) (more : Bool) (U : Nat) (Q : Int) (hQ : Q = quE F n e) (hU : U = cutS m neg n more (Q - e)) :
    intoS F m neg n e more = if F.emax < topE n e then (beyondS F m neg, 20) else if F.emax < Q + bl U - 1 then (beyondS F m neg, 20) else ((Q - F.low).toNat * 2 ^ (F.p - 1) + U + F.sg neg, if rst n more (Q - e) = 0 then 0 else if tinyB F m neg n e more = true then 24 else 16) := by
  subst hQ hU
  unfold intoS tinyB
  simp only [Bool.and_eq_true, decide_eq_true_eq]

set_option maxRecDepth 100000 in
set_option maxHeartbeats 8000000 in
theorem into_any (f : Nat) (hf : f < 4) (neg : Bool) (A : Option Addr) (n nn c : Nat) (e : Int) (more : Bool) (m : Nat) (w : World) (hv : Rd 64 w (.slice A nn c) n nn) (hm : m ≤ 5) (hnn : nn ≤ 1024) (he : -100000 ≤ e ∧ e ≤ 100000) (h0 : n ≠ 0) (hG : Gl w) (hR : GlR w) :
    Calls Tryz.prog 77 #[.agg (numA neg (.slice A nn c) e more), .int .i64 f, PV (fm f), .int .i64 m] w fun e' w' => e' = .returned (.tuple #[.int .u64 ((intoS (fm f) m neg n e more).1 : Int), .int .i64 ((intoS (fm f) m neg n e more).2 : Int)]) ∧ Below w.heap.size w w' := by
  have hbey := fun wx hx => beyond_any f m neg wx hf hm hx
  obtain ⟨F, hF⟩ : ∃ F, F = fm f := ⟨_, rfl⟩
  have ok : F.Ok := by rw [hF]; exact fm_ok f
  rw [← hF] at hbey ⊢
  clear hF
  obtain ⟨p8, p53, pw, w64, emx, emn, b16, b1023⟩ := id ok
  have hp1 : 1 ≤ F.p := by omega
  have hT1 : e ≤ topE n e := topE_ge n e h0
  have hbl := bl_le_of_lt hv.lt
  have hT2 : topE n e ≤ 200000 := by unfold topE; omega
  obtain ⟨Q, hQ⟩ : ∃ Q, Q = quE F n e := ⟨_, rfl⟩
  have hQl : F.low ≤ Q := by rw [hQ]; exact quE_low F n e
  have hQt : topE n e - F.p + 1 ≤ Q := by rw [hQ]; unfold quE; omega
  have hQd : Q = max (topE n e) F.emin - F.p + 1 := hQ
  have hroom := cut_room F ok n e Q h0 hQt
  obtain ⟨hU1, hU2⟩ := cut_le_p F m neg n e Q more h0 hQt
  obtain ⟨U, hU⟩ : ∃ U, U = cutS m neg n more (Q - e) := ⟨_, rfl⟩
  have hdef := into_def F m neg n e more U Q hQ hU
  have hcut := fun wx hvx hGx => cut_any neg A n nn c e Q more m wx hvx hm hnn (by omega) (by omega) hroom hGx
  have htiny := fun wx hvx hGx => tiny_any F ok neg A n nn c e more m wx hvx hm hnn he h0 hGx
  have htop := fun wx hvx => top_num neg A n nn c e more wx hvx hnn (by omega)
  rw [← hU] at hU1 hU2 hcut
  obtain ⟨I1, hI1⟩ : ∃ I, I = (intoS F m neg n e more).1 := ⟨_, rfl⟩
  obtain ⟨I2, hI2⟩ : ∃ I, I = (intoS F m neg n e more).2 := ⟨_, rfl⟩
  rw [← hI1, ← hI2]
  rw [hdef] at hI1 hI2
  have hinf := inf_eq F ok
  have hP63 : 2 ^ (F.w - 1) ≤ 2 ^ 63 := Nat.pow_le_pow_right (by decide) (by omega)
  have hpp := pow_split F.p hp1
  have hPp := pow_pos2 (F.p - 1)
  obtain ⟨tb, htb⟩ : ∃ tb, tb = tinyB F m neg n e more := ⟨_, rfl⟩
  obtain ⟨rr, hrr⟩ : ∃ rr, rr = rst n more (Q - e) := ⟨_, rfl⟩
  obtain ⟨by1, hby1⟩ : ∃ b, b = beyondS F m neg := ⟨_, rfl⟩
  rw [← htb] at htiny hI1 hI2
  rw [← hrr] at hcut hI1 hI2
  rw [← hby1] at hbey hI1 hI2
  obtain ⟨T, hT⟩ : ∃ T, T = topE n e := ⟨_, rfl⟩
  rw [← hT] at hT1 hT2 hQd hQt hI1 hI2 htiny htop
  have HI1 := Lib.hid hI1
  have HI2 := Lib.hid hI2
  have HCut := Lib.hid hcut
  have HTiny := Lib.hid htiny
  have HTop := Lib.hid htop
  have HBey := Lib.hid hbey
  clear hI1 hI2 hcut htiny htop hbey htb hrr hby1 hT hQ hU hdef hroom hbl h0 hQt
  have bn := Bx.new w (numA neg (.slice A nn c) e more) 116
  have hb0 := below2 w (.cells (numA neg (.slice A nn c) e more) 116) (.cells #[.int .i64 F.w, .int .i64 F.p, .int .i64 F.emin, .int .i64 F.emax] 65)
  have bp := BxP.new F (w.alloc (.cells (numA neg (.slice A nn c) e more) 116)) 65
  obtain ⟨W, hW⟩ : ∃ W, W = (w.alloc (.cells (numA neg (.slice A nn c) e more) 116)).alloc (.cells #[.int .i64 F.w, .int .i64 F.p, .int .i64 F.emin, .int .i64 F.emax] 65) := ⟨_, rfl⟩
  have bnW := bn.below (below1 _ (.cells #[.int .i64 F.w, .int .i64 F.p, .int .i64 F.emin, .int .i64 F.emax] 65))
  rw [← hW] at bnW bp hb0
  rw [World.size_alloc] at bp
  obtain ⟨k0, k1, k2, k3⟩ := bnW.num
  obtain ⟨q0, q1, q2, q3⟩ := bp.cells
  have BP := Lib.hid bp
  have BN := Lib.hid bnW
  have HB := Lib.hid hb0
  have Hv := Lib.hid (hv.below hb0)
  have HG := Lib.hid (hG.below hb0)
  have HR := Lib.hid (hR.below hb0)
  have hem : -1022 ≤ F.emin ∧ F.emin ≤ -14 := by omega
  obtain ⟨hem1, hem2⟩ := hem
  have hlow : F.emin - F.p + 1 = F.low := rfl
  clear emx emn bn bnW bp hb0 hv hG hR
  unfold numA at hW
  unfold numA PV
  go_enter Tryz.func77, Tryz.ntmps77
  go_upto_region 1 with (fail)
  rw [← hW]
  clear hW
  go_wp2_with fail
  refine (HTop.out W Hv.out).mono ?_
  rintro _ w2 ⟨rfl, hb2⟩
  replace HB := Lib.hid (keep_belowB HB.out hb2 (Nat.le_refl _))
  replace Hv := Lib.hid (Hv.out.below hb2)
  replace HG := Lib.hid (HG.out.below hb2)
  replace HR := Lib.hid (HR.out.below hb2)
  replace BP := Lib.hid (BP.out.below hb2)
  replace BN := Lib.hid (BN.out.below hb2)
  obtain ⟨k0, k1, k2, k3⟩ := BN.out.num
  obtain ⟨q0, q1, q2, q3⟩ := BP.out.cells
  clear hb2 HTop
  by_cases hTop : F.emax < T
  · have E1 : Hid (I1 = by1) := by show _ = _; rw [HI1.out, if_pos hTop]
    have E2 : Hid (I2 = 20) := by show _ = _; rw [HI2.out, if_pos hTop]
    go_wp2_with fail
    refine (HBey.out w2 HR.out).mono ?_
    rintro _ w3 ⟨rfl, hb3⟩
    replace HB := Lib.hid (HB.out.trans (hb3.mono HB.out.size))
    clear hb3 HBey
    go_wp2_with fail
    go_ret2
    exact ⟨by rw [E1.out, E2.out]; rfl, HB.out⟩
  have hTop' : decide (F.emax < T) = false := by simpa using hTop
  replace HI1 := Lib.hid (HI1.out.trans (by rw [if_neg hTop]))
  replace HI2 := Lib.hid (HI2.out.trans (by rw [if_neg hTop]))
  obtain ⟨K, hK⟩ : ∃ K : Nat, Q - F.low = K := ⟨(Q - F.low).toNat, by omega⟩
  have hKn : (Q - F.low).toNat = K := by omega
  rw [hKn] at HI1 HI2
  have hKle : K ≤ (F.emax - F.p + 1 - F.low).toNat := by omega
  have hB : K * 2 ^ (F.p - 1) + U ≤ F.inf := by
    rw [hinf.1]
    have := Nat.mul_le_mul_right (2 ^ (F.p - 1)) hKle
    omega
  have hB63 : K * 2 ^ (F.p - 1) + U < 2 ^ (F.w - 1) := by omega
  obtain ⟨n1, hn1⟩ : ∃ n1, n1 = F.p - 1 := ⟨_, rfl⟩
  obtain ⟨kw, hkw⟩ : ∃ kw, kw = F.w - 1 := ⟨_, rfl⟩
  rw [← hn1, ← hkw] at hB63
  rw [← hn1] at HI1 HI2
  rw [← hkw] at hP63
  have e1 : (F.p : Int) - 1 = (n1 : Int) := by omega
  have e2 : (F.w : Int) - 1 = (kw : Int) := by omega
  have hn63 : n1 ≤ 63 := by omega
  have hkw63 : kw ≤ 63 := by omega
  have hUlt : U < 18446744073709551616 := by omega
  obtain ⟨s1, hs1⟩ : ∃ s1, s1 = K * 2 ^ n1 := ⟨_, rfl⟩
  obtain ⟨s2, hs2⟩ : ∃ s2, s2 = K * 2 ^ n1 + U := ⟨_, rfl⟩
  obtain ⟨s3, hs3⟩ : ∃ s3, s3 = 2 ^ kw := ⟨_, rfl⟩
  obtain ⟨s4, hs4⟩ : ∃ s4, s4 = s2 + s3 := ⟨_, rfl⟩
  have x1 : IntKind.u64.wrap (K : Int) = (K : Int) := by
    rw [IntKind.wrap_u64]
    have : K * 1 ≤ K * 2 ^ (F.p - 1) := Nat.mul_le_mul_left _ hPp
    omega
  have x2 : IntKind.u64.wrap ((K : Int) * 2 ^ n1) = (s1 : Int) := by rw [wrap_shl_nat, hs1, Nat.mod_eq_of_lt (by omega)]
  have x3 : IntKind.u64.wrap ((s1 : Int) + (U : Int)) = (s2 : Int) := by rw [IntKind.wrap_u64, hs1, hs2]; omega
  have x4 : IntKind.u64.wrap ((2 : Int) ^ kw) = (s3 : Int) := by
    have e0 : (2 : Int) ^ kw = ((2 ^ kw : Nat) : Int) := by simp
    rw [e0, hs3, IntKind.wrap_u64]; omega
  have x5 : bits .or .u64 (s2 : Int) (s3 : Int) = (s4 : Int) := by
    rw [or_nat _ _ (by omega) (by omega), hs4, hs3, Nat.or_comm]
    have := or_add 1 s2 kw (by omega)
    rw [Nat.one_mul] at this
    rw [this]; omega
  have hsg : F.sg neg = if neg then s3 else 0 := by unfold Fm.sg; rw [hs3, hkw]
  rw [← hs2, hsg] at HI1
  have hus : s1 + U = s2 := by omega
  have Hus := Lib.hid hus
  have Hs4 := Lib.hid hs4
  have HQd := Lib.hid hQd
  have hmx : max T F.emin - (F.p : Int) + 1 = Q := hQd.symm
  clear hsg hs1 hs2 hs3 hs4 hn1 hkw hB hB63 hKle hKn hinf hP63 hpp hPp hus hU1 hQd
  go_wp2_with fail
  refine (HCut.out w2 Hv.out HG.out).mono ?_
  rintro _ w3 ⟨v3, rfl, h3, hF3, hb3⟩
  replace HB := Lib.hid (keep_belowB HB.out hb3 (Nat.le_refl _))
  replace Hv := Lib.hid (Hv.out.below hb3)
  replace HG := Lib.hid (HG.out.below hb3)
  replace HR := Lib.hid (HR.out.below hb3)
  replace BP := Lib.hid (BP.out.below hb3)
  replace BN := Lib.hid (BN.out.below hb3)
  obtain ⟨k0, k1, k2, k3⟩ := BN.out.num
  obtain ⟨q0, q1, q2, q3⟩ := BP.out.cells
  have hUn : U = 0 ∨ nd 64 U = 1 := by
    rcases Nat.eq_zero_or_pos U with h | h
    · exact Or.inl h
    · exact Or.inr (nd_word (by omega) hUlt)
  obtain ⟨un, hun⟩ : ∃ un, un = nd 64 U := ⟨_, rfl⟩
  rw [← hun] at h3 hUn
  have Hun := Lib.hid hun
  clear hun hb3 HCut hF3
  obtain ⟨A3, c3, rfl, hc3, hcm3⟩ := h3.form
  have H3 := Lib.hid h3
  go_upto_region 8 with (fail)
  go_upto_if 58 with (fail)
  go_cut [15] from 58 (fun v15 wx => v15 = .int .u64 (s2 : Int) ∧ wx = w3)
  case first =>
    rcases hUn with hU0 | hU1
    · have e0 : un = 0 := by rw [Hun.out, hU0, nd_zero]
      have E : Hid (s1 = s2) := by show _ = _; have := Hus.out; omega
      clear Hun Hus h3 H3
      subst e0
      go_wp2_with fail
      go_meet
      case rel => exact ⟨by rw [E.out], rfl⟩
    · obtain ⟨_, _, _, hr3⟩ := h3.at_
      obtain ⟨b, o, rfl, hb', hcell⟩ := hr3 (by omega)
      have hk := hcell 0 (by omega)
      have hd : dg 64 U 0 = U := by unfold dg; rw [Nat.mul_zero, Nat.pow_zero, Nat.div_one]; exact Nat.mod_eq_of_lt hUlt
      rw [Nat.add_zero, hd] at hk
      clear hr3 hcell hd h3 H3 Hun
      subst hU1
      go_wp2_with fail
      go_meet
      case rel => exact ⟨rfl, rfl⟩
  case rest =>
    obtain ⟨rfl, rfl⟩ := hcut
    have hL := fun wx (h : Rd 64 wx (.slice A3 un c3) U un) => Len_any (.slice A3 un c3) U un wx h
    have HL := Lib.hid hL
    have hQ9 : -100000 ≤ Q ∧ Q ≤ 300000 := by have := HQd.out; omega
    have y1 : IntKind.i64.wrap (Q + (bl U : Int)) = Q + (bl U : Int) := IntWalk.i64_in _ (by omega)
    have y2 : IntKind.i64.wrap (Q + (bl U : Int) - 1) = Q + (bl U : Int) - 1 := IntWalk.i64_in _ (by omega)
    clear hL hUn Hus Hun
    have h33 := H3.out
    go_upto_region 10 with (fail)
    go_quiet ((go_at_call 48; exact quiet_eq (HL.out _ h33)))
    clear y1 y2 HL
    have HB' := Lib.hid (below_drewN HB.out nq)
    have HR' := Lib.hid (show GlR (wc.drewN nq) from HR.out)
    have HG' := Lib.hid (show Gl (wc.drewN nq) from HG.out)
    have Hv' := Lib.hid (show Rd 64 (wc.drewN nq) (.slice A nn c) n nn from Hv.out)
    have BN' := Lib.hid (show Bx (wc.drewN nq) w.heap.size (numA neg (.slice A nn c) e more) from BN.out)
    have BP' := Lib.hid (show BxP F (wc.drewN nq) (w.heap.size + 1) from BP.out)
    clear HB HR HG Hv BN BP k0 k1 k2 k3 q0 q1 q2 q3 H3 h3 h33
    generalize wc.drewN nq = w4 at *
    obtain ⟨k0, k1, k2, k3⟩ := BN'.out.num
    obtain ⟨q0, q1, q2, q3⟩ := BP'.out.cells
    by_cases hO : F.emax < Q + (bl U : Int) - 1
    · have E1 : Hid (I1 = by1) := by show _ = _; rw [HI1.out, if_pos hO]
      have E2 : Hid (I2 = 20) := by show _ = _; rw [HI2.out, if_pos hO]
      clear HI1 HI2
      go_wp2_with fail
      refine (HBey.out w4 HR'.out).mono ?_
      rintro _ w5 ⟨rfl, hb5⟩
      have HB := Lib.hid (HB'.out.trans (hb5.mono HB'.out.size))
      clear hb5 HBey
      go_wp2_with fail
      go_ret2
      exact ⟨by rw [E1.out, E2.out]; rfl, HB.out⟩
    have hO' : decide (F.emax < Q + (bl U : Int) - 1) = false := by simpa using hO
    have hO2 : decide (F.emax + 1 < Q + (bl U : Int)) = false := by simp; omega
    have hO3 : ¬ F.emax + 1 < Q + (bl U : Int) := by omega
    have hO4 : Q + (bl U : Int) - 1 ≤ F.emax := by omega
    have hO5 : ¬ F.emax < Q + (bl U : Int) - 1 := hO
    replace HI1 := Lib.hid (HI1.out.trans (by rw [if_neg hO]))
    replace HI2 := Lib.hid (HI2.out.trans (by rw [if_neg hO]))
    have HI1' : Hid (I1 = s2 + (if neg = true then s3 else 0)) := HI1.out
    have HI2' : Hid (I2 = if rr = 0 then 0 else if tb = true then 24 else 16) := HI2.out
    clear HI1 HI2 HBey
    go_upto_region 12 with (fail)
    go_upto_if 78 with (fail)
    go_cut [15, 71] from 78 (fun v15 v71 wx => v15 = .int .u64 (I1 : Int) ∧ v71 = .bool false ∧ wx = w4)
    case first =>
      cases neg
      · have E : Hid (I1 = s2) := HI1'.out
        go_wp2_with fail
        go_meet
        case rel => exact ⟨by rw [E.out], rfl, rfl⟩
      · have E : Hid (I1 = s4) := by show _ = _; rw [HI1'.out, Hs4.out]; rfl
        go_wp2_with fail
        go_meet
        case rel => exact ⟨by rw [E.out], rfl, rfl⟩
    case rest =>
      obtain ⟨rfl, rfl, rfl⟩ := hcut
      by_cases hr0 : rr = 0
      · have t1 : (rr != 0) = false := by simp [hr0]
        have E2 : Hid (I2 = 0) := by show _ = _; rw [HI2'.out, if_pos hr0]
        clear hr0
        go_wp2_with fail
        go_ret2
        exact ⟨by rw [E2.out]; rfl, HB'.out⟩
      · have t1 : (rr != 0) = true := by simp [hr0]
        have E2 : Hid (I2 = if tb = true then 24 else 16) := by show _ = _; rw [HI2'.out, if_neg hr0]
        clear hr0
        go_wp2_with fail
        refine (HTiny.out _ Hv'.out HG'.out).mono ?_
        rintro _ w5 ⟨rfl, hb5⟩
        have HB := Lib.hid (keep_belowB HB'.out hb5 (Nat.le_refl _))
        clear hb5
        cases tb
        · have E3 : Hid (I2 = 16) := E2.out
          go_wp2_with fail
          go_ret2
          exact ⟨by rw [E3.out]; rfl, HB.out⟩
        · have E3 : Hid (I2 = 24) := E2.out
          go_wp2_with fail
          go_ret2
          exact ⟨by rw [E3.out]; rfl, HB.out⟩

end Go.Proofs.YtlibhfojfonfjaaGreatDoor

/- Walks of layer 5: Parts. -/
namespace Go.Proofs.YtlibhfojfonfjaaGreatDoor
set_option linter.unusedVariables false
open Go.RowKit

/-- a number of 128 bits, as a value -/
def WV (N : Nat) : Value := .agg #[.int .u64 ((N / 18446744073709551616 : Nat) : Int), .int .u64 ((N % 18446744073709551616 : Nat) : Int)]

theorem Rd.two (w : World) (lo hi : Nat) (hlo : lo < 18446744073709551616) (hhi : hi < 18446744073709551616) (N : Nat) (hN : N = lo + hi * 18446744073709551616) : Rd 64 (w.alloc (.cells #[.int .u64 lo, .int .u64 hi] 22)) (.slice (some ⟨w.heap.size, 0, none⟩) 2 2) N 2 := by
  refine ⟨_, 2, rfl, Nat.le_refl _, by omega, by rw [hN]; show _ < 2 ^ 128; omega, fun _ => ⟨w.heap.size, 0, rfl, by simp, fun j hj => ?_⟩⟩
  rw [World.cell?_alloc_at _ _ _ _ rfl]
  rcases (show j = 0 ∨ j = 1 by omega) with rfl | rfl
  · have : dg 64 N 0 = lo := by unfold dg; rw [Nat.mul_zero, Nat.pow_zero, Nat.div_one, hN]; omega
    rw [this]; rfl
  · have : dg 64 N 1 = hi := by unfold dg; rw [hN]; show (lo + hi * 18446744073709551616) / 18446744073709551616 % 18446744073709551616 = hi; omega
    rw [this]; rfl

theorem zero_any (f : Nat) (s : Bool) (w : World) (hf : f < 4) (hG : GlR w) : Calls Tryz.prog 76 #[.int .i64 f, .bool s] w fun e w' => e = .returned (.tuple #[.int .u64 ((fm f).sg s : Int), .int .i64 0, .int .i64 0]) ∧ Below w.heap.size w w' := by
  have h := Lib.hid (Zero_ok f s w hf hG)
  obtain ⟨z, hz⟩ : ∃ z, z = (fm f).sg s := ⟨_, rfl⟩
  rw [← hz] at h ⊢
  clear hz hG
  go_enter Tryz.func76, Tryz.ntmps76
  go_wp2_with fail
  refine h.out.mono ?_
  rintro _ w1 ⟨rfl, hb1⟩
  clear h
  go_wp2
  refine bodyPost_ret (v := .tuple #[.int .u64 z, .int .i64 0, .int .i64 0]) (by simp [results, Tryz.results76, go_sem]) rfl ⟨rfl, hb1⟩

/-- what Parts answers of (N and more) * 2^e -/
def partsS (F : Fm) (m : Nat) (neg : Bool) (N : Nat) (e : Int) (more : Bool) : Nat × Nat := if N = 0 then (F.sg neg, 0) else intoS F m neg N e more

set_option maxRecDepth 100000 in
set_option maxHeartbeats 4000000 in
theorem Parts_ok (f m : Nat) (neg : Bool) (N : Nat) (e : Int) (more : Bool) (w : World) (hf : f < 4) (hm : m ≤ 5) (hN : N < 340282366920938463463374607431768211456) (he : -40000 ≤ e ∧ e ≤ 40000) (hmore : more = true → (fm f).p + 2 ≤ bl N) (hG : Gl w) (hR : GlR w) :
    Calls Tryz.prog 38 #[.int .i64 f, .int .i64 m, .bool neg, WV N, .int .i64 e, .bool more] w fun e' w' => e' = .returned (.tuple #[.int .u64 ((partsS (fm f) m neg N e more).1 : Int), .int .i64 ((partsS (fm f) m neg N e more).2 : Int), .int .i64 0]) ∧ Below w.heap.size w w' := by
  have href := fun wx hx => refuses_m f m wx hf hx
  rw [rfS_of hf hm] at href
  have hinto := fun A n' nn c wx h1 h2 h3 h4 h5 => into_any f hf neg A n' nn c e more m wx h1 hm h2 (by omega) h3 h4 h5
  have hzero := fun wx hx => zero_any f neg wx hf hx
  obtain ⟨F, hF⟩ : ∃ F, F = fm f := ⟨_, rfl⟩
  have p53 : F.p ≤ 53 := by rw [hF]; exact (fm_ok f).p53
  rw [← hF] at href hinto hmore hzero ⊢
  obtain ⟨P1, hP1⟩ : ∃ P, P = (partsS F m neg N e more).1 := ⟨_, rfl⟩
  obtain ⟨P2, hP2⟩ : ∃ P, P = (partsS F m neg N e more).2 := ⟨_, rfl⟩
  rw [← hP1, ← hP2]
  unfold partsS at hP1 hP2
  have HP1 := Lib.hid hP1
  have HP2 := Lib.hid hP2
  have HRef := Lib.hid href
  have HInto := Lib.hid hinto
  have HZero := Lib.hid hzero
  obtain ⟨hi, hhi⟩ : ∃ x, x = N / 18446744073709551616 := ⟨_, rfl⟩
  obtain ⟨lo, hlo⟩ : ∃ x, x = N % 18446744073709551616 := ⟨_, rfl⟩
  have hl1 : lo < 18446744073709551616 := by omega
  have hl2 : hi < 18446744073709551616 := by omega
  have hNe : N = lo + hi * 18446744073709551616 := by omega
  have HN := Lib.hid hNe
  unfold WV
  rw [← hhi, ← hlo]
  clear hP1 hP2 href hinto hzero hF hhi hlo hNe hN
  have hb0 := below1 w (.cells #[.int .u64 hi, .int .u64 lo] 78)
  have bw := Bx.new w #[.int .u64 hi, .int .u64 lo] 78
  have HB := Lib.hid hb0
  have BW := Lib.hid bw
  have HG := Lib.hid (hG.below hb0)
  have HR := Lib.hid (hR.below hb0)
  clear hb0 bw hG hR
  go_enter Tryz.func38, Tryz.ntmps38
  go_wp2_with fail
  refine (HRef.out _ HR.out).mono ?_
  rintro _ w1 ⟨rfl, hb1⟩
  unfold PV
  have hb1' := below1 w1 (.cells #[.int .i64 F.w, .int .i64 F.p, .int .i64 F.emin, .int .i64 F.emax] 65)
  obtain ⟨W1, hW1⟩ : ∃ W, W = w1.alloc (.cells #[.int .i64 F.w, .int .i64 F.p, .int .i64 F.emin, .int .i64 F.emax] 65) := ⟨_, rfl⟩
  rw [← hW1] at hb1'
  have hbb := keep_below hb1 hb1'
  replace HB := Lib.hid (keep_belowB (keep_belowB HB.out hb1 (Nat.le_refl _)) hb1' (Nat.le_refl _))
  replace BW := Lib.hid ((BW.out.below hb1).below hb1')
  replace HG := Lib.hid ((HG.out.below hb1).below hb1')
  replace HR := Lib.hid ((HR.out.below hb1).below hb1')
  have BP : Hid (BxP F W1 w1.heap.size) := by show BxP _ _ _; rw [hW1]; exact BxP.new ..
  have c0 := BW.out.cell 0 (show (#[Value.int .u64 hi, .int .u64 lo] : Array Value)[0]? = some (.int .u64 hi) from rfl)
  have c1 := BW.out.cell 1 (show (#[Value.int .u64 hi, .int .u64 lo] : Array Value)[1]? = some (.int .u64 lo) from rfl)
  clear hb1 hb1' hbb HRef
  go_upto_region 4 with (fail)
  rw [← hW1]
  clear hW1
  have hR2 := Rd.two W1 lo hi hl1 hl2 N HN.out
  have hba := below1 W1 (.cells #[.int .u64 lo, .int .u64 hi] 22)
  replace HB := Lib.hid (keep_belowB HB.out hba (Nat.le_refl _))
  replace BP := Lib.hid (BP.out.below hba)
  replace HG := Lib.hid (HG.out.below hba)
  replace HR := Lib.hid (HR.out.below hba)
  go_wp2_with fail
  refine (Trim_any _ N 2 _ hR2).mono ?_
  rintro _ w2 ⟨v2, rfl, h2, hF2, hb2⟩
  replace HB := Lib.hid (keep_belowB HB.out hb2 (Nat.le_refl _))
  replace BP := Lib.hid (BP.out.below hb2)
  replace HG := Lib.hid (HG.out.below hb2)
  replace HR := Lib.hid (HR.out.below hb2)
  have hn2 : nd 64 N ≤ 2 := nd_le 64 N 2 (by decide) hR2.lt
  obtain ⟨nn, hnn⟩ : ∃ nn, nn = nd 64 N := ⟨_, rfl⟩
  rw [← hnn] at h2 hn2
  have hpos := nd_pos 64 N
  rw [← hnn] at hpos
  have Hnn := Lib.hid hnn
  obtain ⟨A2, cc2, rfl, hc2, hcm2⟩ := h2.form
  have hb3 := below1 w2 (.cells (numA neg (.slice A2 nn cc2) e more) 116)
  have BN := Bx.new w2 (numA neg (.slice A2 nn cc2) e more) 116
  obtain ⟨W3, hW3⟩ : ∃ W, W = w2.alloc (.cells (numA neg (.slice A2 nn cc2) e more) 116) := ⟨_, rfl⟩
  rw [← hW3] at hb3 BN
  replace HB := Lib.hid (keep_belowB HB.out hb3 (Nat.le_refl _))
  replace BP := Lib.hid (BP.out.below hb3)
  replace HG := Lib.hid (HG.out.below hb3)
  replace HR := Lib.hid (HR.out.below hb3)
  have H2 := Lib.hid (h2.below hb3)
  obtain ⟨k0, k1, k2, k3⟩ := BN.num
  obtain ⟨q0, q1, q2, q3⟩ := BP.out.cells
  unfold numA at hW3
  clear c0 c1 BW hb2 hb3 hba hR2 hF2 h2 BN hnn HN
  have t1 : decide (e < -40000) = false := by simp; omega
  have t2 : decide (40000 < e) = false := by simp; omega
  go_upto_region 5 with (fail)
  rw [← hW3]
  clear hW3
  go_upto_region 7 with (fail)
  go_cut [46] from 47 (fun v46 wx => v46 = .bool false ∧ ∃ d, wx = W3.drewN d)
  case first =>
    cases more
    · go_quiet (fail)
      go_wp2_with fail
      go_meet
      case rel => exact ⟨rfl, nq, rfl⟩
    · have hbl := hmore rfl
      have hL := fun wx (h : Rd 64 wx (.slice A2 nn cc2) N nn) => Len_any (.slice A2 nn cc2) N nn wx h
      have HL := Lib.hid hL
      have h22 := H2.out
      have x1 : IntKind.i64.wrap ((F.p : Int) + 2) = (F.p : Int) + 2 := IntWalk.i64_in _ (by omega)
      have x2 : decide ((bl N : Int) < (F.p : Int) + 2) = false := by simp; omega
      clear hL hmore
      go_quiet ((go_at_call 48; exact quiet_eq (HL.out _ h22)))
      go_wp2_with fail
      go_meet
      case rel => exact ⟨rfl, nq, rfl⟩
  case rest =>
    obtain ⟨rfl, d, rfl⟩ := hcut
    have HB' := Lib.hid (below_drewN HB.out d)
    have HR' := Lib.hid (show GlR (W3.drewN d) from HR.out)
    have HG' := Lib.hid (show Gl (W3.drewN d) from HG.out)
    have H2' := Lib.hid (show Rd 64 (W3.drewN d) (.slice A2 nn cc2) N nn from H2.out)
    have k0' : (W3.drewN d).cell? ⟨w2.heap.size, 0, none⟩ = _ := k0
    have k1' : (W3.drewN d).cell? ⟨w2.heap.size, 1, none⟩ = _ := k1
    have k2' : (W3.drewN d).cell? ⟨w2.heap.size, 2, none⟩ = _ := k2
    have k3' : (W3.drewN d).cell? ⟨w2.heap.size, 3, none⟩ = _ := k3
    have q0' : (W3.drewN d).cell? ⟨w1.heap.size, 0, none⟩ = _ := q0
    have q1' : (W3.drewN d).cell? ⟨w1.heap.size, 1, none⟩ = _ := q1
    have q2' : (W3.drewN d).cell? ⟨w1.heap.size, 2, none⟩ = _ := q2
    have q3' : (W3.drewN d).cell? ⟨w1.heap.size, 3, none⟩ = _ := q3
    clear HB HR HG H2 k0 k1 k2 k3 q0 q1 q2 q3 hmore BP
    generalize W3.drewN d = X at *
    by_cases h0 : N = 0
    · have e0 : nn = 0 := by rw [Hnn.out, h0, nd_zero]
      have E1 : Hid (P1 = F.sg neg) := by show _ = _; rw [HP1.out, if_pos h0]
      have E2 : Hid (P2 = 0) := by show _ = _; rw [HP2.out, if_pos h0]
      clear HP1 HP2 Hnn HInto H2' hpos
      subst e0
      go_wp2_with fail
      refine (HZero.out X HR'.out).mono ?_
      rintro _ w5 ⟨rfl, hb5⟩
      have HB := Lib.hid (HB'.out.trans (hb5.mono HB'.out.size))
      rw [← E1.out]
      clear hb5 HZero E1
      go_wp2_with fail
      refine bodyPost_ret (v := .tuple #[.int .u64 P1, .int .i64 0, .int .i64 0]) (by simp [results, Tryz.results38, go_sem]) rfl ?_
      exact ⟨by rw [E2.out]; rfl, HB.out⟩
    · have hp := hpos h0
      have t3 : ((nn : Int) == 0) = false := by rw [beq_eq_false_iff_ne]; omega
      have hIn := HInto.out A2 N nn cc2 X H2'.out (by omega) h0 HG'.out HR'.out
      rw [show (intoS F m neg N e more).1 = P1 by rw [HP1.out, if_neg h0], show (intoS F m neg N e more).2 = P2 by rw [HP2.out, if_neg h0]] at hIn
      have HIn := Lib.hid hIn
      clear hIn HInto HP1 HP2 hpos h0 Hnn H2' HZero
      unfold numA PV at HIn
      go_wp2_with fail
      refine HIn.out.mono ?_
      rintro _ w5 ⟨rfl, hb5⟩
      have HB := Lib.hid (HB'.out.trans (hb5.mono HB'.out.size))
      clear hb5 HIn
      go_wp2_with fail
      refine bodyPost_ret (v := .tuple #[.int .u64 P1, .int .i64 P2, .int .i64 0]) (by simp [results, Tryz.results38, go_sem]) rfl ?_
      exact ⟨rfl, HB.out⟩

end Go.Proofs.YtlibhfojfonfjaaGreatDoor
