/- Walks of layer 2 for rounding: divides, Jam; what four times a quotient with a sticky bit tells. -/
import Derived.Test.YtcgceigmglikpaaDoorRouA
import Derived.Test.YtcgceigmglikpaaDoorDyadG
namespace Go.Proofs.YtcgceigmglikpaaDoor
set_option linter.unusedVariables false
open Go.RowKit

theorem dvd_tzN {N s : Nat} (h : N ≠ 0) : N % 2 ^ s = 0 ↔ s ≤ tzN N := by
  obtain ⟨m, hm⟩ := tzN_spec N h
  constructor
  · intro h1
    rcases Nat.lt_or_ge (tzN N) s with h2 | h2
    · exfalso
      obtain ⟨t, ht⟩ : ∃ t, s = tzN N + 1 + t := ⟨s - tzN N - 1, by omega⟩
      have h3 := Nat.div_add_mod N (2 ^ s)
      rw [h1, Nat.add_zero, ht, Nat.pow_add, Nat.pow_succ] at h3
      have h4 : 2 ^ tzN N * (2 * (2 ^ t * (N / (2 ^ tzN N * 2 * 2 ^ t)))) = 2 ^ tzN N * (2 * m + 1) := by
        rw [← hm]; rw [← h3]; grind
      have := Nat.eq_of_mul_eq_mul_left (pow_pos2 _) h4
      omega
    · exact h2
  · intro h1
    obtain ⟨t, ht⟩ : ∃ t, tzN N = s + t := ⟨tzN N - s, by omega⟩
    rw [hm, ht, Nat.pow_add, Nat.mul_assoc]
    exact Nat.mul_mod_right _ _

set_option maxHeartbeats 1000000 in
theorem divides_any (v : Value) (N n s : Nat) (w : World) (hv : Rd 64 w v N n) (hs : s ≤ 9223372036854775807) (hT : TzTab w) :
    Calls Tryd.prog 166 #[v, .int .i64 s] w fun e w' => e = .returned (.bool (decide (N % 2 ^ s = 0))) ∧ w = w' := by
  have hn35 : nd 64 N ≤ 35184372088832 := Nat.le_trans (nd_le 64 N n (by decide) hv.lt) hv.len
  obtain ⟨R, hR⟩ : ∃ R, Hid (R = decide (N % 2 ^ s = 0)) := ⟨_, Lib.hid rfl⟩
  rw [← hR.out]
  go_enter Tryd.func166, Tryd.ntmps166
  go_wp2_with fail
  refine (trim_any v 64 N n 0 w (by decide) hv).mono ?_
  rintro e w1 ⟨v1, rfl, h1, _, rfl⟩
  obtain ⟨A1, c1, rfl, hc1, hcm1⟩ := h1.form
  obtain ⟨_, _, _, hrX⟩ := h1.at_
  have HN := Lib.hid h1.lt
  clear hv h1
  generalize nd 64 N = a at *
  go_wp2
  go_loop [10] (fun i => ∃ j : Nat, j ≤ a ∧ i = .int .i64 j ∧ Hid (N % 2 ^ (64 * j) = 0)) (fun i => a - (intOf i).toNat)
  case atStart => exact ⟨0, Nat.zero_le _, rfl, Lib.hid (by simp [Nat.mod_one])⟩
  case round =>
    obtain ⟨j, hj, rfl, hz⟩ := hrel
    by_cases hja : j < a
    · obtain ⟨b1, o1, rfl, hb1, hcell1⟩ := hrX (by omega)
      have hk := hcell1 j hja
      by_cases h0 : dg 64 N j = 0
      · have hnext : Hid (N % 2 ^ (64 * (j + 1)) = 0) := by show _ = _; rw [mod_succ, hz.out, h0]; simp
        rw [h0] at hk
        clear hrX hcell1 h0 hz
        go_wp2
        go_round
        case rel => exact ⟨j + 1, by omega, by go_num, hnext⟩
        case measure => simp [intOf]; omega
      · have hx := dg64_lt N j
        have hzz : ((dg 64 N j : Nat) : Int) ≠ 0 := by omega
        have t1 : (((dg 64 N j : Nat) : Int) != 0) = true := by simpa using h0
        have htz := tz64_any (dg 64 N j) w hx hT
        obtain ⟨m, hm1, hm2⟩ := tz_spec (dg 64 N j) hx h0
        have htN := tzN_digits N j m (tz (dg 64 N j)) hz.out hm1 hm2
        have hN0 : N ≠ 0 := by rintro rfl; rw [dg_zero] at h0; exact h0 rfl
        have E : Hid (R = decide ((s : Int) ≤ 64 * (j : Int) + (tz (dg 64 N j) : Int))) := by
          show _ = _
          rw [hR.out]
          congr 1
          refine propext ((dvd_tzN hN0).trans ?_)
          rw [htN]; omega
        have Htz := Lib.hid htz
        clear hrX hcell1 htz h0 hzz hm1 htN hN0 hz hR hT
        generalize tz (dg 64 N j) = z at *
        generalize dg 64 N j = x at *
        go_wp2_with fail
        refine Htz.out.mono ?_
        rintro e w3 ⟨rfl, rfl⟩
        clear Htz
        go_wp2
        go_ret
        exact ⟨by rw [E.out]; rfl, rfl⟩
    · obtain rfl : j = a := by omega
      have hN0 : N = 0 := by rw [← Nat.mod_eq_of_lt HN.out]; exact hz.out
      have E : Hid (R = true) := by show _ = _; rw [hR.out, hN0]; simp
      clear hrX hR hN0 hz hT
      go_wp2
      go_ret
      exact ⟨by rw [E.out]; rfl, rfl⟩

/-- shifted right; the lowest bit is 1 where a bit that fell out was -/
def jamN (N s : Nat) : Nat := if N % 2 ^ s = 0 then N / 2 ^ s else N / 2 ^ s ||| 1

theorem Fr.rd_set {k B : Nat} {w : World} {v : Value} {N n : Nat} (h : Rd k w v N n) (hf : Fr B w v) (hn : 0 < n) (d : Nat) (hd : d < 2 ^ k) :
    ∃ b c arr, v = .slice (some ⟨b, 0, none⟩) n c ∧ B ≤ b ∧ w.heap[b]? = some (.cells arr 22 (0, 0)) ∧ 0 < arr.size ∧ w.cell? ⟨b, 0, none⟩ = some (.int .u64 (dg k N 0)) ∧ w.frozen? ⟨b, 0, none⟩ = false ∧
      Rd k (w.setCell ⟨b, 0, none⟩ (.int .u64 d)) v (setDg k N 0 d) n ∧ Fr B (w.setCell ⟨b, 0, none⟩ (.int .u64 d)) v := by
  obtain ⟨A, c, rfl, h1, h2, h3, h4⟩ := h
  obtain ⟨b, o, rfl, hlt, hc⟩ := h4 hn
  obtain ⟨A', n', c', e, h0, h5⟩ := hf
  injection e with e1 e2 e3
  subst e2 e3
  rcases h5 with h5 | ⟨b', arr, e', hB, hh, hc'⟩
  · omega
  · rw [e'] at e1
    injection e1 with e1
    injection e1 with e1 e4
    subst e1 e4
    have hc0 := hc 0 hn
    rw [Nat.zero_add] at hc0
    have hsz : 0 < arr.size := by omega
    have hnew : (w.setCell ⟨b, 0, none⟩ (.int .u64 d)).heap[b]? = some (.cells (arr.set! 0 (.int .u64 d)) 22 (0, 0)) := by
      simp [World.setCell, Array.getElem?_modify, hh]
    refine ⟨b, c, arr, rfl, hB, hh, hsz, hc0, by unfold World.frozen?; simp [hh], ?_, ?_⟩
    · refine ⟨_, c, rfl, h1, h2, setDg_lt k N 0 d n h3 hn hd, fun _ => ⟨b, 0, rfl, by simp [World.setCell]; exact hlt, fun j hj => ?_⟩⟩
      unfold World.cell?
      simp only [hnew]
      have hcj := hc j hj
      unfold World.cell? at hcj
      simp only [hh] at hcj
      rw [Nat.zero_add] at hcj ⊢
      by_cases h00 : j = 0
      · subst h00
        rw [dg_setDg_same k N 0 d hd]
        simp [hsz]
      · rw [dg_setDg_other k N 0 j d hd h00, ← hcj]
        simp [Ne.symm h00]
    · exact ⟨_, n, c, rfl, h0, Or.inr ⟨b, _, rfl, hB, hnew, by simp; exact hc'⟩⟩

theorem or_one (q : Nat) : setDg 64 q 0 (dg 64 q 0 ||| 1) = q ||| 1 := by
  have h1 := setDg_add 64 q 0 (dg 64 q 0 ||| 1)
  simp only [Nat.mul_zero, Nat.pow_zero, Nat.mul_one] at h1
  have h2 : dg 64 q 0 = q % 2 ^ 64 := by unfold dg; simp
  rw [h2] at h1 ⊢
  have e1 : ∀ x : Nat, x ||| 1 = x + (1 - x % 2) := by
    intro x
    have a := Nat.two_pow_add_eq_or_of_lt (i := 1) (b := 1) (by decide) (x / 2)
    have b : x % 2 = 0 ∨ x % 2 = 1 := by omega
    have c := Nat.div_add_mod x 2
    rcases b with b | b
    · rw [Nat.pow_one] at a
      have : 2 * (x / 2) = x := by omega
      rw [this] at a
      omega
    · have e : x ||| 1 = x := by
        apply Nat.eq_of_testBit_eq
        intro i
        rw [Nat.testBit_or]
        cases i with
        | zero => simp [Nat.testBit_zero, b]
        | succ i => simp [Nat.testBit_succ]
      rw [e, b]; rfl
  rw [e1, e1] at *
  have : q % 2 ^ 64 % 2 = q % 2 := by omega
  omega

theorem or_one_lt {x : Nat} (h : x < 18446744073709551616) : x ||| 1 < 18446744073709551616 := Nat.or_lt_two_pow (n := 64) h (by decide)

theorem or_one_nd {q : Nat} (h : q ≠ 0) : nd 64 (q ||| 1) = nd 64 q := by
  have h1 := lt_nd 64 q (by decide)
  have h2 := nd_le_pow 64 q h
  have hp := nd_pos 64 q h
  refine nd_unique 64 _ _ (by decide) ?_ (Or.inr (Nat.le_trans h2 Nat.left_le_or))
  exact Nat.or_lt_two_pow h1 (Nat.one_lt_two_pow (by omega))

set_option maxRecDepth 100000 in
set_option maxHeartbeats 2000000 in
theorem Jam_any (v : Value) (N n s : Nat) (w : World) (hv : Rd 64 w v N n) (hs : s ≤ 9223372036854775807) (hT : Gl w) :
    Calls Tryd.prog 158 #[v, .int .i64 s] w fun e w' => ∃ v', e = .returned (.tuple #[v', .int .i64 0]) ∧ Rd 64 w' v' (jamN N s) (nd 64 (jamN N s)) ∧ Fr w.heap.size w' v' ∧ Below w.heap.size w w' := by
  obtain ⟨A0, c0, rfl, hc0, hcm0⟩ := hv.form
  have HT := Lib.hid hT
  clear hT
  go_enter Tryd.func158, Tryd.ntmps158
  go_wp2_with fail
  refine (right_any (.slice A0 n c0) N n s w hv hs).mono ?_
  rintro e w1 ⟨v1, rfl, h1, hF1, hb1⟩
  have HB := Lib.hid hb1
  have hT1 := (HT.out.below hb1).1
  have hv1 := hv.below hb1
  obtain ⟨q, hq⟩ : ∃ q, q = N / 2 ^ s := ⟨_, rfl⟩
  rw [← hq] at h1
  have Hq := Lib.hid hq
  clear hb1 HT hv hq
  obtain ⟨A1, c1, rfl, hc1, hcm1⟩ := h1.form
  go_wp2_with fail
  refine (divides_any (.slice A0 n c0) N n s w1 hv1 hs hT1).mono ?_
  rintro e w2 ⟨rfl, rfl⟩
  clear hT1 hv1
  by_cases hd : N % 2 ^ s = 0
  · have t1 : decide (N % 2 ^ s = 0) = true := by simp [hd]
    have E : Hid (jamN N s = q) := by show _ = _; unfold jamN; rw [if_pos hd, Hq.out]
    rw [t1]
    clear hd t1
    go_wp2
    go_ret2
    rw [E.out]
    exact ⟨_, rfl, h1, hF1, HB.out⟩
  · have t1 : decide (N % 2 ^ s = 0) = false := by simp [hd]
    have E : Hid (jamN N s = q ||| 1) := by show _ = _; unfold jamN; rw [if_neg hd, Hq.out]
    rw [t1]
    clear hd t1
    by_cases h0 : q = 0
    · have hn0 : nd 64 q = 0 := by rw [h0, nd_zero]
      rw [hn0] at *
      have E2 : Hid (jamN N s = 1) := by show _ = _; rw [E.out, h0]; rfl
      clear h0 hn0 Hq E
      go_wp2
      go_ret2
      rw [E2.out]
      have h11 : nd 64 1 = 1 := nd_word (by decide) (by decide)
      have hR := Rd.one w1 1 (by decide)
      rw [h11]
      exact ⟨_, rfl, hR, ⟨_, 1, 1, rfl, Nat.le_refl _, Or.inr ⟨w1.heap.size, _, rfl, HB.out.size, heap_alloc_at w1 _, by simp⟩⟩, HB.out.alloc HB.out.size _⟩
    · have hp := nd_pos 64 q h0
      have hz : ((nd 64 q : Int) == 0) = false := by rw [beq_eq_false_iff_ne]; omega
      obtain ⟨b, c, arr, he, hB, hh, hsz, hcell, hfr, hR2, hF2⟩ := Fr.rd_set h1 hF1 hp (dg 64 q 0 ||| 1) (Nat.or_lt_two_pow (n := 64) (dg64_lt q 0) (by decide))
      injection he with he1 he2 he3
      subst he1 he3
      rw [or_one] at hR2
      have hx := dg64_lt q 0
      have hor : bits .or .u64 ((dg 64 q 0 : Nat) : Int) 1 = ((dg 64 q 0 ||| 1 : Nat) : Int) := or_nat _ 1 hx (by decide)
      have HR2 := Lib.hid hR2
      have HF2 := Lib.hid hF2
      have E3 := Lib.hid (or_one_nd h0)
      clear h0 h1 hF1 hR2 hF2 hh hsz Hq
      generalize (dg 64 q 0 ||| 1) = y at *
      generalize dg 64 q 0 = x at *
      generalize nd 64 q = m at *
      go_wp2
      go_ret2
      rw [E.out, E3.out]
      exact ⟨_, rfl, HR2.out, HF2.out, HB.out.setCell hB _⟩

end Go.Proofs.YtcgceigmglikpaaDoor
