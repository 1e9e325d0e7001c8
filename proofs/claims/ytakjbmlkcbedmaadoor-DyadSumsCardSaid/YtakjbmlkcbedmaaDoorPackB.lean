/- Packed by program: DyadA Tz DyadB DyadC Base2 DyadD DyadV DyadE DyadF DyadG. -/
import Derived.Outline
import Derived.Test.YtakjbmlkcbedmaaDoorPackA
import Derived.Deep.RegionHeld3
/- Walks of layer 3: raised, refuses, aligned. -/
namespace Go.Proofs.YtakjbmlkcbedmaaDoor
set_option linter.unusedVariables false
open Go.RowKit

set_option maxRecDepth 100000 in
set_option maxHeartbeats 1000000 in
theorem raised_any (v : Value) (N n s : Nat) (w : World) (hv : Rd 64 w v N n) (hs : n + s ≤ 17592186044416) :
    Calls Tryd.prog 70 #[v, .int .i64 s] w fun e w' => ∃ v', e = .returned v' ∧ Rd 64 w' v' (N * 2 ^ s) (nd 64 (N * 2 ^ s)) ∧ Fr w.heap.size w' v' ∧ Below w.heap.size w w' := by
  obtain ⟨A1, c1, rfl, hc1, hcm1⟩ := hv.form
  obtain ⟨_, _, _, hrX⟩ := hv.at_
  have HN := Lib.hid hv.lt
  by_cases hn : n = 0
  · subst hn
    have h0 := hv.zero_of
    subst h0
    go_enter Tryd.func70, Tryd.ntmps70
    go_wp2
    go_ret
    rw [nd_zero]
    exact ⟨_, rfl, Rd.nil_, Fr.none_, Below.refl _ _⟩
  · obtain ⟨q, r, hqr, hr⟩ : ∃ q r, s = 64 * q + r ∧ r < 64 := ⟨s / 64, s % 64, by omega, by omega⟩
    have hq : (s : Int) / 64 = (q : Int) := by omega
    have hr' : (s : Int) % 64 = (r : Int) := by omega
    have hz : ((n : Int) == 0) = false := by rw [beq_eq_false_iff_ne]; omega
    have hmk := fun wx => make_words (q + n + 1) (by omega) wx
    rw [show ((q + n + 1 : Nat) : Int) = (q : Int) + n + 1 from by omega] at hmk
    have hLL : q + n + 1 ≤ 35184372088832 := by omega
    have Hqr := Lib.hid hqr
    clear hqr hn
    go_enter Tryd.func70, Tryd.ntmps70
    go_wp2
    try simp only [hr', hq]
    clear hq hr' hmk
    go_loopw [26] (fun i wr => ∃ j : Nat, j ≤ n ∧ i = .int .i64 j ∧ Own 64 wr w.heap.size (N % 2 ^ (64 * j) * 2 ^ s) (q + n + 1) ∧ Below w.heap.size w wr) (fun i _ => n - (intOf i).toNat)
    case atStart =>
      exact ⟨0, Nat.zero_le _, rfl, by simpa [Nat.mod_one] using Own.make (q + n + 1), (Below.refl _ _).alloc (Nat.le_refl _) _⟩
    case round =>
      obtain ⟨j, hj, rfl, hown, hbw⟩ := hrel
      by_cases hjn : j < n
      · have hoc := hown.cell (j := q + j) (by omega)
        have hoc2 := hown.cell (j := q + j + 1) (by omega)
        have hf := hown.free (q + j)
        have hf2 := hown.free (q + j + 1)
        obtain ⟨b1, o1, rfl, hb1, hcell1⟩ := hrX (by omega)
        have hk1 : wr.cell? ⟨b1, o1 + j, none⟩ = _ := (hbw.cell (p := ⟨b1, o1 + j, none⟩) hb1).trans (hcell1 j hjn)
        have hx := dg64_lt N j
        obtain ⟨e1, e2, e3⟩ := raise_step N q r j hr
        have hp := dg64_lt (N % 2 ^ (64 * j) * 2 ^ s) (q + j)
        rw [← Hqr.out] at e1 e2 e3
        obtain ⟨d1, hd1⟩ : ∃ d, d = dg 64 (N % 2 ^ (64 * j) * 2 ^ s) (q + j) ||| (dg 64 N j * 2 ^ r % 18446744073709551616) := ⟨_, rfl⟩
        obtain ⟨d2, hd2⟩ : ∃ d, d = dg 64 N j / 2 ^ (64 - r) := ⟨_, rfl⟩
        have hb1' : bits BinOp.or IntKind.u64 ((dg 64 (N % 2 ^ (64 * j) * 2 ^ s) (q + j) : Nat) : Int) (IntKind.u64.wrap (((dg 64 N j : Nat) : Int) * 2 ^ r)) = (d1 : Int) := by
          rw [wrap_shl_nat, or_nat _ _ hp (Nat.mod_lt _ (by decide)), hd1]
        have hb2' : ((dg 64 N j : Nat) : Int) / 2 ^ (64 - r) = (d2 : Int) := by rw [hd2]; simp
        have hd2l : d2 < 18446744073709551616 := by rw [hd2]; exact Nat.lt_of_le_of_lt (Nat.div_le_self _ _) hx
        rw [← hd1] at e1 e2 e3
        rw [← hd2] at e1
        have hos := hown.set (j := q + j) (by omega) (d := d1) e2
        have hos2 := Lib.hid (hos.set (j := q + j + 1) (by omega) (d := d2) hd2l)
        have Hos := Lib.hid hos
        have E1 := Lib.hid e1
        have E3 := Lib.hid e3
        have Hd2 := Lib.hid hd2
        clear e1 e3 hd1 hd2 hos hown hrX hcell1
        generalize dg 64 (N % 2 ^ (64 * j) * 2 ^ s) (q + j) = p at *
        generalize dg 64 (N % 2 ^ (64 * j) * 2 ^ s) (q + j + 1) = p2 at *
        by_cases hr0 : 0 < r
        · generalize dg 64 N j = x at *
          go_wp2
          go_roundw
          case rel => exact ⟨j + 1, by omega, by go_num, by rw [← E1.out]; exact hos2.out, (hbw.setCell (Nat.le_refl _) _).setCell (Nat.le_refl _) _⟩
          case measure => simp [intOf]; omega
        · have hr0' : decide (0 < r) = false := by simpa using hr0
          have hr1 : r = 0 := by omega
          have hd20 : d2 = 0 := by rw [Hd2.out, hr1]; exact Nat.div_eq_of_lt hx
          have E4 : Hid (setDg 64 (N % 2 ^ (64 * j) * 2 ^ s) (q + j) d1 = N % 2 ^ (64 * (j + 1)) * 2 ^ s) := by
            show _ = _
            rw [← E1.out, hd20, setDg_self 64 _ _ E3.out]
          clear hr1 hd20
          generalize dg 64 N j = x at *
          go_wp2
          go_roundw
          case rel => exact ⟨j + 1, by omega, by go_num, by rw [← E4.out]; exact Hos.out, hbw.setCell (Nat.le_refl _) _⟩
          case measure => simp [intOf]; omega
      · obtain rfl : j = n := by omega
        rw [Nat.mod_eq_of_lt HN.out] at hown
        go_wp2_with fail
        refine (Trim_any _ (N * 2 ^ s) (q + j + 1) _ (hown.rd hLL)).mono ?_
        rintro e w3 ⟨v3, rfl, h3, h3f, h3b⟩
        go_wp2
        go_ret
        exact ⟨_, rfl, h3, h3f.mono hbw.size, hbw.trans (h3b.mono hbw.size)⟩

end Go.Proofs.YtakjbmlkcbedmaaDoor

/- Exact numbers as plain data: sign, natural, exponent; the canonical form; sums. -/
namespace Go.Proofs.YtakjbmlkcbedmaaDoor
set_option linter.unusedVariables false

/-- how many zero bits stand at the beginning of N (0 of 0) -/
def tzN (N : Nat) : Nat := if h : N = 0 then 0 else if N % 2 = 1 then 0 else 1 + tzN (N / 2)
termination_by N
decreasing_by omega

theorem tzN_zero : tzN 0 = 0 := by rw [tzN]; simp

theorem tzN_spec (N : Nat) (h : N ≠ 0) : ∃ m, N = 2 ^ tzN N * (2 * m + 1) := by
  induction N using Nat.strongRecOn with
  | _ N ih =>
    rw [tzN, dif_neg h]
    by_cases h1 : N % 2 = 1
    · rw [if_pos h1]; exact ⟨N / 2, by omega⟩
    · rw [if_neg h1]
      obtain ⟨m, hm⟩ := ih (N / 2) (by omega) (by omega)
      refine ⟨m, ?_⟩
      rw [Nat.add_comm 1, Nat.pow_succ]
      generalize 2 ^ tzN (N / 2) = p at *
      grind

theorem odd_part_unique {a b m k : Nat} (h : 2 ^ a * (2 * m + 1) = 2 ^ b * (2 * k + 1)) : a = b ∧ m = k := by
  rcases Nat.lt_trichotomy a b with hab | hab | hab
  · exfalso
    obtain ⟨t, rfl⟩ : ∃ t, b = a + t + 1 := ⟨b - a - 1, by omega⟩
    rw [Nat.pow_succ, Nat.pow_add, Nat.mul_assoc, Nat.mul_assoc] at h
    have := Nat.eq_of_mul_eq_mul_left (Nat.pow_pos (n := a) (by decide : 0 < 2)) h
    have e : 2 ^ t * (2 * (2 * k + 1)) = 2 * (2 ^ t * (2 * k + 1)) := by grind
    omega
  · subst hab
    have := Nat.eq_of_mul_eq_mul_left (Nat.pow_pos (n := a) (by decide : 0 < 2)) h
    omega
  · exfalso
    obtain ⟨t, rfl⟩ : ∃ t, a = b + t + 1 := ⟨a - b - 1, by omega⟩
    rw [Nat.pow_succ, Nat.pow_add, Nat.mul_assoc, Nat.mul_assoc] at h
    have := Nat.eq_of_mul_eq_mul_left (Nat.pow_pos (n := b) (by decide : 0 < 2)) h
    have e : 2 ^ t * (2 * (2 * m + 1)) = 2 * (2 ^ t * (2 * m + 1)) := by grind
    omega

theorem tzN_unique {N z m : Nat} (h : N = 2 ^ z * (2 * m + 1)) : tzN N = z := by
  have h0 : N ≠ 0 := by
    rw [h]; exact Nat.ne_of_gt (Nat.mul_pos (pow_pos2 z) (by omega))
  obtain ⟨k, hk⟩ := tzN_spec N h0
  rw [h] at hk
  have := (odd_part_unique hk).1
  rw [← h] at this
  exact this.symm

/-- the first digit that is not 0, at place i: the zeros before it and in it -/
theorem tzN_digits (N i m t : Nat) (h0 : N % 2 ^ (64 * i) = 0) (hd : dg 64 N i = 2 ^ t * (2 * m + 1)) (ht : t < 64) : tzN N = 64 * i + t := by
  have e1 := Nat.div_add_mod N (2 ^ (64 * i))
  rw [h0, Nat.add_zero] at e1
  have e2 := div_succ 64 N i
  rw [hd] at e2
  have e3 : N = 2 ^ (64 * i + t) * (2 * (N / 2 ^ (64 * (i + 1)) * 2 ^ (63 - t) + m) + 1) := by
    have e4 : (2 : Nat) ^ 64 = 2 ^ t * (2 * 2 ^ (63 - t)) := by
      rw [← Nat.pow_succ', ← Nat.pow_add]; congr 1; omega
    rw [e4] at e2
    rw [e2] at e1
    rw [Nat.pow_add]
    generalize N / 2 ^ (64 * (i + 1)) = R at *
    generalize 2 ^ (64 * i) = A at *
    generalize 2 ^ t = T at *
    generalize 2 ^ (63 - t) = U at *
    grind
  exact tzN_unique e3

theorem tzN_le (N n : Nat) (h : N < 2 ^ n) (h0 : N ≠ 0) : tzN N < n := by
  obtain ⟨m, hm⟩ := tzN_spec N h0
  rcases Nat.lt_or_ge (tzN N) n with hlt | hge
  · exact hlt
  · exfalso
    have h1 : 2 ^ n ≤ 2 ^ tzN N := Nat.pow_le_pow_right (by decide) hge
    have h2 : 2 ^ tzN N ≤ N := by
      have : 2 ^ tzN N * 1 ≤ 2 ^ tzN N * (2 * m + 1) := Nat.mul_le_mul_left _ (by omega)
      rw [← hm, Nat.mul_one] at this
      exact this
    omega

/-- an exact number: n * 2^e, below zero where s -/
structure D where
  s : Bool
  n : Nat
  e : Int

def D.zero : D := ⟨false, 0, 0⟩

/-- the canonical number, within no limits -/
def oddD (d : D) : D := if d.n = 0 then D.zero else ⟨d.s, d.n / 2 ^ tzN d.n, d.e + tzN d.n⟩

/-- the canonical number, or the answer's error -/
def ansD (d : D) : D × Int := if 1024 < nd 64 (oddD d).n then (D.zero, 5) else if (oddD d).e < -40000 ∨ 40000 < (oddD d).e then (D.zero, 30) else (oddD d, 0)

/-- the sum of two numbers at one exponent -/
def addXY (s1 s2 : Bool) (X Y : Nat) (m : Int) : D := if s1 = s2 then oddD ⟨s1, X + Y, m⟩ else if X < Y then oddD ⟨s2, Y - X, m⟩ else oddD ⟨s1, X - Y, m⟩

/-- the sum of two canonical numbers -/
def sumD (a b : D) : D :=
  if a.n = 0 then b else if b.n = 0 then a else
  addXY a.s b.s (a.n * 2 ^ (a.e - min a.e b.e).toNat) (b.n * 2 ^ (b.e - min a.e b.e).toNat) (min a.e b.e)

theorem sumD_nz {a b : D} (ha : a.n ≠ 0) (hb : b.n ≠ 0) : sumD a b = addXY a.s b.s (a.n * 2 ^ (a.e - min a.e b.e).toNat) (b.n * 2 ^ (b.e - min a.e b.e).toNat) (min a.e b.e) := by
  unfold sumD; rw [if_neg ha, if_neg hb]

/-- the argument's error: of n words, exponent e -/
def refD (n : Nat) (e : Int) : Int := if 1024 < n then 5 else if e < -40000 ∨ 40000 < e then 30 else 0

theorem oddD_zero (s : Bool) (e : Int) : oddD ⟨s, 0, e⟩ = D.zero := by simp [oddD]

/-- Canon: of n words -/
def canonD (n : Nat) (d : D) : D × Int := if refD n d.e = 0 then ansD d else (D.zero, refD n d.e)

/-- the errors of two arguments -/
def twoD (n1 : Nat) (e1 : Int) (n2 : Nat) (e2 : Int) : Int := if refD n1 e1 = 0 then refD n2 e2 else refD n1 e1

theorem refD_zero {n : Nat} {e : Int} (h : refD n e = 0) : n ≤ 1024 ∧ -40000 ≤ e ∧ e ≤ 40000 := by
  unfold refD at h; split at h
  · omega
  · split at h <;> omega

theorem refD_cases (n : Nat) (e : Int) : refD n e = 0 ∨ refD n e = 5 ∨ refD n e = 30 := by
  unfold refD; split
  · omega
  · split <;> omega

theorem oddD_le (d : D) : (oddD d).n ≤ d.n := by
  unfold oddD; split
  · exact Nat.zero_le _
  · exact Nat.div_le_self _ _

theorem oddD_e (d : D) (L : Nat) (h : d.n < 2 ^ L) (lo hi : Int) (h1 : lo ≤ d.e) (h2 : d.e + L ≤ hi) (h3 : lo ≤ 0) (h4 : 0 ≤ hi) : lo ≤ (oddD d).e ∧ (oddD d).e ≤ hi := by
  unfold oddD; split
  · exact ⟨h3, h4⟩
  · rename_i h0
    have := tzN_le d.n L h h0
    show lo ≤ d.e + tzN d.n ∧ d.e + tzN d.n ≤ hi
    omega

theorem pow_shift_lt {N L s : Nat} (h : N < 2 ^ L) : N * 2 ^ s < 2 ^ (L + s) := by
  rw [Nat.pow_add]; exact Nat.mul_lt_mul_of_pos_right h (pow_pos2 s)

theorem sumD_e (a b : D) (L : Nat) (R : Int) (ha : a.n < 2 ^ L) (hb : b.n < 2 ^ L) (h1 : -R ≤ a.e ∧ a.e ≤ R) (h2 : -R ≤ b.e ∧ b.e ≤ R) (h3 : 0 ≤ R) :
    -(3 * R + L + 1) ≤ (sumD a b).e ∧ (sumD a b).e ≤ 3 * R + L + 1 := by
  unfold sumD; split
  · omega
  · split
    · omega
    · have hX : a.n * 2 ^ (a.e - min a.e b.e).toNat < 2 ^ (L + (2 * R).toNat) := Nat.lt_of_lt_of_le (pow_shift_lt ha) (Nat.pow_le_pow_right (by decide) (by omega))
      have hY : b.n * 2 ^ (b.e - min a.e b.e).toNat < 2 ^ (L + (2 * R).toNat) := Nat.lt_of_lt_of_le (pow_shift_lt hb) (Nat.pow_le_pow_right (by decide) (by omega))
      generalize a.n * 2 ^ (a.e - min a.e b.e).toNat = X at *
      generalize b.n * 2 ^ (b.e - min a.e b.e).toNat = Y at *
      have e : 2 ^ (L + (2 * R).toNat + 1) = 2 ^ (L + (2 * R).toNat) + 2 ^ (L + (2 * R).toNat) := by rw [Nat.pow_succ]; omega
      unfold addXY
      split
      · exact oddD_e _ (L + (2 * R).toNat + 1) (by show X + Y < _; omega) _ _ (by show _ ≤ min a.e b.e; omega) (by show min a.e b.e + _ ≤ _; omega) (by omega) (by omega)
      · split
        · exact oddD_e _ (L + (2 * R).toNat + 1) (by show Y - X < _; omega) _ _ (by show _ ≤ min a.e b.e; omega) (by show min a.e b.e + _ ≤ _; omega) (by omega) (by omega)
        · exact oddD_e _ (L + (2 * R).toNat + 1) (by show X - Y < _; omega) _ _ (by show _ ≤ min a.e b.e; omega) (by show min a.e b.e + _ ≤ _; omega) (by omega) (by omega)

end Go.Proofs.YtakjbmlkcbedmaaDoor

/- Walks of layer 3: refuses, odd, answer. -/
namespace Go.Proofs.YtakjbmlkcbedmaaDoor
set_option linter.unusedVariables false
open Go.RowKit

set_option maxHeartbeats 400000 in
theorem refuses_any (s : Bool) (A : Option Addr) (n c : Nat) (e : Int) (w : World) (hn : n ≤ 35184372088832) :
    Calls Tryd.prog 22 #[.agg #[.bool s, .slice A n c, .int .i64 e]] w fun e' w' => e' = .returned (.int .i64 (refD n e)) ∧ Below w.heap.size w w' := by
  by_cases h1 : 1024 < n
  · have E : Hid (refD n e = 5) := by show _ = _; unfold refD; rw [if_pos h1]
    have h1' : (1024 : Int) < n := by omega
    go_enter Tryd.func22, Tryd.ntmps22
    go_wp2
    go_ret
    exact ⟨by rw [E.out]; rfl, (Below.refl _ _).alloc (Nat.le_refl _) _⟩
  · have h1' : decide ((1024 : Int) < n) = false := by simp; omega
    by_cases h2 : e < -40000
    · have E : Hid (refD n e = 30) := by show _ = _; unfold refD; rw [if_neg h1, if_pos (Or.inl h2)]
      go_enter Tryd.func22, Tryd.ntmps22
      go_wp2
      go_ret
      exact ⟨by rw [E.out]; rfl, (Below.refl _ _).alloc (Nat.le_refl _) _⟩
    · have h2' : decide (e < -40000) = false := by simpa using h2
      by_cases h3 : 40000 < e
      · have E : Hid (refD n e = 30) := by show _ = _; unfold refD; rw [if_neg h1, if_pos (Or.inr h3)]
        go_enter Tryd.func22, Tryd.ntmps22
        go_wp2
        go_ret
        exact ⟨by rw [E.out]; rfl, (Below.refl _ _).alloc (Nat.le_refl _) _⟩
      · have E : Hid (refD n e = 0) := by show _ = _; unfold refD; rw [if_neg h1, if_neg (by omega)]
        have h3' : decide (40000 < e) = false := by simpa using h3
        go_enter Tryd.func22, Tryd.ntmps22
        go_wp2
        go_ret
        exact ⟨by rw [E.out]; rfl, (Below.refl _ _).alloc (Nat.le_refl _) _⟩

/-- the value x reads as the exact number d, its words without zeros at their end -/
def Dv (w : World) (x : Value) (d : D) : Prop := ∃ v, x = .agg #[.bool d.s, v, .int .i64 d.e] ∧ Rd 64 w v d.n (nd 64 d.n)
/-- likewise, its words in memory from B on -/
def DV (B : Nat) (w : World) (x : Value) (d : D) : Prop := ∃ A c, x = .agg #[.bool d.s, .slice A (nd 64 d.n) c, .int .i64 d.e] ∧ nd 64 d.n ≤ c ∧ nd 64 d.n ≤ 35184372088832 ∧ Rd 64 w (.slice A (nd 64 d.n) c) d.n (nd 64 d.n) ∧ Fr B w (.slice A (nd 64 d.n) c)

theorem Dv.below {w w' : World} {x : Value} {d : D} (h : Dv w x d) (hb : Below w.heap.size w w') : Dv w' x d := by
  obtain ⟨v, rfl, h⟩ := h; exact ⟨v, rfl, h.below hb⟩
theorem DV.below {B : Nat} {w w' : World} {x : Value} {d : D} (h : DV B w x d) (hb : Below w.heap.size w w') : DV B w' x d := by
  obtain ⟨A, c, rfl, h1, h2, h3, h4⟩ := h; exact ⟨A, c, rfl, h1, h2, h3.below hb, h4.below hb⟩
theorem DV.mono {B B' : Nat} {w : World} {x : Value} {d : D} (h : DV B w x d) (hB : B' ≤ B) : DV B' w x d := by
  obtain ⟨A, c, rfl, h1, h2, h3, h4⟩ := h; exact ⟨A, c, rfl, h1, h2, h3, h4.mono hB⟩
theorem DV.dv {B : Nat} {w : World} {x : Value} {d : D} (h : DV B w x d) : Dv w x d := by
  obtain ⟨A, c, rfl, _, _, h, _⟩ := h; exact ⟨_, rfl, h⟩
theorem DV.setCell {B : Nat} {w : World} {x : Value} {d : D} (h : DV B w x d) {p : Addr} (hp : p.block < B) (u : Value) : DV B (w.setCell p u) x d := by
  obtain ⟨A, c, rfl, h1, h2, h3, h4⟩ := h; exact ⟨A, c, rfl, h1, h2, h3.setCell_fr h4 hp u, h4.setCell hp u⟩
theorem DV.zero {B : Nat} {w : World} : DV B w (.agg #[.bool false, .slice none 0 0, .int .i64 0]) D.zero :=
  ⟨none, 0, by rw [show D.zero.n = 0 from rfl, nd_zero]; rfl, by rw [show D.zero.n = 0 from rfl, nd_zero]; omega, by rw [show D.zero.n = 0 from rfl, nd_zero]; omega, by rw [show D.zero.n = 0 from rfl, nd_zero]; exact Rd.nil_, by rw [show D.zero.n = 0 from rfl, nd_zero]; exact Fr.none_⟩
theorem Dv.zero {w : World} : Dv w (.agg #[.bool false, .slice none 0 0, .int .i64 0]) D.zero := (DV.zero (B := 0)).dv

set_option maxHeartbeats 1000000 in
theorem odd_any (s : Bool) (v : Value) (N n : Nat) (e : Int) (w : World) (hv : Rd 64 w v N n) (hG : Gl w) (he : -1000000000000 ≤ e ∧ e ≤ 1000000000000) :
    Calls Tryd.prog 24 #[.agg #[.bool s, v, .int .i64 e]] w fun e' w' => ∃ x, e' = .returned x ∧ DV w.heap.size w' x (oddD ⟨s, N, e⟩) ∧ Below w.heap.size w w' := by
  obtain ⟨A, c, rfl, hc, hcm⟩ := hv.form
  have hnd := Nat.le_trans (nd_le 64 N n (by decide) hv.lt) hv.len
  go_enter Tryd.func24, Tryd.ntmps24
  go_wp2_with fail
  have hB : Below w.heap.size w ((w.alloc (Obj.cells #[Value.bool s, Value.slice A n c, Value.int IntKind.i64 e] 26)).alloc (Obj.cells #[Value.bool false, Value.slice none 0 0, Value.int IntKind.i64 0] 26)) :=
    ((Below.refl _ _).alloc (Nat.le_refl _) _).alloc (by simp) _
  refine (Trim_any (.slice A n c) N n _ (hv.below hB)).mono ?_
  rintro e1 w1 ⟨v1, rfl, h1, hf1, hb1⟩
  obtain ⟨A1, c1, rfl, hc1, hcm1⟩ := h1.form
  obtain ⟨_, _, _, hr1⟩ := h1.at_
  obtain ⟨hcl, hfr⟩ := below_cell hb1
  have hz : w.heap.size + 1 < w1.heap.size := by have := hb1.size; simp at this; omega
  have hB1 := hB.trans (hb1.mono hB.size)
  have hG1 := hG.below hB1
  rcases Nat.eq_zero_or_pos N with rfl | hN
  · rw [nd_zero] at *
    go_wp2
    refine bodyPost_ret (v := .agg #[.bool false, .slice none 0 0, .int .i64 0]) (by simp [results, Tryd.results24, go_sem, hcl]) rfl ?_
    refine ⟨_, rfl, by rw [oddD_zero]; exact DV.zero, ?_⟩
    exact ((hB1.setCell (Nat.le_succ _) _).setCell (Nat.le_succ _) _).setCell (Nat.le_succ _) _
  · have hN0 : N ≠ 0 := by omega
    have hp := nd_pos 64 N hN0
    have HN := Lib.hid (lt_nd 64 N (by decide))
    have hlen : (((nd 64 N : Nat) : Int) == 0) = false := by rw [beq_eq_false_iff_ne]; omega
    obtain ⟨b1, o1, rfl, hb1', hcell⟩ := hr1 hp
    have HNz := Lib.hid hN0
    clear hr1 hN0 hN
    obtain ⟨E, hE⟩ : ∃ E, E = oddD ⟨s, N, e⟩ := ⟨_, rfl⟩
    generalize hnN : nd 64 N = a at *
    have HnN := Lib.hid hnN
    clear hnN
    go_wp2
    go_loop [4] (fun x => ∃ z i : Nat, i < a ∧ x = .int .i64 z ∧ z = 64 * i ∧ Hid (N % 2 ^ (64 * i) = 0)) (fun x => 64 * a - (intOf x).toNat)
    case atStart => exact ⟨0, 0, hp, rfl, rfl, by show _ = _; simp [Nat.mod_one]⟩
    case round =>
      obtain ⟨z, i, hi, rfl, hzi, hm⟩ := hrel
      have hq : (z : Int) / 64 = (i : Int) := by omega
      have hk := hcell i hi
      clear hcell
      have Hzi := Lib.hid hzi
      have hzle : z ≤ 64 * a := by omega
      have hzlt : z < 64 * a := by omega
      have hia : (i : Int) < a := by omega
      by_cases hd : dg 64 N i = 0
      · have hm2 : N % 2 ^ (64 * (i + 1)) = 0 := by rw [mod_succ, hm.out, hd]; simp
        have hia2 : i + 1 < a := by
          rcases Nat.lt_or_ge (i + 1) a with h | h
          · exact h
          · exfalso
            have : i + 1 = a := by omega
            rw [this, Nat.mod_eq_of_lt HN.out] at hm2
            exact HNz.out hm2
        have Hm2 := Lib.hid hm2
        rw [hd] at hk
        clear hd hm2 hzi
        go_wp2
        go_round
        case rel => exact ⟨z + 64, i + 1, by omega, by go_num, by have := Hzi.out; omega, Hm2.out⟩
        case measure => simp [intOf]; omega
      · have hd' : (((dg 64 N i : Nat) : Int) == 0) = false := by rw [beq_eq_false_iff_ne]; omega
        obtain ⟨m, hm1, hm2⟩ := tz_spec (dg 64 N i) (dg64_lt N i) hd
        have htz := tzN_digits N i m (tz (dg 64 N i)) hm.out hm1 hm2
        have hx := dg64_lt N i
        rw [← hzi] at htz
        have Htz := Lib.hid htz
        clear htz hm1 hd hzi
        generalize dg 64 N i = x at *
        go_wp2_with fail
        refine (tz64_any x w1 hx hG1.tz).mono ?_
        rintro e2 w2 ⟨rfl, rfl⟩
        generalize tz x = t at *
        go_wp2_with fail
        rw [show ((z : Int) + (t : Int)) = ((z + t : Nat) : Int) from by omega]
        refine (Shr_any _ N a (z + t) w1 h1 (by omega)).mono ?_
        rintro e3 w3 ⟨v3, rfl, h3, hf3, hb3⟩
        obtain ⟨A3, c3, rfl, hc3, hcm3⟩ := h3.form
        obtain ⟨hcl3, hfr3⟩ := below_cell hb3
        have hz3 : w.heap.size + 1 < w3.heap.size := by have := hb3.size; omega
        have hz0 : w.heap.size < w1.heap.size := by omega
        have hz30 : w.heap.size < w3.heap.size := by omega
        go_wp2
        have ho : oddD ⟨s, N, e⟩ = ⟨s, N / 2 ^ (z + t), e + ((z : Int) + (t : Int))⟩ := by simp [oddD, HNz.out, Htz.out]
        refine bodyPost_ret (v := .agg #[.bool s, .slice A3 (nd 64 (N / 2 ^ (z + t))) c3, .int .i64 (e + ((z : Int) + (t : Int)))]) (by simp [results, Tryd.results24, go_sem, hcl3, hcl, hz]) rfl ?_
        have hf3' := hf3.mono (B' := w.heap.size + 2) (by omega)
        have hV : DV (w.heap.size + 2) w3 (.agg #[.bool s, .slice A3 (nd 64 (N / 2 ^ (z + t))) c3, .int .i64 (e + ((z : Int) + (t : Int)))]) ⟨s, N / 2 ^ (z + t), e + ((z : Int) + (t : Int))⟩ := ⟨A3, c3, rfl, hc3, hcm3, h3, hf3'⟩
        refine ⟨_, rfl, ?_, ?_⟩
        · rw [ho]
          exact (((hV.setCell (by simp) _).setCell (by simp) _).setCell (by simp) _).mono (by omega)
        · exact (((hB1.trans (hb3.mono hB1.size)).setCell (Nat.le_succ _) _).setCell (Nat.le_succ _) _).setCell (Nat.le_succ _) _

end Go.Proofs.YtakjbmlkcbedmaaDoor

/- Walks of layer 3: answer, aligned, sum. -/
namespace Go.Proofs.YtakjbmlkcbedmaaDoor
set_option linter.unusedVariables false
open Go.RowKit

set_option maxHeartbeats 1000000 in
theorem answer_any (s : Bool) (v : Value) (N n : Nat) (e : Int) (w : World) (hv : Rd 64 w v N n) (hG : Gl w) (he : -1000000000000 ≤ e ∧ e ≤ 1000000000000) :
    Calls Tryd.prog 25 #[.agg #[.bool s, v, .int .i64 e]] w fun e' w' => ∃ x, e' = .returned (.tuple #[x, .int .i64 (ansD ⟨s, N, e⟩).2]) ∧ DV w.heap.size w' x (ansD ⟨s, N, e⟩).1 ∧ Below w.heap.size w w' := by
  obtain ⟨A, c, rfl, hc, hcm⟩ := hv.form
  obtain ⟨d, hd⟩ : ∃ d, d = ansD ⟨s, N, e⟩ := ⟨_, rfl⟩
  rw [← hd]
  unfold ansD at hd
  go_enter Tryd.func25, Tryd.ntmps25
  go_wp2_with fail
  have hB : Below w.heap.size w ((w.alloc (Obj.cells #[Value.bool s, Value.slice A n c, Value.int IntKind.i64 e] 26)).alloc (Obj.cells #[Value.bool false, Value.slice none 0 0, Value.int IntKind.i64 0] 26)) :=
    ((Below.refl _ _).alloc (Nat.le_refl _) _).alloc (by simp) _
  refine (odd_any s (.slice A n c) N n e _ (hv.below hB) (hG.below hB) he).mono ?_
  rintro e1 w1 ⟨x1, rfl, hV, hb1⟩
  generalize oddD ⟨s, N, e⟩ = o at *
  obtain ⟨A1, c1, rfl, hc1, hcm1, hR1, hF1⟩ := id hV
  obtain ⟨⟨k0, k1, k2⟩, ⟨k3, k4, k5⟩, f0, f1⟩ := two_boxes hb1
  have hB1 := hB.trans (hb1.mono hB.size)
  have HD := Lib.hid hd
  clear hd
  have hV2 := hV.mono (B' := w.heap.size + 2) (by simp)
  have hBs : ∀ (u0 u1 u2 y0 y1 y2 : Value), Below w.heap.size w ((((((w1.setCell ⟨w.heap.size, 0, none⟩ u0).setCell ⟨w.heap.size, 1, none⟩ u1).setCell ⟨w.heap.size, 2, none⟩ u2).setCell ⟨w.heap.size + 1, 0, none⟩ y0).setCell ⟨w.heap.size + 1, 1, none⟩ y1).setCell ⟨w.heap.size + 1, 2, none⟩ y2) := fun _ _ _ _ _ _ =>
    (((((hB1.setCell (Nat.le_refl _) _).setCell (Nat.le_refl _) _).setCell (Nat.le_refl _) _).setCell (Nat.le_succ _) _).setCell (Nat.le_succ _) _).setCell (Nat.le_succ _) _
  by_cases h1 : 1024 < nd 64 o.n
  · have E : Hid (d = (D.zero, 5)) := by show _ = _; rw [HD.out, if_pos h1]
    have h1' : (1024 : Int) < nd 64 o.n := by omega
    generalize nd 64 o.n = m at *
    generalize o.s = os at *
    generalize o.e = oe at *
    go_wp2
    refine bodyPost_ret (v := .tuple #[.agg #[.bool false, .slice none 0 0, .int .i64 0], .int .i64 5]) (by simp [results, Tryd.results25, go_sem, k3, k4, k5]) rfl ?_
    rw [E.out]
    exact ⟨_, rfl, DV.zero, hBs _ _ _ _ _ _⟩
  · have h1' : decide ((1024 : Int) < nd 64 o.n) = false := by simp; omega
    by_cases h2 : o.e < -40000
    · have E : Hid (d = (D.zero, 30)) := by show _ = _; rw [HD.out, if_neg h1, if_pos (Or.inl h2)]
      generalize nd 64 o.n = m at *
      generalize o.s = os at *
      generalize o.e = oe at *
      go_wp2
      refine bodyPost_ret (v := .tuple #[.agg #[.bool false, .slice none 0 0, .int .i64 0], .int .i64 30]) (by simp [results, Tryd.results25, go_sem, k3, k4, k5]) rfl ?_
      rw [E.out]
      exact ⟨_, rfl, DV.zero, hBs _ _ _ _ _ _⟩
    · have h2' : decide (o.e < -40000) = false := by simpa using h2
      by_cases h3 : 40000 < o.e
      · have E : Hid (d = (D.zero, 30)) := by show _ = _; rw [HD.out, if_neg h1, if_pos (Or.inr h3)]
        generalize nd 64 o.n = m at *
        generalize o.s = os at *
        generalize o.e = oe at *
        go_wp2
        refine bodyPost_ret (v := .tuple #[.agg #[.bool false, .slice none 0 0, .int .i64 0], .int .i64 30]) (by simp [results, Tryd.results25, go_sem, k3, k4, k5]) rfl ?_
        rw [E.out]
        exact ⟨_, rfl, DV.zero, hBs _ _ _ _ _ _⟩
      · have h3' : decide (40000 < o.e) = false := by simpa using h3
        have E : Hid (d = (o, 0)) := by show _ = _; rw [HD.out, if_neg h1, if_neg (by omega)]
        have HV := Lib.hid (hV2.setCell (p := ⟨w.heap.size, 0, none⟩) (by simp) (.bool o.s))
        have HV3 := Lib.hid (((((HV.out.setCell (p := ⟨w.heap.size, 1, none⟩) (by simp) (.slice A1 (nd 64 o.n) c1)).setCell (p := ⟨w.heap.size, 2, none⟩) (by simp) (.int .i64 o.e)).setCell (p := ⟨w.heap.size + 1, 0, none⟩) (by simp) (.bool o.s)).setCell (p := ⟨w.heap.size + 1, 1, none⟩) (by simp) (.slice A1 (nd 64 o.n) c1)).setCell (p := ⟨w.heap.size + 1, 2, none⟩) (by simp) (.int .i64 o.e))
        clear hV hV2 hR1 hF1 HV
        go_wp2
        refine bodyPost_ret (v := .tuple #[.agg #[.bool o.s, .slice A1 (nd 64 o.n) c1, .int .i64 o.e], .int .i64 0]) (by simp [results, Tryd.results25, go_sem, k3, k4, k5]) rfl ?_
        rw [E.out]
        exact ⟨_, rfl, HV3.out.mono (by omega), hBs _ _ _ _ _ _⟩

theorem keep_cell {W w1 : World} {b o : Nat} {x : Value} (hb : Below W.heap.size W w1) (h : W.cell? ⟨b, o, none⟩ = some x) : w1.cell? ⟨b, o, none⟩ = some x :=
  (hb.cell (p := ⟨b, o, none⟩) (World.block_lt_of_cell? W _ h)).trans h

theorem keep_below {W w1 w2 : World} (h : Below W.heap.size W w1) (hb : Below w1.heap.size w1 w2) : Below W.heap.size W w2 := h.trans (hb.mono h.size)

theorem raised_int (v : Value) (N n : Nat) (t : Int) (w : World) (hv : Rd 64 w v N n) (h0 : 0 ≤ t) (hs : n + t.toNat ≤ 17592186044416) :
    Calls Tryd.prog 70 #[v, .int .i64 t] w fun e w' => ∃ v', e = .returned v' ∧ Rd 64 w' v' (N * 2 ^ t.toNat) (nd 64 (N * 2 ^ t.toNat)) ∧ Fr w.heap.size w' v' ∧ Below w.heap.size w w' := by
  obtain ⟨s, rfl⟩ := Int.eq_ofNat_of_zero_le h0
  rw [Int.toNat_natCast] at *
  exact raised_any v N n s w hv hs

set_option maxRecDepth 100000 in
set_option maxHeartbeats 1000000 in
theorem aligned_any (s1 s2 : Bool) (A1 A2 : Option Addr) (c1 c2 N n M m : Nat) (e1 e2 : Int) (w : World) (hv : Rd 64 w (.slice A1 n c1) N n) (hu : Rd 64 w (.slice A2 m c2) M m)
    (he1 : -1000000000000 ≤ e1 ∧ e1 ≤ 1000000000000) (he2 : -1000000000000 ≤ e2 ∧ e2 ≤ 1000000000000) (hn : n ≤ 1000000000000) (hm : m ≤ 1000000000000) :
    Calls Tryd.prog 53 #[.agg #[.bool s1, .slice A1 n c1, .int .i64 e1], .agg #[.bool s2, .slice A2 m c2, .int .i64 e2]] w fun e' w' =>
      ∃ v1 v2, e' = .returned (.tuple #[v1, v2, .int .i64 (min e1 e2)]) ∧ Rd 64 w' v1 (N * 2 ^ (e1 - min e1 e2).toNat) (nd 64 (N * 2 ^ (e1 - min e1 e2).toNat)) ∧ Rd 64 w' v2 (M * 2 ^ (e2 - min e1 e2).toNat) (nd 64 (M * 2 ^ (e2 - min e1 e2).toNat)) ∧
        Fr w.heap.size w' v1 ∧ Fr w.heap.size w' v2 ∧ Below w.heap.size w w' := by
  go_enter Tryd.func53, Tryd.ntmps53
  obtain ⟨W, hW⟩ : ∃ W, W = ((w.alloc (Obj.cells #[Value.bool s1, Value.slice A1 n c1, Value.int IntKind.i64 e1] 26)).alloc (Obj.cells #[Value.bool s2, Value.slice A2 m c2, Value.int IntKind.i64 e2] 26)) := ⟨_, rfl⟩
  have hB : Below w.heap.size w W := by rw [hW]; exact ((Below.refl _ _).alloc (Nat.le_refl _) _).alloc (by simp) _
  have kk := two_boxes (w1 := W) (by rw [← hW]; exact Below.refl _ _)
  obtain ⟨⟨k0, k1, k2⟩, ⟨k3, k4, k5⟩, f0, f1⟩ := kk
  have hvW := hv.below hB
  have huW := hu.below hB
  have HW := Lib.hid hW
  go_wp2_with fail
  rw [← hW]
  clear hW
  have hw1 : IntKind.i64.wrap (e1 - min e1 e2) = e1 - min e1 e2 := IntWalk.i64_in _ (by omega)
  have hw2 : IntKind.i64.wrap (e2 - min e1 e2) = e2 - min e1 e2 := IntWalk.i64_in _ (by omega)
  go_region_held3 (fun w' => w'.cell? ⟨w.heap.size, 1, none⟩ = some (.slice A1 n c1) ∧ w'.cell? ⟨w.heap.size, 2, none⟩ = some (.int .i64 e1) ∧ w'.cell? ⟨w.heap.size + 1, 1, none⟩ = some (.slice A2 m c2) ∧ w'.cell? ⟨w.heap.size + 1, 2, none⟩ = some (.int .i64 e2) ∧ Below W.heap.size W w')
    (first | exact ⟨k1, k2, k4, k5, (Below.refl _ _).drew⟩ | exact ⟨keep_cell hb1 k1, keep_cell hb1 k2, keep_cell hb1 k4, keep_cell hb1 k5, keep_below (Below.refl _ _).drew hb1⟩ | ((try go_split_ands); (try dsimp only); refine ⟨keep_cell hb2 ?_, keep_cell hb2 ?_, keep_cell hb2 ?_, keep_cell hb2 ?_, keep_below ?_ hb2⟩ <;> assumption))
    ((go_at_call 70; go_split_ands; first | (with_reducible refine (raised_int (.slice A1 n c1) N n _ _ ?_ ?_ ?_).mono ?_; refine hvW.below ?_; assumption; omega; omega; rintro e w1 ⟨v1, rfl, h1, hf1, hb1⟩) | (with_reducible refine (raised_int (.slice A2 m c2) M m _ _ ?_ ?_ ?_).mono ?_; refine huW.below ?_; assumption; omega; omega; rintro e w2 ⟨v2, rfl, h2, hf2, hb2⟩)))
  go_wp2
  go_ret3
  have hb12 : Below w.heap.size w w1 := hB.trans ((keep_below (Below.refl W.heap.size W).drew hb1).mono hB.size)
  exact ⟨_, _, rfl, h1.below hb2, h2, (hf1.mono hB.size).below hb2, hf2.mono hb12.size, hb12.trans (hb2.mono hb12.size)⟩

end Go.Proofs.YtakjbmlkcbedmaaDoor

/- More words for memory: boxes of structs, as they stand behind a call. -/
namespace Go.Proofs.YtakjbmlkcbedmaaDoor
set_option linter.unusedVariables false
open Go.RowKit

/-- block g is three cells, not frozen -/
def Box3 (w : World) (g : Nat) (a b c : Value) : Prop := ∃ t, w.heap[g]? = some (.cells #[a, b, c] t (0, 0))

theorem Box3.cells {w : World} {g : Nat} {a b c : Value} (h : Box3 w g a b c) :
    w.cell? ⟨g, 0, none⟩ = some a ∧ w.cell? ⟨g, 1, none⟩ = some b ∧ w.cell? ⟨g, 2, none⟩ = some c ∧ (∀ j, w.frozen? ⟨g, j, none⟩ = false) ∧ g < w.heap.size := by
  obtain ⟨t, h⟩ := h
  refine ⟨?_, ?_, ?_, fun j => ?_, lt_size_of_some h⟩
  · unfold World.cell?; simp only [h]; rfl
  · unfold World.cell?; simp only [h]; rfl
  · unfold World.cell?; simp only [h]; rfl
  · unfold World.frozen?; simp only [h]; simp

theorem Box3.keep {w w' : World} {g : Nat} {a b c : Value} (h : Box3 w g a b c) (hb : Below w.heap.size w w') : Box3 w' g a b c := by
  obtain ⟨t, h⟩ := h
  exact ⟨t, (hb.block g (lt_size_of_some h)).trans h⟩

theorem Box3.alloc {w : World} {g : Nat} {a b c : Value} (h : Box3 w g a b c) (o : Obj) : Box3 (w.alloc o) g a b c := h.keep ((Below.refl _ _).alloc (Nat.le_refl _) o)
theorem Box3.new (w : World) (a b c : Value) (t : TypeId) : Box3 (w.alloc (.cells #[a, b, c] t)) w.heap.size a b c := ⟨t, heap_alloc_at w _⟩
theorem Box3.new1 (w : World) (o : Obj) (a b c : Value) (t : TypeId) : Box3 ((w.alloc o).alloc (.cells #[a, b, c] t)) (w.heap.size + 1) a b c :=
  ⟨t, by have := heap_alloc_at (w.alloc o) (.cells #[a, b, c] t); simpa using this⟩
theorem Box3.new2 (w : World) (o o' : Obj) (a b c : Value) (t : TypeId) : Box3 (((w.alloc o).alloc o').alloc (.cells #[a, b, c] t)) (w.heap.size + 1 + 1) a b c :=
  ⟨t, by have := heap_alloc_at ((w.alloc o).alloc o') (.cells #[a, b, c] t); simpa using this⟩

theorem below1 (w : World) (o : Obj) : Below w.heap.size w (w.alloc o) := (Below.refl _ _).alloc (Nat.le_refl _) _
theorem below2 (w : World) (o o' : Obj) : Below w.heap.size w ((w.alloc o).alloc o') := (below1 w o).alloc (by simp) _
theorem below3 (w : World) (o o' o'' : Obj) : Below w.heap.size w (((w.alloc o).alloc o').alloc o'') := (below2 w o o').alloc (by simp; omega) _

/-- three stores into one box -/
theorem below_box {B : Nat} {w0 w : World} (h : Below B w0 w) {g : Nat} (hg : B ≤ g) (a b c : Value) : Below B w0 (((w.setCell ⟨g, 0, none⟩ a).setCell ⟨g, 1, none⟩ b).setCell ⟨g, 2, none⟩ c) :=
  ((h.setCell hg _).setCell hg _).setCell hg _
theorem DV.setBox {B : Nat} {w : World} {x : Value} {d : D} (h : DV B w x d) {g : Nat} (hg : g < B) (a b c : Value) : DV B (((w.setCell ⟨g, 0, none⟩ a).setCell ⟨g, 1, none⟩ b).setCell ⟨g, 2, none⟩ c) x d :=
  ((h.setCell hg _).setCell hg _).setCell hg _

theorem cell_box_other {w : World} {g g' o : Nat} {a b c x : Value} (hne : g' ≠ g) (h : w.cell? ⟨g', o, none⟩ = some x) :
    (((w.setCell ⟨g, 0, none⟩ a).setCell ⟨g, 1, none⟩ b).setCell ⟨g, 2, none⟩ c).cell? ⟨g', o, none⟩ = some x := by
  rw [World.cell?_setCell_other _ _ _ _ (fun e => by injection e with e1; omega), World.cell?_setCell_other _ _ _ _ (fun e => by injection e with e1; omega), World.cell?_setCell_other _ _ _ _ (fun e => by injection e with e1; omega)]
  exact h

/-- what is below B, and behind a call -/
theorem keep_belowB {B : Nat} {w0 w1 w2 : World} (h : Below B w0 w1) (hb : Below w1.heap.size w1 w2) (hB : B ≤ w0.heap.size) : Below B w0 w2 := h.trans (hb.mono (Nat.le_trans hB h.size))

end Go.Proofs.YtakjbmlkcbedmaaDoor

/- Walks of layer 3: sum. -/
namespace Go.Proofs.YtakjbmlkcbedmaaDoor
set_option linter.unusedVariables false
open Go.RowKit

theorem below_drewN {B : Nat} {w0 w : World} (h : Below B w0 w) (n : Nat) : Below B w0 (w.drewN n) := ⟨h.os, h.tape, h.output, h.size, h.block⟩

theorem nd_shift_le (N s : Nat) {L : Nat} (h : nd 64 N + s ≤ L) : nd 64 (N * 2 ^ s) ≤ L := by
  refine nd_le 64 _ L (by decide) ?_
  have h1 := lt_nd 64 N (by decide)
  have h2 := Nat.mul_lt_mul_of_pos_right h1 (pow_pos2 s)
  rw [← Nat.pow_add] at h2
  exact Nat.lt_of_lt_of_le h2 (Nat.pow_le_pow_right (by decide) (by omega))

set_option maxRecDepth 100000 in
set_option maxHeartbeats 2000000 in
theorem sum_any (B : Nat) (s1 s2 : Bool) (A1 A2 : Option Addr) (c1 c2 N M : Nat) (e1 e2 : Int) (w : World) (hG : Gl w)
    (hv : Rd 64 w (.slice A1 (nd 64 N) c1) N (nd 64 N)) (hu : Rd 64 w (.slice A2 (nd 64 M) c2) M (nd 64 M)) (hf1 : Fr B w (.slice A1 (nd 64 N) c1)) (hf2 : Fr B w (.slice A2 (nd 64 M) c2)) (hBw : B ≤ w.heap.size)
    (he1 : -100000000000 ≤ e1 ∧ e1 ≤ 100000000000) (he2 : -100000000000 ≤ e2 ∧ e2 ≤ 100000000000) (hn : nd 64 N ≤ 100000000000) (hm : nd 64 M ≤ 100000000000) :
    Calls Tryd.prog 23 #[.agg #[.bool s1, .slice A1 (nd 64 N) c1, .int .i64 e1], .agg #[.bool s2, .slice A2 (nd 64 M) c2, .int .i64 e2]] w fun e' w' =>
      ∃ x, e' = .returned x ∧ DV B w' x (sumD ⟨s1, N, e1⟩ ⟨s2, M, e2⟩) ∧ Below w.heap.size w w' := by
  have hcc1 := hv.at_.2
  have hcc2 := hu.at_.2
  by_cases hN : N = 0
  · have E : Hid (sumD ⟨s1, N, e1⟩ ⟨s2, M, e2⟩ = ⟨s2, M, e2⟩) := by show _ = _; simp [sumD, hN]
    have hn0 : nd 64 N = 0 := by rw [hN, nd_zero]
    rw [hn0]
    have hV : DV B w (.agg #[.bool s2, .slice A2 (nd 64 M) c2, .int .i64 e2]) ⟨s2, M, e2⟩ := ⟨A2, c2, rfl, hcc2.1, hcc2.2.1, hu, hf2⟩
    clear hn0 hN hn hm
    go_enter Tryd.func23, Tryd.ntmps23
    go_wp2
    refine bodyPost_ret (v := .agg #[.bool s2, .slice A2 (nd 64 M) c2, .int .i64 e2]) (by simp [results, Tryd.results23, go_sem]) rfl ?_
    rw [E.out]
    exact ⟨_, rfl, hV.below (below3 ..), below3 ..⟩
  · by_cases hM : M = 0
    · have E : Hid (sumD ⟨s1, N, e1⟩ ⟨s2, M, e2⟩ = ⟨s1, N, e1⟩) := by show _ = _; simp [sumD, hN, hM]
      have hn0 : nd 64 M = 0 := by rw [hM, nd_zero]
      have hp := nd_pos 64 N hN
      have hz : (((nd 64 N : Nat) : Int) == 0) = false := by rw [beq_eq_false_iff_ne]; omega
      rw [hn0]
      have hV : DV B w (.agg #[.bool s1, .slice A1 (nd 64 N) c1, .int .i64 e1]) ⟨s1, N, e1⟩ := ⟨A1, c1, rfl, hcc1.1, hcc1.2.1, hv, hf1⟩
      clear hn0 hN hM hn hm hcc1 hcc2
      generalize nd 64 N = a at *
      go_enter Tryd.func23, Tryd.ntmps23
      go_wp2
      refine bodyPost_ret (v := .agg #[.bool s1, .slice A1 a c1, .int .i64 e1]) (by simp [results, Tryd.results23, go_sem]) rfl ?_
      rw [E.out]
      exact ⟨_, rfl, hV.below (below3 ..), below3 ..⟩
    · have hp := nd_pos 64 N hN
      have hp2 := nd_pos 64 M hM
      have hz : (((nd 64 N : Nat) : Int) == 0) = false := by rw [beq_eq_false_iff_ne]; omega
      have hz2 : (((nd 64 M : Nat) : Int) == 0) = false := by rw [beq_eq_false_iff_ne]; omega
      have hl1 : nd 64 (N * 2 ^ (e1 - min e1 e2).toNat) ≤ 10000000000000 := nd_shift_le N _ (by omega)
      have hl2 : nd 64 (M * 2 ^ (e2 - min e1 e2).toNat) ≤ 10000000000000 := nd_shift_le M _ (by omega)
      have HE : Hid (sumD ⟨s1, N, e1⟩ ⟨s2, M, e2⟩ = addXY s1 s2 (N * 2 ^ (e1 - min e1 e2).toNat) (M * 2 ^ (e2 - min e1 e2).toNat) (min e1 e2)) := sumD_nz hN hM
      have hmB : -100000000000 ≤ min e1 e2 ∧ min e1 e2 ≤ 100000000000 := by omega
      have HN := Lib.hid hN
      clear hN hM
      obtain ⟨W, hW⟩ : ∃ W, W = (((w.alloc (Obj.cells #[Value.bool s1, Value.slice A1 (nd 64 N) c1, Value.int IntKind.i64 e1] 26)).alloc (Obj.cells #[Value.bool s2, Value.slice A2 (nd 64 M) c2, Value.int IntKind.i64 e2] 26)).alloc
        (Obj.cells #[Value.bool false, Value.slice none 0 0, Value.int IntKind.i64 0] 26)) := ⟨_, rfl⟩
      have hB : Below w.heap.size w W := by rw [hW]; exact below3 ..
      have b0 : Box3 W w.heap.size (.bool s1) (.slice A1 (nd 64 N) c1) (.int .i64 e1) := by rw [hW]; exact ((Box3.new ..).alloc _).alloc _
      have b1 : Box3 W (w.heap.size + 1) (.bool s2) (.slice A2 (nd 64 M) c2) (.int .i64 e2) := by rw [hW]; exact (Box3.new1 ..).alloc _
      have b2 : Box3 W (w.heap.size + 1 + 1) (.bool false) (.slice none 0 0) (.int .i64 0) := by rw [hW]; exact Box3.new2 ..
      have hWs : W.heap.size = w.heap.size + 3 := by rw [hW]; simp
      have HWs := Lib.hid hWs
      go_enter Tryd.func23, Tryd.ntmps23
      go_wp2_with fail
      rw [← hW]
      clear hW hWs
      refine (aligned_any s1 s2 A1 A2 c1 c2 N (nd 64 N) M (nd 64 M) e1 e2 W (hv.below hB) (hu.below hB) (by omega) (by omega) (by omega) (by omega)).mono ?_
      rintro e' w1 ⟨v1, v2, rfl, h1, h2, hF1, hF2, hb1⟩
      generalize N * 2 ^ (e1 - min e1 e2).toNat = X at *
      generalize M * 2 ^ (e2 - min e1 e2).toNat = Y at *
      have hBW1 : Below w.heap.size w w1 := hB.trans (hb1.mono hB.size)
      have b0' := b0.keep hb1
      have b1' := b1.keep hb1
      have b2' := b2.keep hb1
      obtain ⟨k0, k1, k2, f0, _⟩ := b0'.cells
      obtain ⟨k3, k4, k5, f1, _⟩ := b1'.cells
      obtain ⟨k6, k7, k8, f2, _⟩ := b2'.cells
      have hG1 := hG.below hBW1
      have hF1' := hF1.mono (B' := w.heap.size) hB.size
      have hz1 : w.heap.size + 3 ≤ w1.heap.size := by have := hb1.size; have := HWs.out; omega
      clear hv hu hf1 hf2 hcc1 hcc2
      by_cases hs : s1 = s2
      · have E : Hid (sumD ⟨s1, N, e1⟩ ⟨s2, M, e2⟩ = oddD ⟨s1, X + Y, min e1 e2⟩) := by show _ = _; rw [HE.out]; unfold addXY; rw [if_pos hs]
        have hs' : (s1 == s2) = true := by simpa using hs
        clear hs HE
        have hne : w.heap.size ≠ w.heap.size + 1 + 1 := by omega
        have hle2 : w.heap.size ≤ w.heap.size + 1 + 1 := by omega
        go_wp2_with fail
        go_region_held3 (fun w' => w'.cell? ⟨w.heap.size, 0, none⟩ = some (.bool s1) ∧ Below w.heap.size w w')
          (first | exact ⟨k0, hBW1.drew⟩ | exact ⟨keep_cell hb2 k0, keep_belowB hBW1.drew hb2 (Nat.le_refl _)⟩ | ((try go_split_ands); refine ⟨keep_cell hb3 ?_, keep_belowB ?_ hb3 (Nat.le_refl _)⟩ <;> assumption) | ((try go_split_ands); refine ⟨cell_box_other hne ?_, below_box ?_ hle2 _ _ _⟩ <;> assumption))
          (first | (go_at_call 54; (with_reducible refine (Add_any v1 v2 X _ Y _ _ (h1.drew) (h2.drew) ?_ ?_).mono ?_); omega; omega; rintro e w2 ⟨v3, rfl, h3, hF3, hb2⟩; obtain ⟨A3, c3, rfl, hc3, hcm3⟩ := h3.form; have hGx := (hG1.below (Below.refl _ _).drew).below hb2; have b2x := (b2'.keep (Below.refl _ _).drew).keep hb2; have hz2x := hb2.size) | (go_at_call 24; (with_reducible refine (odd_any s1 (.slice A3 (nd 64 (X + Y)) c3) (X + Y) _ (min e1 e2) _ h3 hGx ?_).mono ?_); omega; rintro e w3 ⟨x4, rfl, hV4, hb3⟩; obtain ⟨A4, c4, rfl, hV4'⟩ := id hV4; obtain ⟨q1, q2, q3, q4, q5⟩ := (b2x.keep hb3).cells))
        go_wp2
        have hz2y : w.heap.size + 1 + 1 < w2.heap.size := by simp at hz2x; omega
        refine bodyPost_ret (v := .agg #[.bool (oddD ⟨s1, X + Y, min e1 e2⟩).s, .slice A4 (nd 64 (oddD ⟨s1, X + Y, min e1 e2⟩).n) c4, .int .i64 (oddD ⟨s1, X + Y, min e1 e2⟩).e]) (by simp [results, Tryd.results23, go_sem, q1, q2, q3]) rfl ?_
        rw [E.out]
        exact ⟨_, rfl, (hV4.setBox hz2y _ _ _).mono (by omega), below_box (keep_belowB (keep_belowB hBW1.drew hb2 (Nat.le_refl _)) hb3 (Nat.le_refl _)) hle2 _ _ _⟩
      · have hs' : (s1 == s2) = false := by simpa using hs
        have hle2 : w.heap.size ≤ w.heap.size + 1 + 1 := by omega
        by_cases hXY : X < Y
        · have E : Hid (sumD ⟨s1, N, e1⟩ ⟨s2, M, e2⟩ = oddD ⟨s2, Y - X, min e1 e2⟩) := by show _ = _; rw [HE.out]; unfold addXY; rw [if_neg hs, if_pos hXY]
          have hc := cmpN_lt hXY
          have hXY' : X ≤ Y := by omega
          clear hs HE hXY
          go_wp2_with fail
          refine (Cmp_any v1 v2 X _ Y _ w1 h1 h2).mono ?_
          rintro e' w2 ⟨rfl, d, rfl⟩
          rw [hc]
          go_wp2_with fail
          go_quiet (fail)
          go_wp2_with fail
          refine (Sub_ok v2 v1 Y _ X _ _ (h2.drewN _) (h1.drewN _) hXY').mono ?_
          rintro e' w3 ⟨v3, rfl, h3, hF3, hb3⟩
          obtain ⟨A3, c3, rfl, hc3, hcm3⟩ := h3.form
          go_wp2_with fail
          refine (odd_any s2 (.slice A3 (nd 64 (Y - X)) c3) (Y - X) _ (min e1 e2) w3 h3 ?_ (by omega)).mono ?_
          · exact Gl.below (w := World.drewN _ _) hG1 hb3
          rintro e' w4 ⟨x4, rfl, hV4, hb4⟩
          obtain ⟨A4, c4, rfl, hV4'⟩ := id hV4
          have hb3z := hb3.size
          have b2x := (Box3.keep (w := World.drewN _ _) b2' hb3).keep hb4
          obtain ⟨q1, q2, q3, q4, q5⟩ := b2x.cells
          go_wp2
          refine bodyPost_ret (v := .agg #[.bool (oddD ⟨s2, Y - X, min e1 e2⟩).s, .slice A4 (nd 64 (oddD ⟨s2, Y - X, min e1 e2⟩).n) c4, .int .i64 (oddD ⟨s2, Y - X, min e1 e2⟩).e]) (by simp [results, Tryd.results23, go_sem, q1, q2, q3]) rfl ?_
          rw [E.out]
          have hz2y : w.heap.size + 1 + 1 < w3.heap.size := by simp at hb3z; omega
          exact ⟨_, rfl, (hV4.setBox hz2y _ _ _).mono (by omega), below_box (keep_belowB (keep_belowB (below_drewN hBW1 _) hb3 (Nat.le_refl _)) hb4 (Nat.le_refl _)) hle2 _ _ _⟩
        · have E : Hid (sumD ⟨s1, N, e1⟩ ⟨s2, M, e2⟩ = oddD ⟨s1, X - Y, min e1 e2⟩) := by show _ = _; rw [HE.out]; unfold addXY; rw [if_neg hs, if_neg hXY]
          have hXY' : Y ≤ X := by omega
          have hcc : decide (cmpN X Y < 0) = false := by unfold cmpN; rw [if_neg hXY]; simp; split <;> omega
          clear hs HE hXY
          go_wp2_with fail
          refine (Cmp_any v1 v2 X _ Y _ w1 h1 h2).mono ?_
          rintro e' w2 ⟨rfl, d, rfl⟩
          generalize cmpN X Y = cc at *
          go_wp2_with fail
          refine (Sub_ok v1 v2 X _ Y _ _ (h1.drewN _) (h2.drewN _) hXY').mono ?_
          rintro e' w3 ⟨v3, rfl, h3, hF3, hb3⟩
          obtain ⟨A3, c3, rfl, hc3, hcm3⟩ := h3.form
          go_wp2_with fail
          refine (odd_any s1 (.slice A3 (nd 64 (X - Y)) c3) (X - Y) _ (min e1 e2) w3 h3 ?_ (by omega)).mono ?_
          · exact Gl.below (w := World.drewN _ _) hG1 hb3
          rintro e' w4 ⟨x4, rfl, hV4, hb4⟩
          obtain ⟨A4, c4, rfl, hV4'⟩ := id hV4
          have hb3z := hb3.size
          have b2x := (Box3.keep (w := World.drewN _ _) b2' hb3).keep hb4
          obtain ⟨q1, q2, q3, q4, q5⟩ := b2x.cells
          go_wp2
          refine bodyPost_ret (v := .agg #[.bool (oddD ⟨s1, X - Y, min e1 e2⟩).s, .slice A4 (nd 64 (oddD ⟨s1, X - Y, min e1 e2⟩).n) c4, .int .i64 (oddD ⟨s1, X - Y, min e1 e2⟩).e]) (by simp [results, Tryd.results23, go_sem, q1, q2, q3]) rfl ?_
          rw [E.out]
          have hz2y : w.heap.size + 1 + 1 < w3.heap.size := by simp at hb3z; omega
          exact ⟨_, rfl, (hV4.setBox hz2y _ _ _).mono (by omega), below_box (keep_belowB (keep_belowB (below_drewN hBW1 _) hb3 (Nat.le_refl _)) hb4 (Nat.le_refl _)) hle2 _ _ _⟩

end Go.Proofs.YtakjbmlkcbedmaaDoor

/- The values of exact numbers: whole numbers of units 2^L. -/
namespace Go.Proofs.YtakjbmlkcbedmaaDoor
set_option linter.unusedVariables false

/-- -1, 0 or 1 -/
def sgD (s : Bool) (N : Nat) : Int := if N = 0 then 0 else if s then -1 else 1

/-- d in units of 2^L -/
def D.i (L : Int) (d : D) : Int := (if d.s then -(d.n : Int) else (d.n : Int)) * 2 ^ (d.e - L).toNat

/-- is it written canonically? -/
def D.can (d : D) : Prop := d = D.zero ∨ d.n % 2 = 1

def sgI (x : Int) : Int := if x = 0 then 0 else if x < 0 then -1 else 1

theorem ipow_pos (k : Nat) : (0 : Int) < 2 ^ k := Int.pow_pos (by decide)

theorem D.i_zero (L : Int) : D.zero.i L = 0 := by simp [D.i, D.zero]

theorem D.i_neg (L : Int) (s : Bool) (n : Nat) (e : Int) : D.i L ⟨!s, n, e⟩ = - D.i L ⟨s, n, e⟩ := by
  unfold D.i
  cases s <;> simp [Int.neg_mul]

theorem oddD_can (d : D) : (oddD d).can := by
  unfold oddD
  split
  · exact Or.inl rfl
  · rename_i h
    obtain ⟨m, hm⟩ := tzN_spec d.n h
    refine Or.inr ?_
    show d.n / 2 ^ tzN d.n % 2 = 1
    have : d.n / 2 ^ tzN d.n = 2 * m + 1 := by
      rw [hm]
      have e : tzN (2 ^ tzN d.n * (2 * m + 1)) = tzN d.n := by rw [← hm]
      rw [e]
      exact Nat.mul_div_cancel_left _ (pow_pos2 _)
    omega

theorem oddD_low (d : D) (L : Int) (h : L ≤ d.e) (h0 : L ≤ 0) : L ≤ (oddD d).e := by
  unfold oddD
  split
  · exact h0
  · show L ≤ d.e + tzN d.n; omega

theorem i_odd (d : D) (L : Int) (h : L ≤ d.e) : (oddD d).i L = d.i L := by
  unfold oddD
  split
  · rename_i h0
    rw [D.i_zero]
    unfold D.i; rw [h0]; simp
  · rename_i h0
    obtain ⟨m, hm⟩ := tzN_spec d.n h0
    unfold D.i
    simp only
    have e1 : d.n / 2 ^ tzN d.n = 2 * m + 1 := by
      conv => lhs; lhs; rw [hm]
      exact Nat.mul_div_cancel_left _ (pow_pos2 _)
    have e2 : (d.e + (tzN d.n : Int) - L).toNat = tzN d.n + (d.e - L).toNat := by omega
    have e3 : (d.n : Int) = 2 ^ tzN d.n * (2 * (m : Int) + 1) := by
      have := congrArg (fun x : Nat => (x : Int)) hm
      simpa using this
    rw [e1, e2, Int.pow_add, e3]
    generalize (2 : Int) ^ tzN d.n = p
    generalize (2 : Int) ^ (d.e - L).toNat = q
    have e4 : ((2 * m + 1 : Nat) : Int) = 2 * (m : Int) + 1 := by omega
    rw [e4]
    split <;> grind

theorem i_shift (s : Bool) (n : Nat) (e m L : Int) (h1 : m ≤ e) (h2 : L ≤ m) : D.i L ⟨s, n * 2 ^ (e - m).toNat, m⟩ = D.i L ⟨s, n, e⟩ := by
  unfold D.i
  simp only
  have e1 : (e - L).toNat = (e - m).toNat + (m - L).toNat := by omega
  rw [e1, Int.pow_add]
  have e2 : ((n * 2 ^ (e - m).toNat : Nat) : Int) = (n : Int) * 2 ^ (e - m).toNat := by simp
  rw [e2]
  generalize (2 : Int) ^ (e - m).toNat = p
  generalize (2 : Int) ^ (m - L).toNat = q
  split <;> grind

theorem i_addXY (s1 s2 : Bool) (X Y : Nat) (m L : Int) (h : L ≤ m) : (addXY s1 s2 X Y m).i L = D.i L ⟨s1, X, m⟩ + D.i L ⟨s2, Y, m⟩ := by
  unfold addXY
  split
  · rename_i hs
    rw [i_odd _ L h]
    subst hs
    unfold D.i
    simp only
    generalize (2 : Int) ^ (m - L).toNat = q
    have e : ((X + Y : Nat) : Int) = (X : Int) + (Y : Int) := by omega
    rw [e]
    split <;> grind
  · rename_i hs
    have hs2 : s1 = !s2 := by cases s1 <;> cases s2 <;> simp_all
    split
    · rename_i hlt
      rw [i_odd _ L h]
      unfold D.i
      simp only
      generalize (2 : Int) ^ (m - L).toNat = q
      have e : ((Y - X : Nat) : Int) = (Y : Int) - (X : Int) := by omega
      rw [e, hs2]
      cases s2 <;> simp <;> grind
    · rename_i hge
      rw [i_odd _ L h]
      unfold D.i
      simp only
      generalize (2 : Int) ^ (m - L).toNat = q
      have e : ((X - Y : Nat) : Int) = (X : Int) - (Y : Int) := by omega
      rw [e, hs2]
      cases s2 <;> simp <;> grind

theorem i_of_zero {d : D} (h : d.n = 0) (L : Int) : d.i L = 0 := by unfold D.i; rw [h]; simp

theorem i_sum (a b : D) (L : Int) (ha : L ≤ a.e) (hb : L ≤ b.e) : (sumD a b).i L = a.i L + b.i L := by
  unfold sumD
  split
  · rename_i h; rw [i_of_zero h]; omega
  · split
    · rename_i h; rw [i_of_zero h]; omega
    · rw [i_addXY _ _ _ _ _ L (by omega), i_shift _ _ _ _ _ (by omega) (by omega), i_shift _ _ _ _ _ (by omega) (by omega)]

theorem sumD_low (a b : D) (L : Int) (ha : L ≤ a.e) (hb : L ≤ b.e) (h0 : L ≤ 0) : L ≤ (sumD a b).e := by
  unfold sumD
  split
  · exact hb
  · split
    · exact ha
    · unfold addXY
      split
      · exact oddD_low _ L (by show L ≤ min a.e b.e; omega) h0
      · split
        · exact oddD_low _ L (by show L ≤ min a.e b.e; omega) h0
        · exact oddD_low _ L (by show L ≤ min a.e b.e; omega) h0

theorem sumD_can {a b : D} (ha : a.can) (hb : b.can) : (sumD a b).can := by
  unfold sumD
  split
  · exact hb
  · split
    · exact ha
    · unfold addXY
      split
      · exact oddD_can _
      · split <;> exact oddD_can _

theorem sgD_i (d : D) (L : Int) : sgD d.s d.n = sgI (d.i L) := by
  unfold sgD sgI D.i
  have hp := ipow_pos (d.e - L).toNat
  generalize (2 : Int) ^ (d.e - L).toNat = q at *
  by_cases h : d.n = 0
  · simp [h]
  · rw [if_neg h]
    have hn : (0 : Int) < d.n := by omega
    have hq : (0 : Int) < (d.n : Int) * q := Int.mul_pos hn hp
    cases hs : d.s
    · simp only [Bool.false_eq_true, if_false]
      rw [if_neg (by omega), if_neg (by omega)]
    · simp only [if_true]
      rw [if_neg (by simp; omega), if_pos (by rw [Int.neg_mul]; omega)]

theorem can_odd (d : D) (h : d.can) : oddD d = d := by
  rcases h with h | h
  · rw [h]; exact oddD_zero _ _
  · unfold oddD
    rw [if_neg (by intro h0; rw [h0] at h; simp at h)]
    have : tzN d.n = 0 := by rw [tzN, dif_neg (by intro h0; rw [h0] at h; simp at h), if_pos h]
    rw [this]
    cases d; simp

theorem can_inj {a b : D} {L : Int} (ha : a.can) (hb : b.can) (h1 : L ≤ a.e) (h2 : L ≤ b.e) (h : a.i L = b.i L) : a = b := by
  have key : ∀ (d : D), d.can → L ≤ d.e → (d.i L = 0 ↔ d = D.zero) := by
    intro d hd hl
    constructor
    · intro h0
      rcases hd with hd | hd
      · exact hd
      · exfalso
        unfold D.i at h0
        have hp := ipow_pos (d.e - L).toNat
        have hn : (0 : Int) < d.n := by omega
        have := Int.mul_pos hn hp
        split at h0
        · rw [Int.neg_mul] at h0; omega
        · omega
    · intro h0; rw [h0]; exact D.i_zero L
  by_cases hz : a.i L = 0
  · rw [(key a ha h1).1 hz, (key b hb h2).1 (by rw [← h]; exact hz)]
  · have hza : a ≠ D.zero := fun e => hz ((key a ha h1).2 e)
    have hzb : b ≠ D.zero := fun e => hz (by rw [h]; exact (key b hb h2).2 e)
    have oa : a.n % 2 = 1 := ha.resolve_left hza
    have ob : b.n % 2 = 1 := hb.resolve_left hzb
    unfold D.i at h
    have pa := ipow_pos (a.e - L).toNat
    have pb := ipow_pos (b.e - L).toNat
    have na : (0 : Int) < (a.n : Int) * 2 ^ (a.e - L).toNat := Int.mul_pos (by omega) pa
    have nb : (0 : Int) < (b.n : Int) * 2 ^ (b.e - L).toNat := Int.mul_pos (by omega) pb
    have hs : a.s = b.s := by
      cases ea : a.s <;> cases eb : b.s <;> rw [ea, eb] at h <;> first | rfl | (exfalso; simp only [if_true, Bool.false_eq_true, if_false, Int.neg_mul] at h; omega)
    have hm : a.n * 2 ^ (a.e - L).toNat = b.n * 2 ^ (b.e - L).toNat := by
      have : (a.n : Int) * 2 ^ (a.e - L).toNat = (b.n : Int) * 2 ^ (b.e - L).toNat := by
        rw [hs] at h
        cases eb : b.s <;> rw [eb] at h <;> simp only [if_true, Bool.false_eq_true, if_false, Int.neg_mul] at h <;> omega
      have h' : ((a.n * 2 ^ (a.e - L).toNat : Nat) : Int) = ((b.n * 2 ^ (b.e - L).toNat : Nat) : Int) := by simpa using this
      omega
    obtain ⟨m, hm1⟩ : ∃ m, a.n = 2 * m + 1 := ⟨a.n / 2, by omega⟩
    obtain ⟨k, hk1⟩ : ∃ k, b.n = 2 * k + 1 := ⟨b.n / 2, by omega⟩
    have hu := odd_part_unique (a := (a.e - L).toNat) (b := (b.e - L).toNat) (m := m) (k := k) (by rw [← hm1, ← hk1, Nat.mul_comm, hm, Nat.mul_comm])
    have hn : a.n = b.n := by omega
    have he : a.e = b.e := by omega
    cases a; cases b
    simp only [D.mk.injEq]
    exact ⟨hs, hn, he⟩

end Go.Proofs.YtakjbmlkcbedmaaDoor

/- Walks of layer 3: two, Canon, Neg, Sign, Top, FromInt. -/
namespace Go.Proofs.YtakjbmlkcbedmaaDoor
set_option linter.unusedVariables false
open Go.RowKit

/-- x is an exact number that came in: sign s, n words that read as N, exponent e. -/
def Da (w : World) (x : Value) (s : Bool) (N n : Nat) (e : Int) : Prop := ∃ A c, x = .agg #[.bool s, .slice A n c, .int .i64 e] ∧ n ≤ c ∧ n ≤ 35184372088832 ∧ Rd 64 w (.slice A n c) N n

theorem Da.below {w w' : World} {x : Value} {s : Bool} {N n : Nat} {e : Int} (h : Da w x s N n e) (hb : Below w.heap.size w w') : Da w' x s N n e := by
  obtain ⟨A, c, rfl, h1, h2, h3⟩ := h; exact ⟨A, c, rfl, h1, h2, h3.below hb⟩

theorem DV.da {B : Nat} {w : World} {x : Value} {d : D} (h : DV B w x d) : Da w x d.s d.n (nd 64 d.n) d.e := by
  obtain ⟨A, c, rfl, h1, h2, h3, _⟩ := h; exact ⟨A, c, rfl, h1, h2, h3⟩

set_option maxHeartbeats 1000000 in
theorem two_any (s1 s2 : Bool) (A1 A2 : Option Addr) (n1 n2 c1 c2 : Nat) (e1 e2 : Int) (w : World) (h1 : n1 ≤ 35184372088832) (h2 : n2 ≤ 35184372088832) :
    Calls Tryd.prog 32 #[.agg #[.bool s1, .slice A1 n1 c1, .int .i64 e1], .agg #[.bool s2, .slice A2 n2 c2, .int .i64 e2]] w fun e' w' =>
      e' = .returned (.int .i64 (twoD n1 e1 n2 e2)) ∧ Below w.heap.size w w' := by
  by_cases hr : refD n1 e1 = 0
  · have E : Hid (twoD n1 e1 n2 e2 = refD n2 e2) := by show _ = _; unfold twoD; rw [if_pos hr]
    go_enter Tryd.func32, Tryd.ntmps32
    go_wp2_with fail
    refine (refuses_any s1 A1 n1 c1 e1 _ h1).mono ?_
    rintro e w1 ⟨rfl, hb1⟩
    rw [hr]
    obtain ⟨_, ⟨k3, k4, k5⟩, _, _⟩ := two_boxes hb1
    have hB1 := keep_belowB (below2 w (Obj.cells #[Value.bool s1, Value.slice A1 n1 c1, Value.int IntKind.i64 e1] 26) (Obj.cells #[Value.bool s2, Value.slice A2 n2 c2, Value.int IntKind.i64 e2] 26)) hb1 (Nat.le_refl _)
    clear hr
    go_wp2_with fail
    refine (refuses_any s2 A2 n2 c2 e2 _ h2).mono ?_
    rintro e w2 ⟨rfl, hb2⟩
    go_wp2
    go_ret
    exact ⟨by rw [E.out]; rfl, keep_belowB hB1 hb2 (Nat.le_refl _)⟩
  · have E : Hid (twoD n1 e1 n2 e2 = refD n1 e1) := by show _ = _; unfold twoD; rw [if_neg hr]
    have hne : (refD n1 e1 != 0) = true := by simpa using hr
    go_enter Tryd.func32, Tryd.ntmps32
    go_wp2_with fail
    refine (refuses_any s1 A1 n1 c1 e1 _ h1).mono ?_
    rintro e w1 ⟨rfl, hb1⟩
    have hB1 := keep_belowB (below2 w (Obj.cells #[Value.bool s1, Value.slice A1 n1 c1, Value.int IntKind.i64 e1] 26) (Obj.cells #[Value.bool s2, Value.slice A2 n2 c2, Value.int IntKind.i64 e2] 26)) hb1 (Nat.le_refl _)
    generalize refD n1 e1 = rr at *
    clear hr
    go_wp2
    go_ret
    exact ⟨by rw [E.out]; rfl, hB1⟩

set_option maxHeartbeats 1000000 in
theorem Canon_any (s : Bool) (A : Option Addr) (N n c : Nat) (e : Int) (w : World) (hv : Rd 64 w (.slice A n c) N n) (hG : Gl w) :
    Calls Tryd.prog 13 #[.agg #[.bool s, .slice A n c, .int .i64 e]] w fun e' w' => ∃ x, e' = .returned (.tuple #[x, .int .i64 (canonD n ⟨s, N, e⟩).2]) ∧ DV w.heap.size w' x (canonD n ⟨s, N, e⟩).1 ∧ Below w.heap.size w w' := by
  have hlen := hv.len
  have hB := below2 w (Obj.cells #[Value.bool s, Value.slice A n c, Value.int IntKind.i64 e] 26) (Obj.cells #[Value.bool false, Value.slice none 0 0, Value.int IntKind.i64 0] 26)
  by_cases hr : refD n e = 0
  · have hb := refD_zero hr
    have E : Hid (canonD n ⟨s, N, e⟩ = ansD ⟨s, N, e⟩) := by show _ = _; unfold canonD; rw [if_pos hr]
    go_enter Tryd.func13, Tryd.ntmps13
    go_wp2_with fail
    refine (refuses_any s A n c e _ hlen).mono ?_
    rintro e1 w1 ⟨rfl, hb1⟩
    rw [hr]
    clear hr
    obtain ⟨⟨k0, k1, k2⟩, ⟨k3, k4, k5⟩, f0, f1⟩ := two_boxes hb1
    have hB1 := keep_belowB hB hb1 (Nat.le_refl _)
    go_wp2_with fail
    refine (answer_any s (.slice A n c) N n e w1 (hv.below hB1) (hG.below hB1) (by omega)).mono ?_
    rintro e2 w2 ⟨x2, rfl, hV2, hb2⟩
    have hb12 := keep_below hb1 hb2
    obtain ⟨_, ⟨k3', k4', k5'⟩, _, f1'⟩ := two_boxes hb12
    have hB2 := keep_belowB hB1 hb2 (Nat.le_refl _)
    have hz := hb1.size
    simp at hz
    generalize ansD ⟨s, N, e⟩ = r at *
    obtain ⟨A2, c2, rfl, hV2'⟩ := id hV2
    go_wp2
    refine bodyPost_ret (v := .tuple #[.agg #[.bool r.1.s, .slice A2 (nd 64 r.1.n) c2, .int .i64 r.1.e], .int .i64 r.2]) (by simp [results, Tryd.results13, go_sem, k3', k4', k5']) rfl ?_
    rw [E.out]
    exact ⟨_, rfl, (hV2.setBox (by omega) _ _ _).mono (by omega), below_box hB2 (Nat.le_succ _) _ _ _⟩
  · have E : Hid (canonD n ⟨s, N, e⟩ = (D.zero, refD n e)) := by show _ = _; unfold canonD; rw [if_neg hr]
    have hne : (refD n e != 0) = true := by simpa using hr
    go_enter Tryd.func13, Tryd.ntmps13
    go_wp2_with fail
    refine (refuses_any s A n c e _ hlen).mono ?_
    rintro e1 w1 ⟨rfl, hb1⟩
    generalize refD n e = rr at *
    clear hr
    obtain ⟨⟨k0, k1, k2⟩, ⟨k3, k4, k5⟩, f0, f1⟩ := two_boxes hb1
    have hB1 := keep_belowB hB hb1 (Nat.le_refl _)
    go_wp2
    refine bodyPost_ret (v := .tuple #[.agg #[.bool false, .slice none 0 0, .int .i64 0], .int .i64 rr]) (by simp [results, Tryd.results13, go_sem, k3, k4, k5]) rfl ?_
    rw [E.out]
    exact ⟨_, rfl, DV.zero, below_box hB1 (Nat.le_succ _) _ _ _⟩

end Go.Proofs.YtakjbmlkcbedmaaDoor

/- Walks of layer 3: Neg, Sign, Top, FromInt, Scale. -/
namespace Go.Proofs.YtakjbmlkcbedmaaDoor
set_option linter.unusedVariables false
open Go.RowKit

theorem Box3.setOther {w : World} {g : Nat} {a b c : Value} (h : Box3 w g a b c) {p : Addr} (hp : p.block ≠ g) (u : Value) : Box3 (w.setCell p u) g a b c := by
  obtain ⟨t, h⟩ := h
  exact ⟨t, (Below.heap_setCell w p u g (Ne.symm hp)).trans h⟩

def negD (n : Nat) (d : D) : D × Int := if refD n d.e = 0 then ansD ⟨!d.s, d.n, d.e⟩ else (D.zero, refD n d.e)

set_option maxHeartbeats 1000000 in
theorem Neg_any (s : Bool) (A : Option Addr) (N n c : Nat) (e : Int) (w : World) (hv : Rd 64 w (.slice A n c) N n) (hG : Gl w) :
    Calls Tryd.prog 42 #[.agg #[.bool s, .slice A n c, .int .i64 e]] w fun e' w' => ∃ x, e' = .returned (.tuple #[x, .int .i64 (negD n ⟨s, N, e⟩).2]) ∧ DV w.heap.size w' x (negD n ⟨s, N, e⟩).1 ∧ Below w.heap.size w w' := by
  have hlen := hv.len
  have hB := below2 w (Obj.cells #[Value.bool s, Value.slice A n c, Value.int IntKind.i64 e] 26) (Obj.cells #[Value.bool false, Value.slice none 0 0, Value.int IntKind.i64 0] 26)
  by_cases hr : refD n e = 0
  · have hb := refD_zero hr
    have E : Hid (negD n ⟨s, N, e⟩ = ansD ⟨!s, N, e⟩) := by show _ = _; unfold negD; rw [if_pos hr]
    go_enter Tryd.func42, Tryd.ntmps42
    go_wp2_with fail
    refine (refuses_any s A n c e _ hlen).mono ?_
    rintro e1 w1 ⟨rfl, hb1⟩
    rw [hr]
    clear hr
    obtain ⟨⟨k0, k1, k2⟩, ⟨k3, k4, k5⟩, f0, f1⟩ := two_boxes hb1
    have b2 := (Box3.new1 w (Obj.cells #[Value.bool s, Value.slice A n c, Value.int IntKind.i64 e] 26) (Value.bool false) (Value.slice none 0 0) (Value.int IntKind.i64 0) 26).keep hb1
    have hB1 := keep_belowB hB hb1 (Nat.le_refl _)
    have hB2 := hB1.setCell (p := ⟨w.heap.size, 0, none⟩) (Nat.le_refl _) (.bool !s)
    have hz := hb1.size
    simp at hz
    go_wp2_with fail
    refine (answer_any (!s) (.slice A n c) N n e _ (hv.below hB2) (hG.below hB2) (by omega)).mono ?_
    rintro e2 w2 ⟨x2, rfl, hV2, hb2⟩
    obtain ⟨k3', k4', k5', f1', _⟩ := ((b2.setOther (p := ⟨w.heap.size, 0, none⟩) (by simp) (.bool !s)).keep hb2).cells
    have hB3 := keep_belowB hB2 hb2 (Nat.le_refl _)
    generalize ansD ⟨!s, N, e⟩ = r at *
    obtain ⟨A2, c2, rfl, hV2'⟩ := id hV2
    go_wp2
    refine bodyPost_ret (v := .tuple #[.agg #[.bool r.1.s, .slice A2 (nd 64 r.1.n) c2, .int .i64 r.1.e], .int .i64 r.2]) (by simp [results, Tryd.results42, go_sem, k3', k4', k5']) rfl ?_
    rw [E.out]
    exact ⟨_, rfl, (hV2.setBox (by simp; omega) _ _ _).mono (by simp; omega), below_box hB3 (Nat.le_succ _) _ _ _⟩
  · have E : Hid (negD n ⟨s, N, e⟩ = (D.zero, refD n e)) := by show _ = _; unfold negD; rw [if_neg hr]
    have hne : (refD n e != 0) = true := by simpa using hr
    go_enter Tryd.func42, Tryd.ntmps42
    go_wp2_with fail
    refine (refuses_any s A n c e _ hlen).mono ?_
    rintro e1 w1 ⟨rfl, hb1⟩
    generalize refD n e = rr at *
    clear hr
    obtain ⟨⟨k0, k1, k2⟩, ⟨k3, k4, k5⟩, f0, f1⟩ := two_boxes hb1
    have hB1 := keep_belowB hB hb1 (Nat.le_refl _)
    go_wp2
    refine bodyPost_ret (v := .tuple #[.agg #[.bool false, .slice none 0 0, .int .i64 0], .int .i64 rr]) (by simp [results, Tryd.results42, go_sem, k3, k4, k5]) rfl ?_
    rw [E.out]
    exact ⟨_, rfl, DV.zero, below_box hB1 (Nat.le_succ _) _ _ _⟩

set_option maxHeartbeats 1000000 in
theorem Sign_any (s : Bool) (A : Option Addr) (N n c : Nat) (e : Int) (w : World) (hv : Rd 64 w (.slice A n c) N n) :
    Calls Tryd.prog 16 #[.agg #[.bool s, .slice A n c, .int .i64 e]] w fun e' w' => e' = .returned (.int .i64 (sgD s N)) ∧ Below w.heap.size w w' := by
  have hB := below1 w (Obj.cells #[Value.bool s, Value.slice A n c, Value.int IntKind.i64 e] 26)
  have hb0 := Box3.new w (Value.bool s) (Value.slice A n c) (Value.int IntKind.i64 e) 26
  go_enter Tryd.func16, Tryd.ntmps16
  go_wp2_with fail
  refine (Trim_any (.slice A n c) N n _ (hv.below hB)).mono ?_
  rintro e1 w1 ⟨v1, rfl, h1, hF1, hb1⟩
  obtain ⟨A1, c1, rfl, hc1, hcm1⟩ := h1.form
  obtain ⟨k0, k1, k2, f0, _⟩ := (hb0.keep hb1).cells
  have hB1 := keep_belowB hB hb1 (Nat.le_refl _)
  by_cases hN : N = 0
  · have E : Hid (sgD s N = 0) := by show _ = _; unfold sgD; rw [if_pos hN]
    have hn0 : nd 64 N = 0 := by rw [hN, nd_zero]
    rw [hn0] at *
    clear hN
    go_wp2
    go_ret
    exact ⟨by rw [E.out]; rfl, hB1⟩
  · have hp := nd_pos 64 N hN
    have hz : (((nd 64 N : Nat) : Int) == 0) = false := by rw [beq_eq_false_iff_ne]; omega
    have E : Hid (sgD s N = if s then -1 else 1) := by show _ = _; unfold sgD; rw [if_neg hN]
    clear hN
    generalize nd 64 N = a at *
    cases s
    · go_wp2
      go_ret
      exact ⟨by rw [E.out]; rfl, hB1⟩
    · go_wp2
      go_ret
      exact ⟨by rw [E.out]; rfl, hB1⟩

def topD (n : Nat) (d : D) : Int × Int := if refD n d.e = 0 then (if d.n = 0 then (0, 31) else ((bl d.n : Int) - 1 + d.e, 0)) else (0, refD n d.e)

set_option maxHeartbeats 1000000 in
theorem Top_any (s : Bool) (A : Option Addr) (N n c : Nat) (e : Int) (w : World) (hv : Rd 64 w (.slice A n c) N n) :
    Calls Tryd.prog 19 #[.agg #[.bool s, .slice A n c, .int .i64 e]] w fun e' w' => e' = .returned (.tuple #[.int .i64 (topD n ⟨s, N, e⟩).1, .int .i64 (topD n ⟨s, N, e⟩).2]) ∧ Below w.heap.size w w' := by
  have hlen := hv.len
  have hB := below1 w (Obj.cells #[Value.bool s, Value.slice A n c, Value.int IntKind.i64 e] 26)
  have hb0 := Box3.new w (Value.bool s) (Value.slice A n c) (Value.int IntKind.i64 e) 26
  by_cases hr : refD n e = 0
  · have hb := refD_zero hr
    have hbl := bl_le N (64 * n) hv.lt
    have E : Hid (topD n ⟨s, N, e⟩ = if N = 0 then (0, 31) else ((bl N : Int) - 1 + e, 0)) := by show _ = _; unfold topD; rw [if_pos hr]
    go_enter Tryd.func19, Tryd.ntmps19
    go_wp2_with fail
    refine (refuses_any s A n c e _ hlen).mono ?_
    rintro e1 w1 ⟨rfl, hb1⟩
    rw [hr]
    clear hr
    obtain ⟨k0, k1, k2, f0, _⟩ := (hb0.keep hb1).cells
    have hB1 := keep_belowB hB hb1 (Nat.le_refl _)
    go_wp2_with fail
    refine (Len_any (.slice A n c) N n w1 (hv.below hB1)).mono ?_
    rintro e2 w2 ⟨rfl, rfl⟩
    by_cases hN : N = 0
    · rw [if_pos hN] at E
      have h0 : bl N = 0 := by rw [hN]; rfl
      rw [h0]
      clear hN h0 hbl
      go_wp2
      go_ret2
      exact ⟨by rw [E.out]; rfl, hB1⟩
    · rw [if_neg hN] at E
      have h0 : ((bl N : Int) == 0) = false := by rw [beq_eq_false_iff_ne]; unfold bl; rw [if_neg hN]; omega
      clear hN
      generalize bl N = m at *
      go_wp2
      go_ret2
      exact ⟨by rw [E.out]; rfl, hB1⟩
  · have E : Hid (topD n ⟨s, N, e⟩ = (0, refD n e)) := by show _ = _; unfold topD; rw [if_neg hr]
    have hne : (refD n e != 0) = true := by simpa using hr
    go_enter Tryd.func19, Tryd.ntmps19
    go_wp2_with fail
    refine (refuses_any s A n c e _ hlen).mono ?_
    rintro e1 w1 ⟨rfl, hb1⟩
    have hB1 := keep_belowB hB hb1 (Nat.le_refl _)
    generalize refD n e = rr at *
    clear hr
    go_wp2
    go_ret2
    exact ⟨by rw [E.out]; rfl, hB1⟩

end Go.Proofs.YtakjbmlkcbedmaaDoor

/- Walks of layer 3: FromInt, Scale, Floor. -/
namespace Go.Proofs.YtakjbmlkcbedmaaDoor
set_option linter.unusedVariables false
open Go.RowKit

theorem Box3.set0 {w : World} {g : Nat} {a b c : Value} (h : Box3 w g a b c) (x : Value) : Box3 (w.setCell ⟨g, 0, none⟩ x) g x b c := by
  obtain ⟨t, h⟩ := h
  refine ⟨t, ?_⟩
  simp [World.setCell, Array.getElem?_modify, h]
theorem Box3.set1 {w : World} {g : Nat} {a b c : Value} (h : Box3 w g a b c) (x : Value) : Box3 (w.setCell ⟨g, 1, none⟩ x) g a x c := by
  obtain ⟨t, h⟩ := h
  refine ⟨t, ?_⟩
  simp [World.setCell, Array.getElem?_modify, h]
theorem Box3.set2 {w : World} {g : Nat} {a b c : Value} (h : Box3 w g a b c) (x : Value) : Box3 (w.setCell ⟨g, 2, none⟩ x) g a b x := by
  obtain ⟨t, h⟩ := h
  refine ⟨t, ?_⟩
  simp [World.setCell, Array.getElem?_modify, h]
theorem Box3.setAll {w : World} {g : Nat} {a b c : Value} (h : Box3 w g a b c) (x y z : Value) : Box3 (((w.setCell ⟨g, 0, none⟩ x).setCell ⟨g, 1, none⟩ y).setCell ⟨g, 2, none⟩ z) g x y z := ((h.set0 x).set1 y).set2 z
theorem Box3.otherAll {w : World} {g g' : Nat} {a b c : Value} (h : Box3 w g a b c) (hg : g' ≠ g) (x y z : Value) : Box3 (((w.setCell ⟨g', 0, none⟩ x).setCell ⟨g', 1, none⟩ y).setCell ⟨g', 2, none⟩ z) g a b c :=
  ((h.setOther (p := ⟨g', 0, none⟩) hg x).setOther (p := ⟨g', 1, none⟩) hg y).setOther (p := ⟨g', 2, none⟩) hg z

theorem Rd.one (w : World) (x : Nat) (hx : x < 18446744073709551616) : Rd 64 (w.alloc (.cells #[.int .u64 x] 42)) (.slice (some ⟨w.heap.size, 0, none⟩) 1 1) x 1 := by
  refine ⟨_, 1, rfl, Nat.le_refl _, by omega, by simpa using hx, fun _ => ⟨w.heap.size, 0, rfl, by simp, fun j hj => ?_⟩⟩
  obtain rfl : j = 0 := by omega
  rw [World.cell?_alloc_at _ _ _ _ rfl]
  have : dg 64 x 0 = x := by unfold dg; simp; exact hx
  rw [this]; rfl

def fromIntD (x : Int) : D := oddD ⟨decide (x < 0), x.natAbs, 0⟩

set_option maxRecDepth 100000 in
set_option maxHeartbeats 1000000 in
theorem FromInt_any (x : Int) (w : World) (hx : -9223372036854775808 ≤ x ∧ x ≤ 9223372036854775807) (hG : Gl w) :
    Calls Tryd.prog 40 #[.int .i64 x] w fun e' w' => ∃ v, e' = .returned v ∧ DV w.heap.size w' v (fromIntD x) ∧ Below w.heap.size w w' := by
  obtain ⟨m, hm⟩ : ∃ m, m = x.natAbs := ⟨_, rfl⟩
  have hml : m < 18446744073709551616 := by omega
  have hB := below2 w (Obj.cells #[Value.bool false, Value.slice none 0 0, Value.int IntKind.i64 0] 26) (.cells #[.int .u64 m] 42)
  have b0 := (Box3.new w (Value.bool false) (Value.slice none 0 0) (Value.int IntKind.i64 0) 26).alloc (.cells #[.int .u64 m] 42)
  have hR : Rd 64 ((w.alloc (Obj.cells #[Value.bool false, Value.slice none 0 0, Value.int IntKind.i64 0] 26)).alloc (.cells #[.int .u64 m] 42)) (.slice (some ⟨w.heap.size + 1, 0, none⟩) 1 1) m 1 := by
    have h := Rd.one (w.alloc (Obj.cells #[Value.bool false, Value.slice none 0 0, Value.int IntKind.i64 0] 26)) m hml
    rw [World.size_alloc] at h
    exact h
  have E : Hid (fromIntD x = oddD ⟨decide (x < 0), m, 0⟩) := by show _ = _; rw [hm]; rfl
  have hG2 := hG.below hB
  by_cases hneg : x < 0
  · have hc : IntKind.u64.wrap x = x + 18446744073709551616 := by rw [IntKind.wrap_u64]; omega
    have hc2 : IntKind.u64.wrap (-(x + 18446744073709551616)) = (m : Int) := by rw [IntKind.wrap_u64]; omega
    have hd : decide (x < 0) = true := by simpa using hneg
    clear hm
    go_enter Tryd.func40, Tryd.ntmps40
    go_wp2_with fail
    refine (odd_any true _ m 1 0 _ hR hG2 (by omega)).mono ?_
    rintro e1 w1 ⟨x1, rfl, hV, hb1⟩
    have hB1 := keep_belowB hB hb1 (Nat.le_refl _)
    obtain ⟨k0, k1, k2, f0, _⟩ := (b0.keep hb1).cells
    have hz := hb1.size
    simp at hz
    obtain ⟨A2, c2, rfl, hV2'⟩ := id hV
    rw [hd] at E
    generalize oddD ⟨true, m, 0⟩ = r at *
    go_wp2
    refine bodyPost_ret (v := .agg #[.bool r.s, .slice A2 (nd 64 r.n) c2, .int .i64 r.e]) (by simp [results, Tryd.results40, go_sem, k0, k1, k2]) rfl ?_
    rw [E.out]
    exact ⟨_, rfl, (hV.setBox (by simp; omega) _ _ _).mono (by simp; omega), below_box hB1 (Nat.le_refl _) _ _ _⟩
  · have hc : IntKind.u64.wrap x = (m : Int) := by rw [IntKind.wrap_u64]; omega
    have hd : decide (x < 0) = false := by simpa using hneg
    clear hm
    go_enter Tryd.func40, Tryd.ntmps40
    go_wp2_with fail
    refine (odd_any false _ m 1 0 _ hR hG2 (by omega)).mono ?_
    rintro e1 w1 ⟨x1, rfl, hV, hb1⟩
    have hB1 := keep_belowB hB hb1 (Nat.le_refl _)
    obtain ⟨k0, k1, k2, f0, _⟩ := (b0.keep hb1).cells
    have hz := hb1.size
    simp at hz
    obtain ⟨A2, c2, rfl, hV2'⟩ := id hV
    rw [hd] at E
    generalize oddD ⟨false, m, 0⟩ = r at *
    go_wp2
    refine bodyPost_ret (v := .agg #[.bool r.s, .slice A2 (nd 64 r.n) c2, .int .i64 r.e]) (by simp [results, Tryd.results40, go_sem, k0, k1, k2]) rfl ?_
    rw [E.out]
    exact ⟨_, rfl, (hV.setBox (by simp; omega) _ _ _).mono (by simp; omega), below_box hB1 (Nat.le_refl _) _ _ _⟩

end Go.Proofs.YtakjbmlkcbedmaaDoor
