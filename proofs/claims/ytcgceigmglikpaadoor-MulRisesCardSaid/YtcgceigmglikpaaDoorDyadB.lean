/- Walks of layer 3: refuses, odd, answer. -/
import Derived.Outline
import Derived.Test.YtcgceigmglikpaaDoorDyadA
import Derived.Test.YtcgceigmglikpaaDoorTz
namespace Go.Proofs.YtcgceigmglikpaaDoor
set_option linter.unusedVariables false
open Go.RowKit

set_option maxHeartbeats 400000 in
theorem refuses_any (s : Bool) (A : Option Addr) (n c : Nat) (e : Int) (w : World) (hn : n ≤ 35184372088832) :
    Calls Tryd.prog 127 #[.agg #[.bool s, .slice A n c, .int .i64 e]] w fun e' w' => e' = .returned (.int .i64 (refD n e)) ∧ Below w.heap.size w w' := by
  by_cases h1 : 1024 < n
  · have E : Hid (refD n e = 5) := by show _ = _; unfold refD; rw [if_pos h1]
    have h1' : (1024 : Int) < n := by omega
    go_enter Tryd.func127, Tryd.ntmps127
    go_wp2
    go_ret
    exact ⟨by rw [E.out]; rfl, (Below.refl _ _).alloc (Nat.le_refl _) _⟩
  · have h1' : decide ((1024 : Int) < n) = false := by simp; omega
    by_cases h2 : e < -40000
    · have E : Hid (refD n e = 30) := by show _ = _; unfold refD; rw [if_neg h1, if_pos (Or.inl h2)]
      go_enter Tryd.func127, Tryd.ntmps127
      go_wp2
      go_ret
      exact ⟨by rw [E.out]; rfl, (Below.refl _ _).alloc (Nat.le_refl _) _⟩
    · have h2' : decide (e < -40000) = false := by simpa using h2
      by_cases h3 : 40000 < e
      · have E : Hid (refD n e = 30) := by show _ = _; unfold refD; rw [if_neg h1, if_pos (Or.inr h3)]
        go_enter Tryd.func127, Tryd.ntmps127
        go_wp2
        go_ret
        exact ⟨by rw [E.out]; rfl, (Below.refl _ _).alloc (Nat.le_refl _) _⟩
      · have E : Hid (refD n e = 0) := by show _ = _; unfold refD; rw [if_neg h1, if_neg (by omega)]
        have h3' : decide (40000 < e) = false := by simpa using h3
        go_enter Tryd.func127, Tryd.ntmps127
        go_wp2
        go_ret
        exact ⟨by rw [E.out]; rfl, (Below.refl _ _).alloc (Nat.le_refl _) _⟩

/-- the value x reads as the exact number d, its words without zeros at their end -/
def Dv (w : World) (x : Value) (d : D) : Prop := ∃ v, x = .agg #[.bool d.s, v, .int .i64 d.e] ∧ Rd 64 w v d.n (nd 64 d.n)
/-- likewise, its words in memory from B on -/
def DV (B : Nat) (w : World) (x : Value) (d : D) : Prop := ∃ A c, x = .agg #[.bool d.s, .slice A (nd 64 d.n) c, .int .i64 d.e] ∧ nd 64 d.n ≤ c ∧ nd 64 d.n ≤ 35184372088832 ∧ Rd 64 w (.slice A (nd 64 d.n) c) d.n (nd 64 d.n) ∧ Fr B w (.slice A (nd 64 d.n) c)

theorem Dv.below {w w' : World} {x : Value} {d : D} (h : Dv w x d) (hb : Below w.heap.size w w') : Dv w' x d := by
  obtain ⟨v, rfl, h⟩ := h; exact ⟨v, rfl, h.below hb⟩
theorem DV.below {B : Nat} {w w' : World} {x : Value} {d : D} (h : DV B w x d) (hb : Below w.heap.size w w') : DV B w' x d := by
  obtain ⟨A, c, rfl, h1, h2, h3, h4⟩ := h; exact ⟨A, c, rfl, h1, h2, h3.below hb, h4.below hb⟩
theorem DV.mono {B B' : Nat} {w : World} {x : Value} {d : D} (h : DV B w x d) (hB : B' ≤ B) : DV B' w x d := by
  obtain ⟨A, c, rfl, h1, h2, h3, h4⟩ := h; exact ⟨A, c, rfl, h1, h2, h3, h4.mono hB⟩
theorem DV.dv {B : Nat} {w : World} {x : Value} {d : D} (h : DV B w x d) : Dv w x d := by
  obtain ⟨A, c, rfl, _, _, h, _⟩ := h; exact ⟨_, rfl, h⟩
theorem DV.setCell {B : Nat} {w : World} {x : Value} {d : D} (h : DV B w x d) {p : Addr} (hp : p.block < B) (u : Value) : DV B (w.setCell p u) x d := by
  obtain ⟨A, c, rfl, h1, h2, h3, h4⟩ := h; exact ⟨A, c, rfl, h1, h2, h3.setCell_fr h4 hp u, h4.setCell hp u⟩
theorem DV.zero {B : Nat} {w : World} : DV B w (.agg #[.bool false, .slice none 0 0, .int .i64 0]) D.zero :=
  ⟨none, 0, by rw [show D.zero.n = 0 from rfl, nd_zero]; rfl, by rw [show D.zero.n = 0 from rfl, nd_zero]; omega, by rw [show D.zero.n = 0 from rfl, nd_zero]; omega, by rw [show D.zero.n = 0 from rfl, nd_zero]; exact Rd.nil_, by rw [show D.zero.n = 0 from rfl, nd_zero]; exact Fr.none_⟩
theorem Dv.zero {w : World} : Dv w (.agg #[.bool false, .slice none 0 0, .int .i64 0]) D.zero := (DV.zero (B := 0)).dv

set_option maxHeartbeats 1000000 in
theorem odd_any (s : Bool) (v : Value) (N n : Nat) (e : Int) (w : World) (hv : Rd 64 w v N n) (hG : Gl w) (he : -1000000000000 ≤ e ∧ e ≤ 1000000000000) :
    Calls Tryd.prog 84 #[.agg #[.bool s, v, .int .i64 e]] w fun e' w' => ∃ x, e' = .returned x ∧ DV w.heap.size w' x (oddD ⟨s, N, e⟩) ∧ Below w.heap.size w w' := by
  obtain ⟨A, c, rfl, hc, hcm⟩ := hv.form
  have hnd := Nat.le_trans (nd_le 64 N n (by decide) hv.lt) hv.len
  go_enter Tryd.func84, Tryd.ntmps84
  go_wp2_with fail
  have hB : Below w.heap.size w ((w.alloc (Obj.cells #[Value.bool s, Value.slice A n c, Value.int IntKind.i64 e] 53)).alloc (Obj.cells #[Value.bool false, Value.slice none 0 0, Value.int IntKind.i64 0] 53)) :=
    ((Below.refl _ _).alloc (Nat.le_refl _) _).alloc (by simp) _
  refine (Trim_any (.slice A n c) N n _ (hv.below hB)).mono ?_
  rintro e1 w1 ⟨v1, rfl, h1, hf1, hb1⟩
  obtain ⟨A1, c1, rfl, hc1, hcm1⟩ := h1.form
  obtain ⟨_, _, _, hr1⟩ := h1.at_
  obtain ⟨hcl, hfr⟩ := below_cell hb1
  have hz : w.heap.size + 1 < w1.heap.size := by have := hb1.size; simp at this; omega
  have hB1 := hB.trans (hb1.mono hB.size)
  have hG1 := hG.below hB1
  rcases Nat.eq_zero_or_pos N with rfl | hN
  · rw [nd_zero] at *
    go_wp2
    refine bodyPost_ret (v := .agg #[.bool false, .slice none 0 0, .int .i64 0]) (by simp [results, Tryd.results84, go_sem, hcl]) rfl ?_
    refine ⟨_, rfl, by rw [oddD_zero]; exact DV.zero, ?_⟩
    exact ((hB1.setCell (Nat.le_succ _) _).setCell (Nat.le_succ _) _).setCell (Nat.le_succ _) _
  · have hN0 : N ≠ 0 := by omega
    have hp := nd_pos 64 N hN0
    have HN := Lib.hid (lt_nd 64 N (by decide))
    have hlen : (((nd 64 N : Nat) : Int) == 0) = false := by rw [beq_eq_false_iff_ne]; omega
    obtain ⟨b1, o1, rfl, hb1', hcell⟩ := hr1 hp
    have HNz := Lib.hid hN0
    clear hr1 hN0 hN
    obtain ⟨E, hE⟩ : ∃ E, E = oddD ⟨s, N, e⟩ := ⟨_, rfl⟩
    generalize hnN : nd 64 N = a at *
    have HnN := Lib.hid hnN
    clear hnN
    go_wp2
    go_loop [4] (fun x => ∃ z i : Nat, i < a ∧ x = .int .i64 z ∧ z = 64 * i ∧ Hid (N % 2 ^ (64 * i) = 0)) (fun x => 64 * a - (intOf x).toNat)
    case atStart => exact ⟨0, 0, hp, rfl, rfl, by show _ = _; simp [Nat.mod_one]⟩
    case round =>
      obtain ⟨z, i, hi, rfl, hzi, hm⟩ := hrel
      have hq : (z : Int) / 64 = (i : Int) := by omega
      have hk := hcell i hi
      clear hcell
      have Hzi := Lib.hid hzi
      have hzle : z ≤ 64 * a := by omega
      have hzlt : z < 64 * a := by omega
      have hia : (i : Int) < a := by omega
      by_cases hd : dg 64 N i = 0
      · have hm2 : N % 2 ^ (64 * (i + 1)) = 0 := by rw [mod_succ, hm.out, hd]; simp
        have hia2 : i + 1 < a := by
          rcases Nat.lt_or_ge (i + 1) a with h | h
          · exact h
          · exfalso
            have : i + 1 = a := by omega
            rw [this, Nat.mod_eq_of_lt HN.out] at hm2
            exact HNz.out hm2
        have Hm2 := Lib.hid hm2
        rw [hd] at hk
        clear hd hm2 hzi
        go_wp2
        go_round
        case rel => exact ⟨z + 64, i + 1, by omega, by go_num, by have := Hzi.out; omega, Hm2.out⟩
        case measure => simp [intOf]; omega
      · have hd' : (((dg 64 N i : Nat) : Int) == 0) = false := by rw [beq_eq_false_iff_ne]; omega
        obtain ⟨m, hm1, hm2⟩ := tz_spec (dg 64 N i) (dg64_lt N i) hd
        have htz := tzN_digits N i m (tz (dg 64 N i)) hm.out hm1 hm2
        have hx := dg64_lt N i
        rw [← hzi] at htz
        have Htz := Lib.hid htz
        clear htz hm1 hd hzi
        generalize dg 64 N i = x at *
        go_wp2_with fail
        refine (tz64_any x w1 hx hG1.tz).mono ?_
        rintro e2 w2 ⟨rfl, rfl⟩
        generalize tz x = t at *
        go_wp2_with fail
        rw [show ((z : Int) + (t : Int)) = ((z + t : Nat) : Int) from by omega]
        refine (Shr_any _ N a (z + t) w1 h1 (by omega)).mono ?_
        rintro e3 w3 ⟨v3, rfl, h3, hf3, hb3⟩
        obtain ⟨A3, c3, rfl, hc3, hcm3⟩ := h3.form
        obtain ⟨hcl3, hfr3⟩ := below_cell hb3
        have hz3 : w.heap.size + 1 < w3.heap.size := by have := hb3.size; omega
        have hz0 : w.heap.size < w1.heap.size := by omega
        have hz30 : w.heap.size < w3.heap.size := by omega
        go_wp2
        have ho : oddD ⟨s, N, e⟩ = ⟨s, N / 2 ^ (z + t), e + ((z : Int) + (t : Int))⟩ := by simp [oddD, HNz.out, Htz.out]
        refine bodyPost_ret (v := .agg #[.bool s, .slice A3 (nd 64 (N / 2 ^ (z + t))) c3, .int .i64 (e + ((z : Int) + (t : Int)))]) (by simp [results, Tryd.results84, go_sem, hcl3, hcl, hz]) rfl ?_
        have hf3' := hf3.mono (B' := w.heap.size + 2) (by omega)
        have hV : DV (w.heap.size + 2) w3 (.agg #[.bool s, .slice A3 (nd 64 (N / 2 ^ (z + t))) c3, .int .i64 (e + ((z : Int) + (t : Int)))]) ⟨s, N / 2 ^ (z + t), e + ((z : Int) + (t : Int))⟩ := ⟨A3, c3, rfl, hc3, hcm3, h3, hf3'⟩
        refine ⟨_, rfl, ?_, ?_⟩
        · rw [ho]
          exact (((hV.setCell (by simp) _).setCell (by simp) _).setCell (by simp) _).mono (by omega)
        · exact (((hB1.trans (hb3.mono hB1.size)).setCell (Nat.le_succ _) _).setCell (Nat.le_succ _) _).setCell (Nat.le_succ _) _

end Go.Proofs.YtcgceigmglikpaaDoor
