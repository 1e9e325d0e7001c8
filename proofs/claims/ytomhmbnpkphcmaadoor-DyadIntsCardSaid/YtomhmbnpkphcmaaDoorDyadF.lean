/- Walks of layer 3: Neg, Sign, Top, FromInt, Scale. -/
import Derived.Test.YtomhmbnpkphcmaaDoorDyadE
import Derived.Test.YtomhmbnpkphcmaaDoorDyadV
namespace Go.Proofs.YtomhmbnpkphcmaaDoor
set_option linter.unusedVariables false
open Go.RowKit

theorem Box3.setOther {w : World} {g : Nat} {a b c : Value} (h : Box3 w g a b c) {p : Addr} (hp : p.block ≠ g) (u : Value) : Box3 (w.setCell p u) g a b c := by
  obtain ⟨t, h⟩ := h
  exact ⟨t, (Below.heap_setCell w p u g (Ne.symm hp)).trans h⟩

def negD (n : Nat) (d : D) : D × Int := if refD n d.e = 0 then ansD ⟨!d.s, d.n, d.e⟩ else (D.zero, refD n d.e)

set_option maxHeartbeats 1000000 in
theorem Neg_any (s : Bool) (A : Option Addr) (N n c : Nat) (e : Int) (w : World) (hv : Rd 64 w (.slice A n c) N n) (hG : Gl w) :
    Calls Tryd.prog 21 #[.agg #[.bool s, .slice A n c, .int .i64 e]] w fun e' w' => ∃ x, e' = .returned (.tuple #[x, .int .i64 (negD n ⟨s, N, e⟩).2]) ∧ DV w.heap.size w' x (negD n ⟨s, N, e⟩).1 ∧ Below w.heap.size w w' := by
  have hlen := hv.len
  have hB := below2 w (Obj.cells #[Value.bool s, Value.slice A n c, Value.int IntKind.i64 e] 26) (Obj.cells #[Value.bool false, Value.slice none 0 0, Value.int IntKind.i64 0] 26)
  by_cases hr : refD n e = 0
  · have hb := refD_zero hr
    have E : Hid (negD n ⟨s, N, e⟩ = ansD ⟨!s, N, e⟩) := by show _ = _; unfold negD; rw [if_pos hr]
    go_enter Tryd.func21, Tryd.ntmps21
    go_wp2_with fail
    refine (refuses_any s A n c e _ hlen).mono ?_
    rintro e1 w1 ⟨rfl, hb1⟩
    rw [hr]
    clear hr
    obtain ⟨⟨k0, k1, k2⟩, ⟨k3, k4, k5⟩, f0, f1⟩ := two_boxes hb1
    have b2 := (Box3.new1 w (Obj.cells #[Value.bool s, Value.slice A n c, Value.int IntKind.i64 e] 26) (Value.bool false) (Value.slice none 0 0) (Value.int IntKind.i64 0) 26).keep hb1
    have hB1 := keep_belowB hB hb1 (Nat.le_refl _)
    have hB2 := hB1.setCell (p := ⟨w.heap.size, 0, none⟩) (Nat.le_refl _) (.bool !s)
    have hz := hb1.size
    simp at hz
    go_wp2_with fail
    refine (answer_any (!s) (.slice A n c) N n e _ (hv.below hB2) (hG.below hB2) (by omega)).mono ?_
    rintro e2 w2 ⟨x2, rfl, hV2, hb2⟩
    obtain ⟨k3', k4', k5', f1', _⟩ := ((b2.setOther (p := ⟨w.heap.size, 0, none⟩) (by simp) (.bool !s)).keep hb2).cells
    have hB3 := keep_belowB hB2 hb2 (Nat.le_refl _)
    generalize ansD ⟨!s, N, e⟩ = r at *
    obtain ⟨A2, c2, rfl, hV2'⟩ := id hV2
    go_wp2
    refine bodyPost_ret (v := .tuple #[.agg #[.bool r.1.s, .slice A2 (nd 64 r.1.n) c2, .int .i64 r.1.e], .int .i64 r.2]) (by simp [results, Tryd.results21, go_sem, k3', k4', k5']) rfl ?_
    rw [E.out]
    exact ⟨_, rfl, (hV2.setBox (by simp; omega) _ _ _).mono (by simp; omega), below_box hB3 (Nat.le_succ _) _ _ _⟩
  · have E : Hid (negD n ⟨s, N, e⟩ = (D.zero, refD n e)) := by show _ = _; unfold negD; rw [if_neg hr]
    have hne : (refD n e != 0) = true := by simpa using hr
    go_enter Tryd.func21, Tryd.ntmps21
    go_wp2_with fail
    refine (refuses_any s A n c e _ hlen).mono ?_
    rintro e1 w1 ⟨rfl, hb1⟩
    generalize refD n e = rr at *
    clear hr
    obtain ⟨⟨k0, k1, k2⟩, ⟨k3, k4, k5⟩, f0, f1⟩ := two_boxes hb1
    have hB1 := keep_belowB hB hb1 (Nat.le_refl _)
    go_wp2
    refine bodyPost_ret (v := .tuple #[.agg #[.bool false, .slice none 0 0, .int .i64 0], .int .i64 rr]) (by simp [results, Tryd.results21, go_sem, k3, k4, k5]) rfl ?_
    rw [E.out]
    exact ⟨_, rfl, DV.zero, below_box hB1 (Nat.le_succ _) _ _ _⟩

set_option maxHeartbeats 1000000 in
theorem Sign_any (s : Bool) (A : Option Addr) (N n c : Nat) (e : Int) (w : World) (hv : Rd 64 w (.slice A n c) N n) :
    Calls Tryd.prog 20 #[.agg #[.bool s, .slice A n c, .int .i64 e]] w fun e' w' => e' = .returned (.int .i64 (sgD s N)) ∧ Below w.heap.size w w' := by
  have hB := below1 w (Obj.cells #[Value.bool s, Value.slice A n c, Value.int IntKind.i64 e] 26)
  have hb0 := Box3.new w (Value.bool s) (Value.slice A n c) (Value.int IntKind.i64 e) 26
  go_enter Tryd.func20, Tryd.ntmps20
  go_wp2_with fail
  refine (Trim_any (.slice A n c) N n _ (hv.below hB)).mono ?_
  rintro e1 w1 ⟨v1, rfl, h1, hF1, hb1⟩
  obtain ⟨A1, c1, rfl, hc1, hcm1⟩ := h1.form
  obtain ⟨k0, k1, k2, f0, _⟩ := (hb0.keep hb1).cells
  have hB1 := keep_belowB hB hb1 (Nat.le_refl _)
  by_cases hN : N = 0
  · have E : Hid (sgD s N = 0) := by show _ = _; unfold sgD; rw [if_pos hN]
    have hn0 : nd 64 N = 0 := by rw [hN, nd_zero]
    rw [hn0] at *
    clear hN
    go_wp2
    go_ret
    exact ⟨by rw [E.out]; rfl, hB1⟩
  · have hp := nd_pos 64 N hN
    have hz : (((nd 64 N : Nat) : Int) == 0) = false := by rw [beq_eq_false_iff_ne]; omega
    have E : Hid (sgD s N = if s then -1 else 1) := by show _ = _; unfold sgD; rw [if_neg hN]
    clear hN
    generalize nd 64 N = a at *
    cases s
    · go_wp2
      go_ret
      exact ⟨by rw [E.out]; rfl, hB1⟩
    · go_wp2
      go_ret
      exact ⟨by rw [E.out]; rfl, hB1⟩

def topD (n : Nat) (d : D) : Int × Int := if refD n d.e = 0 then (if d.n = 0 then (0, 31) else ((bl d.n : Int) - 1 + d.e, 0)) else (0, refD n d.e)

set_option maxHeartbeats 1000000 in
theorem Top_any (s : Bool) (A : Option Addr) (N n c : Nat) (e : Int) (w : World) (hv : Rd 64 w (.slice A n c) N n) :
    Calls Tryd.prog 27 #[.agg #[.bool s, .slice A n c, .int .i64 e]] w fun e' w' => e' = .returned (.tuple #[.int .i64 (topD n ⟨s, N, e⟩).1, .int .i64 (topD n ⟨s, N, e⟩).2]) ∧ Below w.heap.size w w' := by
  have hlen := hv.len
  have hB := below1 w (Obj.cells #[Value.bool s, Value.slice A n c, Value.int IntKind.i64 e] 26)
  have hb0 := Box3.new w (Value.bool s) (Value.slice A n c) (Value.int IntKind.i64 e) 26
  by_cases hr : refD n e = 0
  · have hb := refD_zero hr
    have hbl := bl_le N (64 * n) hv.lt
    have E : Hid (topD n ⟨s, N, e⟩ = if N = 0 then (0, 31) else ((bl N : Int) - 1 + e, 0)) := by show _ = _; unfold topD; rw [if_pos hr]
    go_enter Tryd.func27, Tryd.ntmps27
    go_wp2_with fail
    refine (refuses_any s A n c e _ hlen).mono ?_
    rintro e1 w1 ⟨rfl, hb1⟩
    rw [hr]
    clear hr
    obtain ⟨k0, k1, k2, f0, _⟩ := (hb0.keep hb1).cells
    have hB1 := keep_belowB hB hb1 (Nat.le_refl _)
    go_wp2_with fail
    refine (Len_any (.slice A n c) N n w1 (hv.below hB1)).mono ?_
    rintro e2 w2 ⟨rfl, rfl⟩
    by_cases hN : N = 0
    · rw [if_pos hN] at E
      have h0 : bl N = 0 := by rw [hN]; rfl
      rw [h0]
      clear hN h0 hbl
      go_wp2
      go_ret2
      exact ⟨by rw [E.out]; rfl, hB1⟩
    · rw [if_neg hN] at E
      have h0 : ((bl N : Int) == 0) = false := by rw [beq_eq_false_iff_ne]; unfold bl; rw [if_neg hN]; omega
      clear hN
      generalize bl N = m at *
      go_wp2
      go_ret2
      exact ⟨by rw [E.out]; rfl, hB1⟩
  · have E : Hid (topD n ⟨s, N, e⟩ = (0, refD n e)) := by show _ = _; unfold topD; rw [if_neg hr]
    have hne : (refD n e != 0) = true := by simpa using hr
    go_enter Tryd.func27, Tryd.ntmps27
    go_wp2_with fail
    refine (refuses_any s A n c e _ hlen).mono ?_
    rintro e1 w1 ⟨rfl, hb1⟩
    have hB1 := keep_belowB hB hb1 (Nat.le_refl _)
    generalize refD n e = rr at *
    clear hr
    go_wp2
    go_ret2
    exact ⟨by rw [E.out]; rfl, hB1⟩

end Go.Proofs.YtomhmbnpkphcmaaDoor
