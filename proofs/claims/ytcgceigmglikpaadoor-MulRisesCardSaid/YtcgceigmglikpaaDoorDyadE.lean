/- Walks of layer 3: two, Canon, Neg, Sign, Top, FromInt. -/
import Derived.Test.YtcgceigmglikpaaDoorDyadD
namespace Go.Proofs.YtcgceigmglikpaaDoor
set_option linter.unusedVariables false
open Go.RowKit

/-- x is an exact number that came in: sign s, n words that read as N, exponent e. -/
def Da (w : World) (x : Value) (s : Bool) (N n : Nat) (e : Int) : Prop := ∃ A c, x = .agg #[.bool s, .slice A n c, .int .i64 e] ∧ n ≤ c ∧ n ≤ 35184372088832 ∧ Rd 64 w (.slice A n c) N n

theorem Da.below {w w' : World} {x : Value} {s : Bool} {N n : Nat} {e : Int} (h : Da w x s N n e) (hb : Below w.heap.size w w') : Da w' x s N n e := by
  obtain ⟨A, c, rfl, h1, h2, h3⟩ := h; exact ⟨A, c, rfl, h1, h2, h3.below hb⟩

theorem DV.da {B : Nat} {w : World} {x : Value} {d : D} (h : DV B w x d) : Da w x d.s d.n (nd 64 d.n) d.e := by
  obtain ⟨A, c, rfl, h1, h2, h3, _⟩ := h; exact ⟨A, c, rfl, h1, h2, h3⟩

set_option maxHeartbeats 1000000 in
theorem two_any (s1 s2 : Bool) (A1 A2 : Option Addr) (n1 n2 c1 c2 : Nat) (e1 e2 : Int) (w : World) (h1 : n1 ≤ 35184372088832) (h2 : n2 ≤ 35184372088832) :
    Calls Tryd.prog 83 #[.agg #[.bool s1, .slice A1 n1 c1, .int .i64 e1], .agg #[.bool s2, .slice A2 n2 c2, .int .i64 e2]] w fun e' w' =>
      e' = .returned (.int .i64 (twoD n1 e1 n2 e2)) ∧ Below w.heap.size w w' := by
  by_cases hr : refD n1 e1 = 0
  · have E : Hid (twoD n1 e1 n2 e2 = refD n2 e2) := by show _ = _; unfold twoD; rw [if_pos hr]
    go_enter Tryd.func83, Tryd.ntmps83
    go_wp2_with fail
    refine (refuses_any s1 A1 n1 c1 e1 _ h1).mono ?_
    rintro e w1 ⟨rfl, hb1⟩
    rw [hr]
    obtain ⟨_, ⟨k3, k4, k5⟩, _, _⟩ := two_boxes hb1
    have hB1 := keep_belowB (below2 w (Obj.cells #[Value.bool s1, Value.slice A1 n1 c1, Value.int IntKind.i64 e1] 53) (Obj.cells #[Value.bool s2, Value.slice A2 n2 c2, Value.int IntKind.i64 e2] 53)) hb1 (Nat.le_refl _)
    clear hr
    go_wp2_with fail
    refine (refuses_any s2 A2 n2 c2 e2 _ h2).mono ?_
    rintro e w2 ⟨rfl, hb2⟩
    go_wp2
    go_ret
    exact ⟨by rw [E.out]; rfl, keep_belowB hB1 hb2 (Nat.le_refl _)⟩
  · have E : Hid (twoD n1 e1 n2 e2 = refD n1 e1) := by show _ = _; unfold twoD; rw [if_neg hr]
    have hne : (refD n1 e1 != 0) = true := by simpa using hr
    go_enter Tryd.func83, Tryd.ntmps83
    go_wp2_with fail
    refine (refuses_any s1 A1 n1 c1 e1 _ h1).mono ?_
    rintro e w1 ⟨rfl, hb1⟩
    have hB1 := keep_belowB (below2 w (Obj.cells #[Value.bool s1, Value.slice A1 n1 c1, Value.int IntKind.i64 e1] 53) (Obj.cells #[Value.bool s2, Value.slice A2 n2 c2, Value.int IntKind.i64 e2] 53)) hb1 (Nat.le_refl _)
    generalize refD n1 e1 = rr at *
    clear hr
    go_wp2
    go_ret
    exact ⟨by rw [E.out]; rfl, hB1⟩

set_option maxHeartbeats 1000000 in
theorem Canon_any (s : Bool) (A : Option Addr) (N n c : Nat) (e : Int) (w : World) (hv : Rd 64 w (.slice A n c) N n) (hG : Gl w) :
    Calls Tryd.prog 91 #[.agg #[.bool s, .slice A n c, .int .i64 e]] w fun e' w' => ∃ x, e' = .returned (.tuple #[x, .int .i64 (canonD n ⟨s, N, e⟩).2]) ∧ DV w.heap.size w' x (canonD n ⟨s, N, e⟩).1 ∧ Below w.heap.size w w' := by
  have hlen := hv.len
  have hB := below2 w (Obj.cells #[Value.bool s, Value.slice A n c, Value.int IntKind.i64 e] 53) (Obj.cells #[Value.bool false, Value.slice none 0 0, Value.int IntKind.i64 0] 53)
  by_cases hr : refD n e = 0
  · have hb := refD_zero hr
    have E : Hid (canonD n ⟨s, N, e⟩ = ansD ⟨s, N, e⟩) := by show _ = _; unfold canonD; rw [if_pos hr]
    go_enter Tryd.func91, Tryd.ntmps91
    go_wp2_with fail
    refine (refuses_any s A n c e _ hlen).mono ?_
    rintro e1 w1 ⟨rfl, hb1⟩
    rw [hr]
    clear hr
    obtain ⟨⟨k0, k1, k2⟩, ⟨k3, k4, k5⟩, f0, f1⟩ := two_boxes hb1
    have hB1 := keep_belowB hB hb1 (Nat.le_refl _)
    go_wp2_with fail
    refine (answer_any s (.slice A n c) N n e w1 (hv.below hB1) (hG.below hB1) (by omega)).mono ?_
    rintro e2 w2 ⟨x2, rfl, hV2, hb2⟩
    have hb12 := keep_below hb1 hb2
    obtain ⟨_, ⟨k3', k4', k5'⟩, _, f1'⟩ := two_boxes hb12
    have hB2 := keep_belowB hB1 hb2 (Nat.le_refl _)
    have hz := hb1.size
    simp at hz
    generalize ansD ⟨s, N, e⟩ = r at *
    obtain ⟨A2, c2, rfl, hV2'⟩ := id hV2
    go_wp2
    refine bodyPost_ret (v := .tuple #[.agg #[.bool r.1.s, .slice A2 (nd 64 r.1.n) c2, .int .i64 r.1.e], .int .i64 r.2]) (by simp [results, Tryd.results91, go_sem, k3', k4', k5']) rfl ?_
    rw [E.out]
    exact ⟨_, rfl, (hV2.setBox (by omega) _ _ _).mono (by omega), below_box hB2 (Nat.le_succ _) _ _ _⟩
  · have E : Hid (canonD n ⟨s, N, e⟩ = (D.zero, refD n e)) := by show _ = _; unfold canonD; rw [if_neg hr]
    have hne : (refD n e != 0) = true := by simpa using hr
    go_enter Tryd.func91, Tryd.ntmps91
    go_wp2_with fail
    refine (refuses_any s A n c e _ hlen).mono ?_
    rintro e1 w1 ⟨rfl, hb1⟩
    generalize refD n e = rr at *
    clear hr
    obtain ⟨⟨k0, k1, k2⟩, ⟨k3, k4, k5⟩, f0, f1⟩ := two_boxes hb1
    have hB1 := keep_belowB hB hb1 (Nat.le_refl _)
    go_wp2
    refine bodyPost_ret (v := .tuple #[.agg #[.bool false, .slice none 0 0, .int .i64 0], .int .i64 rr]) (by simp [results, Tryd.results91, go_sem, k3, k4, k5]) rfl ?_
    rw [E.out]
    exact ⟨_, rfl, DV.zero, below_box hB1 (Nat.le_succ _) _ _ _⟩

end Go.Proofs.YtcgceigmglikpaaDoor
