/- Walks of layer 3: Scale. -/
import Derived.Test.YtomhmbnpkphcmaaDoorDyadG
namespace Go.Proofs.YtomhmbnpkphcmaaDoor
set_option linter.unusedVariables false
open Go.RowKit

/-- n, brought between the bounds beyond which nothing is in range -/
def clampD (n : Int) : Int := max (-422144) (min n 422144)

def scaleD (len : Nat) (d : D) (n : Int) : D × Int := if refD len d.e = 0 then (if (oddD d).n = 0 then (oddD d, 0) else ansD ⟨(oddD d).s, (oddD d).n, (oddD d).e + clampD n⟩) else (D.zero, refD len d.e)

set_option maxRecDepth 100000 in
set_option maxHeartbeats 2000000 in
theorem Scale_any (s : Bool) (A : Option Addr) (N n c : Nat) (e k : Int) (w : World) (hv : Rd 64 w (.slice A n c) N n) (hG : Gl w) (hk : -9223372036854775808 ≤ k ∧ k ≤ 9223372036854775807) :
    Calls Tryd.prog 23 #[.agg #[.bool s, .slice A n c, .int .i64 e], .int .i64 k] w fun e' w' => ∃ x, e' = .returned (.tuple #[x, .int .i64 (scaleD n ⟨s, N, e⟩ k).2]) ∧ DV w.heap.size w' x (scaleD n ⟨s, N, e⟩ k).1 ∧ Below w.heap.size w w' := by
  have hlen := hv.len
  have hB := below2 w (Obj.cells #[Value.bool s, Value.slice A n c, Value.int IntKind.i64 e] 26) (Obj.cells #[Value.bool false, Value.slice none 0 0, Value.int IntKind.i64 0] 26)
  by_cases hr : refD n e = 0
  · have hb := refD_zero hr
    have hoe := oddD_e ⟨s, N, e⟩ (64 * n) hv.lt (-40000) (40000 + 64 * 1024) hb.2.1 (by show e + _ ≤ _; omega) (by omega) (by omega)
    have E : Hid (scaleD n ⟨s, N, e⟩ k = if (oddD ⟨s, N, e⟩).n = 0 then (oddD ⟨s, N, e⟩, 0) else ansD ⟨(oddD ⟨s, N, e⟩).s, (oddD ⟨s, N, e⟩).n, (oddD ⟨s, N, e⟩).e + clampD k⟩) := by show _ = _; unfold scaleD; rw [if_pos hr]
    go_enter Tryd.func23, Tryd.ntmps23
    go_wp2_with fail
    refine (refuses_any s A n c e _ hlen).mono ?_
    rintro e1 w1 ⟨rfl, hb1⟩
    rw [hr]
    clear hr
    obtain ⟨⟨k0, k1, k2⟩, ⟨k3, k4, k5⟩, f0, f1⟩ := two_boxes hb1
    have b2 := (Box3.new1 w (Obj.cells #[Value.bool s, Value.slice A n c, Value.int IntKind.i64 e] 26) (Value.bool false) (Value.slice none 0 0) (Value.int IntKind.i64 0) 26).keep hb1
    have b1 := ((Box3.new w (Value.bool s) (Value.slice A n c) (Value.int IntKind.i64 e) 26).alloc (Obj.cells #[Value.bool false, Value.slice none 0 0, Value.int IntKind.i64 0] 26)).keep hb1
    have hB1 := keep_belowB hB hb1 (Nat.le_refl _)
    have hz := hb1.size
    simp at hz
    go_wp2_with fail
    refine (odd_any s (.slice A n c) N n e w1 (hv.below hB1) (hG.below hB1) (by omega)).mono ?_
    rintro e2 w2 ⟨x2, rfl, hV, hb2⟩
    have hB2 := keep_belowB hB1 hb2 (Nat.le_refl _)
    generalize oddD ⟨s, N, e⟩ = o at *
    obtain ⟨A2, c2, rfl, hc2, hcm2, hR2, hF2⟩ := id hV
    obtain ⟨q0, q1, q2, g0, _⟩ := (b1.keep hb2).cells
    have b2' := b2.keep hb2
    obtain ⟨q3, q4, q5, g1, _⟩ := b2'.cells
    have hz2 := hb2.size
    by_cases hN : o.n = 0
    · have E2 := E.out
      rw [if_pos hN] at E2
      have E3 := Lib.hid E2
      have hn0 : nd 64 o.n = 0 := by rw [hN, nd_zero]
      rw [hn0]
      clear E2 E hN
      go_wp2
      refine bodyPost_ret (v := .tuple #[.agg #[.bool o.s, .slice A2 0 c2, .int .i64 o.e], .int .i64 0]) (by simp [results, Tryd.results23, go_sem, q3, q4, q5]) rfl ?_
      rw [E3.out]
      rw [hn0] at hV
      exact ⟨_, rfl, ((hV.setBox (by omega) _ _ _).setBox (by omega) _ _ _).mono (by omega), below_box (below_box hB2 (Nat.le_refl _) _ _ _) (Nat.le_succ _) _ _ _⟩
    · have E2 := E.out
      rw [if_neg hN] at E2
      have E3 := Lib.hid E2
      have hp := nd_pos 64 o.n hN
      have hzz : (((nd 64 o.n : Nat) : Int) == 0) = false := by rw [beq_eq_false_iff_ne]; omega
      clear E2 E hN
      have hB3 := ((below_box hB2 (Nat.le_refl _) (.bool o.s) (.slice A2 (nd 64 o.n) c2) (.int .i64 o.e)).setCell (p := ⟨w.heap.size, 2, none⟩) (Nat.le_refl _) (.int .i64 (o.e + clampD k)))
      have hV3 := (hV.setBox (g := w.heap.size) (by omega) (.bool o.s) (.slice A2 (nd 64 o.n) c2) (.int .i64 o.e)).setCell (p := ⟨w.heap.size, 2, none⟩) (by show w.heap.size < _; omega) (.int .i64 (o.e + clampD k))
      have b2'' := (((b2'.setOther (p := ⟨w.heap.size, 0, none⟩) (by simp) (.bool o.s)).setOther (p := ⟨w.heap.size, 1, none⟩) (by simp) (.slice A2 (nd 64 o.n) c2)).setOther (p := ⟨w.heap.size, 2, none⟩) (by simp) (.int .i64 o.e)).setOther (p := ⟨w.heap.size, 2, none⟩) (by simp) (.int .i64 (o.e + clampD k))
      unfold clampD at hB3 hV3 b2'' E3
      have b1a := (b1.keep hb2).setAll (.bool o.s) (.slice A2 (nd 64 o.n) c2) (.int .i64 o.e)
      obtain ⟨p0, p1, p2, p3, _⟩ := b1a.cells
      obtain ⟨p4, p5, p6, p7, _⟩ := (b1a.set2 (.int .i64 (o.e + max (-422144) (min k 422144)))).cells
      obtain ⟨A3, c3, he3, hc3, hcm3, hR3, hF3⟩ := id hV3
      obtain ⟨rfl, rfl⟩ : A2 = A3 ∧ c2 = c3 := by injection he3 with he3; simpa using he3
      have hw1 : -9223372036854775808 ≤ o.e + max (-422144) (min k 422144) ∧ o.e + max (-422144) (min k 422144) ≤ 9223372036854775807 := by omega
      have hw2 : -1000000000000 ≤ o.e + max (-422144) (min k 422144) ∧ o.e + max (-422144) (min k 422144) ≤ 1000000000000 := by omega
      have hz3 : w.heap.size + 1 < w2.heap.size := by omega
      have HG := Lib.hid (hG.below hB3)
      have HB3 := Lib.hid hB3
      have HR3 := Lib.hid hR3
      clear he3 hoe hb hV hV3 hb1 hb2 b1 b2 b2' b1a hR2 hF2 hR3 hF3 hB hB1 hB2 hB3 hv hG k0 k1 k2 k3 k4 k5 f0 f1 hz hz2 hp
      go_wp2_with fail
      refine (answer_any o.s (.slice A2 (nd 64 o.n) c2) o.n _ (o.e + max (-422144) (min k 422144)) _ HR3.out HG.out hw2).mono ?_
      rintro e3 w3 ⟨x3, rfl, hV4, hb3⟩
      have hB4 := keep_belowB HB3.out hb3 (Nat.le_refl _)
      obtain ⟨q3', q4', q5', g1', _⟩ := (b2''.keep hb3).cells
      generalize ansD ⟨o.s, o.n, o.e + max (-422144) (min k 422144)⟩ = r at *
      obtain ⟨A4, c4, rfl, hV4'⟩ := id hV4
      go_wp2
      refine bodyPost_ret (v := .tuple #[.agg #[.bool r.1.s, .slice A4 (nd 64 r.1.n) c4, .int .i64 r.1.e], .int .i64 r.2]) (by simp [results, Tryd.results23, go_sem, q3', q4', q5']) rfl ?_
      rw [E3.out]
      exact ⟨_, rfl, (hV4.setBox (by simp; omega) _ _ _).mono (by simp; omega), below_box hB4 (Nat.le_succ _) _ _ _⟩
  · have E : Hid (scaleD n ⟨s, N, e⟩ k = (D.zero, refD n e)) := by show _ = _; unfold scaleD; rw [if_neg hr]
    have hne : (refD n e != 0) = true := by simpa using hr
    go_enter Tryd.func23, Tryd.ntmps23
    go_wp2_with fail
    refine (refuses_any s A n c e _ hlen).mono ?_
    rintro e1 w1 ⟨rfl, hb1⟩
    generalize refD n e = rr at *
    clear hr
    obtain ⟨⟨k0, k1, k2⟩, ⟨k3, k4, k5⟩, f0, f1⟩ := two_boxes hb1
    have hB1 := keep_belowB hB hb1 (Nat.le_refl _)
    go_wp2
    refine bodyPost_ret (v := .tuple #[.agg #[.bool false, .slice none 0 0, .int .i64 0], .int .i64 rr]) (by simp [results, Tryd.results23, go_sem, k3, k4, k5]) rfl ?_
    rw [E.out]
    exact ⟨_, rfl, DV.zero, below_box hB1 (Nat.le_succ _) _ _ _⟩

end Go.Proofs.YtomhmbnpkphcmaaDoor
