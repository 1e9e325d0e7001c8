/- Walks of layer 3: Floor. -/
import Derived.Test.YtomhmbnpkphcmaaDoorDyadJ
namespace Go.Proofs.YtomhmbnpkphcmaaDoor
set_option linter.unusedVariables false
open Go.RowKit

/-- what Floor works out of a canonical number -/
def floorN (o : D) : D := if o.e < 0 then ⟨o.s, if o.s then o.n / 2 ^ (-o.e).toNat + 1 else o.n / 2 ^ (-o.e).toNat, 0⟩ else o

def floorD (n : Nat) (d : D) : D × Int := if refD n d.e = 0 then ansD (floorN (oddD d)) else (D.zero, refD n d.e)

set_option maxRecDepth 100000 in
set_option maxHeartbeats 2000000 in
theorem Floor_any (s : Bool) (A : Option Addr) (N n c : Nat) (e : Int) (w : World) (hv : Rd 64 w (.slice A n c) N n) (hG : Gl w) :
    Calls Tryd.prog 26 #[.agg #[.bool s, .slice A n c, .int .i64 e]] w fun e' w' => ∃ x, e' = .returned (.tuple #[x, .int .i64 (floorD n ⟨s, N, e⟩).2]) ∧ DV w.heap.size w' x (floorD n ⟨s, N, e⟩).1 ∧ Below w.heap.size w w' := by
  have hlen := hv.len
  have hB := below2 w (Obj.cells #[Value.bool s, Value.slice A n c, Value.int IntKind.i64 e] 26) (Obj.cells #[Value.bool false, Value.slice none 0 0, Value.int IntKind.i64 0] 26)
  by_cases hr : refD n e = 0
  · have hb := refD_zero hr
    have ho := oddD_arg (s := s) hv.lt hr
    have E : Hid (floorD n ⟨s, N, e⟩ = ansD (floorN (oddD ⟨s, N, e⟩))) := by show _ = _; unfold floorD; rw [if_pos hr]
    go_enter Tryd.func26, Tryd.ntmps26
    go_wp2_with fail
    refine (refuses_any s A n c e _ hlen).mono ?_
    rintro e1 w1 ⟨rfl, hb1⟩
    rw [hr]
    clear hr
    obtain ⟨⟨k0, k1, k2⟩, ⟨k3, k4, k5⟩, f0, f1⟩ := two_boxes hb1
    have b2 := (Box3.new1 w (Obj.cells #[Value.bool s, Value.slice A n c, Value.int IntKind.i64 e] 26) (Value.bool false) (Value.slice none 0 0) (Value.int IntKind.i64 0) 26).keep hb1
    have b1 := ((Box3.new w (Value.bool s) (Value.slice A n c) (Value.int IntKind.i64 e) 26).alloc (Obj.cells #[Value.bool false, Value.slice none 0 0, Value.int IntKind.i64 0] 26)).keep hb1
    have hB1 := keep_belowB hB hb1 (Nat.le_refl _)
    have hz := hb1.size
    simp at hz
    go_wp2_with fail
    refine (odd_any s (.slice A n c) N n e w1 (hv.below hB1) (hG.below hB1) (by omega)).mono ?_
    rintro e2 w2 ⟨x2, rfl, hV, hb2⟩
    have hB2 := keep_belowB hB1 hb2 (Nat.le_refl _)
    generalize oddD ⟨s, N, e⟩ = o at *
    obtain ⟨A2, c2, rfl, hc2, hcm2, hR2, hF2⟩ := id hV
    have hz2 := hb2.size
    -- behind the store of o
    obtain ⟨w3, hw3⟩ : ∃ w3, w3 = (((w2.setCell ⟨w.heap.size, 0, none⟩ (.bool o.s)).setCell ⟨w.heap.size, 1, none⟩ (.slice A2 (nd 64 o.n) c2)).setCell ⟨w.heap.size, 2, none⟩ (.int .i64 o.e)) := ⟨_, rfl⟩
    have a1 : Box3 w3 w.heap.size (.bool o.s) (.slice A2 (nd 64 o.n) c2) (.int .i64 o.e) := by rw [hw3]; exact (b1.keep hb2).setAll _ _ _
    have a2 : Box3 w3 (w.heap.size + 1) (.bool false) (.slice none 0 0) (.int .i64 0) := by rw [hw3]; exact (b2.keep hb2).otherAll (by omega) _ _ _
    have hB3 : Below w.heap.size w w3 := by rw [hw3]; exact below_box hB2 (Nat.le_refl _) _ _ _
    have hV3 : DV w1.heap.size w3 (.agg #[.bool o.s, .slice A2 (nd 64 o.n) c2, .int .i64 o.e]) o := by rw [hw3]; exact hV.setBox (by omega) _ _ _
    have hG3 := hG.below hB3
    have hsz3 : w3.heap.size = w2.heap.size := by rw [hw3]; simp [World.setCell]
    obtain ⟨_, _, he3, _, _, hR3, hF3⟩ := id hV3
    obtain ⟨rfl, rfl⟩ : A2 = _ ∧ c2 = _ := by injection he3 with he3; simpa using he3
    obtain ⟨q0, q1, q2, q3, _⟩ := (b1.keep hb2).cells
    obtain ⟨p0, p1, p2, p3, _⟩ := a1.cells
    have hz3 : w.heap.size + 1 < w3.heap.size := by omega
    by_cases hneg : o.e < 0
    · obtain ⟨t, ht⟩ : ∃ t : Nat, -o.e = (t : Int) := ⟨(-o.e).toNat, by omega⟩
      have htn : (-o.e).toNat = t := by omega
      have E2 : Hid (floorD n ⟨s, N, e⟩ = ansD ⟨o.s, if o.s then o.n / 2 ^ t + 1 else o.n / 2 ^ t, 0⟩) := by show _ = _; rw [E.out]; unfold floorN; rw [if_pos hneg, htn]
      have htl : t ≤ 9223372036854775807 := by omega
      have hd : decide (o.e < 0) = true := by simpa using hneg
      have hnd : nd 64 (o.n / 2 ^ t) ≤ 1024 := Nat.le_trans (nd_le 64 _ (nd 64 o.n) (by decide) (Nat.lt_of_le_of_lt (Nat.div_le_self _ _) (lt_nd 64 o.n (by decide)))) ho.2.2.2
      have HG := Lib.hid hG3
      have HB := Lib.hid hB3
      have HR := Lib.hid hR3
      have A1x := Lib.hid a1
      clear he3 ho hb hV hV3 hb1 hb2 b1 b2 a1 hR2 hF2 hR3 hF3 hB hB1 hB2 hB3 hv hG3 k0 k1 k2 k3 k4 k5 f0 f1 hz hz2 hsz3 hneg E htn
      go_wp2_with fail
      rw [← hw3]
      clear hw3 q0 q1 q2 q3
      go_wp2_with fail
      refine (Shr_any (.slice A2 (nd 64 o.n) c2) o.n _ t _ HR.out htl).mono ?_
      rintro e3 w4 ⟨v4, rfl, hR4, hF4, hb4⟩
      obtain ⟨A4, c4, rfl, hc4, hcm4⟩ := hR4.form
      have hB4 := keep_belowB HB.out hb4 (Nat.le_refl _)
      have d1 := A1x.out.keep hb4
      have d2 := a2.keep hb4
      obtain ⟨q0, q1, q2, q3, _⟩ := d1.cells
      have d1' := (d1.set1 (.slice A4 (nd 64 (o.n / 2 ^ t)) c4)).set2 (.int .i64 0)
      have d2' := (d2.setOther (p := ⟨w.heap.size, 1, none⟩) (by simp) (.slice A4 (nd 64 (o.n / 2 ^ t)) c4)).setOther (p := ⟨w.heap.size, 2, none⟩) (by simp) (.int .i64 0)
      have hz4 := hb4.size
      have hlt4 : w.heap.size < w3.heap.size := by omega
      have hR5 := (hR4.setCell_fr hF4 (p := ⟨w.heap.size, 1, none⟩) hlt4 (.slice A4 (nd 64 (o.n / 2 ^ t)) c4)).setCell_fr (hF4.setCell (p := ⟨w.heap.size, 1, none⟩) hlt4 (.slice A4 (nd 64 (o.n / 2 ^ t)) c4)) (p := ⟨w.heap.size, 2, none⟩) hlt4 (.int .i64 0)
      have hF5 := (hF4.setCell (p := ⟨w.heap.size, 1, none⟩) hlt4 (.slice A4 (nd 64 (o.n / 2 ^ t)) c4)).setCell (p := ⟨w.heap.size, 2, none⟩) hlt4 (.int .i64 0)
      have hB5 := (hB4.setCell (p := ⟨w.heap.size, 1, none⟩) (Nat.le_refl _) (.slice A4 (nd 64 (o.n / 2 ^ t)) c4)).setCell (p := ⟨w.heap.size, 2, none⟩) (Nat.le_refl _) (.int .i64 0)
      obtain ⟨w5, hw5⟩ : ∃ w5, w5 = (w4.setCell ⟨w.heap.size, 1, none⟩ (.slice A4 (nd 64 (o.n / 2 ^ t)) c4)).setCell ⟨w.heap.size, 2, none⟩ (.int .i64 0) := ⟨_, rfl⟩
      rw [← hw5] at d1' d2' hR5 hF5 hB5
      have hsz5 : w5.heap.size = w4.heap.size := by rw [hw5]; simp [World.setCell]
      have hG5 := hG.below hB5
      have hGx := hG
      generalize o.n / 2 ^ t = Q at *
      generalize o.s = os at *
      obtain ⟨r0, r1, r2, r3, _⟩ := d1'.cells
      clear p0 p1 p2 p3 d1 d2 hR4 hF4 hB4 hb4 HG HB HR A1x ht hd
      have hzz : w.heap.size + 1 < w5.heap.size := by omega
      cases os
      · have E3 : Hid (floorD n ⟨s, N, e⟩ = ansD ⟨false, Q, 0⟩) := E2.out
        go_wp2_with fail
        rw [← hw5]
        clear hw5 hG
        refine (answer_any false (.slice A4 (nd 64 Q) c4) Q _ 0 _ hR5 hG5 (by omega)).mono ?_
        rintro e3 w6 ⟨x3, rfl, hV6, hb6⟩
        have hB6 := keep_belowB hB5 hb6 (Nat.le_refl _)
        obtain ⟨q3', q4', q5', g1', _⟩ := (d2'.keep hb6).cells
        generalize ansD ⟨false, Q, 0⟩ = r at *
        obtain ⟨A6, c6, rfl, hV6'⟩ := id hV6
        clear E2 d1' d2' hR5 hF5 hB5 hG5
        go_wp2
        refine bodyPost_ret (v := .tuple #[.agg #[.bool r.1.s, .slice A6 (nd 64 r.1.n) c6, .int .i64 r.1.e], .int .i64 r.2]) (by simp [results, Tryd.results26, go_sem, q3', q4', q5']) rfl ?_
        rw [E3.out]
        exact ⟨_, rfl, (hV6.setBox (by omega) _ _ _).mono (by omega), below_box hB6 (Nat.le_succ _) _ _ _⟩
      · have E3 : Hid (floorD n ⟨s, N, e⟩ = ansD ⟨true, Q + 1, 0⟩) := E2.out
        go_wp2_with fail
        rw [← hw5]
        clear hw5 hG
        have h1 : Rd 64 (w5.alloc (.cells #[.int .u64 1] 49)) (.slice (some ⟨w4.heap.size, 0, none⟩) 1 1) 1 1 := by
          have h := Rd.one w5 1 (by omega)
          rw [show ((1 : Nat) : Int) = 1 from rfl, hsz5] at h
          exact h
        have hal := below1 w5 (.cells #[.int .u64 1] 49)
        have hRa := hR5.below hal
        refine (Add_any (.slice A4 (nd 64 Q) c4) (.slice (some ⟨w4.heap.size, 0, none⟩) 1 1) Q _ 1 1 _ hRa h1 (by omega) (by omega)).mono ?_
        rintro e3 w6 ⟨v6, rfl, hR6, hF6, hb6⟩
        obtain ⟨A6, c6, rfl, hc6, hcm6⟩ := hR6.form
        have hB6 := keep_belowB (keep_belowB hB5 hal (Nat.le_refl _)) hb6 (Nat.le_refl _)
        have m1 := (d1'.keep hal).keep hb6
        have m2 := (d2'.keep hal).keep hb6
        obtain ⟨q0, q1, q2, q3, _⟩ := m1.cells
        have m2' := m2.setOther (p := ⟨w.heap.size, 1, none⟩) (by simp) (.slice A6 (nd 64 (Q + 1)) c6)
        have m1' := m1.set1 (.slice A6 (nd 64 (Q + 1)) c6)
        obtain ⟨t0, t1, t2, t3, _⟩ := m1'.cells
        have hz6 := hb6.size
        simp at hz6
        have hR7 := hR6.setCell_fr hF6 (p := ⟨w.heap.size, 1, none⟩) (by simp; omega) (.slice A6 (nd 64 (Q + 1)) c6)
        have hB7 := hB6.setCell (p := ⟨w.heap.size, 1, none⟩) (Nat.le_refl _) (.slice A6 (nd 64 (Q + 1)) c6)
        have hG7 : Gl (w6.setCell ⟨w.heap.size, 1, none⟩ (.slice A6 (nd 64 (Q + 1)) c6)) := hGx.below hB7
        generalize Q + 1 = Q1 at *
        clear E2 d1' d2' m1 m2 m1' hR5 hF5 hB5 hG5 r0 r1 r2 r3 hR6 hF6 hB6 hb6 hal h1
        go_wp2_with fail
        refine (answer_any true (.slice A6 (nd 64 Q1) c6) Q1 _ 0 _ hR7 hG7 (by omega)).mono ?_
        rintro e3 w8 ⟨x3, rfl, hV8, hb8⟩
        have hB8 := keep_belowB hB7 hb8 (Nat.le_refl _)
        obtain ⟨q3', q4', q5', g1', _⟩ := (m2'.keep hb8).cells
        generalize ansD ⟨true, Q1, 0⟩ = r at *
        obtain ⟨A8, c8, rfl, hV8'⟩ := id hV8
        clear hR7 hG7 hB7 m2'
        go_wp2
        refine bodyPost_ret (v := .tuple #[.agg #[.bool r.1.s, .slice A8 (nd 64 r.1.n) c8, .int .i64 r.1.e], .int .i64 r.2]) (by simp [results, Tryd.results26, go_sem, q3', q4', q5']) rfl ?_
        rw [E3.out]
        exact ⟨_, rfl, (hV8.setBox (by simp [World.setCell]; omega) _ _ _).mono (by simp [World.setCell]; omega), below_box hB8 (Nat.le_succ _) _ _ _⟩
    · have E2 : Hid (floorD n ⟨s, N, e⟩ = ansD ⟨o.s, o.n, o.e⟩) := by show _ = _; rw [E.out]; unfold floorN; rw [if_neg hneg]
      have hd : decide (o.e < 0) = false := by simpa using hneg
      have hw2 : -1000000000000 ≤ o.e ∧ o.e ≤ 1000000000000 := by omega
      have HG := Lib.hid hG3
      have HB := Lib.hid hB3
      have HR := Lib.hid hR3
      clear he3 ho hb hV hV3 hb1 hb2 b1 b2 a1 hR2 hF2 hR3 hF3 hB hB1 hB2 hB3 hv hG hG3 k0 k1 k2 k3 k4 k5 f0 f1 hz hz2 hsz3 hneg E
      go_wp2_with fail
      rw [← hw3]
      clear hw3 q0 q1 q2 q3
      go_wp2_with fail
      refine (answer_any o.s (.slice A2 (nd 64 o.n) c2) o.n _ o.e _ HR.out HG.out hw2).mono ?_
      rintro e3 w4 ⟨x3, rfl, hV4, hb3⟩
      have hB4 := keep_belowB HB.out hb3 (Nat.le_refl _)
      obtain ⟨q3', q4', q5', g1', _⟩ := (a2.keep hb3).cells
      generalize ansD ⟨o.s, o.n, o.e⟩ = r at *
      obtain ⟨A4, c4, rfl, hV4'⟩ := id hV4
      go_wp2
      refine bodyPost_ret (v := .tuple #[.agg #[.bool r.1.s, .slice A4 (nd 64 r.1.n) c4, .int .i64 r.1.e], .int .i64 r.2]) (by simp [results, Tryd.results26, go_sem, q3', q4', q5']) rfl ?_
      rw [E2.out]
      exact ⟨_, rfl, (hV4.setBox (by omega) _ _ _).mono (by omega), below_box hB4 (Nat.le_succ _) _ _ _⟩
  · have E : Hid (floorD n ⟨s, N, e⟩ = (D.zero, refD n e)) := by show _ = _; unfold floorD; rw [if_neg hr]
    have hne : (refD n e != 0) = true := by simpa using hr
    go_enter Tryd.func26, Tryd.ntmps26
    go_wp2_with fail
    refine (refuses_any s A n c e _ hlen).mono ?_
    rintro e1 w1 ⟨rfl, hb1⟩
    generalize refD n e = rr at *
    clear hr
    obtain ⟨⟨k0, k1, k2⟩, ⟨k3, k4, k5⟩, f0, f1⟩ := two_boxes hb1
    have hB1 := keep_belowB hB hb1 (Nat.le_refl _)
    go_wp2
    refine bodyPost_ret (v := .tuple #[.agg #[.bool false, .slice none 0 0, .int .i64 0], .int .i64 rr]) (by simp [results, Tryd.results26, go_sem, k3, k4, k5]) rfl ?_
    rw [E.out]
    exact ⟨_, rfl, DV.zero, below_box hB1 (Nat.le_succ _) _ _ _⟩

end Go.Proofs.YtomhmbnpkphcmaaDoor
