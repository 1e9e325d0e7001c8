/- Walks of layer 3: answer, aligned, sum. -/
import Derived.Outline
import Derived.Deep.RegionHeld3
import Derived.Test.YtcgceigmglikpaaDoorDyadB
namespace Go.Proofs.YtcgceigmglikpaaDoor
set_option linter.unusedVariables false
open Go.RowKit

set_option maxHeartbeats 1000000 in
theorem answer_any (s : Bool) (v : Value) (N n : Nat) (e : Int) (w : World) (hv : Rd 64 w v N n) (hG : Gl w) (he : -1000000000000 ≤ e ∧ e ≤ 1000000000000) :
    Calls Tryd.prog 86 #[.agg #[.bool s, v, .int .i64 e]] w fun e' w' => ∃ x, e' = .returned (.tuple #[x, .int .i64 (ansD ⟨s, N, e⟩).2]) ∧ DV w.heap.size w' x (ansD ⟨s, N, e⟩).1 ∧ Below w.heap.size w w' := by
  obtain ⟨A, c, rfl, hc, hcm⟩ := hv.form
  obtain ⟨d, hd⟩ : ∃ d, d = ansD ⟨s, N, e⟩ := ⟨_, rfl⟩
  rw [← hd]
  unfold ansD at hd
  go_enter Tryd.func86, Tryd.ntmps86
  go_wp2_with fail
  have hB : Below w.heap.size w ((w.alloc (Obj.cells #[Value.bool s, Value.slice A n c, Value.int IntKind.i64 e] 53)).alloc (Obj.cells #[Value.bool false, Value.slice none 0 0, Value.int IntKind.i64 0] 53)) :=
    ((Below.refl _ _).alloc (Nat.le_refl _) _).alloc (by simp) _
  refine (odd_any s (.slice A n c) N n e _ (hv.below hB) (hG.below hB) he).mono ?_
  rintro e1 w1 ⟨x1, rfl, hV, hb1⟩
  generalize oddD ⟨s, N, e⟩ = o at *
  obtain ⟨A1, c1, rfl, hc1, hcm1, hR1, hF1⟩ := id hV
  obtain ⟨⟨k0, k1, k2⟩, ⟨k3, k4, k5⟩, f0, f1⟩ := two_boxes hb1
  have hB1 := hB.trans (hb1.mono hB.size)
  have HD := Lib.hid hd
  clear hd
  have hV2 := hV.mono (B' := w.heap.size + 2) (by simp)
  have hBs : ∀ (u0 u1 u2 y0 y1 y2 : Value), Below w.heap.size w ((((((w1.setCell ⟨w.heap.size, 0, none⟩ u0).setCell ⟨w.heap.size, 1, none⟩ u1).setCell ⟨w.heap.size, 2, none⟩ u2).setCell ⟨w.heap.size + 1, 0, none⟩ y0).setCell ⟨w.heap.size + 1, 1, none⟩ y1).setCell ⟨w.heap.size + 1, 2, none⟩ y2) := fun _ _ _ _ _ _ =>
    (((((hB1.setCell (Nat.le_refl _) _).setCell (Nat.le_refl _) _).setCell (Nat.le_refl _) _).setCell (Nat.le_succ _) _).setCell (Nat.le_succ _) _).setCell (Nat.le_succ _) _
  by_cases h1 : 1024 < nd 64 o.n
  · have E : Hid (d = (D.zero, 5)) := by show _ = _; rw [HD.out, if_pos h1]
    have h1' : (1024 : Int) < nd 64 o.n := by omega
    generalize nd 64 o.n = m at *
    generalize o.s = os at *
    generalize o.e = oe at *
    go_wp2
    refine bodyPost_ret (v := .tuple #[.agg #[.bool false, .slice none 0 0, .int .i64 0], .int .i64 5]) (by simp [results, Tryd.results86, go_sem, k3, k4, k5]) rfl ?_
    rw [E.out]
    exact ⟨_, rfl, DV.zero, hBs _ _ _ _ _ _⟩
  · have h1' : decide ((1024 : Int) < nd 64 o.n) = false := by simp; omega
    by_cases h2 : o.e < -40000
    · have E : Hid (d = (D.zero, 30)) := by show _ = _; rw [HD.out, if_neg h1, if_pos (Or.inl h2)]
      generalize nd 64 o.n = m at *
      generalize o.s = os at *
      generalize o.e = oe at *
      go_wp2
      refine bodyPost_ret (v := .tuple #[.agg #[.bool false, .slice none 0 0, .int .i64 0], .int .i64 30]) (by simp [results, Tryd.results86, go_sem, k3, k4, k5]) rfl ?_
      rw [E.out]
      exact ⟨_, rfl, DV.zero, hBs _ _ _ _ _ _⟩
    · have h2' : decide (o.e < -40000) = false := by simpa using h2
      by_cases h3 : 40000 < o.e
      · have E : Hid (d = (D.zero, 30)) := by show _ = _; rw [HD.out, if_neg h1, if_pos (Or.inr h3)]
        generalize nd 64 o.n = m at *
        generalize o.s = os at *
        generalize o.e = oe at *
        go_wp2
        refine bodyPost_ret (v := .tuple #[.agg #[.bool false, .slice none 0 0, .int .i64 0], .int .i64 30]) (by simp [results, Tryd.results86, go_sem, k3, k4, k5]) rfl ?_
        rw [E.out]
        exact ⟨_, rfl, DV.zero, hBs _ _ _ _ _ _⟩
      · have h3' : decide (40000 < o.e) = false := by simpa using h3
        have E : Hid (d = (o, 0)) := by show _ = _; rw [HD.out, if_neg h1, if_neg (by omega)]
        have HV := Lib.hid (hV2.setCell (p := ⟨w.heap.size, 0, none⟩) (by simp) (.bool o.s))
        have HV3 := Lib.hid (((((HV.out.setCell (p := ⟨w.heap.size, 1, none⟩) (by simp) (.slice A1 (nd 64 o.n) c1)).setCell (p := ⟨w.heap.size, 2, none⟩) (by simp) (.int .i64 o.e)).setCell (p := ⟨w.heap.size + 1, 0, none⟩) (by simp) (.bool o.s)).setCell (p := ⟨w.heap.size + 1, 1, none⟩) (by simp) (.slice A1 (nd 64 o.n) c1)).setCell (p := ⟨w.heap.size + 1, 2, none⟩) (by simp) (.int .i64 o.e))
        clear hV hV2 hR1 hF1 HV
        go_wp2
        refine bodyPost_ret (v := .tuple #[.agg #[.bool o.s, .slice A1 (nd 64 o.n) c1, .int .i64 o.e], .int .i64 0]) (by simp [results, Tryd.results86, go_sem, k3, k4, k5]) rfl ?_
        rw [E.out]
        exact ⟨_, rfl, HV3.out.mono (by omega), hBs _ _ _ _ _ _⟩

theorem keep_cell {W w1 : World} {b o : Nat} {x : Value} (hb : Below W.heap.size W w1) (h : W.cell? ⟨b, o, none⟩ = some x) : w1.cell? ⟨b, o, none⟩ = some x :=
  (hb.cell (p := ⟨b, o, none⟩) (World.block_lt_of_cell? W _ h)).trans h

theorem keep_below {W w1 w2 : World} (h : Below W.heap.size W w1) (hb : Below w1.heap.size w1 w2) : Below W.heap.size W w2 := h.trans (hb.mono h.size)

theorem raised_int (v : Value) (N n : Nat) (t : Int) (w : World) (hv : Rd 64 w v N n) (h0 : 0 ≤ t) (hs : n + t.toNat ≤ 17592186044416) :
    Calls Tryd.prog 155 #[v, .int .i64 t] w fun e w' => ∃ v', e = .returned v' ∧ Rd 64 w' v' (N * 2 ^ t.toNat) (nd 64 (N * 2 ^ t.toNat)) ∧ Fr w.heap.size w' v' ∧ Below w.heap.size w w' := by
  obtain ⟨s, rfl⟩ := Int.eq_ofNat_of_zero_le h0
  rw [Int.toNat_natCast] at *
  exact raised_any v N n s w hv hs

set_option maxRecDepth 100000 in
set_option maxHeartbeats 1000000 in
theorem aligned_any (s1 s2 : Bool) (A1 A2 : Option Addr) (c1 c2 N n M m : Nat) (e1 e2 : Int) (w : World) (hv : Rd 64 w (.slice A1 n c1) N n) (hu : Rd 64 w (.slice A2 m c2) M m)
    (he1 : -1000000000000 ≤ e1 ∧ e1 ≤ 1000000000000) (he2 : -1000000000000 ≤ e2 ∧ e2 ≤ 1000000000000) (hn : n ≤ 1000000000000) (hm : m ≤ 1000000000000) :
    Calls Tryd.prog 131 #[.agg #[.bool s1, .slice A1 n c1, .int .i64 e1], .agg #[.bool s2, .slice A2 m c2, .int .i64 e2]] w fun e' w' =>
      ∃ v1 v2, e' = .returned (.tuple #[v1, v2, .int .i64 (min e1 e2)]) ∧ Rd 64 w' v1 (N * 2 ^ (e1 - min e1 e2).toNat) (nd 64 (N * 2 ^ (e1 - min e1 e2).toNat)) ∧ Rd 64 w' v2 (M * 2 ^ (e2 - min e1 e2).toNat) (nd 64 (M * 2 ^ (e2 - min e1 e2).toNat)) ∧
        Fr w.heap.size w' v1 ∧ Fr w.heap.size w' v2 ∧ Below w.heap.size w w' := by
  go_enter Tryd.func131, Tryd.ntmps131
  obtain ⟨W, hW⟩ : ∃ W, W = ((w.alloc (Obj.cells #[Value.bool s1, Value.slice A1 n c1, Value.int IntKind.i64 e1] 53)).alloc (Obj.cells #[Value.bool s2, Value.slice A2 m c2, Value.int IntKind.i64 e2] 53)) := ⟨_, rfl⟩
  have hB : Below w.heap.size w W := by rw [hW]; exact ((Below.refl _ _).alloc (Nat.le_refl _) _).alloc (by simp) _
  have kk := two_boxes (w1 := W) (by rw [← hW]; exact Below.refl _ _)
  obtain ⟨⟨k0, k1, k2⟩, ⟨k3, k4, k5⟩, f0, f1⟩ := kk
  have hvW := hv.below hB
  have huW := hu.below hB
  have HW := Lib.hid hW
  go_wp2_with fail
  rw [← hW]
  clear hW
  have hw1 : IntKind.i64.wrap (e1 - min e1 e2) = e1 - min e1 e2 := IntWalk.i64_in _ (by omega)
  have hw2 : IntKind.i64.wrap (e2 - min e1 e2) = e2 - min e1 e2 := IntWalk.i64_in _ (by omega)
  go_region_held3 (fun w' => w'.cell? ⟨w.heap.size, 1, none⟩ = some (.slice A1 n c1) ∧ w'.cell? ⟨w.heap.size, 2, none⟩ = some (.int .i64 e1) ∧ w'.cell? ⟨w.heap.size + 1, 1, none⟩ = some (.slice A2 m c2) ∧ w'.cell? ⟨w.heap.size + 1, 2, none⟩ = some (.int .i64 e2) ∧ Below W.heap.size W w')
    (first | exact ⟨k1, k2, k4, k5, (Below.refl _ _).drew⟩ | exact ⟨keep_cell hb1 k1, keep_cell hb1 k2, keep_cell hb1 k4, keep_cell hb1 k5, keep_below (Below.refl _ _).drew hb1⟩ | ((try go_split_ands); (try dsimp only); refine ⟨keep_cell hb2 ?_, keep_cell hb2 ?_, keep_cell hb2 ?_, keep_cell hb2 ?_, keep_below ?_ hb2⟩ <;> assumption))
    ((go_at_call 155; go_split_ands; first | (with_reducible refine (raised_int (.slice A1 n c1) N n _ _ ?_ ?_ ?_).mono ?_; refine hvW.below ?_; assumption; omega; omega; rintro e w1 ⟨v1, rfl, h1, hf1, hb1⟩) | (with_reducible refine (raised_int (.slice A2 m c2) M m _ _ ?_ ?_ ?_).mono ?_; refine huW.below ?_; assumption; omega; omega; rintro e w2 ⟨v2, rfl, h2, hf2, hb2⟩)))
  go_wp2
  go_ret3
  have hb12 : Below w.heap.size w w1 := hB.trans ((keep_below (Below.refl W.heap.size W).drew hb1).mono hB.size)
  exact ⟨_, _, rfl, h1.below hb2, h2, (hf1.mono hB.size).below hb2, hf2.mono hb12.size, hb12.trans (hb2.mono hb12.size)⟩

end Go.Proofs.YtcgceigmglikpaaDoor
