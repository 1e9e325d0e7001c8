/- Walks of layer 3: FromInt, Scale, Floor. -/
import Derived.Test.YtomhmbnpkphcmaaDoorDyadF
namespace Go.Proofs.YtomhmbnpkphcmaaDoor
set_option linter.unusedVariables false
open Go.RowKit

theorem Box3.set0 {w : World} {g : Nat} {a b c : Value} (h : Box3 w g a b c) (x : Value) : Box3 (w.setCell ⟨g, 0, none⟩ x) g x b c := by
  obtain ⟨t, h⟩ := h
  refine ⟨t, ?_⟩
  simp [World.setCell, Array.getElem?_modify, h]
theorem Box3.set1 {w : World} {g : Nat} {a b c : Value} (h : Box3 w g a b c) (x : Value) : Box3 (w.setCell ⟨g, 1, none⟩ x) g a x c := by
  obtain ⟨t, h⟩ := h
  refine ⟨t, ?_⟩
  simp [World.setCell, Array.getElem?_modify, h]
theorem Box3.set2 {w : World} {g : Nat} {a b c : Value} (h : Box3 w g a b c) (x : Value) : Box3 (w.setCell ⟨g, 2, none⟩ x) g a b x := by
  obtain ⟨t, h⟩ := h
  refine ⟨t, ?_⟩
  simp [World.setCell, Array.getElem?_modify, h]
theorem Box3.setAll {w : World} {g : Nat} {a b c : Value} (h : Box3 w g a b c) (x y z : Value) : Box3 (((w.setCell ⟨g, 0, none⟩ x).setCell ⟨g, 1, none⟩ y).setCell ⟨g, 2, none⟩ z) g x y z := ((h.set0 x).set1 y).set2 z
theorem Box3.otherAll {w : World} {g g' : Nat} {a b c : Value} (h : Box3 w g a b c) (hg : g' ≠ g) (x y z : Value) : Box3 (((w.setCell ⟨g', 0, none⟩ x).setCell ⟨g', 1, none⟩ y).setCell ⟨g', 2, none⟩ z) g a b c :=
  ((h.setOther (p := ⟨g', 0, none⟩) hg x).setOther (p := ⟨g', 1, none⟩) hg y).setOther (p := ⟨g', 2, none⟩) hg z

theorem Rd.one (w : World) (x : Nat) (hx : x < 18446744073709551616) : Rd 64 (w.alloc (.cells #[.int .u64 x] 49)) (.slice (some ⟨w.heap.size, 0, none⟩) 1 1) x 1 := by
  refine ⟨_, 1, rfl, Nat.le_refl _, by omega, by simpa using hx, fun _ => ⟨w.heap.size, 0, rfl, by simp, fun j hj => ?_⟩⟩
  obtain rfl : j = 0 := by omega
  rw [World.cell?_alloc_at _ _ _ _ rfl]
  have : dg 64 x 0 = x := by unfold dg; simp; exact hx
  rw [this]; rfl

def fromIntD (x : Int) : D := oddD ⟨decide (x < 0), x.natAbs, 0⟩

set_option maxRecDepth 100000 in
set_option maxHeartbeats 1000000 in
theorem FromInt_any (x : Int) (w : World) (hx : -9223372036854775808 ≤ x ∧ x ≤ 9223372036854775807) (hG : Gl w) :
    Calls Tryd.prog 29 #[.int .i64 x] w fun e' w' => ∃ v, e' = .returned v ∧ DV w.heap.size w' v (fromIntD x) ∧ Below w.heap.size w w' := by
  obtain ⟨m, hm⟩ : ∃ m, m = x.natAbs := ⟨_, rfl⟩
  have hml : m < 18446744073709551616 := by omega
  have hB := below2 w (Obj.cells #[Value.bool false, Value.slice none 0 0, Value.int IntKind.i64 0] 26) (.cells #[.int .u64 m] 49)
  have b0 := (Box3.new w (Value.bool false) (Value.slice none 0 0) (Value.int IntKind.i64 0) 26).alloc (.cells #[.int .u64 m] 49)
  have hR : Rd 64 ((w.alloc (Obj.cells #[Value.bool false, Value.slice none 0 0, Value.int IntKind.i64 0] 26)).alloc (.cells #[.int .u64 m] 49)) (.slice (some ⟨w.heap.size + 1, 0, none⟩) 1 1) m 1 := by
    have h := Rd.one (w.alloc (Obj.cells #[Value.bool false, Value.slice none 0 0, Value.int IntKind.i64 0] 26)) m hml
    rw [World.size_alloc] at h
    exact h
  have E : Hid (fromIntD x = oddD ⟨decide (x < 0), m, 0⟩) := by show _ = _; rw [hm]; rfl
  have hG2 := hG.below hB
  by_cases hneg : x < 0
  · have hc : IntKind.u64.wrap x = x + 18446744073709551616 := by rw [IntKind.wrap_u64]; omega
    have hc2 : IntKind.u64.wrap (-(x + 18446744073709551616)) = (m : Int) := by rw [IntKind.wrap_u64]; omega
    have hd : decide (x < 0) = true := by simpa using hneg
    clear hm
    go_enter Tryd.func29, Tryd.ntmps29
    go_wp2_with fail
    refine (odd_any true _ m 1 0 _ hR hG2 (by omega)).mono ?_
    rintro e1 w1 ⟨x1, rfl, hV, hb1⟩
    have hB1 := keep_belowB hB hb1 (Nat.le_refl _)
    obtain ⟨k0, k1, k2, f0, _⟩ := (b0.keep hb1).cells
    have hz := hb1.size
    simp at hz
    obtain ⟨A2, c2, rfl, hV2'⟩ := id hV
    rw [hd] at E
    generalize oddD ⟨true, m, 0⟩ = r at *
    go_wp2
    refine bodyPost_ret (v := .agg #[.bool r.s, .slice A2 (nd 64 r.n) c2, .int .i64 r.e]) (by simp [results, Tryd.results29, go_sem, k0, k1, k2]) rfl ?_
    rw [E.out]
    exact ⟨_, rfl, (hV.setBox (by simp; omega) _ _ _).mono (by simp; omega), below_box hB1 (Nat.le_refl _) _ _ _⟩
  · have hc : IntKind.u64.wrap x = (m : Int) := by rw [IntKind.wrap_u64]; omega
    have hd : decide (x < 0) = false := by simpa using hneg
    clear hm
    go_enter Tryd.func29, Tryd.ntmps29
    go_wp2_with fail
    refine (odd_any false _ m 1 0 _ hR hG2 (by omega)).mono ?_
    rintro e1 w1 ⟨x1, rfl, hV, hb1⟩
    have hB1 := keep_belowB hB hb1 (Nat.le_refl _)
    obtain ⟨k0, k1, k2, f0, _⟩ := (b0.keep hb1).cells
    have hz := hb1.size
    simp at hz
    obtain ⟨A2, c2, rfl, hV2'⟩ := id hV
    rw [hd] at E
    generalize oddD ⟨false, m, 0⟩ = r at *
    go_wp2
    refine bodyPost_ret (v := .agg #[.bool r.s, .slice A2 (nd 64 r.n) c2, .int .i64 r.e]) (by simp [results, Tryd.results29, go_sem, k0, k1, k2]) rfl ?_
    rw [E.out]
    exact ⟨_, rfl, (hV.setBox (by simp; omega) _ _ _).mono (by simp; omega), below_box hB1 (Nat.le_refl _) _ _ _⟩

end Go.Proofs.YtomhmbnpkphcmaaDoor
