/- Walks of layer 18: twoSum, halves. -/
import Derived.Test.YtlibhfojfonfjaaGreatDoorFltA
namespace Go.Proofs.YtlibhfojfonfjaaGreatDoor
set_option linter.unusedVariables false
open Go.RowKit

theorem RdF.new (k : FloatKind) (w : World) (xs : List Nat) (t : TypeId) : RdF k (w.alloc (Obj.cells (xs.map (Value.float k)).toArray t)) w.heap.size xs := by
  intro j hj
  rw [World.cell?_alloc_at _ _ _ _ rfl]
  simp [hj]

theorem belowN {w : World} (d : Nat) : Below w.heap.size w (w.drewN d) := below_drewN (Below.refl _ _) d

/-- draws, a new block, draws -/
theorem below_dad {w : World} (d : Nat) (o : Obj) (d' : Nat) : Below w.heap.size w (((w.drewN d).alloc o).drewN d') :=
  below_drewN ((belowN d).alloc (Nat.le_refl _) o) d'

/-- the steps of TwoSum -/
def SumC (k : FloatKind) (a b s t u v z r : Nat) : Prop := FOp .add k a b s ∧ FOp .sub k s a t ∧ FOp .sub k s t u ∧ FOp .sub k b t v ∧ FOp .sub k a u z ∧ FOp .add k z v r
/-- the steps of Split -/
def HalfC (k : FloatKind) (q a c d h l : Nat) : Prop := FOp .mul k q a c ∧ FOp .sub k c a d ∧ FOp .sub k c d h ∧ FOp .sub k a h l

/-- two floats and the error, or nothing and ErrRange -/
def ansF (k : FloatKind) (ok : Bool) (x y : Nat) : Value := .tuple #[.float k (if ok then x else 0), .float k (if ok then y else 0), .int .i64 (if ok then 0 else 7)]

set_option maxHeartbeats 1000000 in
theorem twoSum_f32 (a b : Nat) (w : World) :
    Calls Tryz.prog 49 #[.float .f32 a, .float .f32 b] w fun e w' => ∃ s t u v z r, SumC .f32 a b s t u v z r ∧ e = .returned (ansF .f32 ([s, t, u, v, z, r].all (finB .f32)) s r) ∧ Below w.heap.size w w' := by
  obtain ⟨s, d0, hr0, hF0⟩ := run_flt (P := Tryz.prog) .add (by simp) 49 .f32 a b w
  obtain ⟨t, d1, hr1, hF1⟩ := run_flt (P := Tryz.prog) .sub (by simp) 49 .f32 s a (w.drewN d0)
  obtain ⟨u, d2, hr2, hF2⟩ := run_flt (P := Tryz.prog) .sub (by simp) 49 .f32 s t (w.drewN (d0 + d1))
  obtain ⟨v, d3, hr3, hF3⟩ := run_flt (P := Tryz.prog) .sub (by simp) 49 .f32 b t (w.drewN (d0 + d1 + d2))
  obtain ⟨z, d4, hr4, hF4⟩ := run_flt (P := Tryz.prog) .sub (by simp) 49 .f32 a u (w.drewN (d0 + d1 + d2 + d3))
  obtain ⟨r, d5, hr5, hF5⟩ := run_flt (P := Tryz.prog) .add (by simp) 49 .f32 z v (w.drewN (d0 + d1 + d2 + d3 + d4))
  have HF0 := Lib.hid hF0
  have HF1 := Lib.hid hF1
  have HF2 := Lib.hid hF2
  have HF3 := Lib.hid hF3
  have HF4 := Lib.hid hF4
  have HF5 := Lib.hid hF5
  clear hF0 hF1 hF2 hF3 hF4 hF5
  go_enter Tryz.func49, Tryz.ntmps49
  go_wp2_with fail
  refine (finite_f32 w.heap.size [s, t, u, v, z, r] ((w.drewN (d0 + d1 + d2 + d3 + d4 + d5)).alloc (Obj.cells #[.float .f32 s, .float .f32 t, .float .f32 u, .float .f32 v, .float .f32 z, .float .f32 r] 49)) (RdF.new .f32 (w.drewN (d0 + d1 + d2 + d3 + d4 + d5)) [s, t, u, v, z, r] 49) (by simp)).mono ?_
  rintro _ w' ⟨rfl, d', rfl⟩
  obtain ⟨ok, hok⟩ : ∃ ok, ok = [s, t, u, v, z, r].all (finB .f32) := ⟨_, rfl⟩
  rw [← hok]
  have Hok := Lib.hid hok
  have HB := Lib.hid (below_dad (w := w) (d0 + d1 + d2 + d3 + d4 + d5) (Obj.cells #[.float .f32 s, .float .f32 t, .float .f32 u, .float .f32 v, .float .f32 z, .float .f32 r] 49) d')
  clear hok hr0 hr1 hr2 hr3 hr4 hr5
  cases ok
  · go_wp2
    refine bodyPost_ret (v := .tuple #[.float .f32 0, .float .f32 0, .int .i64 7]) (by simp [results, Tryz.results49, go_sem]) rfl ?_
    exact ⟨s, t, u, v, z, r, ⟨HF0.out, HF1.out, HF2.out, HF3.out, HF4.out, HF5.out⟩, by rw [← Hok.out]; rfl, HB.out⟩
  · go_wp2
    refine bodyPost_ret (v := .tuple #[.float .f32 s, .float .f32 r, .int .i64 0]) (by simp [results, Tryz.results49, go_sem]) rfl ?_
    exact ⟨s, t, u, v, z, r, ⟨HF0.out, HF1.out, HF2.out, HF3.out, HF4.out, HF5.out⟩, by rw [← Hok.out]; rfl, HB.out⟩

set_option maxHeartbeats 1000000 in
theorem halves_f32 (q a : Nat) (w : World) :
    Calls Tryz.prog 58 #[.float .f32 q, .float .f32 a] w fun e w' => ∃ c d h l, HalfC .f32 q a c d h l ∧ e = .returned (ansF .f32 ([c, d, h, l].all (finB .f32)) h l) ∧ Below w.heap.size w w' := by
  obtain ⟨c, d0, hr0, hF0⟩ := run_flt (P := Tryz.prog) .mul (by simp) 49 .f32 q a w
  obtain ⟨d, d1, hr1, hF1⟩ := run_flt (P := Tryz.prog) .sub (by simp) 49 .f32 c a (w.drewN d0)
  obtain ⟨h, d2, hr2, hF2⟩ := run_flt (P := Tryz.prog) .sub (by simp) 49 .f32 c d (w.drewN (d0 + d1))
  obtain ⟨l, d3, hr3, hF3⟩ := run_flt (P := Tryz.prog) .sub (by simp) 49 .f32 a h (w.drewN (d0 + d1 + d2))
  have HF0 := Lib.hid hF0
  have HF1 := Lib.hid hF1
  have HF2 := Lib.hid hF2
  have HF3 := Lib.hid hF3
  clear hF0 hF1 hF2 hF3
  go_enter Tryz.func58, Tryz.ntmps58
  go_wp2_with fail
  refine (finite_f32 w.heap.size [c, d, h, l] ((w.drewN (d0 + d1 + d2 + d3)).alloc (Obj.cells #[.float .f32 c, .float .f32 d, .float .f32 h, .float .f32 l] 49)) (RdF.new .f32 (w.drewN (d0 + d1 + d2 + d3)) [c, d, h, l] 49) (by simp)).mono ?_
  rintro _ w' ⟨rfl, d', rfl⟩
  obtain ⟨ok, hok⟩ : ∃ ok, ok = [c, d, h, l].all (finB .f32) := ⟨_, rfl⟩
  rw [← hok]
  have Hok := Lib.hid hok
  have HB := Lib.hid (below_dad (w := w) (d0 + d1 + d2 + d3) (Obj.cells #[.float .f32 c, .float .f32 d, .float .f32 h, .float .f32 l] 49) d')
  clear hok hr0 hr1 hr2 hr3
  cases ok
  · go_wp2
    refine bodyPost_ret (v := .tuple #[.float .f32 0, .float .f32 0, .int .i64 7]) (by simp [results, Tryz.results58, go_sem]) rfl ?_
    exact ⟨c, d, h, l, ⟨HF0.out, HF1.out, HF2.out, HF3.out⟩, by rw [← Hok.out]; rfl, HB.out⟩
  · go_wp2
    refine bodyPost_ret (v := .tuple #[.float .f32 h, .float .f32 l, .int .i64 0]) (by simp [results, Tryz.results58, go_sem]) rfl ?_
    exact ⟨c, d, h, l, ⟨HF0.out, HF1.out, HF2.out, HF3.out⟩, by rw [← Hok.out]; rfl, HB.out⟩

set_option maxHeartbeats 1000000 in
theorem twoSum_f64 (a b : Nat) (w : World) :
    Calls Tryz.prog 50 #[.float .f64 a, .float .f64 b] w fun e w' => ∃ s t u v z r, SumC .f64 a b s t u v z r ∧ e = .returned (ansF .f64 ([s, t, u, v, z, r].all (finB .f64)) s r) ∧ Below w.heap.size w w' := by
  obtain ⟨s, d0, hr0, hF0⟩ := run_flt (P := Tryz.prog) .add (by simp) 52 .f64 a b w
  obtain ⟨t, d1, hr1, hF1⟩ := run_flt (P := Tryz.prog) .sub (by simp) 52 .f64 s a (w.drewN d0)
  obtain ⟨u, d2, hr2, hF2⟩ := run_flt (P := Tryz.prog) .sub (by simp) 52 .f64 s t (w.drewN (d0 + d1))
  obtain ⟨v, d3, hr3, hF3⟩ := run_flt (P := Tryz.prog) .sub (by simp) 52 .f64 b t (w.drewN (d0 + d1 + d2))
  obtain ⟨z, d4, hr4, hF4⟩ := run_flt (P := Tryz.prog) .sub (by simp) 52 .f64 a u (w.drewN (d0 + d1 + d2 + d3))
  obtain ⟨r, d5, hr5, hF5⟩ := run_flt (P := Tryz.prog) .add (by simp) 52 .f64 z v (w.drewN (d0 + d1 + d2 + d3 + d4))
  have HF0 := Lib.hid hF0
  have HF1 := Lib.hid hF1
  have HF2 := Lib.hid hF2
  have HF3 := Lib.hid hF3
  have HF4 := Lib.hid hF4
  have HF5 := Lib.hid hF5
  clear hF0 hF1 hF2 hF3 hF4 hF5
  go_enter Tryz.func50, Tryz.ntmps50
  go_wp2_with fail
  refine (finite_f64 w.heap.size [s, t, u, v, z, r] ((w.drewN (d0 + d1 + d2 + d3 + d4 + d5)).alloc (Obj.cells #[.float .f64 s, .float .f64 t, .float .f64 u, .float .f64 v, .float .f64 z, .float .f64 r] 52)) (RdF.new .f64 (w.drewN (d0 + d1 + d2 + d3 + d4 + d5)) [s, t, u, v, z, r] 52) (by simp)).mono ?_
  rintro _ w' ⟨rfl, d', rfl⟩
  obtain ⟨ok, hok⟩ : ∃ ok, ok = [s, t, u, v, z, r].all (finB .f64) := ⟨_, rfl⟩
  rw [← hok]
  have Hok := Lib.hid hok
  have HB := Lib.hid (below_dad (w := w) (d0 + d1 + d2 + d3 + d4 + d5) (Obj.cells #[.float .f64 s, .float .f64 t, .float .f64 u, .float .f64 v, .float .f64 z, .float .f64 r] 52) d')
  clear hok hr0 hr1 hr2 hr3 hr4 hr5
  cases ok
  · go_wp2
    refine bodyPost_ret (v := .tuple #[.float .f64 0, .float .f64 0, .int .i64 7]) (by simp [results, Tryz.results50, go_sem]) rfl ?_
    exact ⟨s, t, u, v, z, r, ⟨HF0.out, HF1.out, HF2.out, HF3.out, HF4.out, HF5.out⟩, by rw [← Hok.out]; rfl, HB.out⟩
  · go_wp2
    refine bodyPost_ret (v := .tuple #[.float .f64 s, .float .f64 r, .int .i64 0]) (by simp [results, Tryz.results50, go_sem]) rfl ?_
    exact ⟨s, t, u, v, z, r, ⟨HF0.out, HF1.out, HF2.out, HF3.out, HF4.out, HF5.out⟩, by rw [← Hok.out]; rfl, HB.out⟩

set_option maxHeartbeats 1000000 in
theorem halves_f64 (q a : Nat) (w : World) :
    Calls Tryz.prog 62 #[.float .f64 q, .float .f64 a] w fun e w' => ∃ c d h l, HalfC .f64 q a c d h l ∧ e = .returned (ansF .f64 ([c, d, h, l].all (finB .f64)) h l) ∧ Below w.heap.size w w' := by
  obtain ⟨c, d0, hr0, hF0⟩ := run_flt (P := Tryz.prog) .mul (by simp) 52 .f64 q a w
  obtain ⟨d, d1, hr1, hF1⟩ := run_flt (P := Tryz.prog) .sub (by simp) 52 .f64 c a (w.drewN d0)
  obtain ⟨h, d2, hr2, hF2⟩ := run_flt (P := Tryz.prog) .sub (by simp) 52 .f64 c d (w.drewN (d0 + d1))
  obtain ⟨l, d3, hr3, hF3⟩ := run_flt (P := Tryz.prog) .sub (by simp) 52 .f64 a h (w.drewN (d0 + d1 + d2))
  have HF0 := Lib.hid hF0
  have HF1 := Lib.hid hF1
  have HF2 := Lib.hid hF2
  have HF3 := Lib.hid hF3
  clear hF0 hF1 hF2 hF3
  go_enter Tryz.func62, Tryz.ntmps62
  go_wp2_with fail
  refine (finite_f64 w.heap.size [c, d, h, l] ((w.drewN (d0 + d1 + d2 + d3)).alloc (Obj.cells #[.float .f64 c, .float .f64 d, .float .f64 h, .float .f64 l] 52)) (RdF.new .f64 (w.drewN (d0 + d1 + d2 + d3)) [c, d, h, l] 52) (by simp)).mono ?_
  rintro _ w' ⟨rfl, d', rfl⟩
  obtain ⟨ok, hok⟩ : ∃ ok, ok = [c, d, h, l].all (finB .f64) := ⟨_, rfl⟩
  rw [← hok]
  have Hok := Lib.hid hok
  have HB := Lib.hid (below_dad (w := w) (d0 + d1 + d2 + d3) (Obj.cells #[.float .f64 c, .float .f64 d, .float .f64 h, .float .f64 l] 52) d')
  clear hok hr0 hr1 hr2 hr3
  cases ok
  · go_wp2
    refine bodyPost_ret (v := .tuple #[.float .f64 0, .float .f64 0, .int .i64 7]) (by simp [results, Tryz.results62, go_sem]) rfl ?_
    exact ⟨c, d, h, l, ⟨HF0.out, HF1.out, HF2.out, HF3.out⟩, by rw [← Hok.out]; rfl, HB.out⟩
  · go_wp2
    refine bodyPost_ret (v := .tuple #[.float .f64 h, .float .f64 l, .int .i64 0]) (by simp [results, Tryz.results62, go_sem]) rfl ?_
    exact ⟨c, d, h, l, ⟨HF0.out, HF1.out, HF2.out, HF3.out⟩, by rw [← Hok.out]; rfl, HB.out⟩

end Go.Proofs.YtlibhfojfonfjaaGreatDoor
