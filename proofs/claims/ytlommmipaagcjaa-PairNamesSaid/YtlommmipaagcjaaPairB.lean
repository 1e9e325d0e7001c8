/- Walks of layer 20: sum, product, answer. -/
import Derived.Outline
import Derived.Deep.RegionHeld3
import Derived.Test.YtlommmipaagcjaaPairA
namespace Go.Proofs.Ytlommmipaagcjaa
set_option linter.unusedVariables false
open Go.RowKit

/-- block g is two cells -/
def Box2 (w : World) (g : Nat) (a b : Value) : Prop := ∃ t, w.heap[g]? = some (Obj.cells #[a, b] t (0, 0))
theorem lt_of_heap {w : World} {b : Nat} {o : Obj} (h : w.heap[b]? = some o) : b < w.heap.size := by
  rcases Nat.lt_or_ge b w.heap.size with hlt | hge
  · exact hlt
  · rw [Array.getElem?_eq_none hge] at h; cases h
theorem heap_new (w : World) (o : Obj) : (w.alloc o).heap[w.heap.size]? = some o := by
  show (w.heap.push o)[w.heap.size]? = _
  rw [Array.getElem?_push, if_pos rfl]
theorem Box2.new (w : World) (a b : Value) (t : TypeId) : Box2 (w.alloc (Obj.cells #[a, b] t)) w.heap.size a b := ⟨t, heap_new w _⟩
theorem Box2.below {w w' : World} {g : Nat} {a b : Value} (h : Box2 w g a b) (hb : Below w.heap.size w w') : Box2 w' g a b := by
  obtain ⟨t, h⟩ := h
  exact ⟨t, (hb.block g (lt_of_heap h)).trans h⟩
theorem Box2.cells {w : World} {g : Nat} {a b : Value} (h : Box2 w g a b) : w.cell? ⟨g, 0, none⟩ = some a ∧ w.cell? ⟨g, 1, none⟩ = some b ∧ (∀ j, w.frozen? ⟨g, j, none⟩ = false) ∧ g < w.heap.size := by
  obtain ⟨t, h⟩ := h
  refine ⟨?_, ?_, fun j => ?_, lt_of_heap h⟩
  · unfold World.cell?; simp only [h]; rfl
  · unfold World.cell?; simp only [h]; rfl
  · unfold World.frozen?; simp only [h]; simp

/-- of an answer with the error e -/
def selE (e : Int) (x : Nat) : Nat := if e = 0 then x else 0

theorem psum_any (a b : Nat) (w : World) : Calls Try.prog 21 #[.float .f64 a, .float .f64 b] w fun e' w' =>
    ∃ e x y, SumAns .f64 a b (err3 a b) e x y ∧ e' = .returned (.agg #[.float .f64 (selE e x), .float .f64 (selE e y)]) ∧ Below w.heap.size w w' := by
  have h1 := f64bits_run a
  have h2 := f64bits_run b
  obtain ⟨W, hW⟩ : ∃ W, W = w.alloc (Obj.cells #[.float .f64 0, .float .f64 0] 45) := ⟨_, rfl⟩
  have hB : Below w.heap.size w W := by rw [hW]; exact below_a ..
  have hbx : Box2 W w.heap.size (.float .f64 0) (.float .f64 0) := by rw [hW]; exact Box2.new ..
  have hst := fun (a : Addr) (x : Nat) (w : World) => run_store Try.prog w a (.float .f64 x) .plain rfl
  go_enter Try.func21, Try.ntmps21
  go_wp2_with fail
  rw [← hW]
  refine (TwoSum_three a b W).mono ?_
  rintro _ w1 ⟨e, x, y, rfl, hb1, hA⟩
  have HA := Lib.hid hA
  have HB := Lib.hid (hB.trans (hb1.mono hB.size))
  obtain ⟨k0, k1, k2, _⟩ := (hbx.below hb1).cells
  rw [show ansB e x y = .tuple #[.int .u64 (selE e x : Nat), .int .u64 (selE e y : Nat), .int .i64 e] from rfl]
  clear hW hB hbx hb1 hA h1 h2
  obtain ⟨X, hX⟩ : ∃ X, X = selE e x := ⟨_, rfl⟩
  obtain ⟨Y, hY⟩ : ∃ Y, Y = selE e y := ⟨_, rfl⟩
  rw [← hX, ← hY]
  have HX := Lib.hid hX
  have HY := Lib.hid hY
  clear hX hY
  go_wp2_with fail
  refine (pfloat_any X w1).mono ?_
  rintro _ w2 ⟨rfl, rfl⟩
  go_wp2_with fail
  refine (pfloat_any Y _).mono ?_
  rintro _ w3 ⟨rfl, rfl⟩
  go_wp2
  refine bodyPost_ret (v := .agg #[.float .f64 X, .float .f64 Y]) (by simp [results, Try.results21, go_sem, k0, k1]) rfl ?_
  exact ⟨e, x, y, HA.out, by rw [HX.out, HY.out], (HB.out.setCell (Nat.le_refl _) _).setCell (Nat.le_refl _) _⟩

theorem pproduct_any (a b : Nat) (w : World) : Calls Try.prog 23 #[.float .f64 a, .float .f64 b] w fun e' w' =>
    ∃ e x y, ProdAns .f64 4728779608772575232 (pw 968) a b (err3 a b) e x y ∧ e' = .returned (.agg #[.float .f64 (selE e x), .float .f64 (selE e y)]) ∧ Below w.heap.size w w' := by
  have h1 := f64bits_run a
  have h2 := f64bits_run b
  obtain ⟨W, hW⟩ : ∃ W, W = w.alloc (Obj.cells #[.float .f64 0, .float .f64 0] 45) := ⟨_, rfl⟩
  have hB : Below w.heap.size w W := by rw [hW]; exact below_a ..
  have hbx : Box2 W w.heap.size (.float .f64 0) (.float .f64 0) := by rw [hW]; exact Box2.new ..
  have hst := fun (a : Addr) (x : Nat) (w : World) => run_store Try.prog w a (.float .f64 x) .plain rfl
  go_enter Try.func23, Try.ntmps23
  go_wp2_with fail
  rw [← hW]
  refine (TwoProd_three a b W).mono ?_
  rintro _ w1 ⟨e, x, y, rfl, hb1, hA⟩
  have HA := Lib.hid hA
  have HB := Lib.hid (hB.trans (hb1.mono hB.size))
  obtain ⟨k0, k1, k2, _⟩ := (hbx.below hb1).cells
  rw [show ansB e x y = .tuple #[.int .u64 (selE e x : Nat), .int .u64 (selE e y : Nat), .int .i64 e] from rfl]
  clear hW hB hbx hb1 hA h1 h2
  obtain ⟨X, hX⟩ : ∃ X, X = selE e x := ⟨_, rfl⟩
  obtain ⟨Y, hY⟩ : ∃ Y, Y = selE e y := ⟨_, rfl⟩
  rw [← hX, ← hY]
  have HX := Lib.hid hX
  have HY := Lib.hid hY
  clear hX hY
  go_wp2_with fail
  refine (pfloat_any X w1).mono ?_
  rintro _ w2 ⟨rfl, rfl⟩
  go_wp2_with fail
  refine (pfloat_any Y _).mono ?_
  rintro _ w3 ⟨rfl, rfl⟩
  go_wp2
  refine bodyPost_ret (v := .agg #[.float .f64 X, .float .f64 Y]) (by simp [results, Try.results23, go_sem, k0, k1]) rfl ?_
  exact ⟨e, x, y, HA.out, by rw [HX.out, HY.out], (HB.out.setCell (Nat.le_refl _) _).setCell (Nat.le_refl _) _⟩

/-- the answer of a pair at work -/
def ansP (hi lo : Nat) : Value := if boundB hi = true then .tuple #[.agg #[.int .u64 (bitsF hi : Nat), .int .u64 (bitsF lo : Nat)], .int .i64 0] else .tuple #[.agg #[.int .u64 0, .int .u64 0], .int .i64 7]

theorem panswer_any (hi lo : Nat) (w : World) : Calls Try.prog 22 #[.agg #[.float .f64 hi, .float .f64 lo]] w fun e' w' => e' = .returned (ansP hi lo) ∧ Below w.heap.size w w' := by
  obtain ⟨W, hW⟩ : ∃ W, W = ((w.alloc (Obj.cells #[.float .f64 hi, .float .f64 lo] 45)).alloc (Obj.cells #[.int .u64 0, .int .u64 0] 26)) := ⟨_, rfl⟩
  have hB : Below w.heap.size w W := by rw [hW]; exact (below_a ..).alloc (by simp) _
  have hb1 : Box2 W w.heap.size (.float .f64 hi) (.float .f64 lo) := by rw [hW]; exact (Box2.new ..).below (below_a ..)
  have hb2 : Box2 W (w.heap.size + 1) (.int .u64 0) (.int .u64 0) := by
    rw [hW]
    have := Box2.new (w.alloc (Obj.cells #[.float .f64 hi, .float .f64 lo] 45)) (.int .u64 0) (.int .u64 0) 26
    simpa using this
  obtain ⟨k0, k1, _, _⟩ := hb1.cells
  obtain ⟨m0, m1, m2, _⟩ := hb2.cells
  have HB := Lib.hid hB
  clear hB hb1 hb2
  obtain ⟨b, hb⟩ : ∃ b, b = boundB hi := ⟨_, rfl⟩
  have HA : Hid (ansP hi lo = if b = true then .tuple #[.agg #[.int .u64 (bitsF hi : Nat), .int .u64 (bitsF lo : Nat)], .int .i64 0] else .tuple #[.agg #[.int .u64 0, .int .u64 0], .int .i64 7]) := by show _ = _; rw [hb]; rfl
  go_enter Try.func22, Try.ntmps22
  go_wp2_with fail
  rw [← hW]
  refine (bounded_any hi W).mono ?_
  rintro _ w1 ⟨rfl, rfl⟩
  rw [← hb]
  clear hW hb
  cases b
  · go_wp2
    refine bodyPost_ret (v := .tuple #[.agg #[.int .u64 0, .int .u64 0], .int .i64 7]) (by simp [results, Try.results22, go_sem, m0, m1]) rfl ?_
    exact ⟨by rw [HA.out]; rfl, (HB.out.setCell (Nat.le_succ _) _).setCell (Nat.le_succ _) _⟩
  · obtain ⟨x, hx⟩ : ∃ x, x = bitsF hi := ⟨_, rfl⟩
    obtain ⟨y, hy⟩ : ∃ y, y = bitsF lo := ⟨_, rfl⟩
    have Hx := Lib.hid hx
    have Hy := Lib.hid hy
    rw [← hx, ← hy] at HA
    clear hx hy
    go_wp2_with fail
    go_region_held3 (fun w' => w'.cell? ⟨w.heap.size, 0, none⟩ = some (.float .f64 hi) ∧ w'.cell? ⟨w.heap.size, 1, none⟩ = some (.float .f64 lo))
      (first | exact ⟨k0, k1⟩ | (simp [*, World.cell?_setCell_far]))
      (first | (go_at_call 36; (with_reducible refine (pbits_any hi _).mono ?_); rintro e w5 ⟨rfl, rfl⟩; rw [← Hx.out]) | (go_at_call 36; (with_reducible refine (pbits_any lo _).mono ?_); rintro e w6 ⟨rfl, rfl⟩; rw [← Hy.out]))
    go_wp2
    refine bodyPost_ret (v := .tuple #[.agg #[.int .u64 (x : Nat), .int .u64 (y : Nat)], .int .i64 0]) (by simp [results, Try.results22, go_sem, m0, m1]) rfl ?_
    exact ⟨by rw [HA.out]; rfl, (HB.out.drew.setCell (Nat.le_succ _) _).setCell (Nat.le_succ _) _⟩

end Go.Proofs.Ytlommmipaagcjaa
