/- Walks of layer 20: Div. -/
import Derived.Test.YtlommmipaagcjaaPairE
namespace Go.Proofs.Ytlommmipaagcjaa
set_option linter.unusedVariables false
open Go.RowKit

theorem RdP.two (w : World) (p q : Nat × Nat) (t : TypeId) : RdP (w.alloc (Obj.cells #[.int .u64 (p.1 : Nat), .int .u64 (p.2 : Nat), .int .u64 (q.1 : Nat), .int .u64 (q.2 : Nat)] t)) w.heap.size [p, q] := by
  intro j hj
  rcases (show j = 0 ∨ j = 1 by simp at hj; omega) with rfl | rfl
  · rw [World.cell?_alloc_at _ _ _ _ rfl, World.cell?_alloc_at _ _ _ _ rfl]
    exact ⟨rfl, rfl⟩
  · rw [World.cell?_alloc_at _ _ _ _ rfl, World.cell?_alloc_at _ _ _ _ rfl]
    exact ⟨rfl, rfl⟩

/-- what sum gives -/
def SumP (a b x y : Nat) : Prop := ∃ e x' y', SumAns .f64 a b (err3 a b) e x' y' ∧ x = selE e x' ∧ y = selE e y'
def ProdP (a b x y : Nat) : Prop := ∃ e x' y', ProdAns .f64 4728779608772575232 (pw 968) a b (err3 a b) e x' y' ∧ x = selE e x' ∧ y = selE e y'

/-- Div's steps, of a pair x, y by u, v -/
def DivC (x y u v : Nat) (r : Value) : Prop := ∃ t c1 c2 k v1 v2 s z1 z2 a b d f m n, FOp .quo .f64 x u t ∧ ProdP u t c1 c2 ∧ FOp .mul .f64 v t k ∧ SumP c1 k v1 v2 ∧ FOp .add .f64 v2 c2 s ∧ SumP v1 s z1 z2 ∧
  FOp .sub .f64 x z1 a ∧ FOp .sub .f64 y z2 b ∧ FOp .add .f64 a b d ∧ FOp .quo .f64 d u f ∧ SumP t f m n ∧ r = ansP m n

def DivAns (p q : Nat × Nat) (r : Value) : Prop := (openE [p, q] ≠ 0 ∧ r = noP (openE [p, q])) ∨ (openE [p, q] = 0 ∧ eqB .f64 q.1 0 = true ∧ r = noP 10) ∨ (openE [p, q] = 0 ∧ eqB .f64 q.1 0 = false ∧ DivC p.1 p.2 q.1 q.2 r)

theorem ansP_form (X Y : Nat) : ∃ x' y' : Nat, ∃ e' : Int, ansP X Y = .tuple #[.agg #[.int .u64 (x' : Nat), .int .u64 (y' : Nat)], .int .i64 e'] := by
  unfold ansP
  split
  · exact ⟨_, _, _, rfl⟩
  · exact ⟨0, 0, 7, rfl⟩

theorem psum_P (a b : Nat) (w : World) : Calls Try.prog 21 #[.float .f64 a, .float .f64 b] w fun e' w' =>
    ∃ x y, SumP a b x y ∧ e' = .returned (.agg #[.float .f64 x, .float .f64 y]) ∧ Below w.heap.size w w' :=
  (psum_any a b w).mono (by
    rintro _ w' ⟨e, x, y, h, rfl, hb⟩
    exact ⟨_, _, ⟨e, x, y, h, rfl, rfl⟩, rfl, hb⟩)

theorem pproduct_P (a b : Nat) (w : World) : Calls Try.prog 23 #[.float .f64 a, .float .f64 b] w fun e' w' =>
    ∃ x y, ProdP a b x y ∧ e' = .returned (.agg #[.float .f64 x, .float .f64 y]) ∧ Below w.heap.size w w' :=
  (pproduct_any a b w).mono (by
    rintro _ w' ⟨e, x, y, h, rfl, hb⟩
    exact ⟨_, _, ⟨e, x, y, h, rfl, rfl⟩, rfl, hb⟩)

theorem two_boxes (w : World) (a b c d : Value) (t : TypeId) : Box2 ((w.alloc (Obj.cells #[a, b] t)).alloc (Obj.cells #[c, d] t)).drew w.heap.size a b ∧ Box2 ((w.alloc (Obj.cells #[a, b] t)).alloc (Obj.cells #[c, d] t)).drew (w.heap.size + 1) c d ∧
    Below w.heap.size w ((w.alloc (Obj.cells #[a, b] t)).alloc (Obj.cells #[c, d] t)).drew := by
  have hn := Box2.new w a b t
  have hn2 := Box2.new (w.alloc (Obj.cells #[a, b] t)) c d t
  have hs2 : (w.alloc (Obj.cells #[a, b] t)).heap.size = w.heap.size + 1 := by simp
  have hn1 := hn.below (below_a (w.alloc (Obj.cells #[a, b] t)) (Obj.cells #[c, d] t))
  rw [hs2] at hn2
  exact ⟨hn1, hn2, ((below_a w _).alloc (by simp) _).drew⟩

set_option maxHeartbeats 4000000 in
theorem div_any (x y u v : Nat) (w : World) : Calls Try.prog 11 #[.agg #[.int .u64 x, .int .u64 y], .agg #[.int .u64 u, .int .u64 v]] w fun e' w' => ∃ r, e' = .returned r ∧ DivAns (x, y) (u, v) r ∧ Below w.heap.size w w' := by
  obtain ⟨W0, hW0⟩ : ∃ W0, W0 = w.alloc (Obj.cells #[.int .u64 (x : Nat), .int .u64 (y : Nat)] 26) := ⟨_, rfl⟩
  obtain ⟨W1, hW1⟩ : ∃ W1, W1 = W0.alloc (Obj.cells #[.int .u64 (u : Nat), .int .u64 (v : Nat)] 26) := ⟨_, rfl⟩
  obtain ⟨W2, hW2⟩ : ∃ W2, W2 = W1.alloc (Obj.cells #[.int .u64 0, .int .u64 0] 26) := ⟨_, rfl⟩
  obtain ⟨W3, hW3⟩ : ∃ W3, W3 = W2.alloc (Obj.cells #[.int .u64 (x : Nat), .int .u64 (y : Nat), .int .u64 (u : Nat), .int .u64 (v : Nat)] 26) := ⟨_, rfl⟩
  have s0 : W0.heap.size = w.heap.size + 1 := by rw [hW0]; simp
  have s1 : W1.heap.size = w.heap.size + 2 := by rw [hW1]; simp [s0]
  have s2 : W2.heap.size = w.heap.size + 3 := by rw [hW2]; simp [s1]
  have b0 : Below w.heap.size w W0 := by rw [hW0]; exact below_a ..
  have b1 : Below w.heap.size w W1 := by rw [hW1]; exact b0.alloc b0.size _
  have b2 : Below w.heap.size w W2 := by rw [hW2]; exact b1.alloc b1.size _
  have b3 : Below w.heap.size w W3 := by rw [hW3]; exact b2.alloc b2.size _
  have x0 : Box2 W2 w.heap.size (.int .u64 (x : Nat)) (.int .u64 (y : Nat)) := by
    have h1 : Box2 W0 w.heap.size (.int .u64 (x : Nat)) (.int .u64 (y : Nat)) := by rw [hW0]; exact Box2.new ..
    have h2 : Below W0.heap.size W0 W2 := by rw [hW2, hW1]; exact (below_a W0 _).alloc (by simp) _
    exact h1.below h2
  have x1 : Box2 W2 (w.heap.size + 1) (.int .u64 (u : Nat)) (.int .u64 (v : Nat)) := by
    have h1 : Box2 W1 W0.heap.size (.int .u64 (u : Nat)) (.int .u64 (v : Nat)) := by rw [hW1]; exact Box2.new ..
    rw [s0] at h1
    have h2 : Below W1.heap.size W1 W2 := by rw [hW2]; exact below_a ..
    exact h1.below h2
  have x2 : Box2 W3 (w.heap.size + 2) (.int .u64 0) (.int .u64 0) := by
    have h1 : Box2 W2 W1.heap.size (.int .u64 0) (.int .u64 0) := by rw [hW2]; exact Box2.new ..
    rw [s1] at h1
    have h2 : Below W2.heap.size W2 W3 := by rw [hW3]; exact below_a ..
    exact h1.below h2
  have hr : RdP W3 (w.heap.size + 3) [(x, y), (u, v)] := by rw [hW3, ← s2]; exact RdP.two W2 (x, y) (u, v) _
  have hs : w.heap.size + 3 < W3.heap.size := by rw [hW3]; simp [s2]
  obtain ⟨k0, k1, _, _⟩ := x0.cells
  obtain ⟨m0, m1, _, _⟩ := x1.cells
  have HB := Lib.hid b3
  have Hbx := Lib.hid x2
  have Hr := Lib.hid hr
  have Hs := Lib.hid hs
  have Hst : Hid (W3 = (((w.alloc (Obj.cells #[.int .u64 (x : Nat), .int .u64 (y : Nat)] 26)).alloc (Obj.cells #[.int .u64 (u : Nat), .int .u64 (v : Nat)] 26)).alloc (Obj.cells #[.int .u64 0, .int .u64 0] 26)).alloc (Obj.cells #[.int .u64 (x : Nat), .int .u64 (y : Nat), .int .u64 (u : Nat), .int .u64 (v : Nat)] 26)) := by
    show _ = _
    rw [hW3, hW2, hW1, hW0]
  rw [hW2, hW1, hW0] at k0 k1 m0 m1
  clear b0 b1 b2 b3 x0 x1 x2 hr hs s0 s1 s2 hW3 hW2 hW1 hW0
  go_enter Try.func11, Try.ntmps11
  go_wp2_with fail
  have hW := Hst.out
  rw [← hW]
  refine (open_any (w.heap.size + 3) [(x, y), (u, v)] W3 Hr.out Hs.out (by simp)).mono ?_
  rintro _ w3 ⟨l, E, rfl, hO, hb⟩
  have HO := Lib.hid hO
  replace HB := Lib.hid (HB.out.trans (hb.mono HB.out.size))
  replace Hbx := Lib.hid (Hbx.out.below hb)
  clear hO hb k0 k1 m0 m1 hW Hst Hr Hs
  by_cases hE : E = 0
  · subst hE
    have HE : Hid (openE [(x, y), (u, v)] = 0) := HO.out.1.symm
    obtain ⟨A, c, rfl, hcl⟩ := (HO.out.2 rfl).form
    obtain ⟨g, rfl, hg, hcc⟩ := hcl (by simp)
    obtain ⟨c0, c1⟩ := hcc 0 (by simp)
    obtain ⟨c2, c3⟩ := hcc 1 (by simp)
    change w3.cell? ⟨g, 0, none⟩ = some (.float .f64 x) at c0
    change w3.cell? ⟨g, 1, none⟩ = some (.float .f64 y) at c1
    change w3.cell? ⟨g, 2, none⟩ = some (.float .f64 u) at c2
    change w3.cell? ⟨g, 3, none⟩ = some (.float .f64 v) at c3
    clear hcl hcc HO
    go_upto_region 4 with (fail)
    go_cut [8, 9] from 18 (fun p8 p9 wx => ∃ g8 g9, p8 = .pointer (some ⟨g8, 0, none⟩) ∧ p9 = .pointer (some ⟨g9, 0, none⟩) ∧ Box2 wx g8 (.float .f64 x) (.float .f64 y) ∧ Box2 wx g9 (.float .f64 u) (.float .f64 v) ∧ Below w3.heap.size w3 wx)
    case first =>
      have hst := fun (a : Addr) (x : Nat) (w : World) => run_store Try.prog w a (.float .f64 x) .plain rfl
      go_region_held3 (fun w' => w'.cell? ⟨g, 0, none⟩ = some (.float .f64 x) ∧ w'.cell? ⟨g, 1, none⟩ = some (.float .f64 y) ∧ w'.cell? ⟨g, 2, none⟩ = some (.float .f64 u) ∧ w'.cell? ⟨g, 3, none⟩ = some (.float .f64 v))
        (first | exact ⟨c0, c1, c2, c3⟩ | (simp [*, World.cell?_alloc_some, World.cell?_setCell_far]))
        (fail)
      all_goals go_wp2_with fail
      all_goals go_meet
      · obtain ⟨z1, z2, z3⟩ := two_boxes w3 (.float .f64 x) (.float .f64 y) (.float .f64 u) (.float .f64 v) 45
        exact ⟨_, _, rfl, rfl, z1, z2, z3⟩
      · obtain ⟨z1, z2, z3⟩ := two_boxes w3 (.float .f64 u) (.float .f64 v) (.float .f64 x) (.float .f64 y) 45
        exact ⟨_, _, rfl, rfl, z2, z1, z3⟩
    case rest =>
      obtain ⟨g8, g9, rfl, rfl, h8, h9, hbc⟩ := hcut
      have hws := HB.out.size
      replace HB := Lib.hid (HB.out.trans (hbc.mono HB.out.size))
      replace Hbx := Lib.hid (Hbx.out.below hbc)
      have H8 := Lib.hid h8
      have H9 := Lib.hid h9
      have hst := fun (a : Addr) (x : Nat) (w : World) => run_store Try.prog w a (.float .f64 x) .plain rfl
      clear hbc h8 h9 c0 c1 c2 c3 hg hws
      obtain ⟨z, hz⟩ : ∃ z, (FloatKind.f64.format.order u 0 == some .eq) = z := ⟨_, rfl⟩
      have Hz : Hid (eqB .f64 u 0 = z) := hz
      obtain ⟨q0, q1, _, _⟩ := H9.out.cells
      cases z
      · go_upto_region 7 with (fail)
        clear q0 q1 hz
        obtain ⟨q8a, q8b, _, _⟩ := H8.out.cells
        obtain ⟨q9a, q9b, _, _⟩ := H9.out.cells
        obtain ⟨t, dt, hrt, hFt⟩ := run_flt (P := Try.prog) .quo (by simp) 43 .f64 x u wc
        have Ft := Lib.hid hFt
        obtain ⟨wtf, hwt⟩ : ∃ w', w' = World.drewN wc dt := ⟨_, rfl⟩
        have hbt : Below wc.heap.size wc wtf := by rw [hwt]; exact belowN dt
        rw [← hwt] at hrt
        clear hFt hwt
        go_upto_region 8 with (fail)
        clear q8a q8b q9a q9b
        replace HB := Lib.hid (HB.out.trans (hbt.mono HB.out.size))
        replace Hbx := Lib.hid (Hbx.out.below hbt)
        replace H8 := Lib.hid (H8.out.below hbt)
        replace H9 := Lib.hid (H9.out.below hbt)
        clear hbt
        clear hrt
        obtain ⟨q8a, q8b, _, _⟩ := H8.out.cells
        obtain ⟨q9a, q9b, _, _⟩ := H9.out.cells
        go_wp2_with fail
        refine (pproduct_P u t wtf).mono ?_
        rintro _ wc1c ⟨c1, c2, hSc1, rfl, hbc⟩
        have Sc1 := Lib.hid hSc1
        clear q8a q8b q9a q9b
        clear hSc1
        replace HB := Lib.hid (HB.out.trans (hbc.mono HB.out.size))
        replace Hbx := Lib.hid (Hbx.out.below hbc)
        replace H8 := Lib.hid (H8.out.below hbc)
        replace H9 := Lib.hid (H9.out.below hbc)
        clear hbc
        obtain ⟨g11, hg11⟩ : ∃ g, g = wc1c.heap.size := ⟨_, rfl⟩
        obtain ⟨wc1b, hwc1⟩ : ∃ w', w' = wc1c.alloc (Obj.cells #[.float .f64 c1, .float .f64 c2] 45) := ⟨_, rfl⟩
        have hbx : Box2 wc1b g11 (.float .f64 c1) (.float .f64 c2) := by rw [hg11, hwc1]; exact Box2.new ..
        have hbb : Below wc1c.heap.size wc1c wc1b := by rw [hwc1]; exact below_a ..
        go_upto_region 9 with (fail)
        rw [← hg11, ← hwc1]
        clear hg11 hwc1
        replace HB := Lib.hid (HB.out.trans (hbb.mono HB.out.size))
        replace Hbx := Lib.hid (Hbx.out.below hbb)
        replace H8 := Lib.hid (H8.out.below hbb)
        replace H9 := Lib.hid (H9.out.below hbb)
        clear hbb
        have H11 := Lib.hid hbx
        clear hbx
        obtain ⟨q8a, q8b, _, _⟩ := H8.out.cells
        obtain ⟨q9a, q9b, _, _⟩ := H9.out.cells
        obtain ⟨q11a, q11b, _, _⟩ := H11.out.cells
        obtain ⟨k, dk, hrk, hFk⟩ := run_flt (P := Try.prog) .mul (by simp) 43 .f64 v t wc1b
        have Fk := Lib.hid hFk
        obtain ⟨wkf, hwk⟩ : ∃ w', w' = World.drewN wc1b dk := ⟨_, rfl⟩
        have hbk : Below wc1b.heap.size wc1b wkf := by rw [hwk]; exact belowN dk
        rw [← hwk] at hrk
        clear hFk hwk
        go_upto_region 10 with (fail)
        clear q8a q8b q9a q9b q11a q11b
        replace HB := Lib.hid (HB.out.trans (hbk.mono HB.out.size))
        replace Hbx := Lib.hid (Hbx.out.below hbk)
        replace H8 := Lib.hid (H8.out.below hbk)
        replace H9 := Lib.hid (H9.out.below hbk)
        replace H11 := Lib.hid (H11.out.below hbk)
        clear hbk
        clear hrk
        obtain ⟨q8a, q8b, _, _⟩ := H8.out.cells
        obtain ⟨q9a, q9b, _, _⟩ := H9.out.cells
        obtain ⟨q11a, q11b, _, _⟩ := H11.out.cells
        go_wp2_with fail
        refine (psum_P c1 k wkf).mono ?_
        rintro _ wv1c ⟨v1, v2, hSv1, rfl, hbc⟩
        have Sv1 := Lib.hid hSv1
        clear q8a q8b q9a q9b q11a q11b
        clear hSv1
        replace HB := Lib.hid (HB.out.trans (hbc.mono HB.out.size))
        replace Hbx := Lib.hid (Hbx.out.below hbc)
        replace H8 := Lib.hid (H8.out.below hbc)
        replace H9 := Lib.hid (H9.out.below hbc)
        replace H11 := Lib.hid (H11.out.below hbc)
        clear hbc
        obtain ⟨g13, hg13⟩ : ∃ g, g = wv1c.heap.size := ⟨_, rfl⟩
        obtain ⟨wv1b, hwv1⟩ : ∃ w', w' = wv1c.alloc (Obj.cells #[.float .f64 v1, .float .f64 v2] 45) := ⟨_, rfl⟩
        have hbx : Box2 wv1b g13 (.float .f64 v1) (.float .f64 v2) := by rw [hg13, hwv1]; exact Box2.new ..
        have hbb : Below wv1c.heap.size wv1c wv1b := by rw [hwv1]; exact below_a ..
        go_upto_region 11 with (fail)
        rw [← hg13, ← hwv1]
        clear hg13 hwv1
        replace HB := Lib.hid (HB.out.trans (hbb.mono HB.out.size))
        replace Hbx := Lib.hid (Hbx.out.below hbb)
        replace H8 := Lib.hid (H8.out.below hbb)
        replace H9 := Lib.hid (H9.out.below hbb)
        replace H11 := Lib.hid (H11.out.below hbb)
        clear hbb
        have H13 := Lib.hid hbx
        clear hbx
        obtain ⟨q8a, q8b, _, _⟩ := H8.out.cells
        obtain ⟨q9a, q9b, _, _⟩ := H9.out.cells
        obtain ⟨q11a, q11b, _, _⟩ := H11.out.cells
        obtain ⟨q13a, q13b, _, _⟩ := H13.out.cells
        obtain ⟨s, ds, hrs, hFs⟩ := run_flt (P := Try.prog) .add (by simp) 43 .f64 v2 c2 wv1b
        have Fs := Lib.hid hFs
        obtain ⟨wsf, hws⟩ : ∃ w', w' = World.drewN wv1b ds := ⟨_, rfl⟩
        have hbs : Below wv1b.heap.size wv1b wsf := by rw [hws]; exact belowN ds
        rw [← hws] at hrs
        clear hFs hws
        go_wp2_with fail
        refine (psum_P v1 s wsf).mono ?_
        rintro _ wz1c ⟨z1, z2, hSz1, rfl, hbc⟩
        have Sz1 := Lib.hid hSz1
        clear q8a q8b q9a q9b q11a q11b q13a q13b
        clear hSz1
        replace HB := Lib.hid (HB.out.trans (hbs.mono HB.out.size))
        replace Hbx := Lib.hid (Hbx.out.below hbs)
        replace H8 := Lib.hid (H8.out.below hbs)
        replace H9 := Lib.hid (H9.out.below hbs)
        replace H11 := Lib.hid (H11.out.below hbs)
        replace H13 := Lib.hid (H13.out.below hbs)
        clear hbs
        clear hrs
        replace HB := Lib.hid (HB.out.trans (hbc.mono HB.out.size))
        replace Hbx := Lib.hid (Hbx.out.below hbc)
        replace H8 := Lib.hid (H8.out.below hbc)
        replace H9 := Lib.hid (H9.out.below hbc)
        replace H11 := Lib.hid (H11.out.below hbc)
        replace H13 := Lib.hid (H13.out.below hbc)
        clear hbc
        obtain ⟨g14, hg14⟩ : ∃ g, g = wz1c.heap.size := ⟨_, rfl⟩
        obtain ⟨wz1b, hwz1⟩ : ∃ w', w' = wz1c.alloc (Obj.cells #[.float .f64 z1, .float .f64 z2] 45) := ⟨_, rfl⟩
        have hbx : Box2 wz1b g14 (.float .f64 z1) (.float .f64 z2) := by rw [hg14, hwz1]; exact Box2.new ..
        have hbb : Below wz1c.heap.size wz1c wz1b := by rw [hwz1]; exact below_a ..
        go_upto_region 12 with (fail)
        rw [← hg14, ← hwz1]
        clear hg14 hwz1
        replace HB := Lib.hid (HB.out.trans (hbb.mono HB.out.size))
        replace Hbx := Lib.hid (Hbx.out.below hbb)
        replace H8 := Lib.hid (H8.out.below hbb)
        replace H9 := Lib.hid (H9.out.below hbb)
        replace H11 := Lib.hid (H11.out.below hbb)
        replace H13 := Lib.hid (H13.out.below hbb)
        clear hbb
        have H14 := Lib.hid hbx
        clear hbx
        obtain ⟨q8a, q8b, _, _⟩ := H8.out.cells
        obtain ⟨q9a, q9b, _, _⟩ := H9.out.cells
        obtain ⟨q11a, q11b, _, _⟩ := H11.out.cells
        obtain ⟨q13a, q13b, _, _⟩ := H13.out.cells
        obtain ⟨q14a, q14b, _, _⟩ := H14.out.cells
        obtain ⟨a, da, hra, hFa⟩ := run_flt (P := Try.prog) .sub (by simp) 43 .f64 x z1 wz1b
        have Fa := Lib.hid hFa
        obtain ⟨waf, hwa⟩ : ∃ w', w' = World.drewN wz1b da := ⟨_, rfl⟩
        have hba : Below wz1b.heap.size wz1b waf := by rw [hwa]; exact belowN da
        rw [← hwa] at hra
        clear hFa hwa
        go_upto_region 13 with (fail)
        clear q8a q8b q9a q9b q11a q11b q13a q13b q14a q14b
        replace HB := Lib.hid (HB.out.trans (hba.mono HB.out.size))
        replace Hbx := Lib.hid (Hbx.out.below hba)
        replace H8 := Lib.hid (H8.out.below hba)
        replace H9 := Lib.hid (H9.out.below hba)
        replace H11 := Lib.hid (H11.out.below hba)
        replace H13 := Lib.hid (H13.out.below hba)
        replace H14 := Lib.hid (H14.out.below hba)
        clear hba
        clear hra
        obtain ⟨q8a, q8b, _, _⟩ := H8.out.cells
        obtain ⟨q9a, q9b, _, _⟩ := H9.out.cells
        obtain ⟨q11a, q11b, _, _⟩ := H11.out.cells
        obtain ⟨q13a, q13b, _, _⟩ := H13.out.cells
        obtain ⟨q14a, q14b, _, _⟩ := H14.out.cells
        obtain ⟨b, db, hrb, hFb⟩ := run_flt (P := Try.prog) .sub (by simp) 43 .f64 y z2 waf
        have Fb := Lib.hid hFb
        obtain ⟨wbf, hwb⟩ : ∃ w', w' = World.drewN waf db := ⟨_, rfl⟩
        have hbb : Below waf.heap.size waf wbf := by rw [hwb]; exact belowN db
        rw [← hwb] at hrb
        clear hFb hwb
        go_upto_region 14 with (fail)
        clear q8a q8b q9a q9b q11a q11b q13a q13b q14a q14b
        replace HB := Lib.hid (HB.out.trans (hbb.mono HB.out.size))
        replace Hbx := Lib.hid (Hbx.out.below hbb)
        replace H8 := Lib.hid (H8.out.below hbb)
        replace H9 := Lib.hid (H9.out.below hbb)
        replace H11 := Lib.hid (H11.out.below hbb)
        replace H13 := Lib.hid (H13.out.below hbb)
        replace H14 := Lib.hid (H14.out.below hbb)
        clear hbb
        clear hrb
        obtain ⟨q8a, q8b, _, _⟩ := H8.out.cells
        obtain ⟨q9a, q9b, _, _⟩ := H9.out.cells
        obtain ⟨q11a, q11b, _, _⟩ := H11.out.cells
        obtain ⟨q13a, q13b, _, _⟩ := H13.out.cells
        obtain ⟨q14a, q14b, _, _⟩ := H14.out.cells
        obtain ⟨d, dd, hrd, hFd⟩ := run_flt (P := Try.prog) .add (by simp) 43 .f64 a b wbf
        have Fd := Lib.hid hFd
        obtain ⟨wdf, hwd⟩ : ∃ w', w' = World.drewN wbf dd := ⟨_, rfl⟩
        have hbd : Below wbf.heap.size wbf wdf := by rw [hwd]; exact belowN dd
        rw [← hwd] at hrd
        clear hFd hwd
        go_upto_region 15 with (fail)
        clear q8a q8b q9a q9b q11a q11b q13a q13b q14a q14b
        replace HB := Lib.hid (HB.out.trans (hbd.mono HB.out.size))
        replace Hbx := Lib.hid (Hbx.out.below hbd)
        replace H8 := Lib.hid (H8.out.below hbd)
        replace H9 := Lib.hid (H9.out.below hbd)
        replace H11 := Lib.hid (H11.out.below hbd)
        replace H13 := Lib.hid (H13.out.below hbd)
        replace H14 := Lib.hid (H14.out.below hbd)
        clear hbd
        clear hrd
        obtain ⟨q8a, q8b, _, _⟩ := H8.out.cells
        obtain ⟨q9a, q9b, _, _⟩ := H9.out.cells
        obtain ⟨q11a, q11b, _, _⟩ := H11.out.cells
        obtain ⟨q13a, q13b, _, _⟩ := H13.out.cells
        obtain ⟨q14a, q14b, _, _⟩ := H14.out.cells
        obtain ⟨f, df, hrf, hFf⟩ := run_flt (P := Try.prog) .quo (by simp) 43 .f64 d u wdf
        have Ff := Lib.hid hFf
        obtain ⟨wff, hwf⟩ : ∃ w', w' = World.drewN wdf df := ⟨_, rfl⟩
        have hbf : Below wdf.heap.size wdf wff := by rw [hwf]; exact belowN df
        rw [← hwf] at hrf
        clear hFf hwf
        go_wp2_with fail
        refine (psum_P t f wff).mono ?_
        rintro _ wmc ⟨m, n, hSm, rfl, hbc⟩
        have Sm := Lib.hid hSm
        clear q8a q8b q9a q9b q11a q11b q13a q13b q14a q14b
        clear hSm
        replace HB := Lib.hid (HB.out.trans (hbf.mono HB.out.size))
        replace Hbx := Lib.hid (Hbx.out.below hbf)
        replace H8 := Lib.hid (H8.out.below hbf)
        replace H9 := Lib.hid (H9.out.below hbf)
        replace H11 := Lib.hid (H11.out.below hbf)
        replace H13 := Lib.hid (H13.out.below hbf)
        replace H14 := Lib.hid (H14.out.below hbf)
        clear hbf
        clear hrf
        replace HB := Lib.hid (HB.out.trans (hbc.mono HB.out.size))
        replace Hbx := Lib.hid (Hbx.out.below hbc)
        replace H8 := Lib.hid (H8.out.below hbc)
        replace H9 := Lib.hid (H9.out.below hbc)
        replace H11 := Lib.hid (H11.out.below hbc)
        replace H13 := Lib.hid (H13.out.below hbc)
        replace H14 := Lib.hid (H14.out.below hbc)
        clear hbc
        go_wp2_with fail
        refine (panswer_any m n wmc).mono ?_
        rintro _ wz ⟨rfl, hb⟩
        have HA : Hid (DivAns (x, y) (u, v) (ansP m n)) := Or.inr (Or.inr ⟨HE.out, Hz.out, t, c1, c2, k, v1, v2, s, z1, z2, a, b, d, f, m, n, Ft.out, Sc1.out, Fk.out, Sv1.out, Fs.out, Sz1.out, Fa.out, Fb.out, Fd.out, Ff.out, Sm.out, rfl⟩)
        replace HB := Lib.hid (HB.out.trans (hb.mono HB.out.size))
        replace Hbx := Lib.hid (Hbx.out.below hb)
        replace H8 := Lib.hid (H8.out.below hb)
        replace H9 := Lib.hid (H9.out.below hb)
        replace H11 := Lib.hid (H11.out.below hb)
        replace H13 := Lib.hid (H13.out.below hb)
        replace H14 := Lib.hid (H14.out.below hb)
        clear hb
        obtain ⟨k0, k1, _, _⟩ := Hbx.out.cells
        obtain ⟨x', y', e', hv⟩ := ansP_form m n
        rw [hv] at HA ⊢
        clear hv
        go_wp2
        refine bodyPost_ret (v := .tuple #[.agg #[.int .u64 (x' : Nat), .int .u64 (y' : Nat)], .int .i64 e']) (by simp [results, Try.results11, go_sem, k0, k1]) rfl ?_
        exact ⟨_, rfl, HA.out, below_set2 HB.out (by omega) _ _⟩
      · have HA : Hid (DivAns (x, y) (u, v) (noP 10)) := Or.inr (Or.inl ⟨HE.out, Hz.out, rfl⟩)
        obtain ⟨k0, k1, _, _⟩ := Hbx.out.cells
        go_wp2
        refine bodyPost_ret (v := noP 10) (by simp [results, Try.results11, go_sem, k0, k1, noP]) rfl ?_
        exact ⟨_, rfl, HA.out, below_set2 HB.out (by omega) _ _⟩
  · have HA : Hid (DivAns (x, y) (u, v) (noP E)) := Or.inl ⟨by rw [← HO.out.1]; exact hE, by rw [← HO.out.1]⟩
    obtain ⟨k0, k1, _, _⟩ := Hbx.out.cells
    have hE' : (E != 0) = true := by simpa using hE
    clear HO
    go_wp2
    refine bodyPost_ret (v := noP E) (by simp [results, Try.results11, go_sem, k0, k1, noP]) rfl ?_
    exact ⟨_, rfl, HA.out, below_set2 HB.out (by omega) _ _⟩

end Go.Proofs.Ytlommmipaagcjaa
