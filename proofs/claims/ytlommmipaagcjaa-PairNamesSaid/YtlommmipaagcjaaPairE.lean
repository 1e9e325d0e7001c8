/- Walks of layer 20: Make. -/
import Derived.Test.YtlommmipaagcjaaPairD
namespace Go.Proofs.Ytlommmipaagcjaa
set_option linter.unusedVariables false
open Go.RowKit

def gtB (k : FloatKind) (x y : Nat) : Bool := k.format.order x y == some .gt

def noP (e : Int) : Value := .tuple #[.agg #[.int .u64 0, .int .u64 0], .int .i64 e]

/-- what Make answers -/
def MakeAns (a b : Nat) (v : Value) : Prop :=
  (finP (a, b) = false ∧ v = noP 40) ∨ (finP (a, b) = true ∧ (gtB .f64 (absF .f64 a) 5958262307011166208 || gtB .f64 (absF .f64 b) 5958262307011166208) = true ∧ v = noP 7) ∨
  (finP (a, b) = true ∧ (gtB .f64 (absF .f64 a) 5958262307011166208 || gtB .f64 (absF .f64 b) 5958262307011166208) = false ∧ ∃ e x y, SumAns .f64 a b (err3 a b) e x y ∧ v = ansP (selE e x) (selE e y))

theorem below_set2 {B : Nat} {w w' : World} (h : Below B w w') {g : Nat} (hg : B ≤ g) (x y : Value) : Below B w ((w'.setCell ⟨g, 0, none⟩ x).setCell ⟨g, 1, none⟩ y) := (h.setCell hg _).setCell hg _

set_option maxHeartbeats 2000000 in
theorem make_any (a b : Nat) (w : World) : Calls Try.prog 16 #[.int .u64 a, .int .u64 b] w fun e' w' => ∃ v, e' = .returned v ∧ MakeAns a b v ∧ Below w.heap.size w w' := by
  obtain ⟨W, hW⟩ : ∃ W, W = w.alloc (Obj.cells #[.int .u64 0, .int .u64 0] 26) := ⟨_, rfl⟩
  have hB : Below w.heap.size w W := by rw [hW]; exact below_a ..
  have hbx : Box2 W w.heap.size (.int .u64 0) (.int .u64 0) := by rw [hW]; exact Box2.new ..
  go_enter Try.func16, Try.ntmps16
  go_wp2_with fail
  rw [← hW]
  refine (pfloat_any a W).mono ?_
  rintro _ w1 ⟨rfl, rfl⟩
  have HB := Lib.hid hB
  have Hbx := Lib.hid hbx
  clear hB hbx hW
  go_wp2_with fail
  refine (pfloat_any b _).mono ?_
  rintro _ w2 ⟨rfl, rfl⟩
  go_wp2_with fail
  refine (pfinite_any a w2).mono ?_
  rintro _ w3 ⟨rfl, hb⟩
  replace HB := Lib.hid (HB.out.trans (hb.mono HB.out.size))
  replace Hbx := Lib.hid (Hbx.out.below hb)
  clear hb
  obtain ⟨f1, hf1⟩ : ∃ f, finB .f64 a = f := ⟨_, rfl⟩
  rw [hf1]
  cases f1
  · have HA : Hid (MakeAns a b (noP 40)) := Or.inl ⟨by unfold finP; rw [hf1]; rfl, rfl⟩
    obtain ⟨k0, k1, _, _⟩ := Hbx.out.cells
    clear hf1
    go_wp2
    refine bodyPost_ret (v := noP 40) (by simp [results, Try.results16, go_sem, k0, k1, noP]) rfl ?_
    exact ⟨_, rfl, HA.out, below_set2 HB.out (Nat.le_refl _) _ _⟩
  go_wp2_with fail
  refine (pfinite_any b w3).mono ?_
  rintro _ w4 ⟨rfl, hb⟩
  replace HB := Lib.hid (HB.out.trans (hb.mono HB.out.size))
  replace Hbx := Lib.hid (Hbx.out.below hb)
  clear hb
  obtain ⟨f2, hf2⟩ : ∃ f, finB .f64 b = f := ⟨_, rfl⟩
  rw [hf2]
  cases f2
  · have HA : Hid (MakeAns a b (noP 40)) := Or.inl ⟨by unfold finP; rw [hf1, hf2]; rfl, rfl⟩
    obtain ⟨k0, k1, _, _⟩ := Hbx.out.cells
    clear hf1 hf2
    go_wp2
    refine bodyPost_ret (v := noP 40) (by simp [results, Try.results16, go_sem, k0, k1, noP]) rfl ?_
    exact ⟨_, rfl, HA.out, below_set2 HB.out (Nat.le_refl _) _ _⟩
  have HF : Hid (finP (a, b) = true) := by show finP (a, b) = true; unfold finP; rw [hf1, hf2]; rfl
  clear hf1 hf2
  go_wp2_with fail
  refine (psize_any a _).mono ?_
  rintro _ w5 ⟨rfl, rfl⟩
  obtain ⟨A, hA⟩ : ∃ A, A = absF .f64 a := ⟨_, rfl⟩
  rw [← hA]
  have IhA := Lib.hid hA
  clear hA
  go_wp2_with fail
  refine (pfloat_any 5958262307011166208 _).mono ?_
  rintro _ w6 ⟨rfl, rfl⟩
  obtain ⟨g1, hg1⟩ : ∃ f, (FloatKind.f64.format.order A 5958262307011166208 == some .gt) = f := ⟨_, rfl⟩
  have Hg1 : Hid (gtB .f64 (absF .f64 a) 5958262307011166208 = g1) := by rw [← IhA.out]; exact hg1
  cases g1
  · go_wp2_with fail
    refine (psize_any b _).mono ?_
    rintro _ w7 ⟨rfl, rfl⟩
    obtain ⟨C, hC⟩ : ∃ C, C = absF .f64 b := ⟨_, rfl⟩
    rw [← hC]
    have IhC := Lib.hid hC
    clear hC
    go_wp2_with fail
    refine (pfloat_any 5958262307011166208 _).mono ?_
    rintro _ w8 ⟨rfl, rfl⟩
    obtain ⟨g2, hg2⟩ : ∃ f, (FloatKind.f64.format.order C 5958262307011166208 == some .gt) = f := ⟨_, rfl⟩
    have Hg2 : Hid (gtB .f64 (absF .f64 b) 5958262307011166208 = g2) := by rw [← IhC.out]; exact hg2
    cases g2
    · go_wp2_with fail
      refine (psum_any a b _).mono ?_
      rintro _ w9 ⟨e, x, y, hS, rfl, hb⟩
      have HS := Lib.hid hS
      replace HB := Lib.hid (HB.out.trans (hb.mono HB.out.size))
      replace Hbx := Lib.hid (Hbx.out.below hb)
      clear hb hS hg1 hg2
      obtain ⟨X, hX⟩ : ∃ X, X = selE e x := ⟨_, rfl⟩
      obtain ⟨Y, hY⟩ : ∃ Y, Y = selE e y := ⟨_, rfl⟩
      rw [← hX, ← hY]
      have HX := Lib.hid hX
      have HY := Lib.hid hY
      clear hX hY
      go_wp2_with fail
      refine (panswer_any X Y w9).mono ?_
      rintro _ wz ⟨rfl, hb⟩
      have HA : Hid (MakeAns a b (ansP X Y)) := Or.inr (Or.inr ⟨HF.out, by rw [Hg1.out, Hg2.out]; rfl, e, x, y, HS.out, by rw [HX.out, HY.out]⟩)
      replace HB := Lib.hid (HB.out.trans (hb.mono HB.out.size))
      replace Hbx := Lib.hid (Hbx.out.below hb)
      clear hb
      obtain ⟨k0, k1, _, _⟩ := Hbx.out.cells
      obtain ⟨bd, hbd⟩ : ∃ bd, bd = boundB X := ⟨_, rfl⟩
      obtain ⟨x', y', e', hv⟩ : ∃ x' y' : Nat, ∃ e' : Int, ansP X Y = .tuple #[.agg #[.int .u64 (x' : Nat), .int .u64 (y' : Nat)], .int .i64 e'] := by
        unfold ansP
        split
        · exact ⟨_, _, _, rfl⟩
        · exact ⟨0, 0, 7, rfl⟩
      rw [hv] at HA ⊢
      clear hv hbd
      go_wp2
      refine bodyPost_ret (v := .tuple #[.agg #[.int .u64 (x' : Nat), .int .u64 (y' : Nat)], .int .i64 e']) (by simp [results, Try.results16, go_sem, k0, k1]) rfl ?_
      exact ⟨_, rfl, HA.out, below_set2 HB.out (Nat.le_refl _) _ _⟩
    · have HA : Hid (MakeAns a b (noP 7)) := Or.inr (Or.inl ⟨HF.out, by rw [Hg1.out, Hg2.out]; rfl, rfl⟩)
      obtain ⟨k0, k1, _, _⟩ := Hbx.out.cells
      go_wp2
      refine bodyPost_ret (v := noP 7) (by simp [results, Try.results16, go_sem, k0, k1, noP]) rfl ?_
      exact ⟨_, rfl, HA.out, below_set2 HB.out (Nat.le_refl _) _ _⟩
  · have HA : Hid (MakeAns a b (noP 7)) := Or.inr (Or.inl ⟨HF.out, by rw [Hg1.out]; rfl, rfl⟩)
    obtain ⟨k0, k1, _, _⟩ := Hbx.out.cells
    go_wp2
    refine bodyPost_ret (v := noP 7) (by simp [results, Try.results16, go_sem, k0, k1, noP]) rfl ?_
    exact ⟨_, rfl, HA.out, below_set2 HB.out (Nat.le_refl _) _ _⟩

end Go.Proofs.Ytlommmipaagcjaa
