/- Walks of layer 18: twoProd. -/
import Derived.Test.YtlibhfojfonfjaaGreatDoorFltC
namespace Go.Proofs.YtlibhfojfonfjaaGreatDoor
set_option linter.unusedVariables false
open Go.RowKit

def neB (k : FloatKind) (x : Nat) : Bool := k.format.order x 0 != some .eq
def ltB (k : FloatKind) (x y : Nat) : Bool := k.format.order x y == some .lt

/-- the last steps of TwoProd -/
def LastC (k : FloatKind) (p h l i j g hj li lj v x y r : Nat) : Prop :=
  FOp .mul k h i g ∧ FOp .mul k h j hj ∧ FOp .mul k l i li ∧ FOp .mul k l j lj ∧ FOp .sub k g p v ∧ FOp .add k v hj x ∧ FOp .add k x li y ∧ FOp .add k y lj r

/-- what TwoProd answers: ok or not, the product and its rest -/
def ProdR (k : FloatKind) (q least a b p r : Nat) (ok : Bool) : Prop :=
  FOp .mul k a b p ∧ ∃ c d h l, HalfC k q a c d h l ∧ (([c, d, h, l].all (finB k) = false ∧ ok = false) ∨ ([c, d, h, l].all (finB k) = true ∧ ∃ c' d' i j, HalfC k q b c' d' i j ∧
    (([c', d', i, j].all (finB k) = false ∧ ok = false) ∨ ([c', d', i, j].all (finB k) = true ∧ ∃ g hj li lj v x y, LastC k p h l i j g hj li lj v x y r ∧
      ok = ([p, g, hj, li, lj, v, x, y, r].all (finB k) && !(neB k a && (neB k b && ltB k (absF k p) least)))))))

set_option maxHeartbeats 2000000 in
theorem twoProd_f32 (q least a b : Nat) (w : World) :
    Calls Tryz.prog 20 #[.float .f32 q, .float .f32 least, .float .f32 a, .float .f32 b] w fun e w' => ∃ p r ok, ProdR .f32 q least a b p r ok ∧ e = .returned (ansF .f32 ok p r) ∧ Below w.heap.size w w' := by
  obtain ⟨p, dp, hrp, hP⟩ := run_flt (P := Tryz.prog) .mul (by simp) 49 .f32 a b w
  have HP := Lib.hid hP
  clear hP
  go_enter Tryz.func20, Tryz.ntmps20
  go_wp2_with fail
  refine (halves_f32 q a (w.drewN dp)).mono ?_
  rintro _ w1 ⟨c, d, h, l, hH, rfl, hb1⟩
  have HH := Lib.hid hH
  have HB : Hid (Below w.heap.size w w1) := (belowN (w := w) dp).trans hb1
  obtain ⟨okA, hA⟩ : ∃ ok, ok = [c, d, h, l].all (finB .f32) := ⟨_, rfl⟩
  rw [← hA]
  have HA := Lib.hid hA
  clear hA hH hb1 hrp
  cases okA
  · rw [show ansF .f32 false h l = .tuple #[.float .f32 0, .float .f32 0, .int .i64 7] from rfl]
    go_wp2
    refine bodyPost_ret (v := .tuple #[.float .f32 0, .float .f32 0, .int .i64 7]) (by simp [results, Tryz.results20, go_sem]) rfl ?_
    exact ⟨p, 0, false, ⟨HP.out, c, d, h, l, HH.out, Or.inl ⟨HA.out.symm, rfl⟩⟩, rfl, HB.out⟩
  rw [show ansF .f32 true h l = .tuple #[.float .f32 h, .float .f32 l, .int .i64 0] from rfl]
  go_wp2_with fail
  refine (halves_f32 q b w1).mono ?_
  rintro _ w2 ⟨c', d', i, j, hI, rfl, hb2⟩
  have HI := Lib.hid hI
  replace HB := Lib.hid (HB.out.trans (hb2.mono HB.out.size))
  obtain ⟨okB, hC⟩ : ∃ ok, ok = [c', d', i, j].all (finB .f32) := ⟨_, rfl⟩
  rw [← hC]
  have HC := Lib.hid hC
  clear hC hI hb2
  cases okB
  · rw [show ansF .f32 false i j = .tuple #[.float .f32 0, .float .f32 0, .int .i64 7] from rfl]
    go_wp2
    refine bodyPost_ret (v := .tuple #[.float .f32 0, .float .f32 0, .int .i64 7]) (by simp [results, Tryz.results20, go_sem]) rfl ?_
    exact ⟨p, 0, false, ⟨HP.out, c, d, h, l, HH.out, Or.inr ⟨HA.out.symm, c', d', i, j, HI.out, Or.inl ⟨HC.out.symm, rfl⟩⟩⟩, rfl, HB.out⟩
  rw [show ansF .f32 true i j = .tuple #[.float .f32 i, .float .f32 j, .int .i64 0] from rfl]
  obtain ⟨g, d0, hr0, hF0⟩ := run_flt (P := Tryz.prog) .mul (by simp) 49 .f32 h i w2
  obtain ⟨hj, d1, hr1, hF1⟩ := run_flt (P := Tryz.prog) .mul (by simp) 49 .f32 h j (w2.drewN d0)
  obtain ⟨li, d2, hr2, hF2⟩ := run_flt (P := Tryz.prog) .mul (by simp) 49 .f32 l i (w2.drewN (d0 + d1))
  obtain ⟨lj, d3, hr3, hF3⟩ := run_flt (P := Tryz.prog) .mul (by simp) 49 .f32 l j (w2.drewN (d0 + d1 + d2))
  obtain ⟨v, d4, hr4, hF4⟩ := run_flt (P := Tryz.prog) .sub (by simp) 49 .f32 g p (w2.drewN (d0 + d1 + d2 + d3))
  obtain ⟨x, d5, hr5, hF5⟩ := run_flt (P := Tryz.prog) .add (by simp) 49 .f32 v hj (w2.drewN (d0 + d1 + d2 + d3 + d4))
  obtain ⟨y, d6, hr6, hF6⟩ := run_flt (P := Tryz.prog) .add (by simp) 49 .f32 x li (w2.drewN (d0 + d1 + d2 + d3 + d4 + d5))
  obtain ⟨r, d7, hr7, hF7⟩ := run_flt (P := Tryz.prog) .add (by simp) 49 .f32 y lj (w2.drewN (d0 + d1 + d2 + d3 + d4 + d5 + d6))
  have HF0 := Lib.hid hF0
  have HF1 := Lib.hid hF1
  have HF2 := Lib.hid hF2
  have HF3 := Lib.hid hF3
  have HF4 := Lib.hid hF4
  have HF5 := Lib.hid hF5
  have HF6 := Lib.hid hF6
  have HF7 := Lib.hid hF7
  clear hF0 hF1 hF2 hF3 hF4 hF5 hF6 hF7
  go_wp2_with fail
  refine (finite_f32 w2.heap.size [p, g, hj, li, lj, v, x, y, r] ((w2.drewN (d0 + d1 + d2 + d3 + d4 + d5 + d6 + d7)).alloc (Obj.cells #[.float .f32 p, .float .f32 g, .float .f32 hj, .float .f32 li, .float .f32 lj, .float .f32 v, .float .f32 x, .float .f32 y, .float .f32 r] 49)) (RdF.new .f32 (w2.drewN (d0 + d1 + d2 + d3 + d4 + d5 + d6 + d7)) [p, g, hj, li, lj, v, x, y, r] 49) (by simp)).mono ?_
  rintro _ w3 ⟨rfl, d9, rfl⟩
  replace HB := Lib.hid (HB.out.trans ((below_dad (w := w2) (d0 + d1 + d2 + d3 + d4 + d5 + d6 + d7) (Obj.cells #[.float .f32 p, .float .f32 g, .float .f32 hj, .float .f32 li, .float .f32 lj, .float .f32 v, .float .f32 x, .float .f32 y, .float .f32 r] 49) d9).mono HB.out.size))
  obtain ⟨okF, hfin⟩ : ∃ ok, ok = [p, g, hj, li, lj, v, x, y, r].all (finB .f32) := ⟨_, rfl⟩
  rw [← hfin]
  have Hfin := Lib.hid hfin
  clear hfin hr0 hr1 hr2 hr3 hr4 hr5 hr6 hr7
  cases okF
  · go_wp2
    refine bodyPost_ret (v := .tuple #[.float .f32 0, .float .f32 0, .int .i64 7]) (by simp [results, Tryz.results20, go_sem]) rfl ?_
    exact ⟨p, r, false, ⟨HP.out, c, d, h, l, HH.out, Or.inr ⟨HA.out.symm, c', d', i, j, HI.out, Or.inr ⟨HC.out.symm, g, hj, li, lj, v, x, y, ⟨HF0.out, HF1.out, HF2.out, HF3.out, HF4.out, HF5.out, HF6.out, HF7.out⟩, by rw [← Hfin.out]; rfl⟩⟩⟩, rfl, HB.out⟩
  obtain ⟨na, hna⟩ : ∃ b, (FloatKind.f32.format.order a 0 != some .eq) = b := ⟨_, rfl⟩
  have Hna : Hid (neB .f32 a = na) := hna
  cases na
  · go_wp2
    refine bodyPost_ret (v := .tuple #[.float .f32 p, .float .f32 r, .int .i64 0]) (by simp [results, Tryz.results20, go_sem]) rfl ?_
    exact ⟨p, r, true, ⟨HP.out, c, d, h, l, HH.out, Or.inr ⟨HA.out.symm, c', d', i, j, HI.out, Or.inr ⟨HC.out.symm, g, hj, li, lj, v, x, y, ⟨HF0.out, HF1.out, HF2.out, HF3.out, HF4.out, HF5.out, HF6.out, HF7.out⟩, by rw [← Hfin.out, Hna.out]; rfl⟩⟩⟩, rfl, HB.out⟩
  obtain ⟨nb, hnb⟩ : ∃ x, (FloatKind.f32.format.order b 0 != some .eq) = x := ⟨_, rfl⟩
  have Hnb : Hid (neB .f32 b = nb) := hnb
  cases nb
  · go_wp2
    refine bodyPost_ret (v := .tuple #[.float .f32 p, .float .f32 r, .int .i64 0]) (by simp [results, Tryz.results20, go_sem]) rfl ?_
    exact ⟨p, r, true, ⟨HP.out, c, d, h, l, HH.out, Or.inr ⟨HA.out.symm, c', d', i, j, HI.out, Or.inr ⟨HC.out.symm, g, hj, li, lj, v, x, y, ⟨HF0.out, HF1.out, HF2.out, HF3.out, HF4.out, HF5.out, HF6.out, HF7.out⟩, by rw [← Hfin.out, Hna.out, Hnb.out]; rfl⟩⟩⟩, rfl, HB.out⟩
  go_wp2_with fail
  refine (abs_f32 p _).mono ?_
  rintro _ w4 ⟨rfl, rfl⟩
  obtain ⟨lt, hlt⟩ : ∃ x, (FloatKind.f32.format.order (absF .f32 p) least == some .lt) = x := ⟨_, rfl⟩
  have Hlt : Hid (ltB .f32 (absF .f32 p) least = lt) := hlt
  cases lt
  · go_wp2
    refine bodyPost_ret (v := .tuple #[.float .f32 p, .float .f32 r, .int .i64 0]) (by simp [results, Tryz.results20, go_sem]) rfl ?_
    exact ⟨p, r, true, ⟨HP.out, c, d, h, l, HH.out, Or.inr ⟨HA.out.symm, c', d', i, j, HI.out, Or.inr ⟨HC.out.symm, g, hj, li, lj, v, x, y, ⟨HF0.out, HF1.out, HF2.out, HF3.out, HF4.out, HF5.out, HF6.out, HF7.out⟩, by rw [← Hfin.out, Hna.out, Hnb.out, Hlt.out]; rfl⟩⟩⟩, rfl, HB.out⟩
  · go_wp2
    refine bodyPost_ret (v := .tuple #[.float .f32 0, .float .f32 0, .int .i64 7]) (by simp [results, Tryz.results20, go_sem]) rfl ?_
    exact ⟨p, r, false, ⟨HP.out, c, d, h, l, HH.out, Or.inr ⟨HA.out.symm, c', d', i, j, HI.out, Or.inr ⟨HC.out.symm, g, hj, li, lj, v, x, y, ⟨HF0.out, HF1.out, HF2.out, HF3.out, HF4.out, HF5.out, HF6.out, HF7.out⟩, by rw [← Hfin.out, Hna.out, Hnb.out, Hlt.out]; rfl⟩⟩⟩, rfl, HB.out⟩

set_option maxHeartbeats 2000000 in
theorem twoProd_f64 (q least a b : Nat) (w : World) :
    Calls Tryz.prog 24 #[.float .f64 q, .float .f64 least, .float .f64 a, .float .f64 b] w fun e w' => ∃ p r ok, ProdR .f64 q least a b p r ok ∧ e = .returned (ansF .f64 ok p r) ∧ Below w.heap.size w w' := by
  obtain ⟨p, dp, hrp, hP⟩ := run_flt (P := Tryz.prog) .mul (by simp) 52 .f64 a b w
  have HP := Lib.hid hP
  clear hP
  go_enter Tryz.func24, Tryz.ntmps24
  go_wp2_with fail
  refine (halves_f64 q a (w.drewN dp)).mono ?_
  rintro _ w1 ⟨c, d, h, l, hH, rfl, hb1⟩
  have HH := Lib.hid hH
  have HB : Hid (Below w.heap.size w w1) := (belowN (w := w) dp).trans hb1
  obtain ⟨okA, hA⟩ : ∃ ok, ok = [c, d, h, l].all (finB .f64) := ⟨_, rfl⟩
  rw [← hA]
  have HA := Lib.hid hA
  clear hA hH hb1 hrp
  cases okA
  · rw [show ansF .f64 false h l = .tuple #[.float .f64 0, .float .f64 0, .int .i64 7] from rfl]
    go_wp2
    refine bodyPost_ret (v := .tuple #[.float .f64 0, .float .f64 0, .int .i64 7]) (by simp [results, Tryz.results24, go_sem]) rfl ?_
    exact ⟨p, 0, false, ⟨HP.out, c, d, h, l, HH.out, Or.inl ⟨HA.out.symm, rfl⟩⟩, rfl, HB.out⟩
  rw [show ansF .f64 true h l = .tuple #[.float .f64 h, .float .f64 l, .int .i64 0] from rfl]
  go_wp2_with fail
  refine (halves_f64 q b w1).mono ?_
  rintro _ w2 ⟨c', d', i, j, hI, rfl, hb2⟩
  have HI := Lib.hid hI
  replace HB := Lib.hid (HB.out.trans (hb2.mono HB.out.size))
  obtain ⟨okB, hC⟩ : ∃ ok, ok = [c', d', i, j].all (finB .f64) := ⟨_, rfl⟩
  rw [← hC]
  have HC := Lib.hid hC
  clear hC hI hb2
  cases okB
  · rw [show ansF .f64 false i j = .tuple #[.float .f64 0, .float .f64 0, .int .i64 7] from rfl]
    go_wp2
    refine bodyPost_ret (v := .tuple #[.float .f64 0, .float .f64 0, .int .i64 7]) (by simp [results, Tryz.results24, go_sem]) rfl ?_
    exact ⟨p, 0, false, ⟨HP.out, c, d, h, l, HH.out, Or.inr ⟨HA.out.symm, c', d', i, j, HI.out, Or.inl ⟨HC.out.symm, rfl⟩⟩⟩, rfl, HB.out⟩
  rw [show ansF .f64 true i j = .tuple #[.float .f64 i, .float .f64 j, .int .i64 0] from rfl]
  obtain ⟨g, d0, hr0, hF0⟩ := run_flt (P := Tryz.prog) .mul (by simp) 52 .f64 h i w2
  obtain ⟨hj, d1, hr1, hF1⟩ := run_flt (P := Tryz.prog) .mul (by simp) 52 .f64 h j (w2.drewN d0)
  obtain ⟨li, d2, hr2, hF2⟩ := run_flt (P := Tryz.prog) .mul (by simp) 52 .f64 l i (w2.drewN (d0 + d1))
  obtain ⟨lj, d3, hr3, hF3⟩ := run_flt (P := Tryz.prog) .mul (by simp) 52 .f64 l j (w2.drewN (d0 + d1 + d2))
  obtain ⟨v, d4, hr4, hF4⟩ := run_flt (P := Tryz.prog) .sub (by simp) 52 .f64 g p (w2.drewN (d0 + d1 + d2 + d3))
  obtain ⟨x, d5, hr5, hF5⟩ := run_flt (P := Tryz.prog) .add (by simp) 52 .f64 v hj (w2.drewN (d0 + d1 + d2 + d3 + d4))
  obtain ⟨y, d6, hr6, hF6⟩ := run_flt (P := Tryz.prog) .add (by simp) 52 .f64 x li (w2.drewN (d0 + d1 + d2 + d3 + d4 + d5))
  obtain ⟨r, d7, hr7, hF7⟩ := run_flt (P := Tryz.prog) .add (by simp) 52 .f64 y lj (w2.drewN (d0 + d1 + d2 + d3 + d4 + d5 + d6))
  have HF0 := Lib.hid hF0
  have HF1 := Lib.hid hF1
  have HF2 := Lib.hid hF2
  have HF3 := Lib.hid hF3
  have HF4 := Lib.hid hF4
  have HF5 := Lib.hid hF5
  have HF6 := Lib.hid hF6
  have HF7 := Lib.hid hF7
  clear hF0 hF1 hF2 hF3 hF4 hF5 hF6 hF7
  go_wp2_with fail
  refine (finite_f64 w2.heap.size [p, g, hj, li, lj, v, x, y, r] ((w2.drewN (d0 + d1 + d2 + d3 + d4 + d5 + d6 + d7)).alloc (Obj.cells #[.float .f64 p, .float .f64 g, .float .f64 hj, .float .f64 li, .float .f64 lj, .float .f64 v, .float .f64 x, .float .f64 y, .float .f64 r] 52)) (RdF.new .f64 (w2.drewN (d0 + d1 + d2 + d3 + d4 + d5 + d6 + d7)) [p, g, hj, li, lj, v, x, y, r] 52) (by simp)).mono ?_
  rintro _ w3 ⟨rfl, d9, rfl⟩
  replace HB := Lib.hid (HB.out.trans ((below_dad (w := w2) (d0 + d1 + d2 + d3 + d4 + d5 + d6 + d7) (Obj.cells #[.float .f64 p, .float .f64 g, .float .f64 hj, .float .f64 li, .float .f64 lj, .float .f64 v, .float .f64 x, .float .f64 y, .float .f64 r] 52) d9).mono HB.out.size))
  obtain ⟨okF, hfin⟩ : ∃ ok, ok = [p, g, hj, li, lj, v, x, y, r].all (finB .f64) := ⟨_, rfl⟩
  rw [← hfin]
  have Hfin := Lib.hid hfin
  clear hfin hr0 hr1 hr2 hr3 hr4 hr5 hr6 hr7
  cases okF
  · go_wp2
    refine bodyPost_ret (v := .tuple #[.float .f64 0, .float .f64 0, .int .i64 7]) (by simp [results, Tryz.results24, go_sem]) rfl ?_
    exact ⟨p, r, false, ⟨HP.out, c, d, h, l, HH.out, Or.inr ⟨HA.out.symm, c', d', i, j, HI.out, Or.inr ⟨HC.out.symm, g, hj, li, lj, v, x, y, ⟨HF0.out, HF1.out, HF2.out, HF3.out, HF4.out, HF5.out, HF6.out, HF7.out⟩, by rw [← Hfin.out]; rfl⟩⟩⟩, rfl, HB.out⟩
  obtain ⟨na, hna⟩ : ∃ b, (FloatKind.f64.format.order a 0 != some .eq) = b := ⟨_, rfl⟩
  have Hna : Hid (neB .f64 a = na) := hna
  cases na
  · go_wp2
    refine bodyPost_ret (v := .tuple #[.float .f64 p, .float .f64 r, .int .i64 0]) (by simp [results, Tryz.results24, go_sem]) rfl ?_
    exact ⟨p, r, true, ⟨HP.out, c, d, h, l, HH.out, Or.inr ⟨HA.out.symm, c', d', i, j, HI.out, Or.inr ⟨HC.out.symm, g, hj, li, lj, v, x, y, ⟨HF0.out, HF1.out, HF2.out, HF3.out, HF4.out, HF5.out, HF6.out, HF7.out⟩, by rw [← Hfin.out, Hna.out]; rfl⟩⟩⟩, rfl, HB.out⟩
  obtain ⟨nb, hnb⟩ : ∃ x, (FloatKind.f64.format.order b 0 != some .eq) = x := ⟨_, rfl⟩
  have Hnb : Hid (neB .f64 b = nb) := hnb
  cases nb
  · go_wp2
    refine bodyPost_ret (v := .tuple #[.float .f64 p, .float .f64 r, .int .i64 0]) (by simp [results, Tryz.results24, go_sem]) rfl ?_
    exact ⟨p, r, true, ⟨HP.out, c, d, h, l, HH.out, Or.inr ⟨HA.out.symm, c', d', i, j, HI.out, Or.inr ⟨HC.out.symm, g, hj, li, lj, v, x, y, ⟨HF0.out, HF1.out, HF2.out, HF3.out, HF4.out, HF5.out, HF6.out, HF7.out⟩, by rw [← Hfin.out, Hna.out, Hnb.out]; rfl⟩⟩⟩, rfl, HB.out⟩
  go_wp2_with fail
  refine (abs_f64 p _).mono ?_
  rintro _ w4 ⟨rfl, rfl⟩
  obtain ⟨lt, hlt⟩ : ∃ x, (FloatKind.f64.format.order (absF .f64 p) least == some .lt) = x := ⟨_, rfl⟩
  have Hlt : Hid (ltB .f64 (absF .f64 p) least = lt) := hlt
  cases lt
  · go_wp2
    refine bodyPost_ret (v := .tuple #[.float .f64 p, .float .f64 r, .int .i64 0]) (by simp [results, Tryz.results24, go_sem]) rfl ?_
    exact ⟨p, r, true, ⟨HP.out, c, d, h, l, HH.out, Or.inr ⟨HA.out.symm, c', d', i, j, HI.out, Or.inr ⟨HC.out.symm, g, hj, li, lj, v, x, y, ⟨HF0.out, HF1.out, HF2.out, HF3.out, HF4.out, HF5.out, HF6.out, HF7.out⟩, by rw [← Hfin.out, Hna.out, Hnb.out, Hlt.out]; rfl⟩⟩⟩, rfl, HB.out⟩
  · go_wp2
    refine bodyPost_ret (v := .tuple #[.float .f64 0, .float .f64 0, .int .i64 7]) (by simp [results, Tryz.results24, go_sem]) rfl ?_
    exact ⟨p, r, false, ⟨HP.out, c, d, h, l, HH.out, Or.inr ⟨HA.out.symm, c', d', i, j, HI.out, Or.inr ⟨HC.out.symm, g, hj, li, lj, v, x, y, ⟨HF0.out, HF1.out, HF2.out, HF3.out, HF4.out, HF5.out, HF6.out, HF7.out⟩, by rw [← Hfin.out, Hna.out, Hnb.out, Hlt.out]; rfl⟩⟩⟩, rfl, HB.out⟩

end Go.Proofs.YtlibhfojfonfjaaGreatDoor
