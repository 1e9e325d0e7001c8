/- Walks of layer 18: FastTwoSum, Split; other formats. Printed by gen/fltg.py. -/
import Derived.Test.YtlibhfojfonfjaaDoorFltF
import Derived.Test.YtlibhfojfonfjaaDoorEftL
namespace Go.Proofs.YtlibhfojfonfjaaDoor
set_option linter.unusedVariables false
open Go.RowKit

/-- what fastTwoSum answers: a is the lesser, or its steps -/
def FastR (k : FloatKind) (a b s r : Nat) (ok : Bool) : Prop :=
  (ltB k (absF k a) (absF k b) = true ∧ ok = false) ∨ (ltB k (absF k a) (absF k b) = false ∧ ∃ t, FastC k a b s t r ∧ ok = [s, t, r].all (finB k))

def FastAns (k : FloatKind) (a b : Nat) (er e : Int) (x y : Nat) : Prop :=
  (e ≠ 0 ∧ e = er) ∨ (er = 0 ∧ ∃ s r ok, FastR k a b s r ok ∧ ((ok = true ∧ e = 0 ∧ x = s ∧ y = r) ∨ (ok = false ∧ e = 7)))
def HalfAns (k : FloatKind) (q a : Nat) (er e : Int) (x y : Nat) : Prop :=
  (e ≠ 0 ∧ e = er) ∨ (er = 0 ∧ ∃ c d h l, HalfC k q a c d h l ∧ (([c, d, h, l].all (finB k) = true ∧ e = 0 ∧ x = h ∧ y = l) ∨ ([c, d, h, l].all (finB k) = false ∧ e = 7)))
def err31 (a : Nat) : Int := if [a].all (finB .f64) = true then 0 else 40
def err21 (a : Nat) : Int := if [a].all (fun x => decide (x < 4294967296)) = true then (if [a].all (fun x => finB .f32 (x % 4294967296)) = true then 0 else 40) else 4


set_option maxHeartbeats 1000000 in
theorem fastTwoSum_f32 (a b : Nat) (w : World) :
    Calls Tryd.prog 23 #[.float .f32 a, .float .f32 b] w fun e w' => ∃ s r ok, FastR .f32 a b s r ok ∧ e = .returned (ansF .f32 ok s r) ∧ (ok = true → s < 2 ^ FloatKind.f32.format.width ∧ r < 2 ^ FloatKind.f32.format.width) ∧ Below w.heap.size w w' := by
  obtain ⟨lt, hlt⟩ : ∃ x, (FloatKind.f32.format.order (absF .f32 a) (absF .f32 b) == some .lt) = x := ⟨_, rfl⟩
  have Hlt : Hid (ltB .f32 (absF .f32 a) (absF .f32 b) = lt) := hlt
  cases lt
  rotate_left
  · go_enter Tryd.func23, Tryd.ntmps23
    go_wp2_with fail
    refine (abs_f32 a _).mono ?_
    rintro _ _ ⟨rfl, rfl⟩
    go_wp2_with fail
    refine (abs_f32 b _).mono ?_
    rintro _ _ ⟨rfl, rfl⟩
    go_wp2_with fail
    refine bodyPost_ret (v := .tuple #[.float .f32 0, .float .f32 0, .int .i64 7]) (by simp [results, Tryd.results23, go_sem]) rfl ?_
    exact ⟨0, 0, false, Or.inl ⟨Hlt.out, rfl⟩, rfl, (fun h => by cases h), Below.refl _ _⟩
  obtain ⟨s, d0, hr0, hF0⟩ := run_flt (P := Tryd.prog) .add (by simp) 46 .f32 a b w
  obtain ⟨t, d1, hr1, hF1⟩ := run_flt (P := Tryd.prog) .sub (by simp) 46 .f32 s a (w.drewN d0)
  obtain ⟨r, d2, hr2, hF2⟩ := run_flt (P := Tryd.prog) .sub (by simp) 46 .f32 b t (w.drewN (d0 + d1))
  have HF0 := Lib.hid hF0
  have HF1 := Lib.hid hF1
  have HF2 := Lib.hid hF2
  clear hF0 hF1 hF2
  go_enter Tryd.func23, Tryd.ntmps23
  go_wp2_with fail
  refine (abs_f32 a _).mono ?_
  rintro _ _ ⟨rfl, rfl⟩
  go_wp2_with fail
  refine (abs_f32 b _).mono ?_
  rintro _ w5 ⟨rfl, rfl⟩
  go_wp2_with fail
  refine (finite_f32 w5.heap.size [s, t, r] ((w5.drewN (d0 + d1 + d2)).alloc (Obj.cells #[.float .f32 s, .float .f32 t, .float .f32 r] 46)) (RdF.new .f32 (w5.drewN (d0 + d1 + d2)) [s, t, r] 46) (by simp)).mono ?_
  rintro _ w' ⟨rfl, d', rfl⟩
  obtain ⟨ok, hok⟩ : ∃ ok, ok = [s, t, r].all (finB .f32) := ⟨_, rfl⟩
  rw [← hok]
  have Hok := Lib.hid hok
  have HB := Lib.hid (below_dad (w := w5) (d0 + d1 + d2) (Obj.cells #[.float .f32 s, .float .f32 t, .float .f32 r] 46) d')
  clear hok hr0 hr1 hr2
  cases ok
  · go_wp2
    refine bodyPost_ret (v := .tuple #[.float .f32 0, .float .f32 0, .int .i64 7]) (by simp [results, Tryd.results23, go_sem]) rfl ?_
    exact ⟨s, r, false, Or.inr ⟨Hlt.out, t, ⟨HF0.out, HF1.out, HF2.out⟩, Hok.out⟩, rfl, (fun h => by cases h), HB.out⟩
  · go_wp2
    refine bodyPost_ret (v := .tuple #[.float .f32 s, .float .f32 r, .int .i64 0]) (by simp [results, Tryd.results23, go_sem]) rfl ?_
    exact ⟨s, r, true, Or.inr ⟨Hlt.out, t, ⟨HF0.out, HF1.out, HF2.out⟩, Hok.out⟩, rfl, fun _ => ⟨HF0.out.lt, HF2.out.lt⟩, HB.out⟩


set_option maxHeartbeats 1000000 in
theorem fastTwoSum_f64 (a b : Nat) (w : World) :
    Calls Tryd.prog 24 #[.float .f64 a, .float .f64 b] w fun e w' => ∃ s r ok, FastR .f64 a b s r ok ∧ e = .returned (ansF .f64 ok s r) ∧ (ok = true → s < 2 ^ FloatKind.f64.format.width ∧ r < 2 ^ FloatKind.f64.format.width) ∧ Below w.heap.size w w' := by
  obtain ⟨lt, hlt⟩ : ∃ x, (FloatKind.f64.format.order (absF .f64 a) (absF .f64 b) == some .lt) = x := ⟨_, rfl⟩
  have Hlt : Hid (ltB .f64 (absF .f64 a) (absF .f64 b) = lt) := hlt
  cases lt
  rotate_left
  · go_enter Tryd.func24, Tryd.ntmps24
    go_wp2_with fail
    refine (abs_f64 a _).mono ?_
    rintro _ _ ⟨rfl, rfl⟩
    go_wp2_with fail
    refine (abs_f64 b _).mono ?_
    rintro _ _ ⟨rfl, rfl⟩
    go_wp2_with fail
    refine bodyPost_ret (v := .tuple #[.float .f64 0, .float .f64 0, .int .i64 7]) (by simp [results, Tryd.results24, go_sem]) rfl ?_
    exact ⟨0, 0, false, Or.inl ⟨Hlt.out, rfl⟩, rfl, (fun h => by cases h), Below.refl _ _⟩
  obtain ⟨s, d0, hr0, hF0⟩ := run_flt (P := Tryd.prog) .add (by simp) 51 .f64 a b w
  obtain ⟨t, d1, hr1, hF1⟩ := run_flt (P := Tryd.prog) .sub (by simp) 51 .f64 s a (w.drewN d0)
  obtain ⟨r, d2, hr2, hF2⟩ := run_flt (P := Tryd.prog) .sub (by simp) 51 .f64 b t (w.drewN (d0 + d1))
  have HF0 := Lib.hid hF0
  have HF1 := Lib.hid hF1
  have HF2 := Lib.hid hF2
  clear hF0 hF1 hF2
  go_enter Tryd.func24, Tryd.ntmps24
  go_wp2_with fail
  refine (abs_f64 a _).mono ?_
  rintro _ _ ⟨rfl, rfl⟩
  go_wp2_with fail
  refine (abs_f64 b _).mono ?_
  rintro _ w5 ⟨rfl, rfl⟩
  go_wp2_with fail
  refine (finite_f64 w5.heap.size [s, t, r] ((w5.drewN (d0 + d1 + d2)).alloc (Obj.cells #[.float .f64 s, .float .f64 t, .float .f64 r] 51)) (RdF.new .f64 (w5.drewN (d0 + d1 + d2)) [s, t, r] 51) (by simp)).mono ?_
  rintro _ w' ⟨rfl, d', rfl⟩
  obtain ⟨ok, hok⟩ : ∃ ok, ok = [s, t, r].all (finB .f64) := ⟨_, rfl⟩
  rw [← hok]
  have Hok := Lib.hid hok
  have HB := Lib.hid (below_dad (w := w5) (d0 + d1 + d2) (Obj.cells #[.float .f64 s, .float .f64 t, .float .f64 r] 51) d')
  clear hok hr0 hr1 hr2
  cases ok
  · go_wp2
    refine bodyPost_ret (v := .tuple #[.float .f64 0, .float .f64 0, .int .i64 7]) (by simp [results, Tryd.results24, go_sem]) rfl ?_
    exact ⟨s, r, false, Or.inr ⟨Hlt.out, t, ⟨HF0.out, HF1.out, HF2.out⟩, Hok.out⟩, rfl, (fun h => by cases h), HB.out⟩
  · go_wp2
    refine bodyPost_ret (v := .tuple #[.float .f64 s, .float .f64 r, .int .i64 0]) (by simp [results, Tryd.results24, go_sem]) rfl ?_
    exact ⟨s, r, true, Or.inr ⟨Hlt.out, t, ⟨HF0.out, HF1.out, HF2.out⟩, Hok.out⟩, rfl, fun _ => ⟨HF0.out.lt, HF2.out.lt⟩, HB.out⟩


set_option maxHeartbeats 2000000 in
theorem FastTwoSum_three (a b : Nat) (w : World) :
    Calls Tryd.prog 9 #[.int .i64 3, .int .u64 a, .int .u64 b] w fun e' w' => ∃ e x y, e' = .returned (ansB e x y) ∧ Below w.heap.size w w' ∧
      FastAns .f64 a b (err3 a b) e x y := by
  have hbk := below_a w (Obj.cells #[.int .u64 (a : Nat), .int .u64 (b : Nat)] 22)
  go_enter Tryd.func9, Tryd.ntmps9
  go_wp2_with fail
  refine (refuses_three w.heap.size [a, b] (w.alloc (Obj.cells #[.int .u64 (a : Nat), .int .u64 (b : Nat)] 22)) (RdU.new w [a, b] 22) (by simp) (by simp)).mono ?_
  rintro _ w1 ⟨rfl, hb1⟩
  have HB : Hid (Below w.heap.size w w1) := hbk.trans (hb1.mono hbk.size)
  obtain ⟨e0, he0⟩ : ∃ e0 : Int, e0 = err3 a b := ⟨_, rfl⟩
  rw [show (if [a, b].all (finB .f64) = true then (0 : Int) else 40) = e0 from he0.symm]
  have HE := Lib.hid he0
  clear he0 hb1 hbk
  by_cases h0 : e0 ≠ 0
  · have t0 : (e0 != 0) = true := by simpa using h0
    have HA : Hid (ansB e0 0 0 = .tuple #[.int .u64 0, .int .u64 0, .int .i64 e0]) := by show _ = _; unfold ansB; rw [if_neg h0]; rfl
    have H0 := Lib.hid h0
    clear h0
    go_wp2
    refine bodyPost_ret (v := .tuple #[.int .u64 0, .int .u64 0, .int .i64 e0]) (by simp [results, Tryd.results9, go_sem]) rfl ?_
    exact ⟨e0, 0, 0, by rw [HA.out], HB.out, Or.inl ⟨H0.out, HE.out⟩⟩
  have h0' : e0 = 0 := by omega
  have t0 : (e0 != 0) = false := by simpa using h0'
  have H0 := Lib.hid h0'
  clear h0 h0'
  go_wp2_with fail
  refine (double_any a w1).mono ?_
  rintro _ _ ⟨rfl, rfl⟩
  go_wp2_with fail
  refine (double_any b _).mono ?_
  rintro _ _ ⟨rfl, rfl⟩
  go_wp2_with fail
  refine (fastTwoSum_f64 a b _).mono ?_
  rintro _ w2 ⟨s, r, ok, hS, rfl, hl, hb2⟩
  have HS := Lib.hid hS
  have HL := Lib.hid hl
  replace HB := Lib.hid (HB.out.trans (hb2.mono HB.out.size))
  clear hS hb2 hl
  cases ok
  · rw [show ansF .f64 false s r = .tuple #[.float .f64 0, .float .f64 0, .int .i64 7] from rfl]
    go_wp2_with fail
    refine (doubles_any 0 0 7 w2).mono ?_
    rintro _ _ ⟨rfl, rfl⟩
    rw [show (ansB 7 0 0) = .tuple #[.int .u64 0, .int .u64 0, .int .i64 7] from rfl]
    go_wp2
    refine bodyPost_ret (v := .tuple #[.int .u64 0, .int .u64 0, .int .i64 7]) (by simp [results, Tryd.results9, go_sem]) rfl ?_
    exact ⟨7, 0, 0, rfl, HB.out, Or.inr ⟨by rw [← HE.out]; exact H0.out, s, r, false, HS.out, Or.inr ⟨rfl, rfl⟩⟩⟩
  · rw [show ansF .f64 true s r = .tuple #[.float .f64 s, .float .f64 r, .int .i64 0] from rfl]
    have ls := (HL.out rfl).1
    have lr := (HL.out rfl).2
    have Ls := Lib.hid ls
    have Lr := Lib.hid lr
    clear ls lr
    go_wp2_with fail
    refine (doubles_any s r 0 w2).mono ?_
    rintro _ _ ⟨rfl, rfl⟩
    rw [show (ansB 0 s r) = .tuple #[.int .u64 (s : Nat), .int .u64 (r : Nat), .int .i64 0] from rfl]
    go_wp2
    refine bodyPost_ret (v := .tuple #[.int .u64 (s : Nat), .int .u64 (r : Nat), .int .i64 0]) (by simp [results, Tryd.results9, go_sem]) rfl ?_
    exact ⟨0, s, r, rfl, HB.out, Or.inr ⟨by rw [← HE.out]; exact H0.out, s, r, true, HS.out, Or.inl ⟨rfl, rfl, rfl, rfl⟩⟩⟩


set_option maxHeartbeats 2000000 in
theorem FastTwoSum_two (a b : Nat) (w : World) :
    Calls Tryd.prog 9 #[.int .i64 2, .int .u64 a, .int .u64 b] w fun e' w' => ∃ e x y, e' = .returned (ansB e x y) ∧ Below w.heap.size w w' ∧
      FastAns .f32 (a % 4294967296) (b % 4294967296) (err2 a b) e x y := by
  have hbk := below_a w (Obj.cells #[.int .u64 (a : Nat), .int .u64 (b : Nat)] 22)
  go_enter Tryd.func9, Tryd.ntmps9
  go_wp2_with fail
  refine (refuses_two w.heap.size [a, b] (w.alloc (Obj.cells #[.int .u64 (a : Nat), .int .u64 (b : Nat)] 22)) (RdU.new w [a, b] 22) (by simp) (by simp)).mono ?_
  rintro _ w1 ⟨rfl, hb1⟩
  have HB : Hid (Below w.heap.size w w1) := hbk.trans (hb1.mono hbk.size)
  obtain ⟨e0, he0⟩ : ∃ e0 : Int, e0 = err2 a b := ⟨_, rfl⟩
  rw [show (if [a, b].all (fun x => decide (x < 4294967296)) = true then (if [a, b].all (fun x => finB .f32 (x % 4294967296)) = true then (0 : Int) else 40) else 4) = e0 from he0.symm]
  have HE := Lib.hid he0
  clear he0 hb1 hbk
  by_cases h0 : e0 ≠ 0
  · have t0 : (e0 != 0) = true := by simpa using h0
    have HA : Hid (ansB e0 0 0 = .tuple #[.int .u64 0, .int .u64 0, .int .i64 e0]) := by show _ = _; unfold ansB; rw [if_neg h0]; rfl
    have H0 := Lib.hid h0
    clear h0
    go_wp2
    refine bodyPost_ret (v := .tuple #[.int .u64 0, .int .u64 0, .int .i64 e0]) (by simp [results, Tryd.results9, go_sem]) rfl ?_
    exact ⟨e0, 0, 0, by rw [HA.out], HB.out, Or.inl ⟨H0.out, HE.out⟩⟩
  have h0' : e0 = 0 := by omega
  have t0 : (e0 != 0) = false := by simpa using h0'
  have H0 := Lib.hid h0'
  clear h0 h0'
  go_wp2_with fail
  refine (single_any a w1).mono ?_
  rintro _ _ ⟨rfl, rfl⟩
  go_wp2_with fail
  refine (single_any b _).mono ?_
  rintro _ _ ⟨rfl, rfl⟩
  go_wp2_with fail
  refine (fastTwoSum_f32 (a % 4294967296) (b % 4294967296) _).mono ?_
  rintro _ w2 ⟨s, r, ok, hS, rfl, hl, hb2⟩
  have HS := Lib.hid hS
  have HL := Lib.hid hl
  replace HB := Lib.hid (HB.out.trans (hb2.mono HB.out.size))
  clear hS hb2 hl
  cases ok
  · rw [show ansF .f32 false s r = .tuple #[.float .f32 0, .float .f32 0, .int .i64 7] from rfl]
    go_wp2_with fail
    refine (singles_any 0 0 (by decide) (by decide) 7 w2).mono ?_
    rintro _ _ ⟨rfl, rfl⟩
    rw [show (ansB 7 0 0) = .tuple #[.int .u64 0, .int .u64 0, .int .i64 7] from rfl]
    go_wp2
    refine bodyPost_ret (v := .tuple #[.int .u64 0, .int .u64 0, .int .i64 7]) (by simp [results, Tryd.results9, go_sem]) rfl ?_
    exact ⟨7, 0, 0, rfl, HB.out, Or.inr ⟨by rw [← HE.out]; exact H0.out, s, r, false, HS.out, Or.inr ⟨rfl, rfl⟩⟩⟩
  · rw [show ansF .f32 true s r = .tuple #[.float .f32 s, .float .f32 r, .int .i64 0] from rfl]
    have ls := (HL.out rfl).1
    have lr := (HL.out rfl).2
    have Ls := Lib.hid ls
    have Lr := Lib.hid lr
    clear ls lr
    go_wp2_with fail
    refine (singles_any s r Ls.out Lr.out 0 w2).mono ?_
    rintro _ _ ⟨rfl, rfl⟩
    rw [show (ansB 0 s r) = .tuple #[.int .u64 (s : Nat), .int .u64 (r : Nat), .int .i64 0] from rfl]
    go_wp2
    refine bodyPost_ret (v := .tuple #[.int .u64 (s : Nat), .int .u64 (r : Nat), .int .i64 0]) (by simp [results, Tryd.results9, go_sem]) rfl ?_
    exact ⟨0, s, r, rfl, HB.out, Or.inr ⟨by rw [← HE.out]; exact H0.out, s, r, true, HS.out, Or.inl ⟨rfl, rfl, rfl, rfl⟩⟩⟩


theorem refuses_bad (f : Int) (s : Value) (w : World) (h2 : f ≠ 2) (h3 : f ≠ 3) :
    Calls Tryd.prog 16 #[.int .i64 f, s] w fun e w' => e = .returned (.int .i64 2) ∧ w = w' := by
  have t2 : (f != 2) = true := by simpa using h2
  have t3 : (f != 3) = true := by simpa using h3
  clear h2 h3
  go_enter Tryd.func16, Tryd.ntmps16
  go_wp2_with fail
  go_ret
  exact ⟨rfl, rfl⟩


theorem TwoSum_bad (f : Int) (a b : Nat) (w : World) (h2 : f ≠ 2) (h3 : f ≠ 3) :
    Calls Tryd.prog 8 #[.int .i64 f, .int .u64 a, .int .u64 b] w fun e' w' => e' = .returned (.tuple #[.int .u64 0, .int .u64 0, .int .i64 2]) ∧ Below w.heap.size w w' := by
  have HR := Lib.hid (fun s wx => refuses_bad f s wx h2 h3)
  have HB := Lib.hid (below_a w (Obj.cells #[.int .u64 a, .int .u64 b] 22))
  clear h2 h3
  go_enter Tryd.func8, Tryd.ntmps8
  go_wp2_with fail
  refine (HR.out _ _).mono ?_
  rintro _ _ ⟨rfl, rfl⟩
  go_wp2_with fail
  refine bodyPost_ret (v := .tuple #[.int .u64 0, .int .u64 0, .int .i64 2]) (by simp [results, Tryd.results8, go_sem]) rfl ?_
  exact ⟨rfl, HB.out⟩


theorem FastTwoSum_bad (f : Int) (a b : Nat) (w : World) (h2 : f ≠ 2) (h3 : f ≠ 3) :
    Calls Tryd.prog 9 #[.int .i64 f, .int .u64 a, .int .u64 b] w fun e' w' => e' = .returned (.tuple #[.int .u64 0, .int .u64 0, .int .i64 2]) ∧ Below w.heap.size w w' := by
  have HR := Lib.hid (fun s wx => refuses_bad f s wx h2 h3)
  have HB := Lib.hid (below_a w (Obj.cells #[.int .u64 a, .int .u64 b] 22))
  clear h2 h3
  go_enter Tryd.func9, Tryd.ntmps9
  go_wp2_with fail
  refine (HR.out _ _).mono ?_
  rintro _ _ ⟨rfl, rfl⟩
  go_wp2_with fail
  refine bodyPost_ret (v := .tuple #[.int .u64 0, .int .u64 0, .int .i64 2]) (by simp [results, Tryd.results9, go_sem]) rfl ?_
  exact ⟨rfl, HB.out⟩


theorem TwoProd_bad (f : Int) (a b : Nat) (w : World) (h2 : f ≠ 2) (h3 : f ≠ 3) :
    Calls Tryd.prog 14 #[.int .i64 f, .int .u64 a, .int .u64 b] w fun e' w' => e' = .returned (.tuple #[.int .u64 0, .int .u64 0, .int .i64 2]) ∧ Below w.heap.size w w' := by
  have HR := Lib.hid (fun s wx => refuses_bad f s wx h2 h3)
  have HB := Lib.hid (below_a w (Obj.cells #[.int .u64 a, .int .u64 b] 22))
  clear h2 h3
  go_enter Tryd.func14, Tryd.ntmps14
  go_wp2_with fail
  refine (HR.out _ _).mono ?_
  rintro _ _ ⟨rfl, rfl⟩
  go_wp2_with fail
  refine bodyPost_ret (v := .tuple #[.int .u64 0, .int .u64 0, .int .i64 2]) (by simp [results, Tryd.results14, go_sem]) rfl ?_
  exact ⟨rfl, HB.out⟩


end Go.Proofs.YtlibhfojfonfjaaDoor
