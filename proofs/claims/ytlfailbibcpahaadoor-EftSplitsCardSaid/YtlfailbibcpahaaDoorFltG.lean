/- Walks of layer 18: FastTwoSum, Split; other formats. Printed by gen/fltg.py. -/
import Derived.Test.YtlfailbibcpahaaDoorFltF
import Derived.Test.YtlfailbibcpahaaDoorEftL
namespace Go.Proofs.YtlfailbibcpahaaDoor
set_option linter.unusedVariables false
open Go.RowKit

/-- what fastTwoSum answers: a is the lesser, or its steps -/
def FastR (k : FloatKind) (a b s r : Nat) (ok : Bool) : Prop :=
  (ltB k (absF k a) (absF k b) = true ∧ ok = false) ∨ (ltB k (absF k a) (absF k b) = false ∧ ∃ t, FastC k a b s t r ∧ ok = [s, t, r].all (finB k))

def FastAns (k : FloatKind) (a b : Nat) (er e : Int) (x y : Nat) : Prop :=
  (e ≠ 0 ∧ e = er) ∨ (er = 0 ∧ ∃ s r ok, FastR k a b s r ok ∧ ((ok = true ∧ e = 0 ∧ x = s ∧ y = r) ∨ (ok = false ∧ e = 7)))
def HalfAns (k : FloatKind) (q a : Nat) (er e : Int) (x y : Nat) : Prop :=
  (e ≠ 0 ∧ e = er) ∨ (er = 0 ∧ ∃ c d h l, HalfC k q a c d h l ∧ (([c, d, h, l].all (finB k) = true ∧ e = 0 ∧ x = h ∧ y = l) ∨ ([c, d, h, l].all (finB k) = false ∧ e = 7)))
def err31 (a : Nat) : Int := if [a].all (finB .f64) = true then 0 else 40
def err21 (a : Nat) : Int := if [a].all (fun x => decide (x < 4294967296)) = true then (if [a].all (fun x => finB .f32 (x % 4294967296)) = true then 0 else 40) else 4


set_option maxHeartbeats 2000000 in
theorem Split_three (a : Nat) (w : World) :
    Calls Tryd.prog 11 #[.int .i64 3, .int .u64 a] w fun e' w' => ∃ e x y, e' = .returned (ansB e x y) ∧ Below w.heap.size w w' ∧
      HalfAns .f64 4728779608772575232 a (err31 a) e x y := by
  have hbk := below_a w (Obj.cells #[.int .u64 (a : Nat)] 22)
  go_enter Tryd.func11, Tryd.ntmps11
  go_wp2_with fail
  refine (refuses_three w.heap.size [a] (w.alloc (Obj.cells #[.int .u64 (a : Nat)] 22)) (RdU.new w [a] 22) (by simp) (by simp)).mono ?_
  rintro _ w1 ⟨rfl, hb1⟩
  have HB : Hid (Below w.heap.size w w1) := hbk.trans (hb1.mono hbk.size)
  obtain ⟨e0, he0⟩ : ∃ e0 : Int, e0 = err31 a := ⟨_, rfl⟩
  rw [show (if [a].all (finB .f64) = true then (0 : Int) else 40) = e0 from he0.symm]
  have HE := Lib.hid he0
  clear he0 hb1 hbk
  by_cases h0 : e0 ≠ 0
  · have t0 : (e0 != 0) = true := by simpa using h0
    have HA : Hid (ansB e0 0 0 = .tuple #[.int .u64 0, .int .u64 0, .int .i64 e0]) := by show _ = _; unfold ansB; rw [if_neg h0]; rfl
    have H0 := Lib.hid h0
    clear h0
    go_wp2
    refine bodyPost_ret (v := .tuple #[.int .u64 0, .int .u64 0, .int .i64 e0]) (by simp [results, Tryd.results11, go_sem]) rfl ?_
    exact ⟨e0, 0, 0, by rw [HA.out], HB.out, Or.inl ⟨H0.out, HE.out⟩⟩
  have h0' : e0 = 0 := by omega
  have t0 : (e0 != 0) = false := by simpa using h0'
  have H0 := Lib.hid h0'
  clear h0 h0'
  go_wp2_with fail
  refine (double_any a w1).mono ?_
  rintro _ _ ⟨rfl, rfl⟩
  go_wp2_with fail
  refine (halves_f64 4728779608772575232 a _).mono ?_
  rintro _ w2 ⟨c, d, s, r, hS, rfl, hb2⟩
  have HS := Lib.hid hS
  replace HB := Lib.hid (HB.out.trans (hb2.mono HB.out.size))
  obtain ⟨ok, hok⟩ : ∃ ok, ok = [c, d, s, r].all (finB .f64) := ⟨_, rfl⟩
  rw [← hok]
  have Hok := Lib.hid hok
  clear hok hS hb2
  cases ok
  · rw [show ansF .f64 false s r = .tuple #[.float .f64 0, .float .f64 0, .int .i64 7] from rfl]
    go_wp2_with fail
    refine (doubles_any 0 0 7 w2).mono ?_
    rintro _ _ ⟨rfl, rfl⟩
    rw [show (ansB 7 0 0) = .tuple #[.int .u64 0, .int .u64 0, .int .i64 7] from rfl]
    go_wp2
    refine bodyPost_ret (v := .tuple #[.int .u64 0, .int .u64 0, .int .i64 7]) (by simp [results, Tryd.results11, go_sem]) rfl ?_
    exact ⟨7, 0, 0, rfl, HB.out, Or.inr ⟨by rw [← HE.out]; exact H0.out, c, d, s, r, HS.out, Or.inr ⟨Hok.out.symm, rfl⟩⟩⟩
  · rw [show ansF .f64 true s r = .tuple #[.float .f64 s, .float .f64 r, .int .i64 0] from rfl]
    have Ls := Lib.hid HS.out.2.2.1.lt
    have Lr := Lib.hid HS.out.2.2.2.lt
    go_wp2_with fail
    refine (doubles_any s r 0 w2).mono ?_
    rintro _ _ ⟨rfl, rfl⟩
    rw [show (ansB 0 s r) = .tuple #[.int .u64 (s : Nat), .int .u64 (r : Nat), .int .i64 0] from rfl]
    go_wp2
    refine bodyPost_ret (v := .tuple #[.int .u64 (s : Nat), .int .u64 (r : Nat), .int .i64 0]) (by simp [results, Tryd.results11, go_sem]) rfl ?_
    exact ⟨0, s, r, rfl, HB.out, Or.inr ⟨by rw [← HE.out]; exact H0.out, c, d, s, r, HS.out, Or.inl ⟨Hok.out.symm, rfl, rfl, rfl⟩⟩⟩


set_option maxHeartbeats 2000000 in
theorem Split_two (a : Nat) (w : World) :
    Calls Tryd.prog 11 #[.int .i64 2, .int .u64 a] w fun e' w' => ∃ e x y, e' = .returned (ansB e x y) ∧ Below w.heap.size w w' ∧
      HalfAns .f32 1166018560 (a % 4294967296) (err21 a) e x y := by
  have hbk := below_a w (Obj.cells #[.int .u64 (a : Nat)] 22)
  go_enter Tryd.func11, Tryd.ntmps11
  go_wp2_with fail
  refine (refuses_two w.heap.size [a] (w.alloc (Obj.cells #[.int .u64 (a : Nat)] 22)) (RdU.new w [a] 22) (by simp) (by simp)).mono ?_
  rintro _ w1 ⟨rfl, hb1⟩
  have HB : Hid (Below w.heap.size w w1) := hbk.trans (hb1.mono hbk.size)
  obtain ⟨e0, he0⟩ : ∃ e0 : Int, e0 = err21 a := ⟨_, rfl⟩
  rw [show (if [a].all (fun x => decide (x < 4294967296)) = true then (if [a].all (fun x => finB .f32 (x % 4294967296)) = true then (0 : Int) else 40) else 4) = e0 from he0.symm]
  have HE := Lib.hid he0
  clear he0 hb1 hbk
  by_cases h0 : e0 ≠ 0
  · have t0 : (e0 != 0) = true := by simpa using h0
    have HA : Hid (ansB e0 0 0 = .tuple #[.int .u64 0, .int .u64 0, .int .i64 e0]) := by show _ = _; unfold ansB; rw [if_neg h0]; rfl
    have H0 := Lib.hid h0
    clear h0
    go_wp2
    refine bodyPost_ret (v := .tuple #[.int .u64 0, .int .u64 0, .int .i64 e0]) (by simp [results, Tryd.results11, go_sem]) rfl ?_
    exact ⟨e0, 0, 0, by rw [HA.out], HB.out, Or.inl ⟨H0.out, HE.out⟩⟩
  have h0' : e0 = 0 := by omega
  have t0 : (e0 != 0) = false := by simpa using h0'
  have H0 := Lib.hid h0'
  clear h0 h0'
  go_wp2_with fail
  refine (single_any a w1).mono ?_
  rintro _ _ ⟨rfl, rfl⟩
  go_wp2_with fail
  refine (halves_f32 1166018560 (a % 4294967296) _).mono ?_
  rintro _ w2 ⟨c, d, s, r, hS, rfl, hb2⟩
  have HS := Lib.hid hS
  replace HB := Lib.hid (HB.out.trans (hb2.mono HB.out.size))
  obtain ⟨ok, hok⟩ : ∃ ok, ok = [c, d, s, r].all (finB .f32) := ⟨_, rfl⟩
  rw [← hok]
  have Hok := Lib.hid hok
  clear hok hS hb2
  cases ok
  · rw [show ansF .f32 false s r = .tuple #[.float .f32 0, .float .f32 0, .int .i64 7] from rfl]
    go_wp2_with fail
    refine (singles_any 0 0 (by decide) (by decide) 7 w2).mono ?_
    rintro _ _ ⟨rfl, rfl⟩
    rw [show (ansB 7 0 0) = .tuple #[.int .u64 0, .int .u64 0, .int .i64 7] from rfl]
    go_wp2
    refine bodyPost_ret (v := .tuple #[.int .u64 0, .int .u64 0, .int .i64 7]) (by simp [results, Tryd.results11, go_sem]) rfl ?_
    exact ⟨7, 0, 0, rfl, HB.out, Or.inr ⟨by rw [← HE.out]; exact H0.out, c, d, s, r, HS.out, Or.inr ⟨Hok.out.symm, rfl⟩⟩⟩
  · rw [show ansF .f32 true s r = .tuple #[.float .f32 s, .float .f32 r, .int .i64 0] from rfl]
    have Ls := Lib.hid HS.out.2.2.1.lt
    have Lr := Lib.hid HS.out.2.2.2.lt
    go_wp2_with fail
    refine (singles_any s r Ls.out Lr.out 0 w2).mono ?_
    rintro _ _ ⟨rfl, rfl⟩
    rw [show (ansB 0 s r) = .tuple #[.int .u64 (s : Nat), .int .u64 (r : Nat), .int .i64 0] from rfl]
    go_wp2
    refine bodyPost_ret (v := .tuple #[.int .u64 (s : Nat), .int .u64 (r : Nat), .int .i64 0]) (by simp [results, Tryd.results11, go_sem]) rfl ?_
    exact ⟨0, s, r, rfl, HB.out, Or.inr ⟨by rw [← HE.out]; exact H0.out, c, d, s, r, HS.out, Or.inl ⟨Hok.out.symm, rfl, rfl, rfl⟩⟩⟩


theorem refuses_bad (f : Int) (s : Value) (w : World) (h2 : f ≠ 2) (h3 : f ≠ 3) :
    Calls Tryd.prog 17 #[.int .i64 f, s] w fun e w' => e = .returned (.int .i64 2) ∧ w = w' := by
  have t2 : (f != 2) = true := by simpa using h2
  have t3 : (f != 3) = true := by simpa using h3
  clear h2 h3
  go_enter Tryd.func17, Tryd.ntmps17
  go_wp2_with fail
  go_ret
  exact ⟨rfl, rfl⟩


theorem TwoSum_bad (f : Int) (a b : Nat) (w : World) (h2 : f ≠ 2) (h3 : f ≠ 3) :
    Calls Tryd.prog 9 #[.int .i64 f, .int .u64 a, .int .u64 b] w fun e' w' => e' = .returned (.tuple #[.int .u64 0, .int .u64 0, .int .i64 2]) ∧ Below w.heap.size w w' := by
  have HR := Lib.hid (fun s wx => refuses_bad f s wx h2 h3)
  have HB := Lib.hid (below_a w (Obj.cells #[.int .u64 a, .int .u64 b] 22))
  clear h2 h3
  go_enter Tryd.func9, Tryd.ntmps9
  go_wp2_with fail
  refine (HR.out _ _).mono ?_
  rintro _ _ ⟨rfl, rfl⟩
  go_wp2_with fail
  refine bodyPost_ret (v := .tuple #[.int .u64 0, .int .u64 0, .int .i64 2]) (by simp [results, Tryd.results9, go_sem]) rfl ?_
  exact ⟨rfl, HB.out⟩


theorem TwoProd_bad (f : Int) (a b : Nat) (w : World) (h2 : f ≠ 2) (h3 : f ≠ 3) :
    Calls Tryd.prog 12 #[.int .i64 f, .int .u64 a, .int .u64 b] w fun e' w' => e' = .returned (.tuple #[.int .u64 0, .int .u64 0, .int .i64 2]) ∧ Below w.heap.size w w' := by
  have HR := Lib.hid (fun s wx => refuses_bad f s wx h2 h3)
  have HB := Lib.hid (below_a w (Obj.cells #[.int .u64 a, .int .u64 b] 22))
  clear h2 h3
  go_enter Tryd.func12, Tryd.ntmps12
  go_wp2_with fail
  refine (HR.out _ _).mono ?_
  rintro _ _ ⟨rfl, rfl⟩
  go_wp2_with fail
  refine bodyPost_ret (v := .tuple #[.int .u64 0, .int .u64 0, .int .i64 2]) (by simp [results, Tryd.results12, go_sem]) rfl ?_
  exact ⟨rfl, HB.out⟩


theorem Split_bad (f : Int) (a : Nat) (w : World) (h2 : f ≠ 2) (h3 : f ≠ 3) :
    Calls Tryd.prog 11 #[.int .i64 f, .int .u64 a] w fun e' w' => e' = .returned (.tuple #[.int .u64 0, .int .u64 0, .int .i64 2]) ∧ Below w.heap.size w w' := by
  have HR := Lib.hid (fun s wx => refuses_bad f s wx h2 h3)
  have HB := Lib.hid (below_a w (Obj.cells #[.int .u64 a] 22))
  clear h2 h3
  go_enter Tryd.func11, Tryd.ntmps11
  go_wp2_with fail
  refine (HR.out _ _).mono ?_
  rintro _ _ ⟨rfl, rfl⟩
  go_wp2_with fail
  refine bodyPost_ret (v := .tuple #[.int .u64 0, .int .u64 0, .int .i64 2]) (by simp [results, Tryd.results11, go_sem]) rfl ?_
  exact ⟨rfl, HB.out⟩


end Go.Proofs.YtlfailbibcpahaaDoor
