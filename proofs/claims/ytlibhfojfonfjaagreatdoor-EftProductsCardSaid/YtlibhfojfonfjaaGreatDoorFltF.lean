/- Walks of layer 18: TwoSum, TwoProd. -/
import Derived.Test.YtlibhfojfonfjaaGreatDoorFltE
namespace Go.Proofs.YtlibhfojfonfjaaGreatDoor
set_option linter.unusedVariables false
open Go.RowKit

theorem RdU.new (w : World) (xs : List Nat) (t : TypeId) : RdU (w.alloc (Obj.cells (xs.map fun x : Nat => Value.int .u64 x).toArray t)) w.heap.size xs := by
  intro j hj
  rw [World.cell?_alloc_at _ _ _ _ rfl]
  simp [hj]

theorem below_a (w : World) (o : Obj) : Below w.heap.size w (w.alloc o) := (Below.refl _ _).alloc (Nat.le_refl _) o

theorem power968 (w : World) : Calls Tryz.prog 21 #[.int .i64 (-968)] w fun e w' => e = .returned (.float .f64 (pw 968)) ∧ w' = w := power_any 968 (by decide) w
theorem power101 (w : World) : Calls Tryz.prog 21 #[.int .i64 (-101)] w fun e w' => e = .returned (.float .f64 (pw 101)) ∧ w' = w := power_any 101 (by decide) w

/-- the error of the arguments -/
def err3 (a b : Nat) : Int := if [a, b].all (finB .f64) = true then 0 else 40
def err2 (a b : Nat) : Int := if [a, b].all (fun x => decide (x < 4294967296)) = true then (if [a, b].all (fun x => finB .f32 (x % 4294967296)) = true then 0 else 40) else 4

/-- what TwoSum answers: the error of the arguments er, the error e, the patterns x, y -/
def SumAns (k : FloatKind) (a b : Nat) (er e : Int) (x y : Nat) : Prop :=
  (e ≠ 0 ∧ e = er) ∨ (er = 0 ∧ ∃ s t u v z r, SumC k a b s t u v z r ∧ (([s, t, u, v, z, r].all (finB k) = true ∧ e = 0 ∧ x = s ∧ y = r) ∨ ([s, t, u, v, z, r].all (finB k) = false ∧ e = 7)))
/-- what TwoProd answers -/
def ProdAns (k : FloatKind) (q least a b : Nat) (er e : Int) (x y : Nat) : Prop :=
  (e ≠ 0 ∧ e = er) ∨ (er = 0 ∧ ∃ p r ok, ProdR k q least a b p r ok ∧ ((ok = true ∧ e = 0 ∧ x = p ∧ y = r) ∨ (ok = false ∧ e = 7)))

theorem prodR_lt {k : FloatKind} {q least a b p r : Nat} (h : ProdR k q least a b p r true) : r < 2 ^ k.format.width := by
  obtain ⟨_, c, d, h, l, _, h1⟩ := h
  rcases h1 with ⟨_, h1⟩ | ⟨_, c', d', i, j, _, h1⟩
  · cases h1
  · rcases h1 with ⟨_, h1⟩ | ⟨_, g, hj, li, lj, v, x, y, hL, _⟩
    · cases h1
    · exact hL.2.2.2.2.2.2.2.lt

set_option maxHeartbeats 2000000 in
theorem TwoSum_three (a b : Nat) (w : World) :
    Calls Tryz.prog 16 #[.int .i64 3, .int .u64 a, .int .u64 b] w fun e' w' => ∃ e x y, e' = .returned (ansB e x y) ∧ Below w.heap.size w w' ∧
      SumAns .f64 a b (err3 a b) e x y := by
  have hbk := below_a w (Obj.cells #[.int .u64 (a : Nat), .int .u64 (b : Nat)] 22)
  go_enter Tryz.func16, Tryz.ntmps16
  go_wp2_with fail
  refine (refuses_three w.heap.size [a, b] (w.alloc (Obj.cells #[.int .u64 (a : Nat), .int .u64 (b : Nat)] 22)) (RdU.new w [a, b] 22) (by simp) (by simp)).mono ?_
  rintro _ w1 ⟨rfl, hb1⟩
  have HB : Hid (Below w.heap.size w w1) := hbk.trans (hb1.mono hbk.size)
  obtain ⟨e0, he0⟩ : ∃ e0 : Int, e0 = err3 a b := ⟨_, rfl⟩
  rw [show (if [a, b].all (finB .f64) = true then (0 : Int) else 40) = e0 from he0.symm]
  have HE := Lib.hid he0
  clear he0 hb1 hbk
  by_cases h0 : e0 ≠ 0
  · have t0 : (e0 != 0) = true := by simpa using h0
    have HA : Hid (ansB e0 0 0 = .tuple #[.int .u64 0, .int .u64 0, .int .i64 e0]) := by show _ = _; unfold ansB; rw [if_neg h0]; rfl
    have H0 := Lib.hid h0
    clear h0
    go_wp2
    refine bodyPost_ret (v := .tuple #[.int .u64 0, .int .u64 0, .int .i64 e0]) (by simp [results, Tryz.results16, go_sem]) rfl ?_
    exact ⟨e0, 0, 0, by rw [HA.out], HB.out, Or.inl ⟨H0.out, HE.out⟩⟩
  have h0' : e0 = 0 := by omega
  have t0 : (e0 != 0) = false := by simpa using h0'
  have H0 := Lib.hid h0'
  clear h0 h0'
  go_wp2_with fail
  refine (double_any a w1).mono ?_
  rintro _ _ ⟨rfl, rfl⟩
  go_wp2_with fail
  refine (double_any b _).mono ?_
  rintro _ _ ⟨rfl, rfl⟩
  go_wp2_with fail
  refine (twoSum_f64 a b _).mono ?_
  rintro _ w2 ⟨s, t, u, v, z, r, hS, rfl, hb2⟩
  have HS := Lib.hid hS
  replace HB := Lib.hid (HB.out.trans (hb2.mono HB.out.size))
  obtain ⟨ok, hok⟩ : ∃ ok, ok = [s, t, u, v, z, r].all (finB .f64) := ⟨_, rfl⟩
  rw [← hok]
  have Hok := Lib.hid hok
  clear hok hS hb2
  cases ok
  · rw [show ansF .f64 false s r = .tuple #[.float .f64 0, .float .f64 0, .int .i64 7] from rfl]
    go_wp2_with fail
    refine (doubles_any 0 0 7 w2).mono ?_
    rintro _ _ ⟨rfl, rfl⟩
    rw [show (ansB 7 0 0) = .tuple #[.int .u64 0, .int .u64 0, .int .i64 7] from rfl]
    go_wp2
    refine bodyPost_ret (v := .tuple #[.int .u64 0, .int .u64 0, .int .i64 7]) (by simp [results, Tryz.results16, go_sem]) rfl ?_
    exact ⟨7, 0, 0, rfl, HB.out, Or.inr ⟨by rw [← HE.out]; exact H0.out, s, t, u, v, z, r, HS.out, Or.inr ⟨Hok.out.symm, rfl⟩⟩⟩
  · rw [show ansF .f64 true s r = .tuple #[.float .f64 s, .float .f64 r, .int .i64 0] from rfl]
    have ls := HS.out.1.lt
    have lr := HS.out.2.2.2.2.2.lt
    have Ls := Lib.hid ls
    have Lr := Lib.hid lr
    clear ls lr
    go_wp2_with fail
    refine (doubles_any s r 0 w2).mono ?_
    rintro _ _ ⟨rfl, rfl⟩
    rw [show (ansB 0 s r) = .tuple #[.int .u64 (s : Nat), .int .u64 (r : Nat), .int .i64 0] from rfl]
    go_wp2
    refine bodyPost_ret (v := .tuple #[.int .u64 (s : Nat), .int .u64 (r : Nat), .int .i64 0]) (by simp [results, Tryz.results16, go_sem]) rfl ?_
    exact ⟨0, s, r, rfl, HB.out, Or.inr ⟨by rw [← HE.out]; exact H0.out, s, t, u, v, z, r, HS.out, Or.inl ⟨Hok.out.symm, rfl, rfl, rfl⟩⟩⟩

set_option maxHeartbeats 2000000 in
theorem TwoProd_three (a b : Nat) (w : World) :
    Calls Tryz.prog 8 #[.int .i64 3, .int .u64 a, .int .u64 b] w fun e' w' => ∃ e x y, e' = .returned (ansB e x y) ∧ Below w.heap.size w w' ∧
      ProdAns .f64 4728779608772575232 (pw 968) a b (err3 a b) e x y := by
  have hbk := below_a w (Obj.cells #[.int .u64 (a : Nat), .int .u64 (b : Nat)] 22)
  go_enter Tryz.func8, Tryz.ntmps8
  go_wp2_with fail
  refine (refuses_three w.heap.size [a, b] (w.alloc (Obj.cells #[.int .u64 (a : Nat), .int .u64 (b : Nat)] 22)) (RdU.new w [a, b] 22) (by simp) (by simp)).mono ?_
  rintro _ w1 ⟨rfl, hb1⟩
  have HB : Hid (Below w.heap.size w w1) := hbk.trans (hb1.mono hbk.size)
  obtain ⟨e0, he0⟩ : ∃ e0 : Int, e0 = err3 a b := ⟨_, rfl⟩
  rw [show (if [a, b].all (finB .f64) = true then (0 : Int) else 40) = e0 from he0.symm]
  have HE := Lib.hid he0
  clear he0 hb1 hbk
  by_cases h0 : e0 ≠ 0
  · have t0 : (e0 != 0) = true := by simpa using h0
    have HA : Hid (ansB e0 0 0 = .tuple #[.int .u64 0, .int .u64 0, .int .i64 e0]) := by show _ = _; unfold ansB; rw [if_neg h0]; rfl
    have H0 := Lib.hid h0
    clear h0
    go_wp2
    refine bodyPost_ret (v := .tuple #[.int .u64 0, .int .u64 0, .int .i64 e0]) (by simp [results, Tryz.results8, go_sem]) rfl ?_
    exact ⟨e0, 0, 0, by rw [HA.out], HB.out, Or.inl ⟨H0.out, HE.out⟩⟩
  have h0' : e0 = 0 := by omega
  have t0 : (e0 != 0) = false := by simpa using h0'
  have H0 := Lib.hid h0'
  clear h0 h0'
  go_wp2_with fail
  refine (power968 w1).mono ?_
  rintro _ w5 ⟨rfl, rfl⟩
  go_wp2_with fail
  refine (double_any a _).mono ?_
  rintro _ _ ⟨rfl, rfl⟩
  go_wp2_with fail
  refine (double_any b _).mono ?_
  rintro _ _ ⟨rfl, rfl⟩
  go_wp2_with fail
  refine (twoProd_f64 4728779608772575232 (pw 968) a b _).mono ?_
  rintro _ w2 ⟨p, r, ok, hS, rfl, hb2⟩
  have HS := Lib.hid hS
  replace HB := Lib.hid (HB.out.trans (hb2.mono HB.out.size))
  clear hS hb2
  cases ok
  · rw [show ansF .f64 false p r = .tuple #[.float .f64 0, .float .f64 0, .int .i64 7] from rfl]
    go_wp2_with fail
    refine (doubles_any 0 0 7 w2).mono ?_
    rintro _ _ ⟨rfl, rfl⟩
    rw [show (ansB 7 0 0) = .tuple #[.int .u64 0, .int .u64 0, .int .i64 7] from rfl]
    go_wp2
    refine bodyPost_ret (v := .tuple #[.int .u64 0, .int .u64 0, .int .i64 7]) (by simp [results, Tryz.results8, go_sem]) rfl ?_
    exact ⟨7, 0, 0, rfl, HB.out, Or.inr ⟨by rw [← HE.out]; exact H0.out, p, r, false, HS.out, Or.inr ⟨rfl, rfl⟩⟩⟩
  · rw [show ansF .f64 true p r = .tuple #[.float .f64 p, .float .f64 r, .int .i64 0] from rfl]
    have Lp := Lib.hid HS.out.1.lt
    have Lr := Lib.hid (prodR_lt HS.out)
    go_wp2_with fail
    refine (doubles_any p r 0 w2).mono ?_
    rintro _ _ ⟨rfl, rfl⟩
    rw [show (ansB 0 p r) = .tuple #[.int .u64 (p : Nat), .int .u64 (r : Nat), .int .i64 0] from rfl]
    go_wp2
    refine bodyPost_ret (v := .tuple #[.int .u64 (p : Nat), .int .u64 (r : Nat), .int .i64 0]) (by simp [results, Tryz.results8, go_sem]) rfl ?_
    exact ⟨0, p, r, rfl, HB.out, Or.inr ⟨by rw [← HE.out]; exact H0.out, p, r, true, HS.out, Or.inl ⟨rfl, rfl, rfl, rfl⟩⟩⟩

set_option maxHeartbeats 2000000 in
theorem TwoSum_two (a b : Nat) (w : World) :
    Calls Tryz.prog 16 #[.int .i64 2, .int .u64 a, .int .u64 b] w fun e' w' => ∃ e x y, e' = .returned (ansB e x y) ∧ Below w.heap.size w w' ∧
      SumAns .f32 (a % 4294967296) (b % 4294967296) (err2 a b) e x y := by
  have hbk := below_a w (Obj.cells #[.int .u64 (a : Nat), .int .u64 (b : Nat)] 22)
  go_enter Tryz.func16, Tryz.ntmps16
  go_wp2_with fail
  refine (refuses_two w.heap.size [a, b] (w.alloc (Obj.cells #[.int .u64 (a : Nat), .int .u64 (b : Nat)] 22)) (RdU.new w [a, b] 22) (by simp) (by simp)).mono ?_
  rintro _ w1 ⟨rfl, hb1⟩
  have HB : Hid (Below w.heap.size w w1) := hbk.trans (hb1.mono hbk.size)
  obtain ⟨e0, he0⟩ : ∃ e0 : Int, e0 = err2 a b := ⟨_, rfl⟩
  rw [show (if [a, b].all (fun x => decide (x < 4294967296)) = true then (if [a, b].all (fun x => finB .f32 (x % 4294967296)) = true then (0 : Int) else 40) else 4) = e0 from he0.symm]
  have HE := Lib.hid he0
  clear he0 hb1 hbk
  by_cases h0 : e0 ≠ 0
  · have t0 : (e0 != 0) = true := by simpa using h0
    have HA : Hid (ansB e0 0 0 = .tuple #[.int .u64 0, .int .u64 0, .int .i64 e0]) := by show _ = _; unfold ansB; rw [if_neg h0]; rfl
    have H0 := Lib.hid h0
    clear h0
    go_wp2
    refine bodyPost_ret (v := .tuple #[.int .u64 0, .int .u64 0, .int .i64 e0]) (by simp [results, Tryz.results16, go_sem]) rfl ?_
    exact ⟨e0, 0, 0, by rw [HA.out], HB.out, Or.inl ⟨H0.out, HE.out⟩⟩
  have h0' : e0 = 0 := by omega
  have t0 : (e0 != 0) = false := by simpa using h0'
  have H0 := Lib.hid h0'
  clear h0 h0'
  go_wp2_with fail
  refine (esingle_any a w1).mono ?_
  rintro _ _ ⟨rfl, rfl⟩
  go_wp2_with fail
  refine (esingle_any b _).mono ?_
  rintro _ _ ⟨rfl, rfl⟩
  go_wp2_with fail
  refine (twoSum_f32 (a % 4294967296) (b % 4294967296) _).mono ?_
  rintro _ w2 ⟨s, t, u, v, z, r, hS, rfl, hb2⟩
  have HS := Lib.hid hS
  replace HB := Lib.hid (HB.out.trans (hb2.mono HB.out.size))
  obtain ⟨ok, hok⟩ : ∃ ok, ok = [s, t, u, v, z, r].all (finB .f32) := ⟨_, rfl⟩
  rw [← hok]
  have Hok := Lib.hid hok
  clear hok hS hb2
  cases ok
  · rw [show ansF .f32 false s r = .tuple #[.float .f32 0, .float .f32 0, .int .i64 7] from rfl]
    go_wp2_with fail
    refine (singles_any 0 0 (by decide) (by decide) 7 w2).mono ?_
    rintro _ _ ⟨rfl, rfl⟩
    rw [show (ansB 7 0 0) = .tuple #[.int .u64 0, .int .u64 0, .int .i64 7] from rfl]
    go_wp2
    refine bodyPost_ret (v := .tuple #[.int .u64 0, .int .u64 0, .int .i64 7]) (by simp [results, Tryz.results16, go_sem]) rfl ?_
    exact ⟨7, 0, 0, rfl, HB.out, Or.inr ⟨by rw [← HE.out]; exact H0.out, s, t, u, v, z, r, HS.out, Or.inr ⟨Hok.out.symm, rfl⟩⟩⟩
  · rw [show ansF .f32 true s r = .tuple #[.float .f32 s, .float .f32 r, .int .i64 0] from rfl]
    have ls := HS.out.1.lt
    have lr := HS.out.2.2.2.2.2.lt
    have Ls := Lib.hid ls
    have Lr := Lib.hid lr
    clear ls lr
    go_wp2_with fail
    refine (singles_any s r Ls.out Lr.out 0 w2).mono ?_
    rintro _ _ ⟨rfl, rfl⟩
    rw [show (ansB 0 s r) = .tuple #[.int .u64 (s : Nat), .int .u64 (r : Nat), .int .i64 0] from rfl]
    go_wp2
    refine bodyPost_ret (v := .tuple #[.int .u64 (s : Nat), .int .u64 (r : Nat), .int .i64 0]) (by simp [results, Tryz.results16, go_sem]) rfl ?_
    exact ⟨0, s, r, rfl, HB.out, Or.inr ⟨by rw [← HE.out]; exact H0.out, s, t, u, v, z, r, HS.out, Or.inl ⟨Hok.out.symm, rfl, rfl, rfl⟩⟩⟩

set_option maxHeartbeats 2000000 in
theorem TwoProd_two (a b : Nat) (w : World) :
    Calls Tryz.prog 8 #[.int .i64 2, .int .u64 a, .int .u64 b] w fun e' w' => ∃ e x y, e' = .returned (ansB e x y) ∧ Below w.heap.size w w' ∧
      ProdAns .f32 1166018560 218103808 (a % 4294967296) (b % 4294967296) (err2 a b) e x y := by
  have hbk := below_a w (Obj.cells #[.int .u64 (a : Nat), .int .u64 (b : Nat)] 22)
  go_enter Tryz.func8, Tryz.ntmps8
  go_wp2_with fail
  refine (refuses_two w.heap.size [a, b] (w.alloc (Obj.cells #[.int .u64 (a : Nat), .int .u64 (b : Nat)] 22)) (RdU.new w [a, b] 22) (by simp) (by simp)).mono ?_
  rintro _ w1 ⟨rfl, hb1⟩
  have HB : Hid (Below w.heap.size w w1) := hbk.trans (hb1.mono hbk.size)
  obtain ⟨e0, he0⟩ : ∃ e0 : Int, e0 = err2 a b := ⟨_, rfl⟩
  rw [show (if [a, b].all (fun x => decide (x < 4294967296)) = true then (if [a, b].all (fun x => finB .f32 (x % 4294967296)) = true then (0 : Int) else 40) else 4) = e0 from he0.symm]
  have HE := Lib.hid he0
  clear he0 hb1 hbk
  by_cases h0 : e0 ≠ 0
  · have t0 : (e0 != 0) = true := by simpa using h0
    have HA : Hid (ansB e0 0 0 = .tuple #[.int .u64 0, .int .u64 0, .int .i64 e0]) := by show _ = _; unfold ansB; rw [if_neg h0]; rfl
    have H0 := Lib.hid h0
    clear h0
    go_wp2
    refine bodyPost_ret (v := .tuple #[.int .u64 0, .int .u64 0, .int .i64 e0]) (by simp [results, Tryz.results8, go_sem]) rfl ?_
    exact ⟨e0, 0, 0, by rw [HA.out], HB.out, Or.inl ⟨H0.out, HE.out⟩⟩
  have h0' : e0 = 0 := by omega
  have t0 : (e0 != 0) = false := by simpa using h0'
  have H0 := Lib.hid h0'
  clear h0 h0'
  go_wp2_with fail
  refine (power101 w1).mono ?_
  rintro _ w5 ⟨rfl, rfl⟩
  have hcv : (convert 52 49 (.float .f64 (pw 101))).run Tryz.prog w5 = .ok (.float .f32 218103808) w5 :=
    run_convert_float_float w5 52 49 .f64 .f32 (pw 101) 218103808 (by kernel_rfl) Tryz.underlying49 (by decide +kernel)
  go_wp2_with fail
  refine (esingle_any a _).mono ?_
  rintro _ _ ⟨rfl, rfl⟩
  go_wp2_with fail
  refine (esingle_any b _).mono ?_
  rintro _ _ ⟨rfl, rfl⟩
  go_wp2_with fail
  refine (twoProd_f32 1166018560 218103808 (a % 4294967296) (b % 4294967296) _).mono ?_
  rintro _ w2 ⟨p, r, ok, hS, rfl, hb2⟩
  have HS := Lib.hid hS
  replace HB := Lib.hid (HB.out.trans (hb2.mono HB.out.size))
  clear hS hb2
  cases ok
  · rw [show ansF .f32 false p r = .tuple #[.float .f32 0, .float .f32 0, .int .i64 7] from rfl]
    go_wp2_with fail
    refine (singles_any 0 0 (by decide) (by decide) 7 w2).mono ?_
    rintro _ _ ⟨rfl, rfl⟩
    rw [show (ansB 7 0 0) = .tuple #[.int .u64 0, .int .u64 0, .int .i64 7] from rfl]
    go_wp2
    refine bodyPost_ret (v := .tuple #[.int .u64 0, .int .u64 0, .int .i64 7]) (by simp [results, Tryz.results8, go_sem]) rfl ?_
    exact ⟨7, 0, 0, rfl, HB.out, Or.inr ⟨by rw [← HE.out]; exact H0.out, p, r, false, HS.out, Or.inr ⟨rfl, rfl⟩⟩⟩
  · rw [show ansF .f32 true p r = .tuple #[.float .f32 p, .float .f32 r, .int .i64 0] from rfl]
    have Lp := Lib.hid HS.out.1.lt
    have Lr := Lib.hid (prodR_lt HS.out)
    go_wp2_with fail
    refine (singles_any p r Lp.out Lr.out 0 w2).mono ?_
    rintro _ _ ⟨rfl, rfl⟩
    rw [show (ansB 0 p r) = .tuple #[.int .u64 (p : Nat), .int .u64 (r : Nat), .int .i64 0] from rfl]
    go_wp2
    refine bodyPost_ret (v := .tuple #[.int .u64 (p : Nat), .int .u64 (r : Nat), .int .i64 0]) (by simp [results, Tryz.results8, go_sem]) rfl ?_
    exact ⟨0, p, r, rfl, HB.out, Or.inr ⟨by rw [← HE.out]; exact H0.out, p, r, true, HS.out, Or.inl ⟨rfl, rfl, rfl, rfl⟩⟩⟩

end Go.Proofs.YtlibhfojfonfjaaGreatDoor
