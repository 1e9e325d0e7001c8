/- Walks of layer 18: patterns and floats; abs; power. -/
import Derived.Test.YtlibhfojfonfjaaGreatDoorFltB
import GoSem.Extern.MathFloatBits
namespace Go.Proofs.YtlibhfojfonfjaaGreatDoor
set_option linter.unusedVariables false
open Go.RowKit

theorem f64from_run (x : Nat) (w : World) : (callFunc 64 #[.int .u64 x]).run Tryz.prog w = .ok (.value (.float .f64 x)) w := by
  rw [run_callFunc_extern Tryz.func64 (by kernel_rfl) (by kernel_rfl) (by kernel_rfl) (e := Extern.MathFloatBits.float64frombits) (by kernel_rfl)]
  rfl
theorem f64bits_run (x : Nat) (w : World) : (callFunc 61 #[.float .f64 x]).run Tryz.prog w = .ok (.value (.int .u64 x)) w := by
  rw [run_callFunc_extern Tryz.func61 (by kernel_rfl) (by kernel_rfl) (by kernel_rfl) (e := Extern.MathFloatBits.float64bits) (by kernel_rfl)]
  rfl
theorem f32from_run (x : Nat) (w : World) : (callFunc 60 #[.int .u32 x]).run Tryz.prog w = .ok (.value (.float .f32 x)) w := by
  rw [run_callFunc_extern Tryz.func60 (by kernel_rfl) (by kernel_rfl) (by kernel_rfl) (e := Extern.MathFloatBits.float32frombits) (by kernel_rfl)]
  rfl
theorem f32bits_run (x : Nat) (w : World) : (callFunc 57 #[.float .f32 x]).run Tryz.prog w = .ok (.value (.int .u32 x)) w := by
  rw [run_callFunc_extern Tryz.func57 (by kernel_rfl) (by kernel_rfl) (by kernel_rfl) (e := Extern.MathFloatBits.float32bits) (by kernel_rfl)]
  rfl

theorem wrap_u32_nat (x : Nat) : IntKind.u32.wrap (x : Int) = ((x % 4294967296 : Nat) : Int) := by
  unfold IntKind.wrap
  simp [IntKind.bits, IntKind.signed]

theorem wrap_u64_nat' (x : Nat) : IntKind.u64.wrap (x : Int) = ((x % 18446744073709551616 : Nat) : Int) := by
  unfold IntKind.wrap
  simp [IntKind.bits, IntKind.signed]

theorem double_any (x : Nat) (w : World) : Calls Tryz.prog 25 #[.int .u64 x] w fun e w' => e = .returned (.float .f64 x) ∧ w' = w := by
  have h := f64from_run x
  go_enter Tryz.func25, Tryz.ntmps25
  go_wp2
  go_ret
  exact ⟨rfl, rfl⟩

theorem esingle_any (x : Nat) (w : World) : Calls Tryz.prog 22 #[.int .u64 x] w fun e w' => e = .returned (.float .f32 (x % 4294967296)) ∧ w' = w := by
  have h := f32from_run (x % 4294967296)
  have hw := wrap_u32_nat x
  generalize x % 4294967296 = y at *
  go_enter Tryz.func22, Tryz.ntmps22
  go_wp2
  go_ret
  exact ⟨rfl, rfl⟩

/-- two patterns and the error, or nothing and the error -/
def ansB (e : Int) (x y : Nat) : Value := .tuple #[.int .u64 ((if e = 0 then x else 0 : Nat) : Int), .int .u64 ((if e = 0 then y else 0 : Nat) : Int), .int .i64 e]

theorem doubles_any (x y : Nat) (e : Int) (w : World) : Calls Tryz.prog 23 #[.float .f64 x, .float .f64 y, .int .i64 e] w fun r w' => r = .returned (ansB e x y) ∧ w' = w := by
  have h1 := f64bits_run x
  have h2 := f64bits_run y
  by_cases he : e = 0
  · subst he
    go_enter Tryz.func23, Tryz.ntmps23
    go_wp2
    refine bodyPost_ret (v := .tuple #[.int .u64 x, .int .u64 y, .int .i64 0]) (by simp [results, Tryz.results23, go_sem]) rfl ?_
    exact ⟨rfl, rfl⟩
  · have H : Hid (ansB e x y = .tuple #[.int .u64 0, .int .u64 0, .int .i64 e]) := by show _ = _; unfold ansB; rw [if_neg he, if_neg he]; rfl
    have hb : (e != 0) = true := by simpa using he
    clear he
    go_enter Tryz.func23, Tryz.ntmps23
    go_wp2
    refine bodyPost_ret (v := .tuple #[.int .u64 0, .int .u64 0, .int .i64 e]) (by simp [results, Tryz.results23, go_sem]) rfl ?_
    exact ⟨by rw [H.out], rfl⟩

theorem singles_any (x y : Nat) (hx : x < 4294967296) (hy : y < 4294967296) (e : Int) (w : World) : Calls Tryz.prog 19 #[.float .f32 x, .float .f32 y, .int .i64 e] w fun r w' => r = .returned (ansB e x y) ∧ w' = w := by
  have h1 := f32bits_run x
  have h2 := f32bits_run y
  have hw1 : IntKind.u64.wrap (x : Int) = (x : Int) := by rw [wrap_u64_nat']; omega
  have hw2 : IntKind.u64.wrap (y : Int) = (y : Int) := by rw [wrap_u64_nat']; omega
  clear hx hy
  by_cases he : e = 0
  · subst he
    go_enter Tryz.func19, Tryz.ntmps19
    go_wp2
    refine bodyPost_ret (v := .tuple #[.int .u64 x, .int .u64 y, .int .i64 0]) (by simp [results, Tryz.results19, go_sem]) rfl ?_
    exact ⟨rfl, rfl⟩
  · have H : Hid (ansB e x y = .tuple #[.int .u64 0, .int .u64 0, .int .i64 e]) := by show _ = _; unfold ansB; rw [if_neg he, if_neg he]; rfl
    have hb : (e != 0) = true := by simpa using he
    clear he
    go_enter Tryz.func19, Tryz.ntmps19
    go_wp2
    refine bodyPost_ret (v := .tuple #[.int .u64 0, .int .u64 0, .int .i64 e]) (by simp [results, Tryz.results19, go_sem]) rfl ?_
    exact ⟨by rw [H.out], rfl⟩

/-- without the sign -/
def absF (k : FloatKind) (x : Nat) : Nat := if (k.format.order x 0 == some .lt) = true then Op.negFloat k x else x

theorem abs_f32 (x : Nat) (w : World) : Calls Tryz.prog 59 #[.float .f32 x] w fun e w' => e = .returned (.float .f32 (absF .f32 x)) ∧ w' = w := by
  by_cases hc : (FloatKind.f32.format.order x 0 == some .lt) = true
  · have H : Hid (absF .f32 x = Op.negFloat .f32 x) := by show _ = _; unfold absF; rw [if_pos hc]
    have hn : Op.unary .neg (.float .f32 x) = pure (.float .f32 (Op.negFloat .f32 x)) := rfl
    go_enter Tryz.func59, Tryz.ntmps59
    go_wp2
    go_ret
    exact ⟨by rw [H.out]; rfl, rfl⟩
  · have H : Hid (absF .f32 x = x) := by show _ = _; unfold absF; rw [if_neg hc]
    have hc' : (FloatKind.f32.format.order x 0 == some .lt) = false := by simpa using hc
    clear hc
    go_enter Tryz.func59, Tryz.ntmps59
    go_wp2
    go_ret
    exact ⟨by rw [H.out]; rfl, rfl⟩

theorem abs_f64 (x : Nat) (w : World) : Calls Tryz.prog 63 #[.float .f64 x] w fun e w' => e = .returned (.float .f64 (absF .f64 x)) ∧ w' = w := by
  by_cases hc : (FloatKind.f64.format.order x 0 == some .lt) = true
  · have H : Hid (absF .f64 x = Op.negFloat .f64 x) := by show _ = _; unfold absF; rw [if_pos hc]
    have hn : Op.unary .neg (.float .f64 x) = pure (.float .f64 (Op.negFloat .f64 x)) := rfl
    go_enter Tryz.func63, Tryz.ntmps63
    go_wp2
    go_ret
    exact ⟨by rw [H.out]; rfl, rfl⟩
  · have H : Hid (absF .f64 x = x) := by show _ = _; unfold absF; rw [if_neg hc]
    have hc' : (FloatKind.f64.format.order x 0 == some .lt) = false := by simpa using hc
    clear hc
    go_enter Tryz.func63, Tryz.ntmps63
    go_wp2
    go_ret
    exact ⟨by rw [H.out]; rfl, rfl⟩

/-- the pattern of 2^-i -/
def pw (i : Nat) : Nat := (1023 - i) * 4503599627370496

theorem pw_half : ∀ i, i < 1000 → floatBits .quo .f64 (pw i) 4611686018427387904 = some (pw (i + 1)) := by
  have h : (List.range 1000).all (fun i => floatBits .quo .f64 (pw i) 4611686018427387904 == some (pw (i + 1))) = true := by decide +kernel
  intro i hi
  have := List.all_eq_true.1 h i (List.mem_range.2 hi)
  simpa using this

set_option maxHeartbeats 1000000 in
theorem power_any (n : Nat) (hn : n ≤ 1000) (w : World) : Calls Tryz.prog 21 #[.int .i64 (-(n : Int))] w fun e w' => e = .returned (.float .f64 (pw n)) ∧ w' = w := by
  have hneg : IntKind.i64.wrap (n : Int) = n := by rw [IntKind.wrap_i64]; omega
  go_enter Tryz.func21, Tryz.ntmps21
  go_wp2
  go_loopw [3, 6] (fun x v wr => ∃ i : Nat, i ≤ n ∧ v = .int .i64 i ∧ x = .float .f64 (pw i) ∧ wr = w) (fun _ v _ => n - (intOf v).toNat)
  case atStart => exact ⟨0, Nat.zero_le _, rfl, rfl, rfl⟩
  case round =>
    obtain ⟨i, hi, rfl, rfl, rfl⟩ := hrel
    by_cases hin : i < n
    · have hq := run_float_arith (P := Tryz.prog) wr .quo 52 .f64 (pw i) 4611686018427387904 _ (pw_half i (by omega))
      have hin' : (i : Int) < n := by omega
      go_wp2
      go_roundw
      case rel => exact ⟨i + 1, by omega, by go_num, rfl, trivial⟩
      case measure => simp [intOf]; omega
    · obtain rfl : i = n := by omega
      go_wp2
      go_ret
      exact ⟨rfl, rfl⟩

end Go.Proofs.YtlibhfojfonfjaaGreatDoor
