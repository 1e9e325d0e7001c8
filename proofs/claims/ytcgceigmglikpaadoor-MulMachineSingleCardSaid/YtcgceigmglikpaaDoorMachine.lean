/- The walks of MulMachine and MulMachineSingle. -/
import Derived.Test.YtcgceigmglikpaaDoorTurns
import Derived.Test.YtcgceigmglikpaaDoorMach
import GoSem.Extern.MathFloatBits
namespace Go.Proofs.YtcgceigmglikpaaDoor
set_option linter.unusedVariables false
open Go.RowKit

theorem w64from_run (x : Nat) (w : World) : (callFunc 16 #[.int .u64 x]).run Tryd.prog w = .ok (.value (.float .f64 x)) w := by
  rw [run_callFunc_extern Tryd.func16 (by kernel_rfl) (by kernel_rfl) (by kernel_rfl) (e := Extern.MathFloatBits.float64frombits) (by kernel_rfl)]
  rfl

theorem w64bits_run (x : Nat) (w : World) : (callFunc 18 #[.float .f64 x]).run Tryd.prog w = .ok (.value (.int .u64 x)) w := by
  rw [run_callFunc_extern Tryd.func18 (by kernel_rfl) (by kernel_rfl) (by kernel_rfl) (e := Extern.MathFloatBits.float64bits) (by kernel_rfl)]
  rfl

theorem w32from_run (x : Nat) (w : World) : (callFunc 19 #[.int .u32 x]).run Tryd.prog w = .ok (.value (.float .f32 x)) w := by
  rw [run_callFunc_extern Tryd.func19 (by kernel_rfl) (by kernel_rfl) (by kernel_rfl) (e := Extern.MathFloatBits.float32frombits) (by kernel_rfl)]
  rfl

theorem w32bits_run (x : Nat) (w : World) : (callFunc 20 #[.float .f32 x]).run Tryd.prog w = .ok (.value (.int .u32 x)) w := by
  rw [run_callFunc_extern Tryd.func20 (by kernel_rfl) (by kernel_rfl) (by kernel_rfl) (e := Extern.MathFloatBits.float32bits) (by kernel_rfl)]
  rfl

theorem wrap_u64_of (x : Nat) (h : x < 18446744073709551616) : IntKind.u64.wrap (x : Int) = (x : Int) := by
  unfold IntKind.wrap
  simp [IntKind.bits, IntKind.signed]
  omega

theorem nan_three : (fm 3).nan = 9221120237041090560 := by decide +kernel
theorem nan_two : (fm 2).nan = 2143289344 := by decide +kernel

set_option maxRecDepth 100000 in
theorem machine_any (a b : Nat) (w : World) (ha : a < 18446744073709551616) (hb : b < 18446744073709551616) (hG : Gl w) (hR : GlR w) :
    Calls Tryd.prog 3 #[.int .u64 a, .int .u64 b] w fun e w' => e = .returned (.bool true) ∧ Below w.heap.size w w' := by
  have hm := Mul_ok 3 0 a b w (by decide) (by decide) (show a < 2 ^ (fm 3).w by rw [show (fm 3).w = 64 from rfl]; omega) (show b < 2 ^ (fm 3).w by rw [show (fm 3).w = 64 from rfl]; omega) hG hR
  have hmach := fun r => mach_mul (k := .f64) (a := a) (b := b) (r := r) (by show a < 2 ^ 64; omega) (by show b < 2 ^ 64; omega)
  rw [show kindOf .f64 = 3 from rfl] at hmach
  obtain ⟨x, hx⟩ : ∃ x, x = (mulS (fm 3) 0 a b).1 := ⟨_, rfl⟩
  obtain ⟨g, hg⟩ : ∃ g, g = (mulS (fm 3) 0 a b).2 := ⟨_, rfl⟩
  rw [← hx] at hm hmach
  rw [← hg] at hm
  rw [nan_three] at hmach
  have HM := Lib.hid hm
  have HK := Lib.hid hmach
  have HG := Lib.hid hG
  have HR := Lib.hid hR
  clear hm hmach hx hg hG hR ha hb
  have f1 := w64from_run a
  have f2 := w64from_run b
  go_enter Tryd.func3, Tryd.ntmps3
  go_wp2_with fail
  refine HM.out.mono ?_
  rintro _ w1 ⟨rfl, hb1⟩
  have HB := Lib.hid hb1
  have HG1 := Lib.hid (HG.out.below hb1)
  have HR1 := Lib.hid (HR.out.below hb1)
  clear hb1 HG HR HM
  obtain ⟨r, d, hr, hF⟩ := run_flt (P := Tryd.prog) .mul (by simp) 29 .f64 a b w1
  have hcmp := order_self (k := .f64) r
  have f3 := w64bits_run r
  have HB2 := Lib.hid (below_drewN HB.out d)
  have HG2 := Lib.hid (show Gl (w1.drewN d) from HG1.out)
  have HR2 := Lib.hid (show GlR (w1.drewN d) from HR1.out)
  clear HB HG1 HR1
  generalize w1.drewN d = w2 at *
  have hk := HK.out r hF
  clear HK hF
  rcases hk with ⟨h1, h2⟩ | ⟨h1, h2⟩
  · rw [h1] at hcmp
    subst h2
    clear h1
    go_wp2_with fail
    refine (fixed_any w2 HG2.out HR2.out).mono ?_
    rintro _ w3 ⟨rfl, hb3⟩
    have HB3 := Lib.hid (HB2.out.trans (hb3.mono HB2.out.size))
    clear hb3
    go_wp2_with fail
    go_ret
    exact ⟨by simp, HB3.out⟩
  · rw [h1] at hcmp
    subst h2
    clear h1
    go_wp2_with fail
    refine (fixed_any w2 HG2.out HR2.out).mono ?_
    rintro _ w3 ⟨rfl, hb3⟩
    have HB3 := Lib.hid (HB2.out.trans (hb3.mono HB2.out.size))
    clear hb3
    go_wp2_with fail
    go_ret
    exact ⟨by simp, HB3.out⟩

set_option maxRecDepth 100000 in
theorem single_any' (a b : Nat) (w : World) (ha : a < 4294967296) (hb : b < 4294967296) (hG : Gl w) (hR : GlR w) :
    Calls Tryd.prog 4 #[.int .u32 a, .int .u32 b] w fun e w' => e = .returned (.bool true) ∧ Below w.heap.size w w' := by
  have hm := Mul_ok 2 0 a b w (by decide) (by decide) (show a < 2 ^ (fm 2).w by rw [show (fm 2).w = 32 from rfl]; omega) (show b < 2 ^ (fm 2).w by rw [show (fm 2).w = 32 from rfl]; omega) hG hR
  have hmach := fun r => mach_mul (k := .f32) (a := a) (b := b) (r := r) (by show a < 2 ^ 32; omega) (by show b < 2 ^ 32; omega)
  rw [show kindOf .f32 = 2 from rfl] at hmach
  obtain ⟨x, hx⟩ : ∃ x, x = (mulS (fm 2) 0 a b).1 := ⟨_, rfl⟩
  obtain ⟨g, hg⟩ : ∃ g, g = (mulS (fm 2) 0 a b).2 := ⟨_, rfl⟩
  rw [← hx] at hm hmach
  rw [← hg] at hm
  rw [nan_two] at hmach
  have HM := Lib.hid hm
  have HK := Lib.hid hmach
  have HG := Lib.hid hG
  have HR := Lib.hid hR
  have wa := wrap_u64_of a (by omega)
  have wb := wrap_u64_of b (by omega)
  clear hm hmach hx hg hG hR ha hb
  have f1 := w32from_run a
  have f2 := w32from_run b
  go_enter Tryd.func4, Tryd.ntmps4
  go_wp2_with fail
  refine HM.out.mono ?_
  rintro _ w1 ⟨rfl, hb1⟩
  have HB := Lib.hid hb1
  have HG1 := Lib.hid (HG.out.below hb1)
  have HR1 := Lib.hid (HR.out.below hb1)
  clear hb1 HG HR HM
  obtain ⟨r, d, hr, hF⟩ := run_flt (P := Tryd.prog) .mul (by simp) 35 .f32 a b w1
  have hcmp := order_self (k := .f32) r
  have wr := wrap_u64_of r (by have := hF.lt; have e : FloatKind.f32.format.width = 32 := rfl; rw [e] at this; omega)
  have f3 := w32bits_run r
  have HB2 := Lib.hid (below_drewN HB.out d)
  have HG2 := Lib.hid (show Gl (w1.drewN d) from HG1.out)
  have HR2 := Lib.hid (show GlR (w1.drewN d) from HR1.out)
  clear HB HG1 HR1
  generalize w1.drewN d = w2 at *
  have hk := HK.out r hF
  clear HK hF
  rcases hk with ⟨h1, h2⟩ | ⟨h1, h2⟩
  · rw [h1] at hcmp
    subst h2
    clear h1
    go_wp2_with fail
    refine (fixed_any w2 HG2.out HR2.out).mono ?_
    rintro _ w3 ⟨rfl, hb3⟩
    have HB3 := Lib.hid (HB2.out.trans (hb3.mono HB2.out.size))
    clear hb3
    go_wp2_with fail
    go_ret
    exact ⟨by simp, HB3.out⟩
  · rw [h1] at hcmp
    subst h2
    clear h1
    go_wp2_with fail
    refine (fixed_any w2 HG2.out HR2.out).mono ?_
    rintro _ w3 ⟨rfl, hb3⟩
    have HB3 := Lib.hid (HB2.out.trans (hb3.mono HB2.out.size))
    clear hb3
    go_wp2_with fail
    go_ret
    exact ⟨by simp, HB3.out⟩

end Go.Proofs.YtcgceigmglikpaaDoor
