/- Walks of layer 20: the small functions of package pair. -/
import Derived.Test.YtlommmipaagcjaaFltF
namespace Go.Proofs.Ytlommmipaagcjaa
set_option linter.unusedVariables false
open Go.RowKit

theorem fin_eq {k : FloatKind} {x r : Nat} (h : FOp .sub k x x r) : (k.format.order r 0 == some .eq) = finB k x := by
  have := fin_check h
  rw [bne] at this
  cases hx : (k.format.order r 0 == some .eq) <;> cases hy : finB k x <;> simp_all

theorem pfloat_any (x : Nat) (w : World) : Calls Try.prog 25 #[.int .u64 x] w fun e w' => e = .returned (.float .f64 x) ∧ w' = w := by
  have h := f64from_run x
  go_enter Try.func25, Try.ntmps25
  go_wp2
  go_ret
  exact ⟨rfl, rfl⟩

theorem pfinite_any (x : Nat) (w : World) : Calls Try.prog 26 #[.float .f64 x] w fun e w' => e = .returned (.bool (finB .f64 x)) ∧ Below w.heap.size w w' := by
  obtain ⟨r, d, hr, hF⟩ := run_flt (P := Try.prog) .sub (by simp) 43 .f64 x x w
  have he := fin_eq hF
  generalize finB .f64 x = f at *
  clear hF
  go_enter Try.func26, Try.ntmps26
  go_wp2
  go_ret
  exact ⟨rfl, belowN d⟩

theorem psize_any (x : Nat) (w : World) : Calls Try.prog 28 #[.float .f64 x] w fun e w' => e = .returned (.float .f64 (absF .f64 x)) ∧ w' = w := by
  by_cases hc : (FloatKind.f64.format.order x 0 == some .lt) = true
  · have H : Hid (absF .f64 x = Op.negFloat .f64 x) := by show _ = _; unfold absF; rw [if_pos hc]
    have hn : Op.unary .neg (.float .f64 x) = pure (.float .f64 (Op.negFloat .f64 x)) := rfl
    go_enter Try.func28, Try.ntmps28
    go_wp2
    go_ret
    exact ⟨by rw [H.out]; rfl, rfl⟩
  · have H : Hid (absF .f64 x = x) := by show _ = _; unfold absF; rw [if_neg hc]
    have hc' : (FloatKind.f64.format.order x 0 == some .lt) = false := by simpa using hc
    clear hc
    go_enter Try.func28, Try.ntmps28
    go_wp2
    go_ret
    exact ⟨by rw [H.out]; rfl, rfl⟩

def eqB (k : FloatKind) (x y : Nat) : Bool := k.format.order x y == some .eq
def geB (k : FloatKind) (x y : Nat) : Bool := k.format.order x y == some .gt || k.format.order x y == some .eq
def leB (k : FloatKind) (x y : Nat) : Bool := k.format.order x y == some .lt || k.format.order x y == some .eq

/-- is an upper part zero or within the bounds? -/
def boundB (x : Nat) : Bool := eqB .f64 x 0 || (geB .f64 (absF .f64 x) 3256102530588868608 && leB .f64 (absF .f64 x) 5958262307011166208)

theorem bounded_any (x : Nat) (w : World) : Calls Try.prog 27 #[.float .f64 x] w fun e w' => e = .returned (.bool (boundB x)) ∧ w' = w := by
  obtain ⟨b, hb⟩ : ∃ b, b = boundB x := ⟨_, rfl⟩
  rw [← hb]
  have HE := Lib.hid hb
  clear hb
  obtain ⟨z, hz⟩ : ∃ z, (FloatKind.f64.format.order x 0 == some .eq) = z := ⟨_, rfl⟩
  have Hz : Hid (eqB .f64 x 0 = z) := hz
  have c1 := pfloat_any 3256102530588868608
  have c2 := pfloat_any 5958262307011166208
  cases z
  · go_enter Try.func27, Try.ntmps27
    go_wp2_with fail
    refine (psize_any x w).mono ?_
    rintro _ w1 ⟨rfl, rfl⟩
    obtain ⟨y, hy⟩ : ∃ y, y = absF .f64 x := ⟨_, rfl⟩
    rw [← hy]
    have Hy := Lib.hid hy
    clear hy
    go_wp2_with fail
    refine (pfloat_any 3256102530588868608 _).mono ?_
    rintro _ w2 ⟨rfl, rfl⟩
    obtain ⟨g, hg⟩ : ∃ g, (FloatKind.f64.format.order y 3256102530588868608 == some .gt || FloatKind.f64.format.order y 3256102530588868608 == some .eq) = g := ⟨_, rfl⟩
    have Hg : Hid (geB .f64 y 3256102530588868608 = g) := hg
    cases g
    · have H : Hid (b = false) := by show _ = _; rw [HE.out]; unfold boundB; rw [Hz.out, ← Hy.out, Hg.out]; rfl
      go_wp2
      go_ret
      exact ⟨by rw [H.out]; rfl, rfl⟩
    · go_wp2_with fail
      refine (psize_any x _).mono ?_
      rintro _ w3 ⟨rfl, rfl⟩
      rw [← Hy.out]
      go_wp2_with fail
      refine (pfloat_any 5958262307011166208 _).mono ?_
      rintro _ w4 ⟨rfl, rfl⟩
      obtain ⟨l, hl⟩ : ∃ l, (FloatKind.f64.format.order y 5958262307011166208 == some .lt || FloatKind.f64.format.order y 5958262307011166208 == some .eq) = l := ⟨_, rfl⟩
      have Hl : Hid (leB .f64 y 5958262307011166208 = l) := hl
      have H : Hid (b = l) := by show _ = _; rw [HE.out]; unfold boundB; rw [Hz.out, ← Hy.out, Hg.out, Hl.out]; rfl
      go_wp2
      go_ret
      exact ⟨by rw [H.out]; rfl, rfl⟩
  · have H : Hid (b = true) := by show _ = _; rw [HE.out]; unfold boundB; rw [Hz.out]; rfl
    go_enter Try.func27, Try.ntmps27
    go_wp2
    go_ret
    exact ⟨by rw [H.out]; rfl, rfl⟩

/-- a part's bits -/
def bitsF (x : Nat) : Nat := if eqB .f64 x 0 = true then 0 else x

theorem pbits_any (x : Nat) (w : World) : Calls Try.prog 36 #[.float .f64 x] w fun e w' => e = .returned (.int .u64 (bitsF x : Nat)) ∧ w' = w := by
  have h := f64bits_run x
  obtain ⟨z, hz⟩ : ∃ z, (FloatKind.f64.format.order x 0 == some .eq) = z := ⟨_, rfl⟩
  have Hz : Hid (eqB .f64 x 0 = z) := hz
  cases z
  · have H : Hid (bitsF x = x) := by show _ = _; unfold bitsF; rw [Hz.out]; rfl
    go_enter Try.func36, Try.ntmps36
    go_wp2
    go_ret
    exact ⟨by rw [H.out]; rfl, rfl⟩
  · have H : Hid (bitsF x = 0) := by show _ = _; unfold bitsF; rw [Hz.out]; rfl
    go_enter Try.func36, Try.ntmps36
    go_wp2
    go_ret
    exact ⟨by rw [H.out]; rfl, rfl⟩

end Go.Proofs.Ytlommmipaagcjaa
