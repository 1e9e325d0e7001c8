/- The contracts of math/bits (Len64, Mul64, TrailingZeros64) at this translation: each one application of the shelf's theorem. -/
import Derived.Shelf.Strconv.Itoa0
import Derived.Shelf.Bits.Mul64
import Derived.Shelf.Spec.TrailingZeros
import Derived.Shelf.Spec.BitsCarry
import Derived.Test.YtcgceigmglikpaaDoorProg
import Derived.Test.YtcgceigmglikpaaDoorNum
namespace Go.Proofs.YtcgceigmglikpaaDoor
set_option linter.unusedVariables false
open Go.Shelf

theorem bitLenAux_eq : ∀ (f x : Nat), x < 2 ^ f → Lib.bitLenAux f x = bl x
  | 0, x, h => by simp at h; subst h; rfl
  | f + 1, x, h => by
    unfold Lib.bitLenAux
    by_cases hx : x = 0
    · rw [if_pos hx, hx]; rfl
    · rw [if_neg hx, bitLenAux_eq f (x / 2) (by rw [Nat.pow_succ] at h; omega)]
      unfold bl
      rw [if_neg hx]
      by_cases h1 : x / 2 = 0
      · rw [if_pos h1]
        have : x = 1 := by omega
        subst this; rfl
      · rw [if_neg h1, Nat.log2_def x, if_pos (by omega)]; omega

def lays129_ren : Go.Shelf.Ren := ⟨fun | 129 => 142 | n => n, fun | 53 => 22 | 3 => 3 | 4 => 4 | 46 => 128 | 5 => 5 | 9 => 9 | n => n, fun | n => n⟩
theorem lays129 : Go.Proofs.Lays.n129 Tryd.prog lays129_ren := {
  mixed := by kernel_rfl
  f129 := Tryd.func142.trans (congrArg some (by kernel_rfl))
  t3 := Tryd.underlying3
  a3 := Tryd.isAgg3
  z3 := Tryd.sizeOf3
  v3 := Tryd.zeroValue3
  t4 := Tryd.underlying4
  a4 := Tryd.isAgg4
  z4 := Tryd.sizeOf4
  v4 := Tryd.zeroValue4
  t5 := Tryd.underlying5
  a5 := Tryd.isAgg5
  z5 := Tryd.sizeOf5
  v5 := Tryd.zeroValue5
  t9 := Tryd.underlying9
  a9 := Tryd.isAgg9
  z9 := Tryd.sizeOf9
  v9 := Tryd.zeroValue9
  t46 := Tryd.underlying128
  a46 := Tryd.isAgg128
  z46 := Tryd.sizeOf128
  v46 := Tryd.zeroValue128
  t53 := Tryd.underlying22
  a53 := Tryd.isAgg22
  z53 := Tryd.sizeOf22
  v53 := Tryd.zeroValue22 }
theorem len64_any (x : Nat) (w : World) (h : x < 18446744073709551616) :
    Calls Tryd.prog 142 #[.int .u64 x] w fun e w' => e = .returned (.int .i64 (bl x)) ∧ w = w' :=
  (Any.bits_Len64 lays129 x w (by omega) (by omega)).mono fun e w' ⟨he, hw⟩ => ⟨by rw [he, Int.toNat_natCast]; unfold Lib.bitLen; rw [bitLenAux_eq 64 x h], hw.symm⟩
def lays264_ren : Go.Shelf.Ren := ⟨fun | 264 => 106 | n => n, fun | 53 => 22 | 46 => 128 | n => n, fun | n => n⟩
theorem lays264 : Go.Proofs.Lays.n264 Tryd.prog lays264_ren := {
  mixed := by kernel_rfl
  f264 := Tryd.func106.trans (congrArg some (by kernel_rfl))
  t46 := Tryd.underlying128
  a46 := Tryd.isAgg128
  z46 := Tryd.sizeOf128
  v46 := Tryd.zeroValue128
  t53 := Tryd.underlying22
  a53 := Tryd.isAgg22
  z53 := Tryd.sizeOf22
  v53 := Tryd.zeroValue22 }
theorem mul64_any (x y : Nat) (w : World) (hx : x < 18446744073709551616) (hy : y < 18446744073709551616) :
    Calls Tryd.prog 106 #[.int .u64 x, .int .u64 y] w fun e w' => e = .returned (.tuple #[.int .u64 ((x * y / 18446744073709551616 : Nat) : Int), .int .u64 ((x * y % 18446744073709551616 : Nat) : Int)]) ∧ w = w' :=
  (Any.bits_Mul64 lays264 x y hx hy w).mono fun e w' ⟨he, hw⟩ => ⟨he, hw.symm⟩
def lays29_ren : Go.Shelf.Ren := ⟨fun | 29 => 78 | n => n, fun | 0 => 0 | 3 => 3 | 4 => 4 | 5 => 5 | 22 => 22 | 25 => 128 | 54 => 161 | n => n, fun | 1 => 2 | n => n⟩
theorem lays29 : Go.Proofs.Lays7.n29 Tryd.prog lays29_ren := {
  mixed := by kernel_rfl
  f29 := Tryd.func78.trans (congrArg some (by kernel_rfl))
  t0 := Tryd.underlying0
  a0 := Tryd.isAgg0
  z0 := Tryd.sizeOf0
  v0 := Tryd.zeroValue0
  i0 := by kernel_rfl
  t3 := Tryd.underlying3
  a3 := Tryd.isAgg3
  z3 := Tryd.sizeOf3
  v3 := Tryd.zeroValue3
  i3 := by kernel_rfl
  t4 := Tryd.underlying4
  a4 := Tryd.isAgg4
  z4 := Tryd.sizeOf4
  v4 := Tryd.zeroValue4
  i4 := by kernel_rfl
  t5 := Tryd.underlying5
  a5 := Tryd.isAgg5
  z5 := Tryd.sizeOf5
  v5 := Tryd.zeroValue5
  i5 := by kernel_rfl
  t22 := Tryd.underlying22
  a22 := Tryd.isAgg22
  z22 := Tryd.sizeOf22
  v22 := Tryd.zeroValue22
  i22 := by kernel_rfl
  t25 := Tryd.underlying128
  a25 := Tryd.isAgg128
  z25 := Tryd.sizeOf128
  v25 := Tryd.zeroValue128
  i25 := by kernel_rfl
  t54 := Tryd.underlying161
  a54 := Tryd.isAgg161
  z54 := Tryd.sizeOf161
  g1 := by kernel_rfl }
/-- the table in its variable -/
def TzTab (w : World) : Prop := TabAt 2 Lib.deBruijn64tab w
/-- how many zero bits stand at the beginning -/
def tz (x : Nat) : Nat := Lib.ctz 64 x
theorem tz_spec (x : Nat) (h : x < 18446744073709551616) (h0 : x ≠ 0) : ∃ m, x = 2 ^ tz x * (2 * m + 1) ∧ tz x < 64 := by
  unfold tz Lib.ctz
  rw [if_neg h0]
  exact Lib.ctzFrom_spec 64 x (by omega) h
theorem tz64_any (x : Nat) (w : World) (h : x < 18446744073709551616) (hT : TzTab w) :
    Calls Tryd.prog 78 #[.int .u64 x] w fun e w' => e = .returned (.int .i64 (tz x)) ∧ w = w' :=
  (Any7.bits_TrailingZeros64 lays29 x h w (fun _ => hT)).mono fun e w' ⟨he, hw⟩ => ⟨he, hw.symm⟩
theorem add64_run (x y c : Nat) (hc : c ≤ 1) (w : World) :
    (callFunc 152 #[.int .u64 x, .int .u64 y, .int .u64 c]).run Tryd.prog w =
      .ok (.value (.tuple #[.int .u64 (((x + y + c) % 18446744073709551616 : Nat) : Int), .int .u64 (((x + y + c) / 18446744073709551616 : Nat) : Int)])) w := by
  rw [run_callFunc_extern Tryd.func152 (by kernel_rfl) (by kernel_rfl) (by kernel_rfl) (e := add64Entry) (by kernel_rfl), run_add64 x y c (by omega) (by omega) (by omega) (by omega)]
  simp only [Result.andThen]
  congr 5 <;> omega
theorem add64_run0 (x c : Nat) (hc : c ≤ 1) (w : World) :
    (callFunc 152 #[.int .u64 x, .int .u64 0, .int .u64 c]).run Tryd.prog w =
      .ok (.value (.tuple #[.int .u64 (((x + 0 + c) % 18446744073709551616 : Nat) : Int), .int .u64 (((x + 0 + c) / 18446744073709551616 : Nat) : Int)])) w := add64_run x 0 c hc w
theorem add64_runc (x y : Nat) (w : World) :
    (callFunc 152 #[.int .u64 x, .int .u64 y, .int .u64 0]).run Tryd.prog w =
      .ok (.value (.tuple #[.int .u64 (((x + y + 0) % 18446744073709551616 : Nat) : Int), .int .u64 (((x + y + 0) / 18446744073709551616 : Nat) : Int)])) w := add64_run x y 0 (by omega) w
theorem sub64_run (x y b : Nat) (hb : b ≤ 1) (w : World) :
    (callFunc 153 #[.int .u64 x, .int .u64 y, .int .u64 b]).run Tryd.prog w =
      .ok (.value (.tuple #[.int .u64 (((x + 18446744073709551616 - y - b) % 18446744073709551616 : Nat) : Int), .int .u64 ((if x < y + b then 1 else 0 : Nat) : Int)])) w := by
  rw [run_callFunc_extern Tryd.func153 (by kernel_rfl) (by kernel_rfl) (by kernel_rfl) (e := sub64Entry) (by kernel_rfl), run_sub64 x y b hb]
  rfl
theorem sub64_run0 (x b : Nat) (hb : b ≤ 1) (w : World) :
    (callFunc 153 #[.int .u64 x, .int .u64 0, .int .u64 b]).run Tryd.prog w =
      .ok (.value (.tuple #[.int .u64 (((x + 18446744073709551616 - 0 - b) % 18446744073709551616 : Nat) : Int), .int .u64 ((if x < 0 + b then 1 else 0 : Nat) : Int)])) w := sub64_run x 0 b hb w
end Go.Proofs.YtcgceigmglikpaaDoor
