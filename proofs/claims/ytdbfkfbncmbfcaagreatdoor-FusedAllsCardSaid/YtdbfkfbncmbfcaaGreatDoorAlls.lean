/- The walk of FusedAlls. -/
import Derived.Outline
import Derived.Deep.LoopGhost
import Derived.Test.YtdbfkfbncmbfcaaGreatDoorAllsOne
namespace Go.Proofs.YtdbfkfbncmbfcaaGreatDoor
set_option linter.unusedVariables false
set_option linter.unusedSimpArgs false
open Go.RowKit

/-- one operation in a list -/
def OpAt (w : World) (b o j : Nat) : Prop := ∃ (kd f m : Int) (a b' c d : Nat), (a < 18446744073709551616 ∧ b' < 18446744073709551616 ∧ c < 18446744073709551616 ∧ d < 18446744073709551616) ∧
  w.cell? ⟨b, o + j * 7, none⟩ = some (.int .i64 kd) ∧ w.cell? ⟨b, o + j * 7 + 1, none⟩ = some (.int .i64 f) ∧ w.cell? ⟨b, o + j * 7 + 2, none⟩ = some (.int .i64 m) ∧ w.cell? ⟨b, o + j * 7 + 3, none⟩ = some (.int .u64 a) ∧ w.cell? ⟨b, o + j * 7 + 4, none⟩ = some (.int .u64 b') ∧ w.cell? ⟨b, o + j * 7 + 5, none⟩ = some (.int .u64 c) ∧ w.cell? ⟨b, o + j * 7 + 6, none⟩ = some (.int .u64 d)

set_option maxRecDepth 100000 in
set_option maxHeartbeats 4000000 in
theorem alls_any (A : Option Addr) (n c : Nat) (w : World) (hn : n ≤ 9223372036854775807) (hs : 0 < n → ∃ b o, A = some ⟨b, o, none⟩ ∧ b < w.heap.size ∧ ∀ j, j < n → OpAt w b o j) (hG : Gl w) (hR : GlR w) :
    Calls Tryz.prog 3 #[.slice A n c] w fun e w' => e = .returned (.bool true) ∧ Below w.heap.size w w' := by
  have HG := Lib.hid hG
  have HR := Lib.hid hR
  have HA := Lib.hid (fawake_any w hG hR)
  have HS := Lib.hid hs
  clear hG hR hs
  go_enter Tryz.func3, Tryz.ntmps3
  go_wp2_with fail
  refine HA.out.mono ?_
  rintro _ w1 ⟨rfl, hb1⟩
  have HB := Lib.hid hb1
  clear HA hb1
  go_wp2_with fail
  go_loopw [3] (fun v wr => ∃ j : Nat, j ≤ n ∧ v = .int .i64 j ∧ Hid (Below w.heap.size w wr)) (fun v _ => n - (intOf v).toNat)
  case atStart => exact ⟨0, Nat.zero_le _, rfl, HB⟩
  case round =>
    obtain ⟨j, hj, rfl, HBr⟩ := hrel
    by_cases hjn : j < n
    · obtain ⟨b, o, rfl, hb, hall⟩ := HS.out (by omega)
      obtain ⟨kd, f, m, a, b', c', d, ⟨la, lb, lc, ld⟩, k0, k1, k2, k3, k4, k5, k6⟩ := hall j hjn
      have key := fun i (v : Value) (h : w.cell? ⟨b, i, none⟩ = some v) => (HBr.out.cell (p := ⟨b, i, none⟩) hb).trans h
      replace k0 := key _ _ k0
      replace k1 := key _ _ k1
      replace k2 := key _ _ k2
      replace k3 := key _ _ k3
      replace k4 := key _ _ k4
      replace k5 := key _ _ k5
      replace k6 := key _ _ k6
      have HO := Lib.hid (lone_any kd f m a b' c' d wr la lb lc ld (HG.out.below HBr.out) (HR.out.below HBr.out))
      unfold opArr at HO
      have hjn' : (j : Int) < n := by omega
      clear key hall la lb lc ld hb HS HB
      go_wp2_with fail
      refine HO.out.mono ?_
      rintro _ w2 ⟨rfl, hb2⟩
      replace HBr := Lib.hid (keep_belowB HBr.out hb2 (by have := HBr.out.size; omega))
      clear hb2 HO k0 k1 k2 k3 k4 k5 k6
      go_wp2_with fail
      go_roundw
      case rel => exact ⟨j + 1, by omega, by go_num, HBr⟩
      case measure => simp [intOf]; omega
    · obtain rfl : j = n := by omega
      clear HS HB
      go_wp2_with fail
      go_ret
      exact ⟨rfl, HBr.out⟩

end Go.Proofs.YtdbfkfbncmbfcaaGreatDoor
