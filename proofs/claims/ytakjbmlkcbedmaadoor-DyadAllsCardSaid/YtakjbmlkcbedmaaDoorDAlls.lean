/- The walk of DyadAlls. -/
import Derived.Outline
import Derived.Deep.LoopGhost
import Derived.Test.YtakjbmlkcbedmaaDoorDOne
import Derived.Test.YtakjbmlkcbedmaaDoorDOpen
namespace Go.Proofs.YtakjbmlkcbedmaaDoor
set_option linter.unusedVariables false
set_option linter.unusedSimpArgs false
open Go.RowKit

set_option maxRecDepth 100000 in
set_option maxHeartbeats 4000000 in
theorem dalls_any (A : Option Addr) (n c : Nat) (w : World) (hn : n ≤ 9223372036854775807) (hs : 0 < n → ∃ b o, A = some ⟨b, o, none⟩ ∧ b < w.heap.size ∧ ∀ j, j < n → OpD w b o j) (hG : Gl w) :
    Calls Tryd.prog 3 #[.slice A n c] w fun e w' => e = .returned (.bool true) ∧ Below w.heap.size w w' := by
  have HG := Lib.hid hG
  have HA := Lib.hid (awake_any w hG)
  have HS := Lib.hid hs
  clear hG hs
  go_enter Tryd.func3, Tryd.ntmps3
  go_wp2_with fail
  refine HA.out.mono ?_
  rintro _ w1 ⟨rfl, hb1⟩
  have HB := Lib.hid hb1
  clear HA hb1
  go_wp2_with fail
  go_loopw [3] (fun v wr => ∃ j : Nat, j ≤ n ∧ v = .int .i64 j ∧ Hid (Below w.heap.size w wr)) (fun v _ => n - (intOf v).toNat)
  case atStart => exact ⟨0, Nat.zero_le _, rfl, HB⟩
  case round =>
    obtain ⟨j, hj, rfl, HBr⟩ := hrel
    by_cases hjn : j < n
    · obtain ⟨b, o, rfl, hb, hall⟩ := HS.out (by omega)
      obtain ⟨kd, s1, s2, A1, A2, N, n1, c1, M, n2, c2, e1, e2, k, ⟨r1, r2, a1, a2, l1, l2, hk⟩, k0, k1, k2, k3, k4, k5, k6, k7⟩ := hall j hjn
      have key := fun i (v : Value) (h : w.cell? ⟨b, i, none⟩ = some v) => (HBr.out.cell (p := ⟨b, i, none⟩) hb).trans h
      replace k0 := key _ _ k0
      replace k1 := key _ _ k1
      replace k2 := key _ _ k2
      replace k3 := key _ _ k3
      replace k4 := key _ _ k4
      replace k5 := key _ _ k5
      replace k6 := key _ _ k6
      replace k7 := key _ _ k7
      have HO := Lib.hid (one_any kd s1 s2 A1 A2 N n1 c1 M n2 c2 e1 e2 k wr (r1.below HBr.out) (r2.below HBr.out) a1 a2 l1 l2 hk (HG.out.below HBr.out))
      have hjn' : (j : Int) < n := by omega
      clear key hall r1 r2 a1 a2 l1 l2 hk hb HS HB
      by_cases h1 : 1 ≤ kd
      · by_cases h2 : kd ≤ 11
        · have t1 : decide (1 ≤ kd) = true := decide_eq_true h1
          have t2 : decide (kd ≤ 11) = true := decide_eq_true h2
          clear h1 h2
          go_wp2_with fail
          refine HO.out.mono ?_
          rintro _ w2 ⟨rfl, hb2⟩
          replace HBr := Lib.hid (keep_belowB HBr.out hb2 (by have := HBr.out.size; omega))
          clear hb2 HO k0 k1 k2 k3 k4 k5 k6 k7
          go_wp2_with fail
          go_roundw
          case rel => exact ⟨j + 1, by omega, by go_num, HBr⟩
          case measure => simp [intOf]; omega
        · have t1 : decide (1 ≤ kd) = true := decide_eq_true h1
          have t2 : decide (kd ≤ 11) = false := decide_eq_false h2
          clear h1 h2 HO
          go_wp2_with fail
          go_roundw
          case rel => exact ⟨j + 1, by omega, by go_num, HBr⟩
          case measure => simp [intOf]; omega
      · have t1 : decide (1 ≤ kd) = false := decide_eq_false h1
        clear h1 HO
        go_wp2_with fail
        go_roundw
        case rel => exact ⟨j + 1, by omega, by go_num, HBr⟩
        case measure => simp [intOf]; omega
    · obtain rfl : j = n := by omega
      clear HS HB
      go_wp2_with fail
      go_ret
      exact ⟨rfl, HBr.out⟩

end Go.Proofs.YtakjbmlkcbedmaaDoor
