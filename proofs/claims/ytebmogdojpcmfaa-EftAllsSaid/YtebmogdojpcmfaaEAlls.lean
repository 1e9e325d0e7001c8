/- The walk of EftAlls. -/
import Derived.Outline
import Derived.Deep.LoopGhost
import Derived.Test.YtebmogdojpcmfaaEOne
import Derived.Test.YtebmogdojpcmfaaEft
namespace Go.Proofs.Ytebmogdojpcmfaa
set_option linter.unusedVariables false
set_option linter.unusedSimpArgs false
open Go.RowKit

/-- one operation in a list -/
def EOpAt (w : World) (b o j : Nat) : Prop := ∃ (kd f : Int) (a c : Nat), (a < 18446744073709551616 ∧ c < 18446744073709551616) ∧
  w.cell? ⟨b, o + j * 4, none⟩ = some (.int .i64 kd) ∧ w.cell? ⟨b, o + j * 4 + 1, none⟩ = some (.int .i64 f) ∧ w.cell? ⟨b, o + j * 4 + 2, none⟩ = some (.int .u64 a) ∧ w.cell? ⟨b, o + j * 4 + 3, none⟩ = some (.int .u64 c)

theorem box4 (w : World) (kd f : Int) (a d : Nat) (i : Nat) (v : Value) (h : (#[.int .i64 kd, .int .i64 f, .int .u64 a, .int .u64 d] : Array Value)[i]? = some v) :
    (w.alloc (.cells #[.int .i64 kd, .int .i64 f, .int .u64 a, .int .u64 d] 26)).cell? ⟨w.heap.size, i, none⟩ = some v := by
  rw [World.cell?_alloc_at _ _ _ _ rfl]; exact h

set_option maxRecDepth 100000 in
set_option maxHeartbeats 4000000 in
theorem ealls_any (A : Option Addr) (n c : Nat) (w : World) (hn : n ≤ 9223372036854775807) (hs : 0 < n → ∃ b o, A = some ⟨b, o, none⟩ ∧ b < w.heap.size ∧ ∀ j, j < n → EOpAt w b o j) :
    Calls Try.prog 3 #[.slice A n c] w fun e w' => e = .returned (.bool true) ∧ Below w.heap.size w w' := by
  have HA := Lib.hid (awakeE_any w)
  have HS := Lib.hid hs
  clear hs
  go_enter Try.func3, Try.ntmps3
  go_wp2_with fail
  refine HA.out.mono ?_
  rintro _ w1 ⟨rfl, hb1⟩
  have HB := Lib.hid hb1
  clear HA hb1
  go_wp2_with fail
  go_loopw [3] (fun v wr => ∃ j : Nat, j ≤ n ∧ v = .int .i64 j ∧ Hid (Below w.heap.size w wr)) (fun v _ => n - (intOf v).toNat)
  case atStart => exact ⟨0, Nat.zero_le _, rfl, HB⟩
  case round =>
    obtain ⟨j, hj, rfl, HBr⟩ := hrel
    by_cases hjn : j < n
    · obtain ⟨b, o, rfl, hb, hall⟩ := HS.out (by omega)
      obtain ⟨kd, f, a, d, ⟨la, ld⟩, k0, k1, k2, k3⟩ := hall j hjn
      have key := fun i (v : Value) (h : w.cell? ⟨b, i, none⟩ = some v) => (HBr.out.cell (p := ⟨b, i, none⟩) hb).trans h
      replace k0 := key _ _ k0
      replace k1 := key _ _ k1
      replace k2 := key _ _ k2
      replace k3 := key _ _ k3
      obtain ⟨x1, hp1, hq1⟩ := sum_same f a d la ld
      obtain ⟨x2, hp2, hq2⟩ := fast_same f a d la ld
      obtain ⟨x3, hp3, hq3⟩ := split_same f a la
      obtain ⟨x4, hp4, hq4⟩ := prod_same f a d la ld
      have HP1 := Lib.hid hp1
      have HQ1 := Lib.hid hq1
      have HP2 := Lib.hid hp2
      have HQ2 := Lib.hid hq2
      have HP3 := Lib.hid hp3
      have HQ3 := Lib.hid hq3
      have HP4 := Lib.hid hp4
      have HQ4 := Lib.hid hq4
      have hjn' : (j : Int) < n := by omega
      clear key hall la ld hb HS HB hp1 hq1 hp2 hq2 hp3 hq3 hp4 hq4
      by_cases e1 : kd = 1
      · subst e1
        clear HP2 HQ2 HP3 HQ3 HP4 HQ4 
        go_wp2_with fail
        refine (HP1.out _).mono ?_
        rintro _ w2 ⟨rfl, hb2⟩
        obtain ⟨p, q, e⟩ := x1
        rw [show tupE (p, q, e) = .tuple #[.int .u64 (p : Int), .int .u64 (q : Int), .int .i64 e] from rfl]
        have B0 := (hb2.cell (p := ⟨wr.heap.size, 0, none⟩) (by simp)).trans (box4 wr 1 f a d 0 _ rfl)
        have B1 := (hb2.cell (p := ⟨wr.heap.size, 1, none⟩) (by simp)).trans (box4 wr 1 f a d 1 _ rfl)
        have B2 := (hb2.cell (p := ⟨wr.heap.size, 2, none⟩) (by simp)).trans (box4 wr 1 f a d 2 _ rfl)
        have B3 := (hb2.cell (p := ⟨wr.heap.size, 3, none⟩) (by simp)).trans (box4 wr 1 f a d 3 _ rfl)
        replace HBr := Lib.hid (keep_belowB (HBr.out.alloc HBr.out.size _) hb2 (by have := HBr.out.size; simp <;> omega))
        clear hb2 HP1 k0 k1 k2 k3
        go_wp2_with fail
        refine (HQ1.out _).mono ?_
        rintro _ w3 ⟨rfl, hb3⟩
        rw [show tupE (p, q, e) = .tuple #[.int .u64 (p : Int), .int .u64 (q : Int), .int .i64 e] from rfl]
        replace HBr := Lib.hid (keep_belowB HBr.out hb3 (by have := HBr.out.size; omega))
        clear hb3 HQ1 B0 B1 B2 B3
        go_wp2_with fail
        go_roundw
        case rel => exact ⟨j + 1, by omega, by go_num, HBr⟩
        case measure => simp [intOf]; omega
      by_cases e2 : kd = 2
      · subst e2
        clear HP1 HQ1 HP3 HQ3 HP4 HQ4 e1
        go_wp2_with fail
        refine (HP2.out _).mono ?_
        rintro _ w2 ⟨rfl, hb2⟩
        obtain ⟨p, q, e⟩ := x2
        rw [show tupE (p, q, e) = .tuple #[.int .u64 (p : Int), .int .u64 (q : Int), .int .i64 e] from rfl]
        have B0 := (hb2.cell (p := ⟨wr.heap.size, 0, none⟩) (by simp)).trans (box4 wr 2 f a d 0 _ rfl)
        have B1 := (hb2.cell (p := ⟨wr.heap.size, 1, none⟩) (by simp)).trans (box4 wr 2 f a d 1 _ rfl)
        have B2 := (hb2.cell (p := ⟨wr.heap.size, 2, none⟩) (by simp)).trans (box4 wr 2 f a d 2 _ rfl)
        have B3 := (hb2.cell (p := ⟨wr.heap.size, 3, none⟩) (by simp)).trans (box4 wr 2 f a d 3 _ rfl)
        replace HBr := Lib.hid (keep_belowB (HBr.out.alloc HBr.out.size _) hb2 (by have := HBr.out.size; simp <;> omega))
        clear hb2 HP2 k0 k1 k2 k3
        go_wp2_with fail
        refine (HQ2.out _).mono ?_
        rintro _ w3 ⟨rfl, hb3⟩
        rw [show tupE (p, q, e) = .tuple #[.int .u64 (p : Int), .int .u64 (q : Int), .int .i64 e] from rfl]
        replace HBr := Lib.hid (keep_belowB HBr.out hb3 (by have := HBr.out.size; omega))
        clear hb3 HQ2 B0 B1 B2 B3
        go_wp2_with fail
        go_roundw
        case rel => exact ⟨j + 1, by omega, by go_num, HBr⟩
        case measure => simp [intOf]; omega
      by_cases e3 : kd = 3
      · subst e3
        clear HP1 HQ1 HP2 HQ2 HP4 HQ4 e1 e2
        go_wp2_with fail
        refine (HP3.out _).mono ?_
        rintro _ w2 ⟨rfl, hb2⟩
        obtain ⟨p, q, e⟩ := x3
        rw [show tupE (p, q, e) = .tuple #[.int .u64 (p : Int), .int .u64 (q : Int), .int .i64 e] from rfl]
        have B0 := (hb2.cell (p := ⟨wr.heap.size, 0, none⟩) (by simp)).trans (box4 wr 3 f a d 0 _ rfl)
        have B1 := (hb2.cell (p := ⟨wr.heap.size, 1, none⟩) (by simp)).trans (box4 wr 3 f a d 1 _ rfl)
        have B2 := (hb2.cell (p := ⟨wr.heap.size, 2, none⟩) (by simp)).trans (box4 wr 3 f a d 2 _ rfl)
        have B3 := (hb2.cell (p := ⟨wr.heap.size, 3, none⟩) (by simp)).trans (box4 wr 3 f a d 3 _ rfl)
        replace HBr := Lib.hid (keep_belowB (HBr.out.alloc HBr.out.size _) hb2 (by have := HBr.out.size; simp <;> omega))
        clear hb2 HP3 k0 k1 k2 k3
        go_wp2_with fail
        refine (HQ3.out _).mono ?_
        rintro _ w3 ⟨rfl, hb3⟩
        rw [show tupE (p, q, e) = .tuple #[.int .u64 (p : Int), .int .u64 (q : Int), .int .i64 e] from rfl]
        replace HBr := Lib.hid (keep_belowB HBr.out hb3 (by have := HBr.out.size; omega))
        clear hb3 HQ3 B0 B1 B2 B3
        go_wp2_with fail
        go_roundw
        case rel => exact ⟨j + 1, by omega, by go_num, HBr⟩
        case measure => simp [intOf]; omega
      by_cases e4 : kd = 4
      · subst e4
        clear HP1 HQ1 HP2 HQ2 HP3 HQ3 e1 e2 e3
        go_wp2_with fail
        refine (HP4.out _).mono ?_
        rintro _ w2 ⟨rfl, hb2⟩
        obtain ⟨p, q, e⟩ := x4
        rw [show tupE (p, q, e) = .tuple #[.int .u64 (p : Int), .int .u64 (q : Int), .int .i64 e] from rfl]
        have B0 := (hb2.cell (p := ⟨wr.heap.size, 0, none⟩) (by simp)).trans (box4 wr 4 f a d 0 _ rfl)
        have B1 := (hb2.cell (p := ⟨wr.heap.size, 1, none⟩) (by simp)).trans (box4 wr 4 f a d 1 _ rfl)
        have B2 := (hb2.cell (p := ⟨wr.heap.size, 2, none⟩) (by simp)).trans (box4 wr 4 f a d 2 _ rfl)
        have B3 := (hb2.cell (p := ⟨wr.heap.size, 3, none⟩) (by simp)).trans (box4 wr 4 f a d 3 _ rfl)
        replace HBr := Lib.hid (keep_belowB (HBr.out.alloc HBr.out.size _) hb2 (by have := HBr.out.size; simp <;> omega))
        clear hb2 HP4 k0 k1 k2 k3
        go_wp2_with fail
        refine (HQ4.out _).mono ?_
        rintro _ w3 ⟨rfl, hb3⟩
        rw [show tupE (p, q, e) = .tuple #[.int .u64 (p : Int), .int .u64 (q : Int), .int .i64 e] from rfl]
        replace HBr := Lib.hid (keep_belowB HBr.out hb3 (by have := HBr.out.size; omega))
        clear hb3 HQ4 B0 B1 B2 B3
        go_wp2_with fail
        go_roundw
        case rel => exact ⟨j + 1, by omega, by go_num, HBr⟩
        case measure => simp [intOf]; omega
      have t1 : (kd == 1) = false := by simpa using e1
      have t2 : (kd == 2) = false := by simpa using e2
      have t3 : (kd == 3) = false := by simpa using e3
      have t4 : (kd == 4) = false := by simpa using e4
      clear HP1 HQ1 HP2 HQ2 HP3 HQ3 HP4 HQ4 e1 e2 e3 e4
      replace HBr := Lib.hid (HBr.out.alloc HBr.out.size (.cells #[.int .i64 kd, .int .i64 f, .int .u64 a, .int .u64 d] 26))
      go_wp2_with fail
      go_roundw
      case rel => exact ⟨j + 1, by omega, by go_num, HBr⟩
      case measure => simp [intOf]; omega
    · obtain rfl : j = n := by omega
      clear HS HB
      go_wp2_with fail
      go_ret
      exact ⟨rfl, HBr.out⟩

end Go.Proofs.Ytebmogdojpcmfaa
