/- Walks of layer 18: refuses. -/
import Derived.Test.YtlibhfojfonfjaaGreatDoorFltD
namespace Go.Proofs.YtlibhfojfonfjaaGreatDoor
set_option linter.unusedVariables false
open Go.RowKit

/-- block b holds the words xs -/
def RdU (w : World) (b : Nat) (xs : List Nat) : Prop := ∀ j, j < xs.length → w.cell? ⟨b, j, none⟩ = some (.int .u64 (xs.getD j 0 : Nat))

theorem RdU.below {w w' : World} {b : Nat} {xs : List Nat} (h : RdU w b xs) (hb : b < w.heap.size) (hB : Below w.heap.size w w') : RdU w' b xs := fun j hj => (hB.cell (p := ⟨b, j, none⟩) hb).trans (h j hj)

theorem all_take (f : Nat → Bool) (xs : List Nat) (h : ∀ i, i < xs.length → f (xs.getD i 0) = true) : xs.all f = true := by
  rw [List.all_eq_true]
  intro y hy
  obtain ⟨i, hi, rfl⟩ := List.getElem_of_mem hy
  have := h i hi
  rwa [getD_elem xs i hi] at this

theorem all_not (f : Nat → Bool) (xs : List Nat) (j : Nat) (hj : j < xs.length) (h : f (xs.getD j 0) = false) : xs.all f = false := by
  rw [List.all_eq_false]
  exact ⟨xs.getD j 0, getD_mem xs j hj, by rw [h]; decide⟩

theorem next_all {f : Nat → Bool} {xs : List Nat} {j : Nat} {x : Nat} (hall : ∀ i, i < j → f (xs.getD i 0) = true) (hx : x = xs.getD j 0) (h : f x = true) : ∀ i, i < j + 1 → f (xs.getD i 0) = true := fun i hi => by
  rcases Nat.lt_or_ge i j with h' | h'
  · exact hall i h'
  · obtain rfl : i = j := by omega
    rw [← hx]; exact h

theorem shr32 (x : Nat) : ((x : Int) / 4294967296 != 0) = !decide (x < 4294967296) := by
  by_cases h : x < 4294967296
  · have : (x : Int) / 4294967296 = 0 := by omega
    rw [this]; simp [h]
  · have : (x : Int) / 4294967296 ≠ 0 := by omega
    simp [h, this]

set_option maxHeartbeats 2000000 in
theorem refuses_three (pb : Nat) (xs : List Nat) (w : World) (hp : RdU w pb xs) (hb : pb < w.heap.size) (hn : xs.length ≤ 100) :
    Calls Tryz.prog 18 #[.int .i64 3, .slice (some ⟨pb, 0, none⟩) xs.length xs.length] w fun e w' => e = .returned (.int .i64 (if xs.all (finB .f64) = true then 0 else 40)) ∧ Below w.heap.size w w' := by
  obtain ⟨n, hnl⟩ : ∃ n, n = xs.length := ⟨_, rfl⟩
  have hp' := hp
  unfold RdU at hp'
  obtain ⟨E, hE⟩ : ∃ E : Int, E = (if xs.all (finB .f64) = true then 0 else 40) := ⟨_, rfl⟩
  rw [← hE]
  rw [← hnl] at hn hp' ⊢
  have Hnl := Lib.hid hnl
  have HE := Lib.hid hE
  clear hnl hE
  go_enter Tryz.func18, Tryz.ntmps18
  go_wp2
  go_loopw [17, 6] (fun v _ wr => ∃ j : Nat, j ≤ n ∧ v = .int .i64 j ∧ wr = w) (fun v _ _ => n - (intOf v).toNat)
  case atStart => exact ⟨0, Nat.zero_le _, rfl, rfl⟩
  case round =>
    obtain ⟨j, hj, rfl, rfl⟩ := hrel
    by_cases hjn : j < n
    · have hc := hp' j hjn
      have hjn' : (j : Int) < n := by omega
      go_wp2
      go_roundw
      case rel => exact ⟨j + 1, by omega, by go_num, by first | trivial | rfl⟩
      case measure => simp [intOf]; omega
    · obtain rfl : j = n := by omega
      go_wp2
      go_loopw [31, 8] (fun v _ w2 => ∃ i : Nat, i ≤ j ∧ v = .int .i64 i ∧ Hid (∀ k, k < i → finB .f64 (xs.getD k 0) = true) ∧ Below wr.heap.size wr w2) (fun v _ _ => j - (intOf v).toNat)
      case atStart => exact ⟨0, Nat.zero_le _, rfl, fun k hk => absurd hk (Nat.not_lt_zero _), Below.refl _ _⟩
      case round =>
        obtain ⟨i, hi, rfl, hall, hB⟩ := hrel
        by_cases hin : i < j
        · have hc := (hB.cell (p := ⟨pb, i, none⟩) hb).trans (hp' i hin)
          have hin' : (i : Int) < j := by omega
          obtain ⟨x, hx⟩ : ∃ x, x = xs.getD i 0 := ⟨_, rfl⟩
          rw [← hx] at hc
          have Hx := Lib.hid hx
          clear hx
          go_wp2_with fail
          refine (double_any x _).mono ?_
          rintro _ w3 ⟨rfl, rfl⟩
          go_wp2_with fail
          refine (finite_f64 w3.heap.size [x] (w3.alloc (Obj.cells #[.float .f64 x] 52)) (RdF.new .f64 w3 [x] 52) (by simp)).mono ?_
          rintro _ w4 ⟨rfl, d4, rfl⟩
          rw [show ([x].all (finB .f64)) = finB .f64 x from by simp]
          have HB := Lib.hid (below_drewN (hB.alloc hB.size (Obj.cells #[.float .f64 x] 52)) d4)
          obtain ⟨ok, hok⟩ : ∃ ok, finB .f64 x = ok := ⟨_, rfl⟩
          rw [hok]
          cases ok
          · have H : Hid (xs.all (finB .f64) = false) := all_not _ xs i (by rw [← Hnl.out]; exact hin) (by rw [← Hx.out]; exact hok)
            clear hall hB hc hok
            go_wp2
            go_ret
            exact ⟨by rw [HE.out, H.out]; rfl, HB.out⟩
          · have H := Lib.hid (next_all hall.out Hx.out hok)
            clear hall hB hc hok
            go_wp2
            go_roundw
            case rel => exact ⟨i + 1, by omega, by go_num, H, HB.out⟩
            case measure => simp [intOf]; omega
        · obtain rfl : i = j := by omega
          have H : Hid (xs.all (finB .f64) = true) := all_take _ xs (fun k hk => hall.out k (by rw [Hnl.out]; exact hk))
          clear hall
          go_wp2
          go_ret
          exact ⟨by rw [HE.out, H.out]; rfl, hB⟩

set_option maxHeartbeats 2000000 in
theorem refuses_two (pb : Nat) (xs : List Nat) (w : World) (hp : RdU w pb xs) (hb : pb < w.heap.size) (hn : xs.length ≤ 100) :
    Calls Tryz.prog 18 #[.int .i64 2, .slice (some ⟨pb, 0, none⟩) xs.length xs.length] w fun e w' =>
      e = .returned (.int .i64 (if xs.all (fun x => decide (x < 4294967296)) = true then (if xs.all (fun x => finB .f32 (x % 4294967296)) = true then 0 else 40) else 4)) ∧ Below w.heap.size w w' := by
  obtain ⟨n, hnl⟩ : ∃ n, n = xs.length := ⟨_, rfl⟩
  have hp' := hp
  unfold RdU at hp'
  obtain ⟨E, hE⟩ : ∃ E : Int, E = (if xs.all (fun x => decide (x < 4294967296)) = true then (if xs.all (fun x => finB .f32 (x % 4294967296)) = true then 0 else 40) else 4) := ⟨_, rfl⟩
  rw [← hE]
  rw [← hnl] at hn hp' ⊢
  have Hnl := Lib.hid hnl
  have HE := Lib.hid hE
  clear hnl hE
  go_enter Tryz.func18, Tryz.ntmps18
  go_wp2
  go_loopw [17, 6] (fun v _ wr => ∃ j : Nat, j ≤ n ∧ v = .int .i64 j ∧ Hid (∀ k, k < j → decide (xs.getD k 0 < 4294967296) = true) ∧ wr = w) (fun v _ _ => n - (intOf v).toNat)
  case atStart => exact ⟨0, Nat.zero_le _, rfl, fun k hk => absurd hk (Nat.not_lt_zero _), rfl⟩
  case round =>
    obtain ⟨j, hj, rfl, hsm, rfl⟩ := hrel
    by_cases hjn : j < n
    · have hc := hp' j hjn
      have hjn' : (j : Int) < n := by omega
      obtain ⟨x, hx⟩ : ∃ x, x = xs.getD j 0 := ⟨_, rfl⟩
      rw [← hx] at hc
      have Hx := Lib.hid hx
      have hsh := shr32 x
      clear hx hp' hp
      by_cases hlt : x < 4294967296
      · have H := Lib.hid (next_all (f := fun y => decide (y < 4294967296)) hsm.out Hx.out (by simpa using hlt))
        have e1 : decide (x < 4294967296) = true := by simpa using hlt
        rw [e1] at hsh
        clear hlt e1 hsm
        go_wp2
        go_roundw
        case rel => exact ⟨j + 1, by omega, by go_num, H, by first | trivial | rfl⟩
        case measure => simp [intOf]; omega
      · have e1 : decide (x < 4294967296) = false := by simpa using hlt
        have H : Hid (xs.all (fun y => decide (y < 4294967296)) = false) := all_not _ xs j (by rw [← Hnl.out]; exact hjn) (by rw [← Hx.out]; exact e1)
        rw [e1] at hsh
        clear hlt e1 hsm
        go_wp2
        go_ret
        exact ⟨by rw [HE.out, H.out]; rfl, Below.refl _ _⟩
    · obtain rfl : j = n := by omega
      have H4 : Hid (xs.all (fun y => decide (y < 4294967296)) = true) := all_take _ xs (fun k hk => hsm.out k (by rw [Hnl.out]; exact hk))
      clear hsm
      go_wp2
      go_loopw [31, 8] (fun v _ w2 => ∃ i : Nat, i ≤ j ∧ v = .int .i64 i ∧ Hid (∀ k, k < i → finB .f32 (xs.getD k 0 % 4294967296) = true) ∧ Below wr.heap.size wr w2) (fun v _ _ => j - (intOf v).toNat)
      case atStart => exact ⟨0, Nat.zero_le _, rfl, fun k hk => absurd hk (Nat.not_lt_zero _), Below.refl _ _⟩
      case round =>
        obtain ⟨i, hi, rfl, hall, hB⟩ := hrel
        by_cases hin : i < j
        · have hc := (hB.cell (p := ⟨pb, i, none⟩) hb).trans (hp' i hin)
          have hin' : (i : Int) < j := by omega
          obtain ⟨x, hx⟩ : ∃ x, x = xs.getD i 0 := ⟨_, rfl⟩
          rw [← hx] at hc
          have Hx := Lib.hid hx
          clear hx hp' hp
          go_wp2_with fail
          refine (esingle_any x _).mono ?_
          rintro _ w3 ⟨rfl, rfl⟩
          obtain ⟨y, hy⟩ : ∃ y, y = x % 4294967296 := ⟨_, rfl⟩
          rw [← hy]
          have Hy := Lib.hid hy
          clear hy
          go_wp2_with fail
          refine (finite_f32 w3.heap.size [y] (w3.alloc (Obj.cells #[.float .f32 y] 49)) (RdF.new .f32 w3 [y] 49) (by simp)).mono ?_
          rintro _ w4 ⟨rfl, d4, rfl⟩
          rw [show ([y].all (finB .f32)) = finB .f32 y from by simp]
          have HB := Lib.hid (below_drewN (hB.alloc hB.size (Obj.cells #[.float .f32 y] 49)) d4)
          obtain ⟨ok, hok⟩ : ∃ ok, finB .f32 y = ok := ⟨_, rfl⟩
          rw [hok]
          cases ok
          · have H : Hid (xs.all (fun z => finB .f32 (z % 4294967296)) = false) := all_not (fun z => finB .f32 (z % 4294967296)) xs i (by rw [← Hnl.out]; exact hin) (by show finB .f32 (xs.getD i 0 % 4294967296) = false; rw [← Hx.out, ← Hy.out]; exact hok)
            clear hall hB hc hok
            go_wp2
            go_ret
            exact ⟨by rw [HE.out, H4.out, H.out]; rfl, HB.out⟩
          · have H := Lib.hid (next_all (f := fun z => finB .f32 (z % 4294967296)) hall.out Hx.out (by show finB .f32 (x % 4294967296) = true; rw [← Hy.out]; exact hok))
            clear hall hB hc hok
            go_wp2
            go_roundw
            case rel => exact ⟨i + 1, by omega, by go_num, H, HB.out⟩
            case measure => simp [intOf]; omega
        · obtain rfl : i = j := by omega
          have H : Hid (xs.all (fun z => finB .f32 (z % 4294967296)) = true) := all_take (fun z => finB .f32 (z % 4294967296)) xs (fun k hk => hall.out k (by rw [Hnl.out]; exact hk))
          clear hall
          go_wp2
          go_ret
          exact ⟨by rw [HE.out, H4.out, H.out]; rfl, hB⟩

end Go.Proofs.YtlibhfojfonfjaaGreatDoor
