/- Walks of layer 18: finite. -/
import Derived.Outline
import Derived.Deep.LoopGhost
import Derived.Lib.Hide
import Derived.Test.YtlibhfojfonfjaaGreatDoorProg
import Derived.Test.YtlibhfojfonfjaaGreatDoorFlt
namespace Go.Proofs.YtlibhfojfonfjaaGreatDoor
set_option linter.unusedVariables false
open Go.RowKit

theorem order_nan {k : FloatKind} {x y : Nat} (h : nanB k x = true) : k.format.order x y = none := by
  unfold nanB at h
  unfold Ieee.Format.order
  cases hx : k.format.read x with
  | nan s f => rfl
  | number s m i => rw [hx] at h; cases h
  | infinity s => rw [hx] at h; cases h

theorem read_zero (k : FloatKind) : k.format.read 0 = .number false 0 k.format.leastPlace := by
  cases k <;> rfl

theorem write_zero (k : FloatKind) (i : Int) : k.format.write (.number false 0 i) = 0 := by
  cases k <;> rfl

theorem fin_check {k : FloatKind} {x r : Nat} (h : FOp .sub k x x r) : (k.format.order r 0 != some .eq) = !finB k x := by
  unfold finB
  cases hx : k.format.read x with
  | number s m i =>
    have hb : floatBits .sub k x x = some 0 := by
      show k.format.sub x x = some 0
      unfold Ieee.Format.sub
      rw [hx]
      have ht : Ieee.Datum.sum (.number s m i) (Ieee.Datum.opposite (.number s m i)) = some (.number false 0 i) := by
        simp only [Ieee.Datum.opposite, Ieee.Datum.sum]
        have : Ieee.signed s m (i - min i i).toNat + Ieee.signed (!s) m (i - min i i).toNat = 0 := by
          unfold Ieee.signed
          cases s <;> simp <;> omega
        rw [this]
        cases s <;> simp
      rw [ht]
      show some (k.format.write (.number false 0 i)) = some 0
      rw [write_zero]
    have h := h.some hb
    subst h
    unfold Ieee.Format.order
    rw [read_zero]
    simp [Ieee.Datum.order, Ieee.signed]
  | infinity s =>
    have hb : floatBits .sub k x x = none := by
      show k.format.sub x x = none
      unfold Ieee.Format.sub
      rw [hx]
      cases s <;> rfl
    rw [order_nan (h.none hb)]
    rfl
  | nan s f =>
    have hb : floatBits .sub k x x = none := by
      show k.format.sub x x = none
      unfold Ieee.Format.sub
      rw [hx]
      rfl
    rw [order_nan (h.none hb)]
    rfl

theorem getD_elem (xs : List Nat) (j : Nat) (h : j < xs.length) : xs.getD j 0 = xs[j] := by simp [List.getD, h]
theorem getD_mem (xs : List Nat) (j : Nat) (h : j < xs.length) : xs.getD j 0 ∈ xs := by rw [getD_elem xs j h]; exact List.getElem_mem h

/-- block b holds the floats xs -/
def RdF (k : FloatKind) (w : World) (b : Nat) (xs : List Nat) : Prop := ∀ j, j < xs.length → w.cell? ⟨b, j, none⟩ = some (.float k (xs.getD j 0))

set_option maxHeartbeats 1000000 in
theorem finite_f32 (b : Nat) (xs : List Nat) (w : World) (h : RdF .f32 w b xs) (hn : xs.length ≤ 100) :
    Calls Tryz.prog 55 #[.slice (some ⟨b, 0, none⟩) xs.length xs.length] w fun e w' => e = .returned (.bool (xs.all (finB .f32))) ∧ ∃ d, w' = w.drewN d := by
  obtain ⟨n, hnl⟩ : ∃ n, n = xs.length := ⟨_, rfl⟩
  unfold RdF at h
  rw [← hnl] at h hn ⊢
  have Hnl := Lib.hid hnl
  clear hnl
  go_enter Tryz.func55, Tryz.ntmps55
  go_wp2
  go_loopw [7] (fun v wr => ∃ j : Nat, j ≤ n ∧ v = .int .i64 j ∧ Hid (∀ i, i < j → finB .f32 (xs.getD i 0) = true) ∧ ∃ d, wr = w.drewN d) (fun v _ => n - (intOf v).toNat)
  case atStart => exact ⟨0, Nat.zero_le _, rfl, fun i hi => absurd hi (Nat.not_lt_zero _), 0, rfl⟩
  case round =>
    obtain ⟨j, hj, rfl, hall, d, rfl⟩ := hrel
    by_cases hjn : j < n
    · have hc := h j hjn
      obtain ⟨x, hx⟩ : ∃ x, x = xs.getD j 0 := ⟨_, rfl⟩
      rw [← hx] at hc
      have Hx := Lib.hid hx
      obtain ⟨r, d', hr, hF⟩ := run_flt (P := Tryz.prog) .sub (by simp) 49 .f32 x x (w.drewN d)
      have hcmp := fin_check hF
      have hjn' : (j : Int) < n := by omega
      clear hF hx h
      by_cases hf : finB .f32 x = true
      · rw [hf] at hcmp
        have hnext : Hid (∀ i, i < j + 1 → finB .f32 (xs.getD i 0) = true) := fun i hi => by
          rcases Nat.lt_or_ge i j with h | h
          · exact hall.out i h
          · obtain rfl : i = j := by omega
            rw [← Hx.out]; exact hf
        clear hf hall
        go_wp2
        go_roundw
        case rel => exact ⟨j + 1, by omega, by go_num, hnext, by first | exact ⟨_, rfl⟩ | (simp only [World.drewN_drewN]; exact ⟨_, rfl⟩)⟩
        case measure => simp [intOf]; omega
      · have hf' : finB .f32 x = false := by simpa using hf
        rw [hf'] at hcmp
        have hres : Hid (xs.all (finB .f32) = false) := by
          show _ = _
          rw [List.all_eq_false]
          refine ⟨x, ?_, hf⟩
          rw [Hx.out]
          exact getD_mem xs j (by rw [← Hnl.out]; exact hjn)
        clear hf hf' hall
        go_wp2
        go_ret
        exact ⟨by rw [hres.out]; rfl, by first | exact ⟨_, rfl⟩ | (simp only [World.drewN_drewN]; exact ⟨_, rfl⟩)⟩
    · obtain rfl : j = n := by omega
      have hres : Hid (xs.all (finB .f32) = true) := by
        show _ = _
        rw [List.all_eq_true]
        intro y hy
        obtain ⟨i, hi, rfl⟩ := List.getElem_of_mem hy
        have := hall.out i (by rw [Hnl.out]; exact hi)
        rwa [getD_elem xs i hi] at this
      clear hall h
      go_wp2
      go_ret
      exact ⟨by rw [hres.out]; rfl, d, rfl⟩

set_option maxHeartbeats 1000000 in
theorem finite_f64 (b : Nat) (xs : List Nat) (w : World) (h : RdF .f64 w b xs) (hn : xs.length ≤ 100) :
    Calls Tryz.prog 56 #[.slice (some ⟨b, 0, none⟩) xs.length xs.length] w fun e w' => e = .returned (.bool (xs.all (finB .f64))) ∧ ∃ d, w' = w.drewN d := by
  obtain ⟨n, hnl⟩ : ∃ n, n = xs.length := ⟨_, rfl⟩
  unfold RdF at h
  rw [← hnl] at h hn ⊢
  have Hnl := Lib.hid hnl
  clear hnl
  go_enter Tryz.func56, Tryz.ntmps56
  go_wp2
  go_loopw [7] (fun v wr => ∃ j : Nat, j ≤ n ∧ v = .int .i64 j ∧ Hid (∀ i, i < j → finB .f64 (xs.getD i 0) = true) ∧ ∃ d, wr = w.drewN d) (fun v _ => n - (intOf v).toNat)
  case atStart => exact ⟨0, Nat.zero_le _, rfl, fun i hi => absurd hi (Nat.not_lt_zero _), 0, rfl⟩
  case round =>
    obtain ⟨j, hj, rfl, hall, d, rfl⟩ := hrel
    by_cases hjn : j < n
    · have hc := h j hjn
      obtain ⟨x, hx⟩ : ∃ x, x = xs.getD j 0 := ⟨_, rfl⟩
      rw [← hx] at hc
      have Hx := Lib.hid hx
      obtain ⟨r, d', hr, hF⟩ := run_flt (P := Tryz.prog) .sub (by simp) 52 .f64 x x (w.drewN d)
      have hcmp := fin_check hF
      have hjn' : (j : Int) < n := by omega
      clear hF hx h
      by_cases hf : finB .f64 x = true
      · rw [hf] at hcmp
        have hnext : Hid (∀ i, i < j + 1 → finB .f64 (xs.getD i 0) = true) := fun i hi => by
          rcases Nat.lt_or_ge i j with h | h
          · exact hall.out i h
          · obtain rfl : i = j := by omega
            rw [← Hx.out]; exact hf
        clear hf hall
        go_wp2
        go_roundw
        case rel => exact ⟨j + 1, by omega, by go_num, hnext, by first | exact ⟨_, rfl⟩ | (simp only [World.drewN_drewN]; exact ⟨_, rfl⟩)⟩
        case measure => simp [intOf]; omega
      · have hf' : finB .f64 x = false := by simpa using hf
        rw [hf'] at hcmp
        have hres : Hid (xs.all (finB .f64) = false) := by
          show _ = _
          rw [List.all_eq_false]
          refine ⟨x, ?_, hf⟩
          rw [Hx.out]
          exact getD_mem xs j (by rw [← Hnl.out]; exact hjn)
        clear hf hf' hall
        go_wp2
        go_ret
        exact ⟨by rw [hres.out]; rfl, by first | exact ⟨_, rfl⟩ | (simp only [World.drewN_drewN]; exact ⟨_, rfl⟩)⟩
    · obtain rfl : j = n := by omega
      have hres : Hid (xs.all (finB .f64) = true) := by
        show _ = _
        rw [List.all_eq_true]
        intro y hy
        obtain ⟨i, hi, rfl⟩ := List.getElem_of_mem hy
        have := hall.out i (by rw [Hnl.out]; exact hi)
        rwa [getD_elem xs i hi] at this
      clear hall h
      go_wp2
      go_ret
      exact ⟨by rw [hres.out]; rfl, d, rfl⟩

end Go.Proofs.YtlibhfojfonfjaaGreatDoor
