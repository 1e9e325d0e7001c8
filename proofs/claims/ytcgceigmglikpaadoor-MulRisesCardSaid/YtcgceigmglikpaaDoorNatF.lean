/- Walks of layer 2: great, Mul. -/
import Derived.Outline
import Derived.Test.YtcgceigmglikpaaDoorNatE
namespace Go.Proofs.YtcgceigmglikpaaDoor
set_option linter.unusedVariables false
open Go.RowKit

/-- has one of the first k too many words? -/
def anyBig (Ns : Nat → Nat) (k : Nat) : Bool := (List.range k).any fun j => decide (1024 < nd 64 (Ns j))

theorem anyBig_true {Ns : Nat → Nat} {k j : Nat} (hj : j < k) (h : 1024 < nd 64 (Ns j)) : anyBig Ns k = true := by
  unfold anyBig; rw [List.any_eq_true]; exact ⟨j, by simpa using hj, by simpa using h⟩

theorem anyBig_false {Ns : Nat → Nat} {k : Nat} (h : ∀ j, j < k → nd 64 (Ns j) ≤ 1024) : anyBig Ns k = false := by
  unfold anyBig
  rw [Bool.eq_false_iff]
  intro h'
  rw [List.any_eq_true] at h'
  obtain ⟨j, hj, hb⟩ := h'
  have := h j (by simpa using hj)
  simp at hb; omega

set_option maxHeartbeats 400000 in
theorem great_any (b c k : Nat) (V : Nat → Value) (Ns ns : Nat → Nat) (w : World) (hk : k ≤ 1000000)
    (hc : ∀ j, j < k → w.cell? ⟨b, j, none⟩ = some (V j)) (hV : ∀ j, j < k → Rd 64 w (V j) (Ns j) (ns j)) :
    Calls Tryd.prog 129 #[.slice (some ⟨b, 0, none⟩) k c] w fun e w' => e = .returned (.bool (anyBig Ns k)) ∧ w = w' := by
  go_enter Tryd.func129, Tryd.ntmps129
  go_wp2
  go_loop [7] (fun i => ∃ j : Nat, j ≤ k ∧ i = .int .i64 j ∧ Hid (∀ x, x < j → nd 64 (Ns x) ≤ 1024)) (fun i => k - (intOf i).toNat)
  case atStart => exact ⟨0, Nat.zero_le _, rfl, fun x hx => by omega⟩
  case round =>
    obtain ⟨j, hj, rfl, hall⟩ := hrel
    by_cases hjk : j < k
    · have hcj := hc j hjk
      have hVj := hV j hjk
      have Hc := Lib.hid hc
      have HV := Lib.hid hV
      clear hc hV
      generalize hv : V j = v at *
      clear hv
      go_wp2_with fail
      refine (trim_any v 64 (Ns j) (ns j) 0 w (by decide) hVj).mono ?_
      rintro e w1 ⟨v1, rfl, hv1, _, rfl⟩
      obtain ⟨A1, c1, rfl, hc1, hcm1⟩ := hv1.form
      by_cases hbig : 1024 < nd 64 (Ns j)
      · have H := Lib.hid (anyBig_true hjk hbig)
        generalize nd 64 (Ns j) = x at *
        have hb' : (1024 : Int) < x := by omega
        go_wp2
        go_ret
        exact ⟨by rw [H.out]; rfl, rfl⟩
      · have hb2 : nd 64 (Ns j) ≤ 1024 := by omega
        have hnext : Hid (∀ x, x < j + 1 → nd 64 (Ns x) ≤ 1024) := fun x hx => by
          rcases Nat.lt_or_ge x j with h | h
          · exact hall.out x h
          · have : x = j := by omega
            rw [this]; exact hb2
        clear hall hbig hVj hv1
        generalize nd 64 (Ns j) = x at *
        have hb' : decide ((1024 : Int) < x) = false := by simp; omega
        go_wp2
        go_round
        case rel => exact ⟨j + 1, by omega, by go_num, hnext⟩
        case measure => simp [intOf]; omega
    · obtain rfl : j = k := by omega
      have H := Lib.hid (anyBig_false hall.out)
      clear hall hc hV
      go_wp2
      go_ret
      exact ⟨by rw [H.out]; rfl, rfl⟩

/-- what Mul answers -/
def mulN (N M : Nat) : Nat × Int := if 1024 < nd 64 N ∨ 1024 < nd 64 M ∨ 1024 < nd 64 (N * M) then (0, 5) else (N * M, 0)

def pick2 {α : Type} (a b : α) : Nat → α | 0 => a | _ => b

set_option maxHeartbeats 1000000 in
theorem Mul_any (v u : Value) (N n M m : Nat) (w : World) (hv : Rd 64 w v N n) (hu : Rd 64 w u M m) :
    Calls Tryd.prog 85 #[v, u] w fun e w' => ∃ v', e = .returned (.tuple #[v', .int .i64 (mulN N M).2]) ∧ Rd 64 w' v' (mulN N M).1 (nd 64 (mulN N M).1) ∧ Fr w.heap.size w' v' ∧ Below w.heap.size w w' := by
  obtain ⟨A1, c1, rfl, hc1, hcm1⟩ := hv.form
  obtain ⟨A2, c2, rfl, hc2, hcm2⟩ := hu.form
  go_enter Tryd.func85, Tryd.ntmps85
  go_wp2_with fail
  have hal : Below w.heap.size w (w.alloc (Obj.cells #[Value.slice A1 n c1, Value.slice A2 m c2] 51)) := (Below.refl _ _).alloc (Nat.le_refl _) _
  have hcs : ∀ j, j < 2 → (w.alloc (Obj.cells #[Value.slice A1 n c1, Value.slice A2 m c2] 51)).cell? ⟨w.heap.size, j, none⟩ = some (pick2 (Value.slice A1 n c1) (Value.slice A2 m c2) j) := fun j hj => by
    rw [World.cell?_alloc_at _ _ _ _ rfl]
    match j, hj with
    | 0, _ => rfl
    | 1, _ => rfl
  have hVs : ∀ j, j < 2 → Rd 64 (w.alloc (Obj.cells #[Value.slice A1 n c1, Value.slice A2 m c2] 51)) (pick2 (Value.slice A1 n c1) (Value.slice A2 m c2) j) (pick2 N M j) (pick2 n m j) := fun j hj => by
    match j, hj with
    | 0, _ => exact hv.below hal
    | 1, _ => exact hu.below hal
  refine (great_any w.heap.size 2 2 (pick2 (Value.slice A1 n c1) (Value.slice A2 m c2)) (pick2 N M) (pick2 n m) _ (by omega) hcs hVs).mono ?_
  rintro e w1 ⟨rfl, rfl⟩
  clear hcs hVs
  by_cases hbig : 1024 < nd 64 N ∨ 1024 < nd 64 M
  · have hb : anyBig (pick2 N M) 2 = true := by
      rcases hbig with h | h
      · exact anyBig_true (j := 0) (by omega) h
      · exact anyBig_true (j := 1) (by omega) h
    have e1 : mulN N M = (0, 5) := by
      unfold mulN; rw [if_pos]; rcases hbig with h | h
      · exact Or.inl h
      · exact Or.inr (Or.inl h)
    have E1 := Lib.hid e1
    clear e1 hbig
    rw [hb]
    go_wp2
    go_ret2
    rw [E1.out, nd_zero]
    exact ⟨_, rfl, Rd.nil_, Fr.none_, hal⟩
  · have hb : anyBig (pick2 N M) 2 = false := anyBig_false fun j hj => by
      match j, hj with
      | 0, _ => show nd 64 N ≤ 1024; omega
      | 1, _ => show nd 64 M ≤ 1024; omega
    rw [hb]
    have hbN : nd 64 N ≤ 1024 := by omega
    have hbM : nd 64 M ≤ 1024 := by omega
    go_wp2_with fail
    refine (product_any (.slice A1 n c1) (.slice A2 m c2) N n M m _ (hv.below hal) (hu.below hal) (by omega)).mono ?_
    rintro e w1 ⟨v1, rfl, h1, hf1, hb1⟩
    obtain ⟨A3, c3, rfl, hc3, hcm3⟩ := h1.form
    have hb1' := hal.trans (hb1.mono hal.size)
    go_wp2_with fail
    have hal3 : Below w1.heap.size w1 (w1.alloc (Obj.cells #[Value.slice A3 (nd 64 (N * M)) c3] 51)) := (Below.refl _ _).alloc (Nat.le_refl _) _
    have hcs : ∀ j, j < 1 → (w1.alloc (Obj.cells #[Value.slice A3 (nd 64 (N * M)) c3] 51)).cell? ⟨w1.heap.size, j, none⟩ = some ((fun _ => Value.slice A3 (nd 64 (N * M)) c3) j) := fun j hj => by
      rw [World.cell?_alloc_at _ _ _ _ rfl]
      match j, hj with
      | 0, _ => rfl
    refine (great_any w1.heap.size 1 1 (fun _ => Value.slice A3 (nd 64 (N * M)) c3) (fun _ => N * M) (fun _ => nd 64 (N * M)) _ (by omega) hcs (fun j hj => h1.below hal3)).mono ?_
    rintro e w2 ⟨rfl, rfl⟩
    clear hcs
    have hb2 := hb1'.trans (hal3.mono hb1'.size)
    by_cases hp : 1024 < nd 64 (N * M)
    · have hb : anyBig (fun _ => N * M) 1 = true := anyBig_true (j := 0) (by omega) hp
      have E1 : Hid (mulN N M = (0, 5)) := by show _ = _; unfold mulN; rw [if_pos (Or.inr (Or.inr hp))]
      clear hp hbig
      rw [hb]
      go_wp2
      go_ret2
      rw [E1.out, nd_zero]
      exact ⟨_, rfl, Rd.nil_, Fr.none_, hb2⟩
    · have hb : anyBig (fun _ => N * M) 1 = false := anyBig_false fun j hj => by show nd 64 (N * M) ≤ 1024; omega
      have E1 : Hid (mulN N M = (N * M, 0)) := by show _ = _; unfold mulN; rw [if_neg]; omega
      clear hp hbig
      rw [hb]
      go_wp2
      go_ret2
      rw [E1.out]
      exact ⟨_, rfl, h1.below hal3, (hf1.below hal3).mono hal.size, hb2⟩

end Go.Proofs.YtcgceigmglikpaaDoor
