/- Walks of the document's answer for layer 3: Trim, Digits, Words. -/
import Derived.Outline
import Derived.Test.YtakjbmlkcbedmaaDoorPackC
namespace Go.Proofs.YtakjbmlkcbedmaaDoor
set_option linter.unusedVariables false
open Go.RowKit

set_option maxHeartbeats 400000 in
theorem rTrim_core (v : Value) (k N n : Nat) (w : World) (hk : 0 < k) (h : Rd k w v N n) :
    Calls Tryd.prog 60 #[v] w fun e w' => ∃ v', e = .returned v' ∧ ((∀ w0, Rd k w0 v N n → Rd k w0 v' N (nd k N)) ∧ ∀ B w0, Fr B w0 v → Fr B w0 v') ∧ w = w' := by
  obtain ⟨A, c, rfl, hc, hn, hN, hr⟩ := id h
  go_enter Tryd.func60, Tryd.ntmps60
  go_wp2
  go_loop [3] (fun x => ∃ m : Nat, m ≤ n ∧ x = .int .i64 m ∧ N < 2 ^ (k * m)) (fun x => (intOf x).toNat)
  case atStart => exact ⟨n, Nat.le_refl _, rfl, hN⟩
  case round =>
    obtain ⟨m, hm, rfl, hNm⟩ := hrel
    rcases Nat.eq_zero_or_pos m with rfl | hpos
    · go_wp2
      go_ret
      have e : nd k N = 0 := nd_unique k N 0 hk hNm (Or.inl rfl)
      exact ⟨_, rfl, ⟨fun w0 h => by rw [e]; exact h.cut (Nat.zero_le _) hNm, fun B w0 h => h.cut (Nat.zero_le _)⟩, rfl⟩
    · obtain ⟨b, o, rfl, hb, hcell⟩ := hr (by omega)
      have hck := hcell (m - 1) (by omega)
      by_cases hz : dg k N (m-1) = 0
      · rw [hz] at hck
        have hlt : N < 2 ^ (k * (m - 1)) := lt_of_top k N (m - 1) (by rw [show m - 1 + 1 = m from by omega]; exact hNm) hz
        clear hz
        go_wp2
        go_round
        case rel => exact ⟨m - 1, by omega, by go_num, hlt⟩
        case measure => simp [intOf]; omega
      · have hz' : (((dg k N (m-1) : Nat) : Int) == 0) = false := by rw [beq_eq_false_iff_ne]; omega
        have e : nd k N = m := nd_unique k N m hk hNm (Or.inr (ge_of_top k N (m - 1) hz))
        have H := Lib.hid e
        clear e hz
        generalize dg k N (m-1) = x at *
        go_wp2
        go_ret
        exact ⟨_, rfl, ⟨fun w0 h => by rw [H.out]; exact h.cut hm hNm, fun B w0 h => h.cut (Nat.le_trans hm hc)⟩, rfl⟩

theorem rTrim_any (v : Value) (k N n : Nat) (w : World) (hk : 0 < k) (h : Rd k w v N n) :
    Calls Tryd.prog 60 #[v] w fun e w' => ∃ v', e = .returned v' ∧ Rd k w v' N (nd k N) ∧ w = w' :=
  (rTrim_core v k N n w hk h).mono fun e w' ⟨v', he, h1, hw⟩ => ⟨v', he, h1.1 w h, hw⟩

theorem rTrim_fr (v : Value) (k N n B : Nat) (w : World) (hk : 0 < k) (h : Rd k w v N n) (hf : Fr B w v) :
    Calls Tryd.prog 60 #[v] w fun e w' => ∃ v', e = .returned v' ∧ (Rd k w v' N (nd k N) ∧ Fr B w v') ∧ w = w' :=
  (rTrim_core v k N n w hk h).mono fun e w' ⟨v', he, h1, hw⟩ => ⟨v', he, ⟨h1.1 w h, h1.2 B w hf⟩, hw⟩

end Go.Proofs.YtakjbmlkcbedmaaDoor
