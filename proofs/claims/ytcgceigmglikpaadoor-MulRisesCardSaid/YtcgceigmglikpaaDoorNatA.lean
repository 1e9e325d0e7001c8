/- Walks of layer 2: trim, copied, Trim, Len, Cmp. -/
import Derived.Test.YtcgceigmglikpaaDoorBase
namespace Go.Proofs.YtcgceigmglikpaaDoor
set_option linter.unusedVariables false
open Go.RowKit

set_option maxHeartbeats 400000 in
theorem trim_core (v : Value) (k N n : Nat) (w : World) (hk : 0 < k) (h : Rd k w v N n) :
    Calls Tryd.prog 141 #[v] w fun e w' => ∃ v', e = .returned v' ∧ (∀ w0, Rd k w0 v N n → Rd k w0 v' N (nd k N)) ∧ (∀ B w0, Fr B w0 v → Fr B w0 v') ∧ w = w' := by
  obtain ⟨A, c, rfl, hc, hn, hN, hr⟩ := id h
  go_enter Tryd.func141, Tryd.ntmps141
  go_wp2
  go_loop [3] (fun x => ∃ m : Nat, m ≤ n ∧ x = .int .i64 m ∧ N < 2 ^ (k * m)) (fun x => (intOf x).toNat)
  case atStart => exact ⟨n, Nat.le_refl _, rfl, hN⟩
  case round =>
    obtain ⟨m, hm, rfl, hNm⟩ := hrel
    rcases Nat.eq_zero_or_pos m with rfl | hpos
    · go_wp2
      go_ret
      have e : nd k N = 0 := nd_unique k N 0 hk hNm (Or.inl rfl)
      exact ⟨_, rfl, fun w0 h => by rw [e]; exact h.cut (Nat.zero_le _) hNm, fun B w0 hf => hf.cut (by omega), rfl⟩
    · obtain ⟨b, o, rfl, hb, hcell⟩ := hr (by omega)
      have hck := hcell (m - 1) (by omega)
      by_cases hz : dg k N (m-1) = 0
      · rw [hz] at hck
        have hlt : N < 2 ^ (k * (m - 1)) := lt_of_top k N (m - 1) (by rw [show m - 1 + 1 = m from by omega]; exact hNm) hz
        clear hz
        go_wp2
        go_round
        case rel => exact ⟨m - 1, by omega, by go_num, hlt⟩
        case measure => simp [intOf]; omega
      · have hz' : (((dg k N (m-1) : Nat) : Int) == 0) = false := by rw [beq_eq_false_iff_ne]; omega
        have e : nd k N = m := nd_unique k N m hk hNm (Or.inr (ge_of_top k N (m - 1) hz))
        have H := Lib.hid e
        clear e hz
        generalize dg k N (m-1) = x at *
        go_wp2
        go_ret
        exact ⟨_, rfl, fun w0 h => by rw [H.out]; exact h.cut hm hNm, fun B w0 hf => hf.cut (by omega), rfl⟩

theorem trim_any (v : Value) (k N n B : Nat) (w : World) (hk : 0 < k) (h : Rd k w v N n) :
    Calls Tryd.prog 141 #[v] w fun e w' => ∃ v', e = .returned v' ∧ Rd k w v' N (nd k N) ∧ (Fr B w v → Fr B w v') ∧ w = w' :=
  (trim_core v k N n w hk h).mono fun e w' ⟨v', he, h1, h2, hw⟩ => ⟨v', he, h1 w h, h2 B w, hw⟩

set_option maxHeartbeats 400000 in
theorem copied_own (v : Value) (N n : Nat) (w : World) (h : Rd 64 w v N n) :
    Calls Tryd.prog 126 #[v] w fun e w' => e = .returned (.slice (some ⟨w.heap.size, 0, none⟩) (nd 64 N) (nd 64 N)) ∧ Own 64 w' w.heap.size N (nd 64 N) ∧ Below w.heap.size w w' := by
  have hd : nd 64 N ≤ 35184372088832 := Nat.le_trans (nd_le 64 N n (by decide) h.lt) h.len
  have hmk := fun wx => make_words (nd 64 N) hd wx
  go_enter Tryd.func126, Tryd.ntmps126
  go_wp2_with fail
  refine (trim_any v 64 N n 0 w (by decide) h).mono ?_
  rintro e w1 ⟨v1, rfl, h1, _, rfl⟩
  obtain ⟨A, c, rfl, hc, hcm⟩ := h1.form
  go_wp2_with (with_reducible refine wpList_copy_rd rfl (.tmp 9) (.tmp 10) rfl w.heap.size (nd 64 N) A (nd 64 N) c rfl rfl 64 N (Own.make _) (h1.alloc _) (Nat.le_refl _) w.heap.size w ((Below.refl _ _).alloc (Nat.le_refl _) _) (Nat.le_refl _) ?_)
  intro w2 ho hb2
  go_wp2
  go_ret
  exact ⟨rfl, ho, hb2⟩

theorem copied_any (v : Value) (N n : Nat) (w : World) (h : Rd 64 w v N n) :
    Calls Tryd.prog 126 #[v] w fun e w' => ∃ v', e = .returned v' ∧ Rd 64 w' v' N (nd 64 N) ∧ Fr w.heap.size w' v' ∧ Below w.heap.size w w' :=
  (copied_own v N n w h).mono fun e w' ⟨he, ho, hb⟩ => ⟨_, he, ho.rd (Nat.le_trans (nd_le 64 N n (by decide) h.lt) h.len), ho.fr (Nat.le_refl _), hb⟩

set_option maxHeartbeats 400000 in
theorem Trim_any (v : Value) (N n : Nat) (w : World) (h : Rd 64 w v N n) :
    Calls Tryd.prog 82 #[v] w fun e w' => ∃ v', e = .returned v' ∧ Rd 64 w' v' N (nd 64 N) ∧ Fr w.heap.size w' v' ∧ Below w.heap.size w w' := by
  go_enter Tryd.func82, Tryd.ntmps82
  go_wp2_with fail
  refine (copied_any v N n w h).mono ?_
  rintro e w1 ⟨v1, rfl, h1, h2, h3⟩
  go_wp2
  go_ret
  exact ⟨_, rfl, h1, h2, h3⟩

theorem log2_div_add (N a : Nat) (h : N / 2 ^ a ≠ 0) : N.log2 = a + (N / 2 ^ a).log2 := by
  have h0 : N ≠ 0 := by rintro rfl; simp at h
  have h1 := (Nat.le_log2 h).1 (Nat.le_refl _)
  have h2 := (Nat.log2_lt h).1 (Nat.lt_succ_self _)
  generalize (N / 2 ^ a).log2 = l at *
  have h3 : 2 ^ (a + l) ≤ N := by
    rw [Nat.pow_add]
    have := (Nat.le_div_iff_mul_le (pow_pos2 a)).1 h1
    rw [Nat.mul_comm]; exact this
  have h4 : N < 2 ^ (a + l + 1) := by
    have := (Nat.div_lt_iff_lt_mul (pow_pos2 a)).1 h2
    rw [Nat.add_assoc, Nat.pow_add, Nat.mul_comm]; exact this
  have h5 := (Nat.le_log2 h0).2 h3
  have h6 := (Nat.log2_lt h0).2 h4
  omega

theorem bl_le (N a : Nat) (h : N < 2 ^ a) : bl N ≤ a := by
  unfold bl
  split
  · omega
  · rename_i h0; have := (Nat.log2_lt h0).2 h; omega

theorem bl_top (N : Nat) (h : N ≠ 0) : bl N = 64 * (nd 64 N - 1) + bl (dg 64 N (nd 64 N - 1)) := by
  obtain ⟨m, hm⟩ : ∃ m, nd 64 N = m + 1 := ⟨nd 64 N - 1, by have := nd_pos 64 N h; omega⟩
  have h1 := lt_nd 64 N (by decide)
  have h2 := nd_le_pow 64 N h
  rw [hm, Nat.add_sub_cancel] at *
  have e := div_succ 64 N m
  rw [Nat.div_eq_of_lt h1, Nat.zero_mul, Nat.zero_add] at e
  have hd : dg 64 N m ≠ 0 := by
    intro h0
    have := lt_of_top 64 N m h1 h0
    omega
  unfold bl
  rw [if_neg h, if_neg hd]
  have e2 : N.log2 = 64 * m + (dg 64 N m).log2 := by
    rw [← e]
    exact log2_div_add N (64 * m) (by rw [e]; exact hd)
  omega

set_option maxHeartbeats 400000 in
theorem Len_any (v : Value) (N n : Nat) (w : World) (h : Rd 64 w v N n) :
    Calls Tryd.prog 104 #[v] w fun e w' => e = .returned (.int .i64 (bl N)) ∧ w = w' := by
  by_cases h0 : N = 0
  · subst h0
    go_enter Tryd.func104, Tryd.ntmps104
    go_wp2_with fail
    refine (trim_any v 64 0 n 0 w (by decide) h).mono ?_
    rintro e w1 ⟨v1, rfl, h1, _, rfl⟩
    rw [nd_zero] at h1
    obtain ⟨A, c, rfl, hc, hcm⟩ := h1.form
    go_wp2
    go_ret
    exact ⟨rfl, rfl⟩
  · have hb := Lib.hid (bl_top N h0)
    have hp := nd_pos 64 N h0
    have hl := Nat.le_trans (nd_le 64 N n (by decide) h.lt) h.len
    have hbl : bl (dg 64 N (nd 64 N - 1)) ≤ 64 := bl_le _ 64 (dg_lt 64 N _)
    have hdl := dg64_lt N (nd 64 N - 1)
    have hz : (((nd 64 N : Nat) : Int) == 0) = false := by rw [beq_eq_false_iff_ne]; omega
    go_enter Tryd.func104, Tryd.ntmps104
    go_wp2_with fail
    refine (trim_any v 64 N n 0 w (by decide) h).mono ?_
    rintro e w1 ⟨v1, rfl, h1, _, rfl⟩
    obtain ⟨A, c, rfl, hc, hcm⟩ := h1.form
    obtain ⟨_, _, _, hr⟩ := h1.at_
    obtain ⟨b, o, rfl, hb', hcell⟩ := hr hp
    have hck := hcell (nd 64 N - 1) (by omega)
    clear h1 h hr hcell h0
    generalize dg 64 N (nd 64 N - 1) = x at *
    generalize nd 64 N = m at *
    go_wp2_with fail
    refine (len64_any x w hdl).mono ?_
    rintro e w1 ⟨rfl, rfl⟩
    go_wp2
    go_ret
    exact ⟨by rw [hb.out]; go_num, rfl⟩

end Go.Proofs.YtcgceigmglikpaaDoor
