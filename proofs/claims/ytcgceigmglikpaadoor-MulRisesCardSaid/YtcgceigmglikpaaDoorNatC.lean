/- Walks of layer 2: less, Sub, right, Shr. -/
import Derived.Outline
import Derived.Test.YtcgceigmglikpaaDoorNatB
namespace Go.Proofs.YtcgceigmglikpaaDoor
set_option linter.unusedVariables false
open Go.RowKit

set_option maxHeartbeats 1000000 in
theorem less_any (u : Value) (g N n M m : Nat) (w0 w : World) (hown : Own 64 w g N n) (hn : n ≤ 35184372088832) (hu : Rd 64 w0 u M m) (hb : Below w0.heap.size w0 w) (hg : w0.heap.size ≤ g) (hle : M ≤ N) :
    Calls Tryd.prog 156 #[.slice (some ⟨g, 0, none⟩) n n, u] w fun e w' => ∃ v', e = .returned v' ∧ Rd 64 w' v' (N - M) (nd 64 (N - M)) ∧ Fr g w' v' ∧ Below w0.heap.size w0 w' := by
  obtain ⟨A2, c2, rfl, hc2, hcm2⟩ := hu.form
  obtain ⟨_, _, _, hr⟩ := hu.at_
  have HM := Lib.hid hu.lt
  have HN := Lib.hid hown.num
  go_enter Tryd.func156, Tryd.ntmps156
  go_wp2
  go_loopw [5, 10] (fun c i wr => ∃ j cr S : Nat, j ≤ n ∧ i = .int .i64 j ∧ c = .int .u64 cr ∧ SubInv N M S cr j ∧ Own 64 wr g S n ∧ Below w0.heap.size w0 wr) (fun _ i _ => n - (intOf i).toNat)
  case atStart => exact ⟨0, 0, _, Nat.zero_le _, rfl, rfl, SubInv.start _ _, hown, hb⟩
  case round =>
    obtain ⟨j, cr, S, hj, rfl, rfl, hinv, hown, hbw⟩ := hrel
    have hcr := hinv.1
    have hf := hown.free j
    by_cases hja : j < n
    · have hst := Lib.hid hinv.step
      have hd1 := dg64_lt N j
      have hdS : dg 64 S j = dg 64 N j := dg_of_div 64 _ _ j j hinv.2.1 (Nat.le_refl _)
      have hos := Lib.hid (hown.set (j := j) hja (d := (dg 64 N j + 18446744073709551616 - dg 64 M j - cr) % 18446744073709551616) (Nat.mod_lt _ (by decide)))
      have hoc := hown.cell (j := j) hja
      rw [hdS] at hoc
      clear hdS
      by_cases hjb : j < m
      · obtain ⟨b2, o2, rfl, hb2', hcell2⟩ := hr (by omega)
        have hk2 : wr.cell? ⟨b2, o2 + j, none⟩ = _ := (hbw.cell (p := ⟨b2, o2 + j, none⟩) hb2').trans (hcell2 j hjb)
        clear hr hcell2 hinv
        generalize dg 64 N j = x at *
        generalize dg 64 M j = y at *
        have hsub := fun wx => sub64_run x y cr hcr wx
        go_wp2
        go_roundw
        case rel => exact ⟨j + 1, _, _, by omega, by go_num, rfl, hst.out, hos.out, hbw.setCell hg _⟩
        case measure => simp [intOf]; omega
      · have hy0 : dg 64 M j = 0 := dg_high 64 _ j m HM.out (by omega)
        rw [hy0, Nat.zero_add] at hst
        rw [hy0] at hos
        clear hr hinv hy0
        generalize dg 64 N j = x at *
        have hsub := fun wx => sub64_run0 x cr hcr wx
        go_wp2
        go_roundw
        case rel => exact ⟨j + 1, _, _, by omega, by go_num, rfl, hst.out, hos.out, hbw.setCell hg _⟩
        case measure => simp [intOf]; omega
    · obtain rfl : j = n := by omega
      have Hlast := Lib.hid (hinv.last HN.out (Nat.lt_of_le_of_lt hle HN.out) hle)
      clear hinv hr
      go_wp2_with fail
      refine (trim_any _ 64 S j g _ (by decide) (hown.rd hn)).mono ?_
      rintro e w3 ⟨v3, rfl, h3, h3f, rfl⟩
      go_wp2
      go_ret
      rw [← Hlast.out]
      exact ⟨_, rfl, h3, h3f (hown.fr (Nat.le_refl _)), hbw⟩

set_option maxHeartbeats 400000 in
theorem Sub_ok (v u : Value) (N n M m : Nat) (w : World) (hv : Rd 64 w v N n) (hu : Rd 64 w u M m) (hle : M ≤ N) :
    Calls Tryd.prog 134 #[v, u] w fun e w' => ∃ v', e = .returned (.tuple #[v', .int .i64 0]) ∧ Rd 64 w' v' (N - M) (nd 64 (N - M)) ∧ Fr w.heap.size w' v' ∧ Below w.heap.size w w' := by
  have hd : nd 64 N ≤ 35184372088832 := Nat.le_trans (nd_le 64 N n (by decide) hv.lt) hv.len
  have hcmp : decide (cmpN N M < 0) = false := by unfold cmpN; simp; split <;> (try split) <;> omega
  go_enter Tryd.func134, Tryd.ntmps134
  go_wp2_with fail
  refine (Cmp_any v u N n M m w hv hu).mono ?_
  rintro e w1 ⟨rfl, d, rfl⟩
  generalize cmpN N M = cc at *
  go_wp2_with fail
  refine (copied_own v N n _ (hv.drewN d)).mono ?_
  rintro e w2 ⟨rfl, ho, hb2⟩
  go_wp2_with fail
  refine (trim_core u 64 M m w2 (by decide) ((hu.drewN d).below hb2)).mono ?_
  rintro e w3 ⟨u3, rfl, hu3, _, rfl⟩
  go_wp2_with fail
  refine (less_any u3 (w.drewN d).heap.size N (nd 64 N) M (nd 64 M) (w.drewN d) w2 ho hd (hu3 _ (hu.drewN d)) hb2 (Nat.le_refl _) hle).mono ?_
  rintro e w3 ⟨v3, rfl, h3, h3f, hb3⟩
  go_wp2
  go_ret2
  exact ⟨_, rfl, h3, h3f, (show Below w.heap.size w (w.drewN d) from ⟨rfl, rfl, rfl, Nat.le_refl _, fun _ _ => rfl⟩).trans hb3⟩

end Go.Proofs.YtcgceigmglikpaaDoor
