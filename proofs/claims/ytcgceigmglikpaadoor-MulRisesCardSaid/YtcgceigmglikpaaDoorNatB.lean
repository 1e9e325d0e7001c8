/- Walks of layer 2: Cmp, Add. -/
import Derived.Outline
import Derived.Test.YtcgceigmglikpaaDoorNatA
import Derived.Test.YtcgceigmglikpaaDoorNatMath
namespace Go.Proofs.YtcgceigmglikpaaDoor
set_option linter.unusedVariables false
open Go.RowKit

set_option maxHeartbeats 1000000 in
theorem Cmp_any (v u : Value) (N n M m : Nat) (w : World) (hv : Rd 64 w v N n) (hu : Rd 64 w u M m) :
    Calls Tryd.prog 133 #[v, u] w fun e w' => e = .returned (.int .i64 (cmpN N M)) ∧ ∃ d, w' = w.drewN d := by
  go_enter Tryd.func133, Tryd.ntmps133
  go_wp2_with fail
  refine (trim_any v 64 N n 0 w (by decide) hv).mono ?_
  rintro e w1 ⟨v1, rfl, hv1, _, rfl⟩
  obtain ⟨A1, c1, rfl, hc1, hcm1⟩ := hv1.form
  go_wp2_with fail
  refine (trim_any u 64 M m 0 w (by decide) hu).mono ?_
  rintro e w1 ⟨u1, rfl, hu1, _, rfl⟩
  obtain ⟨A2, c2, rfl, hc2, hcm2⟩ := hu1.form
  obtain ⟨_, _, _, hr1⟩ := hv1.at_
  obtain ⟨_, _, _, hr2⟩ := hu1.at_
  have HN := Lib.hid (lt_nd 64 N (by decide))
  have HM := Lib.hid (lt_nd 64 M (by decide))
  rcases Nat.lt_trichotomy (nd 64 N) (nd 64 M) with hlt | heq | hgt
  · have H := Lib.hid (cmpN_lt (nd_lt 64 N M (by decide) hlt))
    generalize nd 64 N = a at *
    generalize nd 64 M = b at *
    go_wp2
    go_ret
    exact ⟨by rw [H.out]; rfl, 0, rfl⟩
  · rw [← heq] at hu1 hr2 HM hc2 ⊢
    generalize nd 64 N = a at *
    clear heq
    go_wp2
    go_loopw [5] (fun x wr => ∃ i : Nat, i ≤ a ∧ x = .int .i64 ((i : Int) - 1) ∧ N / 2 ^ (64 * i) = M / 2 ^ (64 * i) ∧ ∃ d, wr = w.drewN d) (fun x _ => (intOf x + 1).toNat)
    case atStart => exact ⟨a, Nat.le_refl _, rfl, by rw [Nat.div_eq_of_lt HN.out, Nat.div_eq_of_lt HM.out], 0, rfl⟩
    case round =>
      obtain ⟨i, hi, rfl, hq, d, rfl⟩ := hrel
      rcases Nat.eq_zero_or_pos i with rfl | hpos
      · have H := Lib.hid (cmpN_eq (a := N) (b := M) (by simpa using hq))
        clear hq
        go_wp2
        go_ret
        exact ⟨by rw [H.out]; rfl, d, rfl⟩
      · obtain ⟨b1, o1, rfl, hb1, hcell1⟩ := hr1 (by omega)
        obtain ⟨b2, o2, rfl, hb2, hcell2⟩ := hr2 (by omega)
        obtain ⟨j, rfl⟩ : ∃ j, i = j + 1 := ⟨i - 1, by omega⟩
        have hk1 : w.cell? ⟨b1, o1 + j, none⟩ = _ := hcell1 j (by omega)
        have hk2 : w.cell? ⟨b2, o2 + j, none⟩ = _ := hcell2 j (by omega)
        have Hlt := fun h => Lib.hid (cmpN_lt (lt_of_dg 64 N M j hq h))
        have Hgt := fun h => Lib.hid (cmpN_gt (lt_of_dg 64 M N j hq.symm h))
        have Heq := fun h => Lib.hid (eq_of_dg 64 N M j hq h)
        clear hq hcell1 hcell2 hr1 hr2
        have ej : ((j + 1 : Nat) : Int) - 1 = j := by omega
        rw [ej]
        generalize dg 64 N j = x at *
        generalize dg 64 M j = y at *
        rcases Nat.lt_trichotomy x y with hxy | hxy | hxy
        · have H := Hlt hxy
          clear Hlt Hgt Heq
          have t1 : decide (x < y) = true := by simpa using hxy
          go_wp2
          go_quiet (fail)
          go_wp2
          go_ret
          exact ⟨by rw [H.out]; rfl, by first | exact ⟨_, rfl⟩ | (simp only [World.drewN_drewN]; exact ⟨_, rfl⟩)⟩
        · have H := Heq hxy
          clear Hlt Hgt Heq
          subst hxy
          have t1 : decide (x < x) = false := by simp
          go_wp2
          go_quiet (fail)
          go_wp2
          go_quiet (fail)
          go_wp2
          go_roundw
          case rel => exact ⟨j, by omega, rfl, H.out, by first | exact ⟨_, rfl⟩ | (simp only [World.drewN_drewN]; exact ⟨_, rfl⟩)⟩
          case measure => simp [intOf]
        · have H := Hgt hxy
          clear Hlt Hgt Heq
          have t1 : decide (x < y) = false := by simp; omega
          have t2 : decide (y < x) = true := by simp; omega
          go_wp2
          go_quiet (fail)
          go_wp2
          go_quiet (fail)
          go_wp2
          go_ret
          exact ⟨by rw [H.out]; rfl, by first | exact ⟨_, rfl⟩ | (simp only [World.drewN_drewN]; exact ⟨_, rfl⟩)⟩
  · have H := Lib.hid (cmpN_gt (nd_lt 64 M N (by decide) hgt))
    generalize nd 64 N = a at *
    generalize nd 64 M = b at *
    go_wp2
    go_ret
    exact ⟨by rw [H.out]; rfl, 0, rfl⟩

set_option maxRecDepth 100000 in
set_option maxHeartbeats 1000000 in
theorem Add_any (v u : Value) (N n M m : Nat) (w : World) (hv : Rd 64 w v N n) (hu : Rd 64 w u M m) (hn : n < 35184372088832) (hm : m < 35184372088832) :
    Calls Tryd.prog 132 #[v, u] w fun e w' => ∃ v', e = .returned v' ∧ Rd 64 w' v' (N + M) (nd 64 (N + M)) ∧ Fr w.heap.size w' v' ∧ Below w.heap.size w w' := by
  have hdN := nd_le 64 N n (by decide) hv.lt
  have hdM := nd_le 64 M m (by decide) hu.lt
  obtain ⟨T, hT⟩ : ∃ T, T = N + M := ⟨_, rfl⟩
  rw [← hT]
  have HT := Lib.hid hT
  clear hT
  have hmkN := fun wx => make_words1 (nd 64 N) (by omega) wx
  have hmkM := fun wx => make_words1 (nd 64 M) (by omega) wx
  go_enter Tryd.func132, Tryd.ntmps132
  go_wp2_with fail
  refine (trim_any v 64 N n 0 w (by decide) hv).mono ?_
  rintro e w1 ⟨v1, rfl, hv1, _, rfl⟩
  obtain ⟨AX, cX, rfl, hc1, hcm1⟩ := hv1.form
  go_wp2_with fail
  refine (trim_any u 64 M m 0 w (by decide) hu).mono ?_
  rintro e w1 ⟨u1, rfl, hu1, _, rfl⟩
  obtain ⟨AY, cY, rfl, hc2, hcm2⟩ := hu1.form
  have HX := Lib.hid (lt_nd 64 N (by decide))
  have HY := Lib.hid (lt_nd 64 M (by decide))
  clear hv hu
  rcases Nat.lt_or_ge (nd 64 N) (nd 64 M) with hlt | hge
  · have t1 : decide (nd 64 N < nd 64 M) = true := by simpa using hlt
    have HT2 : Hid (T = M + N) := by rw [HT.out]; exact Nat.add_comm _ _
    clear HT hmkN
    go_wp2_with (with_reducible refine wpList_copy_rd rfl (.tmp 24) (.tmp 25) rfl w.heap.size (nd 64 M + 1) AY (nd 64 M) cY rfl rfl 64 M (Own.make _) (hu1.alloc _) (Nat.le_succ _) w.heap.size w ((Below.refl _ _).alloc (Nat.le_refl _) _) (Nat.le_refl _) ?_)
    intro w2 ho hb2
    obtain ⟨_, _, _, hrX⟩ := hu1.at_
    obtain ⟨_, _, _, hrY⟩ := hv1.at_
    have ho1 := ho.lt
    generalize hsz : nd 64 M = a at *
    generalize hsy : nd 64 N = b at *
    clear hsz hsy
    go_wp2
    go_loopw [6, 29] (fun c i wr => ∃ j cr S : Nat, j ≤ a ∧ i = .int .i64 j ∧ c = .int .u64 cr ∧ AddInv M N S cr j ∧ Own 64 wr w.heap.size S (a + 1) ∧ Below w.heap.size w wr) (fun _ i _ => a - (intOf i).toNat)
    case atStart => exact ⟨0, 0, _, Nat.zero_le _, rfl, rfl, AddInv.start _ _, ho, hb2⟩
    case round =>
      obtain ⟨j, cr, S, hj, rfl, rfl, hinv, hown, hbw⟩ := hrel
      have hcr := hinv.1
      have hf := hown.free j
      by_cases hja : j < a
      · obtain ⟨b1, o1, rfl, hb1, hcell1⟩ := hrX (by omega)
        have hk1 : wr.cell? ⟨b1, o1 + j, none⟩ = _ := (hbw.cell (p := ⟨b1, o1 + j, none⟩) hb1).trans (hcell1 j hja)
        have hst := Lib.hid hinv.step
        have hd1 := dg64_lt M j
        have hos := Lib.hid (hown.set (j := j) (by omega) (d := (dg 64 M j + dg 64 N j + cr) % 18446744073709551616) (Nat.mod_lt _ (by decide)))
        have hoc := hown.cell (j := j) (by omega)
        by_cases hjb : j < b
        · obtain ⟨b2, o2, rfl, hb2', hcell2⟩ := hrY (by omega)
          have hk2 : wr.cell? ⟨b2, o2 + j, none⟩ = _ := (hbw.cell (p := ⟨b2, o2 + j, none⟩) hb2').trans (hcell2 j hjb)
          clear hrX hrY hcell1 hcell2 hinv
          generalize dg 64 M j = x at *
          generalize dg 64 N j = y at *
          have hadd := fun wx => add64_run x y cr hcr wx
          go_wp2
          go_roundw
          case rel => exact ⟨j + 1, _, _, by omega, by go_num, rfl, hst.out, hos.out, hbw.setCell (Nat.le_refl _) _⟩
          case measure => simp [intOf]; omega
        · have hy0 : dg 64 N j = 0 := dg_high 64 _ j b HX.out (by omega)
          rw [hy0] at hst hos
          clear hrX hrY hcell1 hinv hy0
          generalize dg 64 M j = x at *
          have hadd := fun wx => add64_run0 x cr hcr wx
          go_wp2
          go_roundw
          case rel => exact ⟨j + 1, _, _, by omega, by go_num, rfl, hst.out, hos.out, hbw.setCell (Nat.le_refl _) _⟩
          case measure => simp [intOf]; omega
      · obtain rfl : j = a := by omega
        have hlast := hinv.last HY.out (Nat.lt_of_lt_of_le HX.out (Nat.pow_le_pow_right (by decide) (by omega)))
        have hos := hown.set (j := j) (by omega) (d := cr) (by omega)
        rw [hlast] at hos
        have Hos := Lib.hid hos
        have hoc := hown.cell (j := j) (by omega)
        clear hos hlast hinv hrX hrY
        generalize dg 64 S j = z at *
        go_wp2_with fail
        refine (trim_any _ 64 (M + N) (j + 1) w.heap.size _ (by decide) (Hos.out.rd (by omega))).mono ?_
        rintro e w3 ⟨v3, rfl, h3, h3f, rfl⟩
        go_wp2
        go_ret
        rw [HT2.out]
        exact ⟨_, rfl, h3, h3f (Hos.out.fr (Nat.le_refl _)), hbw.setCell (Nat.le_refl _) _⟩
  · have t1 : decide (nd 64 N < nd 64 M) = false := by simp; omega
    have HT2 : Hid (T = N + M) := HT.out
    clear HT hmkM
    go_wp2_with (with_reducible refine wpList_copy_rd rfl (.tmp 24) (.tmp 25) rfl w.heap.size (nd 64 N + 1) AX (nd 64 N) cX rfl rfl 64 N (Own.make _) (hv1.alloc _) (Nat.le_succ _) w.heap.size w ((Below.refl _ _).alloc (Nat.le_refl _) _) (Nat.le_refl _) ?_)
    intro w2 ho hb2
    obtain ⟨_, _, _, hrX⟩ := hv1.at_
    obtain ⟨_, _, _, hrY⟩ := hu1.at_
    have ho1 := ho.lt
    generalize hsz : nd 64 N = a at *
    generalize hsy : nd 64 M = b at *
    clear hsz hsy
    go_wp2
    go_loopw [6, 29] (fun c i wr => ∃ j cr S : Nat, j ≤ a ∧ i = .int .i64 j ∧ c = .int .u64 cr ∧ AddInv N M S cr j ∧ Own 64 wr w.heap.size S (a + 1) ∧ Below w.heap.size w wr) (fun _ i _ => a - (intOf i).toNat)
    case atStart => exact ⟨0, 0, _, Nat.zero_le _, rfl, rfl, AddInv.start _ _, ho, hb2⟩
    case round =>
      obtain ⟨j, cr, S, hj, rfl, rfl, hinv, hown, hbw⟩ := hrel
      have hcr := hinv.1
      have hf := hown.free j
      by_cases hja : j < a
      · obtain ⟨b1, o1, rfl, hb1, hcell1⟩ := hrX (by omega)
        have hk1 : wr.cell? ⟨b1, o1 + j, none⟩ = _ := (hbw.cell (p := ⟨b1, o1 + j, none⟩) hb1).trans (hcell1 j hja)
        have hst := Lib.hid hinv.step
        have hd1 := dg64_lt N j
        have hos := Lib.hid (hown.set (j := j) (by omega) (d := (dg 64 N j + dg 64 M j + cr) % 18446744073709551616) (Nat.mod_lt _ (by decide)))
        have hoc := hown.cell (j := j) (by omega)
        by_cases hjb : j < b
        · obtain ⟨b2, o2, rfl, hb2', hcell2⟩ := hrY (by omega)
          have hk2 : wr.cell? ⟨b2, o2 + j, none⟩ = _ := (hbw.cell (p := ⟨b2, o2 + j, none⟩) hb2').trans (hcell2 j hjb)
          clear hrX hrY hcell1 hcell2 hinv
          generalize dg 64 N j = x at *
          generalize dg 64 M j = y at *
          have hadd := fun wx => add64_run x y cr hcr wx
          go_wp2
          go_roundw
          case rel => exact ⟨j + 1, _, _, by omega, by go_num, rfl, hst.out, hos.out, hbw.setCell (Nat.le_refl _) _⟩
          case measure => simp [intOf]; omega
        · have hy0 : dg 64 M j = 0 := dg_high 64 _ j b HY.out (by omega)
          rw [hy0] at hst hos
          clear hrX hrY hcell1 hinv hy0
          generalize dg 64 N j = x at *
          have hadd := fun wx => add64_run0 x cr hcr wx
          go_wp2
          go_roundw
          case rel => exact ⟨j + 1, _, _, by omega, by go_num, rfl, hst.out, hos.out, hbw.setCell (Nat.le_refl _) _⟩
          case measure => simp [intOf]; omega
      · obtain rfl : j = a := by omega
        have hlast := hinv.last HX.out (Nat.lt_of_lt_of_le HY.out (Nat.pow_le_pow_right (by decide) (by omega)))
        have hos := hown.set (j := j) (by omega) (d := cr) (by omega)
        rw [hlast] at hos
        have Hos := Lib.hid hos
        have hoc := hown.cell (j := j) (by omega)
        clear hos hlast hinv hrX hrY
        generalize dg 64 S j = z at *
        go_wp2_with fail
        refine (trim_any _ 64 (N + M) (j + 1) w.heap.size _ (by decide) (Hos.out.rd (by omega))).mono ?_
        rintro e w3 ⟨v3, rfl, h3, h3f, rfl⟩
        go_wp2
        go_ret
        rw [HT2.out]
        exact ⟨_, rfl, h3, h3f (Hos.out.fr (Nat.le_refl _)), hbw.setCell (Nat.le_refl _) _⟩

end Go.Proofs.YtcgceigmglikpaaDoor
