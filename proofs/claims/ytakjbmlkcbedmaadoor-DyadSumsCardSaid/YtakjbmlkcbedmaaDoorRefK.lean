/- Walks of the document's answer for layer 3: Cmp, Minus, Times, Bits. -/
import Derived.Outline
import Derived.Test.YtakjbmlkcbedmaaDoorRefN
import Derived.Test.YtakjbmlkcbedmaaDoorRefA
import Derived.Test.YtakjbmlkcbedmaaDoorPackA
import Derived.Test.YtakjbmlkcbedmaaDoorPackB
namespace Go.Proofs.YtakjbmlkcbedmaaDoor
set_option linter.unusedVariables false
open Go.RowKit

set_option maxHeartbeats 1000000 in
theorem rCmp_any (v u : Value) (N M : Nat) (w : World) (hv1 : Rd 32 w v N (nd 32 N)) (hu1 : Rd 32 w u M (nd 32 M)) :
    Calls Tryd.prog 62 #[v, u] w fun e w' => e = .returned (.int .i64 (cmpN N M)) ∧ ∃ d, w' = w.drewN d := by
  obtain ⟨A1, c1, rfl, hc1, hcm1⟩ := hv1.form
  obtain ⟨A2, c2, rfl, hc2, hcm2⟩ := hu1.form
  obtain ⟨_, _, _, hr1⟩ := hv1.at_
  obtain ⟨_, _, _, hr2⟩ := hu1.at_
  have HN := Lib.hid (lt_nd 32 N (by decide))
  have HM := Lib.hid (lt_nd 32 M (by decide))
  rcases Nat.lt_trichotomy (nd 32 N) (nd 32 M) with hlt | heq | hgt
  · have H := Lib.hid (cmpN_lt (nd_lt 32 N M (by decide) hlt))
    generalize nd 32 N = a at *
    generalize nd 32 M = b at *
    clear hv1 hu1 hr1 hr2
    go_enter Tryd.func62, Tryd.ntmps62
    go_wp2
    go_ret
    exact ⟨by rw [H.out]; rfl, 0, rfl⟩
  · rw [← heq] at hu1 hr2 HM hc2 ⊢
    generalize nd 32 N = a at *
    clear heq hv1 hu1
    go_enter Tryd.func62, Tryd.ntmps62
    go_wp2
    go_loopw [5] (fun x wr => ∃ i : Nat, i ≤ a ∧ x = .int .i64 ((i : Int) - 1) ∧ N / 2 ^ (32 * i) = M / 2 ^ (32 * i) ∧ ∃ d, wr = w.drewN d) (fun x _ => (intOf x + 1).toNat)
    case atStart => exact ⟨a, Nat.le_refl _, rfl, by rw [Nat.div_eq_of_lt HN.out, Nat.div_eq_of_lt HM.out], 0, rfl⟩
    case round =>
      obtain ⟨i, hi, rfl, hq, d, rfl⟩ := hrel
      rcases Nat.eq_zero_or_pos i with rfl | hpos
      · have H := Lib.hid (cmpN_eq (a := N) (b := M) (by simpa using hq))
        clear hq
        go_wp2
        go_ret
        exact ⟨by rw [H.out]; rfl, d, rfl⟩
      · obtain ⟨b1, o1, rfl, hb1, hcell1⟩ := hr1 (by omega)
        obtain ⟨b2, o2, rfl, hb2, hcell2⟩ := hr2 (by omega)
        obtain ⟨j, rfl⟩ : ∃ j, i = j + 1 := ⟨i - 1, by omega⟩
        have hk1 : w.cell? ⟨b1, o1 + j, none⟩ = _ := hcell1 j (by omega)
        have hk2 : w.cell? ⟨b2, o2 + j, none⟩ = _ := hcell2 j (by omega)
        have Hlt := fun h => Lib.hid (cmpN_lt (lt_of_dg 32 N M j hq h))
        have Hgt := fun h => Lib.hid (cmpN_gt (lt_of_dg 32 M N j hq.symm h))
        have Heq := fun h => Lib.hid (eq_of_dg 32 N M j hq h)
        clear hq hcell1 hcell2 hr1 hr2
        have ej : ((j + 1 : Nat) : Int) - 1 = j := by omega
        rw [ej]
        generalize dg 32 N j = x at *
        generalize dg 32 M j = y at *
        rcases Nat.lt_trichotomy x y with hxy | hxy | hxy
        · have H := Hlt hxy
          clear Hlt Hgt Heq
          have t1 : decide (x < y) = true := by simpa using hxy
          go_wp2
          go_quiet (fail)
          go_wp2
          go_ret
          exact ⟨by rw [H.out]; rfl, by first | exact ⟨_, rfl⟩ | (simp only [World.drewN_drewN]; exact ⟨_, rfl⟩)⟩
        · have H := Heq hxy
          clear Hlt Hgt Heq
          subst hxy
          have t1 : decide (x < x) = false := by simp
          go_wp2
          go_quiet (fail)
          go_wp2
          go_quiet (fail)
          go_wp2
          go_roundw
          case rel => exact ⟨j, by omega, rfl, H.out, by first | exact ⟨_, rfl⟩ | (simp only [World.drewN_drewN]; exact ⟨_, rfl⟩)⟩
          case measure => simp [intOf]
        · have H := Hgt hxy
          clear Hlt Hgt Heq
          have t1 : decide (x < y) = false := by simp; omega
          have t2 : decide (y < x) = true := by simp; omega
          go_wp2
          go_quiet (fail)
          go_wp2
          go_quiet (fail)
          go_wp2
          go_ret
          exact ⟨by rw [H.out]; rfl, by first | exact ⟨_, rfl⟩ | (simp only [World.drewN_drewN]; exact ⟨_, rfl⟩)⟩
  · have H := Lib.hid (cmpN_gt (nd_lt 32 M N (by decide) hgt))
    generalize nd 32 N = a at *
    generalize nd 32 M = b at *
    clear hv1 hu1 hr1 hr2
    go_enter Tryd.func62, Tryd.ntmps62
    go_wp2
    go_ret
    exact ⟨by rw [H.out]; rfl, 0, rfl⟩

set_option maxRecDepth 100000 in
set_option maxHeartbeats 2000000 in
theorem rMinus_any (v u : Value) (N n M m : Nat) (w : World) (hv : Rd 32 w v N n) (hu : Rd 32 w u M m) (hle : M ≤ N) :
    Calls Tryd.prog 63 #[v, u] w fun e w' => ∃ v', e = .returned v' ∧ (Rd 32 w' v' (N - M) (nd 32 (N - M)) ∧ Fr w.heap.size w' v') ∧ Below w.heap.size w w' := by
  obtain ⟨A1, c1, rfl, hc1, hcm1⟩ := hv.form
  obtain ⟨A2, c2, rfl, hc2, hcm2⟩ := hu.form
  obtain ⟨_, _, _, hr1⟩ := hv.at_
  obtain ⟨_, _, _, hr2⟩ := hu.at_
  have HN := Lib.hid hv.lt
  have HM := Lib.hid hu.lt
  have HLE := Lib.hid hle
  have hmk := make_words n hcm1
  have Hn := Lib.hid hcm1
  clear hv hu hle
  go_enter Tryd.func63, Tryd.ntmps63
  go_wp2
  clear hmk
  go_loopw [6, 7] (fun c i wr => ∃ j cr O : Nat, j ≤ n ∧ i = .int .i64 j ∧ c = .int .u64 cr ∧ cr ≤ 1 ∧ O + M % 2 ^ (32 * j) = N % 2 ^ (32 * j) + cr * 2 ^ (32 * j) ∧ O < 2 ^ (32 * j) ∧ Own 32 wr w.heap.size O n ∧ Below w.heap.size w wr) (fun _ i _ => n - (intOf i).toNat)
  case atStart => exact ⟨0, 0, 0, Nat.zero_le _, rfl, rfl, by omega, by simp [Nat.mod_one], by simp, Own.make n, (Below.refl _ _).alloc (Nat.le_refl _) _⟩
  case round =>
    obtain ⟨j, cr, O, hj, rfl, rfl, hcr, hinv, hO, hown, hbw⟩ := hrel
    have hf := hown.free j
    by_cases hja : j < n
    · obtain ⟨b1, o1, rfl, hb1, hcell1⟩ := hr1 (by omega)
      have hk1 : wr.cell? ⟨b1, o1 + j, none⟩ = _ := (hbw.cell (p := ⟨b1, o1 + j, none⟩) hb1).trans (hcell1 j hja)
      have hd0 : dg 32 O j = 0 := dg_high 32 O j j hO (Nat.le_refl _)
      have hset : ∀ d, setDg 32 O j d = O + d * 2 ^ (32 * j) := by
        intro d; have e := setDg_add 32 O j d; rw [hd0, Nat.zero_mul, Nat.add_zero] at e; exact e
      have hnext : ∀ d, d < 4294967296 → O + d * 2 ^ (32 * j) < 2 ^ (32 * (j + 1)) := by
        intro d hd
        rw [pow_succ_mul, show (2 : Nat) ^ 32 = 4294967296 from rfl]
        have h1 : (d + 1) * 2 ^ (32 * j) ≤ 4294967296 * 2 ^ (32 * j) := Nat.mul_le_mul_right _ hd
        rw [Nat.succ_mul] at h1
        rw [Nat.mul_comm (2 ^ (32 * j))]; omega
      obtain ⟨s1, s2⟩ := minus_step hinv hcr
      have hx := dg32_lt N j
      have hy := dg32_lt M j
      have hos := fun d hd => hown.set (j := j) hja (d := d) hd
      simp only [hset] at hos
      have S1 := Lib.hid s1
      have S2 := Lib.hid s2
      have Hos := Lib.hid hos
      have Hnx := Lib.hid hnext
      have hoc := hown.cell (j := j) hja
      rw [hd0] at hoc
      clear s1 s2 hos hnext hset hinv hd0 hown hcell1
      by_cases hjb : j < m
      · obtain ⟨b2, o2, rfl, hb2, hcell2⟩ := hr2 (by omega)
        have hk2 : wr.cell? ⟨b2, o2 + j, none⟩ = _ := (hbw.cell (p := ⟨b2, o2 + j, none⟩) hb2).trans (hcell2 j hjb)
        clear hr1 hr2 hcell2
        generalize dg 32 N j = x at *
        generalize dg 32 M j = y at *
        obtain ⟨s, hs⟩ : ∃ s, s = y + cr := ⟨_, rfl⟩
        have hw1 : IntKind.u64.wrap ((cr : Int) + (y : Int)) = (s : Int) := by rw [IntKind.wrap_u64]; omega
        rw [← hs] at S1 S2
        have hsl : s ≤ 4294967296 := by omega
        clear hs
        by_cases hlt : x < s
        · obtain ⟨e1, e2⟩ := S1.out hlt
          obtain ⟨t, ht⟩ : ∃ t, t = x + 4294967296 := ⟨_, rfl⟩
          have hw2 : IntKind.u64.wrap ((x : Int) + 4294967296) = (t : Int) := by rw [IntKind.wrap_u64]; omega
          obtain ⟨d, hd⟩ : ∃ d, d = x + 4294967296 - s := ⟨_, rfl⟩
          have hw3 : IntKind.u64.wrap ((t : Int) - (s : Int)) = (d : Int) := by rw [IntKind.wrap_u64]; omega
          rw [← hd] at e1 e2
          have E1 := Lib.hid e1
          have E2 := Lib.hid e2
          clear hd ht e1 e2 S1 S2
          go_wp2
          go_roundw
          case rel => exact ⟨j + 1, 1, _, by omega, by go_num, rfl, Nat.le_refl _, E1.out, Hnx.out d E2.out, Hos.out d E2.out, hbw.setCell (Nat.le_refl _) _⟩
          case measure => simp [intOf]; omega
        · obtain ⟨e1, e2⟩ := S2.out hlt
          obtain ⟨d, hd⟩ : ∃ d, d = x - s := ⟨_, rfl⟩
          have hw3 : IntKind.u64.wrap ((x : Int) - (s : Int)) = (d : Int) := by rw [IntKind.wrap_u64]; omega
          rw [← hd] at e1 e2
          have E1 := Lib.hid e1
          have E2 := Lib.hid e2
          clear hd e1 e2 S1 S2
          go_wp2
          go_roundw
          case rel => exact ⟨j + 1, 0, _, by omega, by go_num, rfl, Nat.zero_le _, E1.out, Hnx.out d E2.out, Hos.out d E2.out, hbw.setCell (Nat.le_refl _) _⟩
          case measure => simp [intOf]; omega
      · have hy0 : dg 32 M j = 0 := dg_high 32 _ j m HM.out (by omega)
        rw [hy0, Nat.zero_add] at S1 S2
        clear hr1 hr2 hy0 hy
        generalize dg 32 N j = x at *
        by_cases hlt : x < cr
        · obtain ⟨e1, e2⟩ := S1.out hlt
          obtain ⟨t, ht⟩ : ∃ t, t = x + 4294967296 := ⟨_, rfl⟩
          have hw2 : IntKind.u64.wrap ((x : Int) + 4294967296) = (t : Int) := by rw [IntKind.wrap_u64]; omega
          obtain ⟨d, hd⟩ : ∃ d, d = x + 4294967296 - cr := ⟨_, rfl⟩
          have hw3 : IntKind.u64.wrap ((t : Int) - (cr : Int)) = (d : Int) := by rw [IntKind.wrap_u64]; omega
          rw [← hd] at e1 e2
          have E1 := Lib.hid e1
          have E2 := Lib.hid e2
          clear hd ht e1 e2 S1 S2
          go_wp2
          go_roundw
          case rel => exact ⟨j + 1, 1, _, by omega, by go_num, rfl, Nat.le_refl _, E1.out, Hnx.out d E2.out, Hos.out d E2.out, hbw.setCell (Nat.le_refl _) _⟩
          case measure => simp [intOf]; omega
        · obtain ⟨e1, e2⟩ := S2.out hlt
          obtain ⟨d, hd⟩ : ∃ d, d = x - cr := ⟨_, rfl⟩
          have hw3 : IntKind.u64.wrap ((x : Int) - (cr : Int)) = (d : Int) := by rw [IntKind.wrap_u64]; omega
          rw [← hd] at e1 e2
          have E1 := Lib.hid e1
          have E2 := Lib.hid e2
          clear hd e1 e2 S1 S2
          go_wp2
          go_roundw
          case rel => exact ⟨j + 1, 0, _, by omega, by go_num, rfl, Nat.zero_le _, E1.out, Hnx.out d E2.out, Hos.out d E2.out, hbw.setCell (Nat.le_refl _) _⟩
          case measure => simp [intOf]; omega
    · obtain rfl : j = n := by omega
      have Hlast := Lib.hid (minus_last hinv HN.out HLE.out hO)
      clear hinv hr1 hr2 hf
      go_wp2_with fail
      refine (rTrim_fr _ 32 O j w.heap.size _ (by decide) (hown.rd Hn.out) (hown.fr (Nat.le_refl _))).mono ?_
      rintro e w3 ⟨v3, rfl, ⟨h3, h3f⟩, rfl⟩
      go_wp2
      go_ret
      rw [← Hlast.out]
      exact ⟨_, rfl, ⟨h3, h3f⟩, hbw⟩

set_option maxRecDepth 100000 in
set_option maxHeartbeats 2000000 in
theorem rTimes_any (v u : Value) (N a M b : Nat) (w : World) (hv1 : Rd 32 w v N a) (hu1 : Rd 32 w u M b) (hn : a + b ≤ 35184372088832) :
    Calls Tryd.prog 68 #[v, u] w fun e w' => ∃ v', e = .returned v' ∧ (Rd 32 w' v' (N * M) (nd 32 (N * M)) ∧ Fr w.heap.size w' v') ∧ Below w.heap.size w w' := by
  have HN := Lib.hid hv1.lt
  have HM := Lib.hid hu1.lt
  have hmk := fun wx => make_words2 a b hn wx
  obtain ⟨A1, c1, rfl, hc1, hcm1⟩ := hv1.form
  obtain ⟨A2, c2, rfl, hc2, hcm2⟩ := hu1.form
  obtain ⟨_, _, _, hrX⟩ := hv1.at_
  obtain ⟨_, _, _, hrY⟩ := hu1.at_
  clear hv1 hu1
  go_enter Tryd.func68, Tryd.ntmps68
  go_wp2
  clear hmk
  go_loopw [6] (fun i wr => ∃ j : Nat, j ≤ a ∧ i = .int .i64 j ∧ Own 32 wr w.heap.size (N % 2 ^ (32 * j) * M) (a + b) ∧ Below w.heap.size w wr) (fun i _ => a - (intOf i).toNat)
  case atStart => exact ⟨0, Nat.zero_le _, rfl, by simpa [Nat.mod_one] using Own.make (a + b), (Below.refl _ _).alloc (Nat.le_refl _) _⟩
  case round =>
    obtain ⟨i, hi, rfl, hown, hbw⟩ := hrel
    by_cases hia : i < a
    · obtain ⟨b1, o1, rfl, hb1, hcell1⟩ := hrX (by omega)
      have hst := Lib.hid (TimesInv.start N M b _ i rfl HM.out)
      have hx := dg32_lt N i
      obtain ⟨x, hxe⟩ : ∃ x, x = dg 32 N i := ⟨_, rfl⟩
      have Hc1 := Lib.hid (hcell1 i hia)
      rw [← hxe] at Hc1 hx
      have Hx := Lib.hid hxe
      clear hxe hrX hcell1
      obtain ⟨P0, hP0⟩ : ∃ P0, P0 = N % 2 ^ (32 * i) * M := ⟨_, rfl⟩
      rw [← hP0] at hown hst
      clear hP0
      go_wp2
      go_loopw [7, 8] (fun c k wr => ∃ j cr P : Nat, j ≤ b ∧ k = .int .i64 j ∧ c = .int .u64 cr ∧ TimesInv N M b P i j cr ∧ Own 32 wr w.heap.size P (a + b) ∧ Below w.heap.size w wr) (fun _ k _ => b - (intOf k).toNat)
      case atStart => exact ⟨0, 0, _, Nat.zero_le _, rfl, rfl, hst.out, hown, hbw⟩
      case round =>
        obtain ⟨j, cr, P, hj, rfl, rfl, hinv, hown, hbw⟩ := hrel
        have hcr := hinv.2.1
        have hk1 := (hbw.cell (p := ⟨b1, o1 + i, none⟩) hb1).trans Hc1.out
        by_cases hjb : j < b
        · obtain ⟨b2, o2, rfl, hb2, hcell2⟩ := hrY (by omega)
          have hk2 : wr.cell? ⟨b2, o2 + j, none⟩ = _ := (hbw.cell (p := ⟨b2, o2 + j, none⟩) hb2).trans (hcell2 j hjb)
          have hoc := hown.cell (j := i + j) (by omega)
          have hf := hown.free (i + j)
          have hy := dg32_lt M j
          have hp := dg32_lt P (i + j)
          obtain ⟨t, ht⟩ : ∃ t, t = dg 32 P (i + j) + x * dg 32 M j + cr := ⟨_, rfl⟩
          obtain ⟨hst2, htl⟩ := hinv.step (t := t) hjb (by rw [← Hx.out]; exact ht)
          have hos := hown.set (j := i + j) (by omega) (d := t % 4294967296) (Nat.mod_lt _ (by decide))
          have Hst := Lib.hid hst2
          have Hos := Lib.hid hos
          have hxy : x * dg 32 M j ≤ 4294967295 * 4294967295 := Nat.mul_le_mul (by omega) (by omega)
          clear hst2 hos hinv hown hcell2 hrY
          generalize dg 32 M j = y at *
          generalize dg 32 P (i + j) = p at *
          obtain ⟨xy, hxy'⟩ : ∃ xy, xy = x * y := ⟨_, rfl⟩
          rw [← hxy'] at ht hxy
          have hw1 : IntKind.u64.wrap ((x : Int) * (y : Int)) = (xy : Int) := by
            rw [show (x : Int) * (y : Int) = ((x * y : Nat) : Int) from by simp, ← hxy', IntKind.wrap_u64]; omega
          obtain ⟨q, hq⟩ : ∃ q, q = p + xy := ⟨_, rfl⟩
          have hw2 : IntKind.u64.wrap ((p : Int) + (xy : Int)) = (q : Int) := by rw [IntKind.wrap_u64]; omega
          have hw3 : IntKind.u64.wrap ((q : Int) + (cr : Int)) = (t : Int) := by rw [IntKind.wrap_u64]; omega
          have hw4 : (t : Int).tmod 4294967296 = ((t % 4294967296 : Nat) : Int) := by rw [Int.tmod_eq_emod_of_nonneg (by omega)]; omega
          have hw5 : IntKind.u64.wrap ((t : Int) / 4294967296) = ((t / 4294967296 : Nat) : Int) := by rw [show (t : Int) / 4294967296 = ((t / 4294967296 : Nat) : Int) from by omega, wrap_u64_nat]; omega
          clear ht hq hxy hxy' htl
          generalize t % 4294967296 = lo at *
          generalize t / 4294967296 = hi0 at *
          go_upto_region 9 with (fail)
          go_quiet (fail)
          have Hb := Lib.hid hbw
          clear hbw
          go_wp2
          go_roundw
          case rel => exact ⟨j + 1, hi0, _, by omega, by go_num, rfl, Hst.out, Hos.out, (below_drewN Hb.out nq).setCell (Nat.le_refl _) _⟩
          case measure => simp [intOf]; omega
        · obtain rfl : j = b := by omega
          have hoc := hown.cell (j := i + j) (by omega)
          have hf := hown.free (i + j)
          have hos := hown.set (j := i + j) (by omega) (d := cr) hcr
          obtain ⟨hp0, hl⟩ := hinv.last HM.out
          rw [hl] at hos
          rw [hp0] at hoc
          have Hos := Lib.hid hos
          have hw1 : IntKind.u64.wrap (cr : Int) = (cr : Int) := by rw [IntKind.wrap_u64]; omega
          clear hos hinv hown hst hrY hp0 hl
          go_wp2
          go_roundw
          case rel => exact ⟨i + 1, by omega, by go_num, Hos.out, hbw.setCell (Nat.le_refl _) _⟩
          case measure => simp [intOf]; omega
    · obtain rfl : i = a := by omega
      rw [Nat.mod_eq_of_lt HN.out] at hown
      go_wp2_with fail
      refine (rTrim_fr _ 32 (N * M) (i + b) w.heap.size _ (by decide) (hown.rd hn) (hown.fr (Nat.le_refl _))).mono ?_
      rintro e w3 ⟨v3, rfl, h3, rfl⟩
      go_wp2
      go_ret
      exact ⟨_, rfl, h3, hbw⟩

end Go.Proofs.YtakjbmlkcbedmaaDoor
