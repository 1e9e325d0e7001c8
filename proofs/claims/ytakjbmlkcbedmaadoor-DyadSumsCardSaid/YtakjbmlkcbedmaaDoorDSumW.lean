/- The walk of dyad.Sum. -/
import Derived.Outline
import Derived.Deep.LoopGhost
import Derived.Deep.RegionHeld3
import Derived.Test.YtakjbmlkcbedmaaDoorReady
import Derived.Test.YtakjbmlkcbedmaaDoorDSumL
import Derived.Test.YtakjbmlkcbedmaaDoorDLaw
import Derived.Test.YtakjbmlkcbedmaaDoorPackC
namespace Go.Proofs.YtakjbmlkcbedmaaDoor
set_option linter.unusedVariables false
set_option linter.unusedSimpArgs false
open Go.RowKit

/-- an exact number of x.1 words in a list, at place j -/
def DyAt (w : World) (b o j : Nat) (x : Nat × D) : Prop := ∃ A c, w.cell? ⟨b, o + j * 3, none⟩ = some (.bool x.2.s) ∧ w.cell? ⟨b, o + j * 3 + 1, none⟩ = some (.slice A x.1 c) ∧ w.cell? ⟨b, o + j * 3 + 2, none⟩ = some (.int .i64 x.2.e) ∧ Rd 64 w (.slice A x.1 c) x.2.n x.1

/-- v is a list of n exact numbers -/
def LsD (w : World) (v : Value) (n : Nat) (f : Nat → Nat × D) : Prop := ∃ A c, v = .slice A n c ∧ n ≤ 9223372036854775807 ∧ (0 < n → ∃ b o, A = some ⟨b, o, none⟩ ∧ b < w.heap.size ∧ ∀ j, j < n → DyAt w b o j (f j))

theorem DyAt.below {w w' : World} {b o j : Nat} {x : Nat × D} (h : DyAt w b o j x) (hb : Below w.heap.size w w') (hl : b < w.heap.size) : DyAt w' b o j x := by
  obtain ⟨A, c, h0, h1, h2, h3⟩ := h
  have key := fun i (v : Value) (h : w.cell? ⟨b, i, none⟩ = some v) => (hb.cell (p := ⟨b, i, none⟩) hl).trans h
  exact ⟨A, c, key _ _ h0, key _ _ h1, key _ _ h2, h3.below hb⟩

theorem LsD.below {w w' : World} {v : Value} {n : Nat} {f : Nat → Nat × D} (h : LsD w v n f) (hb : Below w.heap.size w w') : LsD w' v n f := by
  obtain ⟨A, c, e, hn, h⟩ := h
  refine ⟨A, c, e, hn, fun h0 => ?_⟩
  obtain ⟨b, o, e2, hl, hh⟩ := h h0
  exact ⟨b, o, e2, Nat.lt_of_lt_of_le hl hb.size, fun j hj => (hh j hj).below hb hl⟩

theorem DyAt.lt {w : World} {b o j : Nat} {x : Nat × D} (h : DyAt w b o j x) : x.2.n < 2 ^ (64 * x.1) := by
  obtain ⟨A, c, _, _, _, h⟩ := h
  exact h.lt

theorem dv_parts {B : Nat} {w : World} {A : Option Addr} {c : Nat} {d : D} (h : DV B w (.agg #[.bool d.s, .slice A (nd 64 d.n) c, .int .i64 d.e]) d) : Rd 64 w (.slice A (nd 64 d.n) c) d.n (nd 64 d.n) ∧ Fr B w (.slice A (nd 64 d.n) c) := by
  obtain ⟨A2, c2, e, _, _, hR, hF⟩ := h
  simp only [Value.agg.injEq, Array.mk.injEq, List.cons.injEq, and_true, Value.slice.injEq, true_and] at e
  obtain ⟨rfl, rfl⟩ := e
  exact ⟨hR, hF⟩

set_option maxRecDepth 100000 in
set_option maxHeartbeats 16000000 in
theorem Sum_any (v : Value) (n : Nat) (f : Nat → Nat × D) (w : World) (hv : LsD w v n f) (hG : Gl w) :
    Calls Tryd.prog 9 #[v] w fun e' w' => ∃ x, e' = .returned (.tuple #[x, .int .i64 (SumLs n f).2]) ∧ DV w.heap.size w' x (SumLs n f).1 ∧ Below w.heap.size w w' := by
  obtain ⟨A, c, rfl, hn, hs⟩ := hv
  have hb0 := below1 w (.cells #[.bool false, .slice none 0 0, .int .i64 0] 26)
  have b1 := Box3.new w (.bool false) (.slice none 0 0) (.int .i64 0) 26
  obtain ⟨W, hW⟩ : ∃ W, W = w.alloc (.cells #[.bool false, .slice none 0 0, .int .i64 0] 26) := ⟨_, rfl⟩
  have hWs : w.heap.size < W.heap.size := by rw [hW]; simp
  rw [← hW] at hb0 b1
  have HB := Lib.hid hb0
  have B1 := Lib.hid b1
  have HG := Lib.hid (hG.below hb0)
  have HS := Lib.hid hs
  have HWs := Lib.hid hWs
  obtain ⟨S, hS⟩ : ∃ S, S = SumLs n f := ⟨_, rfl⟩
  rw [← hS]
  obtain ⟨y0, y1, y2, yf, -⟩ := b1.cells
  clear hb0 b1 hG hs hWs
  go_enter Tryd.func9, Tryd.ntmps9
  go_upto_region 1 with (fail)
  rw [← hW]
  clear hW
  by_cases h1 : 65536 < n
  · have hS' : S = (D.zero, 5) := by rw [hS]; unfold SumLs; exact if_pos h1
    have HSe := Lib.hid hS'
    have t1 : decide ((65536 : Int) < (n : Int)) = true := decide_eq_true (by omega)
    clear hS hS' h1
    go_wp2_with fail
    obtain ⟨q0, q1, q2, -, -⟩ := (B1.out.setAll (.bool false) (.slice none 0 0) (.int .i64 0)).cells
    refine bodyPost_ret (v := .tuple #[.agg #[.bool false, .slice none 0 0, .int .i64 0], .int .i64 5]) (by simp [results, Tryd.results9, go_sem, y0, y1, y2, q0, q1, q2]) rfl ?_
    exact ⟨_, by rw [HSe.out], by rw [HSe.out]; exact DV.zero, by first | exact HB.out | exact below_box HB.out (Nat.le_refl _) _ _ _⟩
  have t1 : decide ((65536 : Int) < (n : Int)) = false := decide_eq_false (by omega)
  have Hn := Lib.hid (show n ≤ 65536 by omega)
  have HS1 : Hid (S = if errF f n ≠ 0 then (D.zero, errF f n) else ansD (sumF f n)) := by show _ = _; rw [hS]; unfold SumLs; exact if_neg h1
  clear h1 hS y0 y1 y2 yf
  go_wp2_with fail
  clear t1
  go_loopw [16] (fun v wr => ∃ i : Nat, i ≤ n ∧ v = .int .i64 i ∧ Hid (errF f i = 0) ∧ Hid (Below W.heap.size W wr)) (fun v _ => n - (intOf v).toNat)
  case atStart => exact ⟨0, Nat.zero_le _, rfl, Lib.hid rfl, Lib.hid (Below.refl _ _)⟩
  case round =>
    obtain ⟨i, hi, rfl, HE, HBr⟩ := hrel
    by_cases hin : i < n
    · obtain ⟨b, o, rfl, hb, hall⟩ := HS.out (by omega)
      obtain ⟨Ai, ci, k0, k1, k2, r⟩ := hall i hin
      have hbW : Below w.heap.size w wr := keep_belowB HB.out HBr.out (by have := HB.out.size; omega)
      have key := fun j (v : Value) (h : w.cell? ⟨b, j, none⟩ = some v) => (hbW.cell (p := ⟨b, j, none⟩) hb).trans h
      replace k0 := key _ _ k0
      replace k1 := key _ _ k1
      replace k2 := key _ _ k2
      have hin' : (i : Int) < n := by omega
      obtain ⟨fi, hfi⟩ : ∃ fi, fi = f i := ⟨_, rfl⟩
      rw [← hfi] at k0 k1 k2 r
      have Hfi := Lib.hid hfi
      have HRf := Lib.hid (refuses_any fi.2.s Ai fi.1 ci fi.2.e (wr.alloc (.cells #[.bool fi.2.s, .slice Ai fi.1 ci, .int .i64 fi.2.e] 26)) r.len)
      have b2 := Box3.new wr (.bool fi.2.s) (.slice Ai fi.1 ci) (.int .i64 fi.2.e) 26
      have hb2 := below1 wr (.cells #[.bool fi.2.s, .slice Ai fi.1 ci, .int .i64 fi.2.e] 26)
      have HBx := Lib.hid (keep_below HBr.out hb2)
      obtain ⟨p0, p1, p2, -, -⟩ := b2.cells
      clear key hall r hb hbW hfi b2 hb2
      go_wp2_with fail
      refine HRf.out.mono ?_
      rintro _ w2 ⟨rfl, hb2⟩
      replace HBr := Lib.hid (keep_below HBx.out hb2)
      clear hb2 HRf HBx k0 k1 k2 p0 p1 p2
      by_cases hz : refD fi.1 fi.2.e = 0
      · rw [hz]
        have HE2 : Hid (errF f (i + 1) = 0) := by
          show _ = _
          unfold errF
          rw [if_neg (by simpa using HE.out), ← Hfi.out, hz]
        clear hz HE Hfi
        go_wp2_with fail
        go_roundw
        case rel => exact ⟨i + 1, by omega, by go_num, HE2, HBr⟩
        case measure => simp [intOf]; omega
      · have HSe : Hid (S = (D.zero, refD fi.1 fi.2.e)) := by
          show _ = _
          have h2 := errF_at HE.out (by rw [← Hfi.out]; exact hz) hin
          rw [HS1.out, h2, ← Hfi.out, if_pos (by simpa using hz)]
        have t2 : (refD fi.1 fi.2.e != 0) = true := by simpa using hz
        have t3 : (refD fi.1 fi.2.e == 0) = false := by simpa using hz
        generalize refD fi.1 fi.2.e = rr at *
        clear hz HE Hfi HS1
        obtain ⟨y0, y1, y2, yf, -⟩ := (B1.out.keep HBr.out).cells
        go_wp2_with fail
        obtain ⟨q0, q1, q2, -, -⟩ := ((B1.out.keep HBr.out).setAll (.bool false) (.slice none 0 0) (.int .i64 0)).cells
        refine bodyPost_ret (v := .tuple #[.agg #[.bool false, .slice none 0 0, .int .i64 0], .int .i64 rr]) (by simp [results, Tryd.results9, go_sem, y0, y1, y2, q0, q1, q2]) rfl ?_
        have hBB := keep_belowB HB.out HBr.out (by have := HB.out.size; omega)
        exact ⟨_, by rw [HSe.out], by rw [HSe.out]; exact DV.zero, by first | exact hBB | exact below_box hBB (Nat.le_refl _) _ _ _⟩
    · obtain rfl : i = n := by omega
      have HSa : Hid (S = ansD (sumF f i)) := by show _ = _; rw [HS1.out, if_neg (by simpa using HE.out)]
      have HW2 := Lib.hid (below1 wr (.cells #[.bool false, .slice none 0 0, .int .i64 0] 26))
      have B7 := Lib.hid (DVB.new (B := W.heap.size) (d := D.zero) (w := wr) (A := none) (m := 0) (by rw [show nd 64 D.zero.n = 0 from nd_zero 64]; exact DV.zero))
      rw [show nd 64 D.zero.n = 0 from nd_zero 64] at B7
      have HB2 := Lib.hid (keep_below HBr.out HW2.out)
      have Hg7 := Lib.hid (show W.heap.size ≤ wr.heap.size from HBr.out.size)
      clear HS1 HBr
      go_upto_region 11 with (fail)
      obtain ⟨g7, hg7⟩ : ∃ g7, g7 = wr.heap.size := ⟨_, rfl⟩
      rw [← hg7] at B7 Hg7 HW2
      rw [← hg7]
      obtain ⟨W2, hW2⟩ : ∃ W2, W2 = wr.alloc (.cells #[.bool false, .slice none 0 0, .int .i64 0] 26) := ⟨_, rfl⟩
      have B7' : Hid (DVB W.heap.size g7 D.zero W2) := by rw [hW2]; exact B7
      rw [← hW2] at HB2 HW2
      rw [← hW2]
      clear hW2 hg7 B7 HW2
      have HE' := HE
      go_wp2_with fail
      go_loopw [30] (fun v wr => ∃ j : Nat, j ≤ i ∧ v = .int .i64 j ∧ Hid (DVB W.heap.size g7 (sumF f j) wr) ∧ Hid (Below W.heap.size W wr)) (fun v _ => i - (intOf v).toNat)
      case atStart => exact ⟨0, Nat.zero_le _, rfl, B7', HB2⟩
      case round =>
        obtain ⟨j, hj, rfl, B7, HBr⟩ := hrel
        by_cases hji : j < i
        · obtain ⟨b, o, rfl, hb, hall⟩ := HS.out (by omega)
          obtain ⟨Ai, ci, k0, k1, k2, r⟩ := hall j hji
          have hbW : Below w.heap.size w wr := keep_belowB HB.out HBr.out (by have := HB.out.size; omega)
          have key := fun j (v : Value) (h : w.cell? ⟨b, j, none⟩ = some v) => (hbW.cell (p := ⟨b, j, none⟩) hb).trans h
          replace k0 := key _ _ k0
          replace k1 := key _ _ k1
          replace k2 := key _ _ k2
          have hji' : (j : Int) < i := by omega
          have hz := errF_zero HE'.out j hji
          have hsm := sumF_small (f := f) (n := j) (by have := Hn.out; omega) fun q hq => ⟨errF_zero HE'.out q (by omega), (hall q (by omega)).lt⟩
          have hlt := (hall j hji).lt
          obtain ⟨fi, hfi⟩ : ∃ fi, fi = f j := ⟨_, rfl⟩
          rw [← hfi] at k0 k1 k2 r hz hlt
          obtain ⟨z1, z2, z3⟩ := refD_zero hz
          have hos : nd 64 (oddD fi.2).n ≤ 4000 ∧ -100000 ≤ (oddD fi.2).e ∧ (oddD fi.2).e ≤ 200000 := by
            obtain ⟨K, hK⟩ : ∃ K : Nat, K = 145536 := ⟨_, rfl⟩
            exact small_of (K := K) (oddD_can _) (oddD_low _ _ z2 (by decide)) (by rw [i_odd _ _ z2]; exact val_abs hz hlt hK) (by omega)
          have hss : sumF f (j + 1) = sumD (sumF f j) (oddD fi.2) := by rw [hfi]; rfl
          obtain ⟨d7, hd7⟩ : ∃ d, d = sumF f j := ⟨_, rfl⟩
          obtain ⟨dO, hdO⟩ : ∃ d, d = oddD fi.2 := ⟨_, rfl⟩
          obtain ⟨dS, hdS⟩ : ∃ d, d = sumD d7 dO := ⟨_, rfl⟩
          have HdS : Hid (dS = sumF f (j + 1)) := by show _ = _; rw [hss, hdS, hd7, hdO]
          rw [← hd7] at hsm B7
          rw [← hdO] at hos
          obtain ⟨X3, hX3⟩ : ∃ X, X = wr.alloc (.cells #[.bool fi.2.s, .slice Ai fi.1 ci, .int .i64 fi.2.e] 26) := ⟨_, rfl⟩
          have hbx : Below wr.heap.size wr X3 := by rw [hX3]; exact below1 ..
          have b9 : Box3 X3 wr.heap.size (.bool fi.2.s) (.slice Ai fi.1 ci) (.int .i64 fi.2.e) := by rw [hX3]; exact Box3.new ..
          have hrX : Rd 64 X3 (.slice Ai fi.1 ci) fi.2.n fi.1 := (r.below hbW).below hbx
          have hGX : Gl X3 := ((HG.out.below HBr.out)).below hbx
          obtain ⟨A7, c7, hb7, hv7⟩ := B7.out.below hbx
          obtain ⟨hR7, hF7⟩ := dv_parts hv7
          have HBX := Lib.hid (keep_below HBr.out hbx)
          have HX := Lib.hid HBX.out.size
          have B7 := Lib.hid hb7
          have HOd := Lib.hid (fun (wx : World) (hb : Below X3.heap.size X3 wx) => odd_any fi.2.s (.slice Ai fi.1 ci) fi.2.n fi.1 fi.2.e wx (hrX.below hb) (hGX.below hb) (by omega))
          have HSm := Lib.hid (fun (wx : World) (A5 : Option Addr) (c5 : Nat) (hb : Below X3.heap.size X3 wx) (h5 : Rd 64 wx (.slice A5 (nd 64 dO.n) c5) dO.n (nd 64 dO.n)) (g5 : Fr W.heap.size wx (.slice A5 (nd 64 dO.n) c5)) => sum_any W.heap.size d7.s dO.s A7 A5 c7 c5 d7.n dO.n d7.e dO.e wx (hGX.below hb) (hR7.below hb) h5 (hF7.below hb) g5 (Nat.le_trans HX.out hb.size) (by omega) (by omega) (by omega) (by omega))
          rw [← hdO] at HOd
          rw [← hdS] at HSm
          obtain ⟨y0, y1, y2, -, -⟩ := hb7.box3.cells
          obtain ⟨p0, p1, p2, -, -⟩ := b9.cells
          clear key hall r hb hbW hbx b9 hrX hGX hb7 hv7 hR7 hF7 hsm hos hss hz z1 z2 z3 hlt hfi hd7 hdO hdS
          go_upto_region 14 with (fail)
          rw [← hX3]
          clear hX3 k0 k1 k2
          refine wp_region_J0R [34, 35, 36, 37] (fun l vs wx => ∃ l0 l1 l2 l3 l4 v34 v35 v36 v37, l = [l0, l1, l2, l3, l4] ∧ vs = [v34, v35, v36, v37] ∧ (l4 = false → Below X3.heap.size X3 wx) ∧ (l4 = true → DVB W.heap.size g7 dS wx ∧ Below W.heap.size W wx) ∧ (l4 = true → l0 = true) ∧ (l4 = true → l1 = true) ∧ (l4 = true → l2 = true) ∧ (l4 = true → l3 = true) ∧ (l0 = true → v34 = Value.agg #[.bool d7.s, .slice A7 (nd 64 d7.n) c7, .int .i64 d7.e]) ∧ (l1 = true → v35 = Value.agg #[.bool fi.2.s, .slice Ai fi.1 ci, .int .i64 fi.2.e]) ∧ (l2 = true → l3 = false → DV W.heap.size wx v36 dO) ∧ (l2 = true → l1 = true) ∧ (l3 = true → l4 = false → DV W.heap.size wx v37 dS) ∧ (l3 = true → l0 = true) ∧ (l3 = true → l2 = true) ∧ (l4 = true → l3 = true)) (by kernel_rfl) (by kernel_rfl) ?_ ?_ ?_ ?_
          · refine ⟨false, false, false, false, false, _, _, _, _, rfl, rfl, fun _ => (Below.refl _ _).drew, nofun, nofun, nofun, nofun, nofun, nofun, nofun, nofun, nofun, nofun, nofun, nofun, nofun⟩
          · refine ⟨?_, ?_, ?_, ?_, ?_, trivial⟩
            · rintro _ _ wx ⟨l0, l1, l2, l3, l4, v34, v35, v36, v37, rfl, rfl, hPre, hFin, hs0, hs1, hs2, hs3, h0, h1, h2, hd2_1, h3, hd3_0, hd3_2, hd4_3⟩ hl hall K' hK
              have e0l : l0 = false := by simpa using hl
              clear hall hl
              subst e0l
              have esl : l4 = false := by cases l4 with | false => rfl | true => exact absurd (hs0 rfl) (by decide)
              subst esl
              have hB := hPre rfl
              have q0 := keep_cell hB y0
              have q1 := keep_cell hB y1
              have q2 := keep_cell hB y2
              clear HS HE'
              simp only [putL, Act.put, List.setIfInBounds_toArray, List.set_cons_zero, List.set_cons_succ]
              go_simp
              have hh := hK.out [Value.agg #[.bool d7.s, .slice A7 (nd 64 d7.n) c7, .int .i64 d7.e], v35, v36, v37] wx ⟨true, l1, l2, l3, false, Value.agg #[.bool d7.s, .slice A7 (nd 64 d7.n) c7, .int .i64 d7.e], v35, v36, v37, rfl, rfl, fun _ => hB, nofun, fun _ => rfl, nofun, nofun, nofun, fun _ => rfl, h1, h2, hd2_1, h3, fun _ => rfl, hd3_2, hd4_3⟩
              simp only [putL, Act.put, List.setIfInBounds_toArray, List.set_cons_zero, List.set_cons_succ] at hh
              exact hh
            · rintro _ _ wx ⟨l0, l1, l2, l3, l4, v34, v35, v36, v37, rfl, rfl, hPre, hFin, hs0, hs1, hs2, hs3, h0, h1, h2, hd2_1, h3, hd3_0, hd3_2, hd4_3⟩ hl hall K' hK
              have e1l : l1 = false := by simpa using hl
              clear hall hl
              subst e1l
              have esl : l4 = false := by cases l4 with | false => rfl | true => exact absurd (hs1 rfl) (by decide)
              subst esl
              have hB := hPre rfl
              have q0 := keep_cell hB p0
              have q1 := keep_cell hB p1
              have q2 := keep_cell hB p2
              clear HS HE'
              simp only [putL, Act.put, List.setIfInBounds_toArray, List.set_cons_zero, List.set_cons_succ]
              go_simp
              have hh := hK.out [v34, Value.agg #[.bool fi.2.s, .slice Ai fi.1 ci, .int .i64 fi.2.e], v36, v37] wx ⟨l0, true, l2, l3, false, v34, Value.agg #[.bool fi.2.s, .slice Ai fi.1 ci, .int .i64 fi.2.e], v36, v37, rfl, rfl, fun _ => hB, nofun, nofun, fun _ => rfl, nofun, nofun, h0, fun _ => rfl, h2, fun _ => rfl, h3, hd3_0, hd3_2, hd4_3⟩
              simp only [putL, Act.put, List.setIfInBounds_toArray, List.set_cons_zero, List.set_cons_succ] at hh
              exact hh
            · rintro _ _ wx ⟨l0, l1, l2, l3, l4, v34, v35, v36, v37, rfl, rfl, hPre, hFin, hs0, hs1, hs2, hs3, h0, h1, h2, hd2_1, h3, hd3_0, hd3_2, hd4_3⟩ hl hall K' hK
              have e1l : l1 = true := hall ⟨1, .data⟩ (by simp) (by rfl)
              have e2l : l2 = false := by simpa using hl
              clear hall hl
              subst e1l e2l
              have esl : l4 = false := by cases l4 with | false => rfl | true => exact absurd (hs2 rfl) (by decide)
              subst esl
              have hB := hPre rfl
              have ecl3 : l3 = false := by cases l3 with | false => rfl | true => exact absurd (hd3_2 rfl) (by decide)
              subst ecl3
              clear HS HE'
              simp only [putL, Act.put, List.setIfInBounds_toArray, List.set_cons_zero, List.set_cons_succ]
              have e1 := h1 rfl
              simp only [e1]
              go_simp
              refine (HOd.out _ hB).mono ?_
              rintro e w2 ⟨x2, rfl, hV2, hx1⟩
              go_simp
              have hh := hK.out [v34, v35, x2, v37] w2 ⟨l0, true, true, false, false, v34, v35, x2, v37, rfl, rfl, fun _ => keep_below hB hx1, nofun, nofun, fun _ => rfl, fun _ => rfl, nofun, h0, h1, fun _ _ => hV2.mono (Nat.le_trans HX.out hB.size), fun _ => rfl, nofun, hd3_0, fun _ => rfl, hd4_3⟩
              simp only [putL, Act.put, List.setIfInBounds_toArray, List.set_cons_zero, List.set_cons_succ] at hh
              simp only [e1] at hh
              exact hh
            · rintro _ _ wx ⟨l0, l1, l2, l3, l4, v34, v35, v36, v37, rfl, rfl, hPre, hFin, hs0, hs1, hs2, hs3, h0, h1, h2, hd2_1, h3, hd3_0, hd3_2, hd4_3⟩ hl hall K' hK
              have e0l : l0 = true := hall ⟨0, .data⟩ (by simp) (by rfl)
              have e2l : l2 = true := hall ⟨2, .data⟩ (by simp) (by rfl)
              have e3l : l3 = false := by simpa using hl
              clear hall hl
              subst e0l e2l e3l
              have esl : l4 = false := by cases l4 with | false => rfl | true => exact absurd (hs3 rfl) (by decide)
              subst esl
              have hB := hPre rfl
              have ed1 := hd2_1 rfl
              subst ed1
              clear HS HE'
              simp only [putL, Act.put, List.setIfInBounds_toArray, List.set_cons_zero, List.set_cons_succ]
              have e0 := h0 rfl
              have e1 := h1 rfl
              obtain ⟨A5, c5, e5, hc5, hm5, hR5, hF5⟩ := id (h2 rfl rfl)
              simp only [e0, e1, e5]
              go_simp
              refine (HSm.out _ A5 c5 hB hR5 hF5).mono ?_
              rintro e w2 ⟨x2, rfl, hV2, hx1⟩
              go_simp
              have hh := hK.out [v34, v35, v36, x2] w2 ⟨true, true, true, true, false, v34, v35, v36, x2, rfl, rfl, fun _ => keep_below hB hx1, nofun, fun _ => rfl, fun _ => rfl, fun _ => rfl, fun _ => rfl, h0, h1, fun _ h => absurd h (by decide), fun _ => rfl, fun _ _ => hV2, fun _ => rfl, fun _ => rfl, fun _ => rfl⟩
              simp only [putL, Act.put, List.setIfInBounds_toArray, List.set_cons_zero, List.set_cons_succ] at hh
              simp only [e0, e1, e5] at hh
              exact hh
            · rintro _ _ wx ⟨l0, l1, l2, l3, l4, v34, v35, v36, v37, rfl, rfl, hPre, hFin, hs0, hs1, hs2, hs3, h0, h1, h2, hd2_1, h3, hd3_0, hd3_2, hd4_3⟩ hl hall K' hK
              have e3l : l3 = true := hall ⟨3, .data⟩ (by simp) (by rfl)
              have e4l : l4 = false := by simpa using hl
              clear hall hl
              subst e3l e4l
              have hB := hPre rfl
              have ed0 := hd3_0 rfl
              subst ed0
              have ed2 := hd3_2 rfl
              subst ed2
              have ed1 := hd2_1 rfl
              subst ed1
              clear HS HE'
              simp only [putL, Act.put, List.setIfInBounds_toArray, List.set_cons_zero, List.set_cons_succ]
              have e0 := h0 rfl
              have e1 := h1 rfl
              obtain ⟨A8, c8, e8, hc8, hm8, hR8, hF8⟩ := id (h3 rfl rfl)
              obtain ⟨z0, z1, z2, zf, -⟩ := (B7.out.below hB).box3.cells
              simp only [e0, e1, e8]
              go_simp
              have hh := hK.out [v34, v35, v36, v37] (((wx.setCell ⟨g7, 0, none⟩ (.bool dS.s)).setCell ⟨g7, 1, none⟩ (.slice A8 (nd 64 dS.n) c8)).setCell ⟨g7, 2, none⟩ (.int .i64 dS.e)) ⟨true, true, true, true, true, v34, v35, v36, v37, rfl, rfl, nofun, fun _ => ⟨DVB.set (B7.out.below hB) (e8 ▸ h3 rfl rfl), below_box (keep_below HBX.out hB) Hg7.out _ _ _⟩, fun _ => rfl, fun _ => rfl, fun _ => rfl, fun _ => rfl, h0, h1, fun _ h => absurd h (by decide), fun _ => rfl, fun _ h => absurd h (by decide), fun _ => rfl, fun _ => rfl, fun _ => rfl⟩
              simp only [putL, Act.put, List.setIfInBounds_toArray, List.set_cons_zero, List.set_cons_succ] at hh
              simp only [e0, e1, e8] at hh
              exact hh
          · rintro vs wx ⟨l0, l1, l2, l3, l4, v34, v35, v36, v37, hl, rfl, hPre, hFin, hs0, hs1, hs2, hs3, h0, h1, h2, hd2_1, h3, hd3_0, hd3_2, hd4_3⟩
            obtain ⟨rfl, rfl, rfl, rfl, rfl⟩ : true = l0 ∧ true = l1 ∧ true = l2 ∧ true = l3 ∧ true = l4 := by simpa using hl
            simp only [putL, Act.put, List.setIfInBounds_toArray, List.set_cons_zero, List.set_cons_succ]
            have hF := Lib.hid (hFin rfl)
            clear hPre hFin hs0 hs1 hs2 hs3 h0 h1 h2 hd2_1 h3 hd3_0 hd3_2 hd4_3
            obtain ⟨F1, F2⟩ := hF.out
            clear hF
            go_wp2_with fail
            go_roundw
            case rel => exact ⟨j + 1, by omega, by go_num, Lib.hid (HdS.out ▸ F1), Lib.hid F2⟩
            case measure => simp [intOf]; omega
          · rintro _ vs wx ⟨l0, l1, l2, l3, l4, v34, v35, v36, v37, rfl, _⟩
            rfl
        · obtain rfl : j = i := by omega
          have hsm := sumF_small (f := f) (n := j) Hn.out fun q hq => ⟨errF_zero HE'.out q hq, by obtain ⟨b, o, _, _, hall⟩ := HS.out (by omega); exact (hall q hq).lt⟩
          obtain ⟨d7, hd7⟩ : ∃ d, d = sumF f j := ⟨_, rfl⟩
          rw [← hd7] at hsm B7 HSa
          obtain ⟨A7, c7, hb7, hv7⟩ := B7.out
          obtain ⟨hR7, hF7⟩ := dv_parts hv7
          have HAn := Lib.hid (answer_any d7.s (.slice A7 (nd 64 d7.n) c7) d7.n (nd 64 d7.n) d7.e wr hR7 (HG.out.below HBr.out) (by omega))
          have e7 : (⟨d7.s, d7.n, d7.e⟩ : D) = d7 := rfl
          rw [e7, ← HSa.out] at HAn
          obtain ⟨y0, y1, y2, -, -⟩ := hb7.box3.cells
          clear hsm hd7 hb7 hv7 hR7 hF7 HS e7
          go_wp2_with fail
          refine HAn.out.mono ?_
          rintro _ w5 ⟨_, rfl, hdv, hb⟩
          obtain ⟨A9, c9, rfl, -⟩ := id hdv
          have HBn := Lib.hid (keep_below HBr.out hb)
          have B3n := Lib.hid (B1.out.keep HBn.out)
          have HD := Lib.hid hdv
          have HWr := Lib.hid (show w.heap.size < wr.heap.size by have h1 := HWs.out; have h2 := HBr.out.size; omega)
          have HBf := Lib.hid (keep_belowB HB.out HBn.out (by have := HB.out.size; omega))
          clear hb hdv HAn y0 y1 y2
          obtain ⟨y0, y1, y2, yf, -⟩ := B3n.out.cells
          go_wp2_with fail
          obtain ⟨q0, q1, q2, -, -⟩ := (B3n.out.setAll (.bool S.1.s) (.slice A9 (nd 64 S.1.n) c9) (.int .i64 S.1.e)).cells
          refine bodyPost_ret (v := .tuple #[.agg #[.bool S.1.s, .slice A9 (nd 64 S.1.n) c9, .int .i64 S.1.e], .int .i64 S.2]) (by simp [results, Tryd.results9, go_sem, q0, q1, q2]) rfl ?_
          exact ⟨_, rfl, (HD.out.setBox HWr.out _ _ _).mono (Nat.le_of_lt HWr.out), below_box HBf.out (Nat.le_refl _) _ _ _⟩

end Go.Proofs.YtakjbmlkcbedmaaDoor
