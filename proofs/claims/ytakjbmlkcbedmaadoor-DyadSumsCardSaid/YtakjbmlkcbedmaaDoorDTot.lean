/- The walk of vernierref03.Total. -/
import Derived.Outline
import Derived.Deep.LoopGhost
import Derived.Test.YtakjbmlkcbedmaaDoorDSumW
import Derived.Test.YtakjbmlkcbedmaaDoorDRefG
import Derived.Test.YtakjbmlkcbedmaaDoorRefL
import Derived.Test.YtakjbmlkcbedmaaDoorRefP
namespace Go.Proofs.YtakjbmlkcbedmaaDoor
set_option linter.unusedVariables false
set_option linter.unusedSimpArgs false
open Go.RowKit

theorem nd32_small {a K : Nat} (h : a ≤ 2 ^ (K + 16)) (hK : K = 145536) : nd 32 a ≤ 5000 :=
  Nat.le_trans (nd_le 32 a ((K + 16) / 32 + 1) (by decide) (Nat.lt_of_le_of_lt h (Nat.pow_lt_pow_right (by decide) (by omega)))) (by omega)

theorem abF_small {f : Nat → Nat × D} {l : Int} {n : Nat} (hn : n ≤ 65536) (hl : -40000 ≤ l) (h : ∀ i, i < n → l ≤ (f i).2.e ∧ refD (f i).1 (f i).2.e = 0 ∧ (f i).2.n < 2 ^ (64 * (f i).1)) : nd 32 (abF f l n).1 ≤ 5000 ∧ nd 32 (abF f l n).2 ≤ 5000 := by
  obtain ⟨K, hK⟩ : ∃ K : Nat, K = 145536 := ⟨_, rfl⟩
  obtain ⟨h1, h2⟩ := abF_le (f := f) hK hl h
  exact ⟨nd32_small (Nat.le_trans h1 (two16 hn)) hK, nd32_small (Nat.le_trans h2 (two16 hn)) hK⟩

theorem totF_small {f : Nat → Nat × D} {n : Nat} (hn : n ≤ 65536) (h : ∀ i, i < n → refD (f i).1 (f i).2.e = 0 ∧ (f i).2.n < 2 ^ (64 * (f i).1)) : nd 32 (totF n f).n ≤ 20000 ∧ -10000000 ≤ (totF n f).e ∧ (totF n f).e ≤ 10000000 := by
  obtain ⟨K, hK⟩ : ∃ K : Nat, K = 145536 := ⟨_, rfl⟩
  have hl := lowF_ge (f := f) (n := n) fun i hi => (refD_zero (h i hi).1).2.1
  obtain ⟨h1, h2⟩ := abF_le (f := f) (l := lowF f n) hK hl.1 (n := n) fun i hi => ⟨lowF_le hi, h i hi⟩
  have b1 := Nat.le_trans h1 (two16 (K := K) hn)
  have b2 := Nat.le_trans h2 (two16 (K := K) hn)
  have b3 : 2 ^ (K + 17) = 2 ^ (K + 16) + 2 ^ (K + 16) := by rw [Nat.pow_succ 2 (K + 16)]; omega
  have e1 : (totF n f).n ≤ 2 ^ (K + 17) ∧ (totF n f).e = lowF f n := by
    unfold totF sumR
    simp only [Int.min_self, Int.sub_self, Int.toNat_zero, Nat.pow_zero, Nat.mul_one]
    split
    · exact ⟨by simp only; omega, rfl⟩
    · split
      · exact ⟨by simp only; omega, rfl⟩
      · split
        · exact ⟨by simp only; omega, rfl⟩
        · split
          · exact ⟨by simp only; omega, rfl⟩
          · exact ⟨by simp only; omega, rfl⟩
  refine ⟨?_, by omega, by omega⟩
  exact Nat.le_trans (nd_le 32 _ ((K + 17) / 32 + 1) (by decide) (Nat.lt_of_le_of_lt e1.1 (Nat.pow_lt_pow_right (by decide) (by omega)))) (by omega)

set_option maxRecDepth 100000 in
set_option maxHeartbeats 16000000 in
theorem rTotal_any (v : Value) (n : Nat) (f : Nat → Nat × D) (w : World) (hv : LsD w v n f) :
    Calls Tryd.prog 10 #[v] w fun e' w' => ∃ x, e' = .returned (.tuple #[x, .int .i64 (SumLs n f).2]) ∧ DV w.heap.size w' x (SumLs n f).1 ∧ Below w.heap.size w w' := by
  obtain ⟨A, c, rfl, hn, hs⟩ := hv
  have hb0 := below1 w (.cells #[.bool false, .slice none 0 0, .int .i64 0] 26)
  have b1 := Box3.new w (.bool false) (.slice none 0 0) (.int .i64 0) 26
  obtain ⟨W, hW⟩ : ∃ W, W = w.alloc (.cells #[.bool false, .slice none 0 0, .int .i64 0] 26) := ⟨_, rfl⟩
  have hWs : w.heap.size < W.heap.size := by rw [hW]; simp
  rw [← hW] at hb0 b1
  have HB := Lib.hid hb0
  have B1 := Lib.hid b1
  have HS := Lib.hid hs
  have HWs := Lib.hid hWs
  obtain ⟨S, hS⟩ : ∃ S, S = SumLs n f := ⟨_, rfl⟩
  rw [← hS]
  obtain ⟨y0, y1, y2, yf, -⟩ := b1.cells
  clear hb0 b1 hs hWs
  go_enter Tryd.func10, Tryd.ntmps10
  go_upto_region 1 with (fail)
  rw [← hW]
  clear hW
  by_cases h1 : 65536 < n
  · have hS' : S = (D.zero, 5) := by rw [hS]; unfold SumLs; exact if_pos h1
    have HSe := Lib.hid hS'
    have t1 : decide ((65536 : Int) < (n : Int)) = true := decide_eq_true (by omega)
    clear hS hS' h1
    go_wp2_with fail
    obtain ⟨q0, q1, q2, -, -⟩ := (B1.out.setAll (.bool false) (.slice none 0 0) (.int .i64 0)).cells
    refine bodyPost_ret (v := .tuple #[.agg #[.bool false, .slice none 0 0, .int .i64 0], .int .i64 5]) (by simp [results, Tryd.results10, go_sem, y0, y1, y2, q0, q1, q2]) rfl ?_
    exact ⟨_, by rw [HSe.out], by rw [HSe.out]; exact DV.zero, by first | exact HB.out | exact below_box HB.out (Nat.le_refl _) _ _ _⟩
  have t1 : decide ((65536 : Int) < (n : Int)) = false := decide_eq_false (by omega)
  have Hn := Lib.hid (show n ≤ 65536 by omega)
  have HS1 : Hid (S = if errF f n ≠ 0 then (D.zero, errF f n) else ansD (sumF f n)) := by show _ = _; rw [hS]; unfold SumLs; exact if_neg h1
  clear h1 hS y0 y1 y2 yf
  go_wp2_with fail
  clear t1
  go_loopw [4, 5] (fun u v wr => ∃ i : Nat, i ≤ n ∧ u = .int .i64 (lowF f i) ∧ v = .int .i64 i ∧ Hid (errF f i = 0) ∧ Hid (Below W.heap.size W wr)) (fun _ v _ => n - (intOf v).toNat)
  case atStart => exact ⟨0, Nat.zero_le _, rfl, rfl, Lib.hid rfl, Lib.hid (Below.refl _ _)⟩
  case round =>
    obtain ⟨i, hi, rfl, rfl, HE, HBr⟩ := hrel
    by_cases hin : i < n
    · obtain ⟨b, o, rfl, hb, hall⟩ := HS.out (by omega)
      obtain ⟨Ai, ci, k0, k1, k2, r⟩ := hall i hin
      have hbW : Below w.heap.size w wr := keep_belowB HB.out HBr.out (by have := HB.out.size; omega)
      have key := fun j (v : Value) (h : w.cell? ⟨b, j, none⟩ = some v) => (hbW.cell (p := ⟨b, j, none⟩) hb).trans h
      replace k0 := key _ _ k0
      replace k1 := key _ _ k1
      replace k2 := key _ _ k2
      have hin' : (i : Int) < n := by omega
      have hlw : lowF f (i + 1) = min (lowF f i) (f i).2.e := rfl
      obtain ⟨fi, hfi⟩ : ∃ fi, fi = f i := ⟨_, rfl⟩
      rw [← hfi] at k0 k1 k2 r hlw
      have Hfi := Lib.hid hfi
      have HL := Lib.hid hlw
      have HRf := Lib.hid (rBad_any fi.2.s Ai fi.1 ci fi.2.e wr r.len)
      have Hb := Lib.hid hb
      clear key hall r hbW hfi hlw hb
      go_wp2_with fail
      refine HRf.out.mono ?_
      rintro _ w2 ⟨rfl, hb2⟩
      have hbl : b < wr.heap.size := Nat.lt_of_lt_of_le Hb.out (by have h1 := HB.out.size; have h2 := HBr.out.size; omega)
      replace k0 := (hb2.cell (p := ⟨b, o + i * 3, none⟩) hbl).trans k0
      replace k1 := (hb2.cell (p := ⟨b, o + i * 3 + 1, none⟩) hbl).trans k1
      replace k2 := (hb2.cell (p := ⟨b, o + i * 3 + 2, none⟩) hbl).trans k2
      replace HBr := Lib.hid (keep_below HBr.out hb2)
      clear hb2 HRf hbl Hb
      by_cases hz : refD fi.1 fi.2.e = 0
      · rw [hz]
        have HE2 : Hid (errF f (i + 1) = 0) := by
          show _ = _
          unfold errF
          rw [if_neg (by simpa using HE.out), ← Hfi.out, hz]
        clear hz HE Hfi
        go_wp2_with fail
        go_roundw
        case rel => exact ⟨i + 1, by omega, by rw [HL.out], by go_num, HE2, HBr⟩
        case measure => simp [intOf]; omega
      · have HSe : Hid (S = (D.zero, refD fi.1 fi.2.e)) := by
          show _ = _
          have h2 := errF_at HE.out (by rw [← Hfi.out]; exact hz) hin
          rw [HS1.out, h2, ← Hfi.out, if_pos (by simpa using hz)]
        have t2 : (refD fi.1 fi.2.e != 0) = true := by simpa using hz
        have t3 : (refD fi.1 fi.2.e == 0) = false := by simpa using hz
        generalize refD fi.1 fi.2.e = rr at *
        clear hz HE Hfi HS1
        obtain ⟨y0, y1, y2, yf, -⟩ := (B1.out.keep HBr.out).cells
        go_wp2_with fail
        obtain ⟨q0, q1, q2, -, -⟩ := ((B1.out.keep HBr.out).setAll (.bool false) (.slice none 0 0) (.int .i64 0)).cells
        refine bodyPost_ret (v := .tuple #[.agg #[.bool false, .slice none 0 0, .int .i64 0], .int .i64 rr]) (by simp [results, Tryd.results10, go_sem, y0, y1, y2, q0, q1, q2]) rfl ?_
        have hBB := keep_belowB HB.out HBr.out (by have := HB.out.size; omega)
        exact ⟨_, by rw [HSe.out], by rw [HSe.out]; exact DV.zero, by first | exact hBB | exact below_box hBB (Nat.le_refl _) _ _ _⟩
    · obtain rfl : i = n := by omega
      have hz : ∀ q, q < i → refD (f q).1 (f q).2.e = 0 := errF_zero HE.out
      have HSa : Hid (S = ansD (totF i f)) := by show _ = _; rw [HS1.out, if_neg (by simpa using HE.out), total_ref Hn.out hz]
      have Hz := Lib.hid hz
      obtain ⟨l, hl⟩ : ∃ l, l = lowF f i := ⟨_, rfl⟩
      have hl2 := lowF_ge (f := f) (n := i) fun q hq => (refD_zero (hz q hq)).2.1
      have Hle := Lib.hid (fun q (hq : q < i) => lowF_le (f := f) hq)
      rw [← hl] at hl2 Hle ⊢
      have Hl := Lib.hid hl
      have Hl2 := Lib.hid hl2
      have HBr' := HBr
      clear HS1 hz hl hl2 HBr
      go_wp2_with fail
      go_loopw [7, 8, 9] (fun a7 a8 v wr => ∃ j : Nat, j ≤ i ∧ v = .int .i64 j ∧ (∃ A7 c7, a7 = .slice A7 (nd 32 (abF f l j).1) c7 ∧ Hid (Rd 32 wr (.slice A7 (nd 32 (abF f l j).1) c7) (abF f l j).1 (nd 32 (abF f l j).1))) ∧ (∃ A8 c8, a8 = .slice A8 (nd 32 (abF f l j).2) c8 ∧ Hid (Rd 32 wr (.slice A8 (nd 32 (abF f l j).2) c8) (abF f l j).2 (nd 32 (abF f l j).2))) ∧ Hid (Below W.heap.size W wr)) (fun _ _ v _ => i - (intOf v).toNat)
      case atStart =>
        have e0 : nd 32 (abF f l 0).1 = 0 := nd_zero 32
        have e1 : nd 32 (abF f l 0).2 = 0 := nd_zero 32
        have r0 : Rd 32 wr (.slice none (nd 32 (abF f l 0).1) 0) (abF f l 0).1 (nd 32 (abF f l 0).1) := by rw [e0]; exact Rd.nil_
        have r1 : Rd 32 wr (.slice none (nd 32 (abF f l 0).2) 0) (abF f l 0).2 (nd 32 (abF f l 0).2) := by rw [e1]; exact Rd.nil_
        exact ⟨0, Nat.zero_le _, rfl, ⟨none, 0, by rw [e0], Lib.hid r0⟩, ⟨none, 0, by rw [e1], Lib.hid r1⟩, HBr'⟩
      case round =>
        obtain ⟨j, hj, rfl, ⟨A7, c7, rfl, R7⟩, ⟨A8, c8, rfl, R8⟩, HBr⟩ := hrel
        clear HBr'
        by_cases hji : j < i
        · obtain ⟨b, o, rfl, hb, hall⟩ := HS.out (by omega)
          obtain ⟨Ai, ci, k0, k1, k2, r⟩ := hall j hji
          have hbW : Below w.heap.size w wr := keep_belowB HB.out HBr.out (by have := HB.out.size; omega)
          have key := fun j (v : Value) (h : w.cell? ⟨b, j, none⟩ = some v) => (hbW.cell (p := ⟨b, j, none⟩) hb).trans h
          replace k0 := key _ _ k0
          replace k1 := key _ _ k1
          replace k2 := key _ _ k2
          have hji' : (j : Int) < i := by omega
          have hz := Hz.out j hji
          have hle := Hle.out j hji
          have hsm := abF_small (f := f) (l := l) (n := j) (by have := Hn.out; omega) Hl2.out.1 fun q hq => ⟨Hle.out q (by omega), Hz.out q (by omega), (hall q (by omega)).lt⟩
          have hab := abF_succ f l j
          have hlt := (hall j hji).lt
          obtain ⟨fi, hfi⟩ : ∃ fi, fi = f j := ⟨_, rfl⟩
          rw [← hfi] at k0 k1 k2 r hz hlt hab hle
          obtain ⟨z1, z2, z3⟩ := refD_zero hz
          have hnd := nd32_of hlt z1
          obtain ⟨k, hk⟩ : ∃ k, k = (fi.2.e - l).toNat := ⟨_, rfl⟩
          have hw : IntKind.i64.wrap (fi.2.e - l) = (k : Int) := by have := Hl2.out; rw [IntKind.wrap_i64]; omega
          have hk2 : k ≤ 1000000 := by have := Hl2.out; omega
          obtain ⟨t, ht⟩ : ∃ t, t = fi.2.n * 2 ^ k := ⟨_, rfl⟩
          have hnt : nd 32 t ≤ 1000000 := by rw [ht]; exact Nat.le_trans (nd_shift fi.2.n k _ hnd) (by omega)
          rw [← hk, ← ht] at hab
          have HAB := Lib.hid hab
          have HOf := Lib.hid (rOf_any fi.2.s Ai fi.2.n fi.1 ci fi.2.e wr (r.below hbW) (by omega))
          have HLf := Lib.hid (fun (v : Value) (wx : World) h => rLeft_any v fi.2.n (nd 32 fi.2.n) k wx h (by omega) hk2)
          rw [← ht] at HLf
          obtain ⟨a, ha⟩ : ∃ a, a = (abF f l j).1 := ⟨_, rfl⟩
          obtain ⟨q, hq⟩ : ∃ q, q = (abF f l j).2 := ⟨_, rfl⟩
          rw [← ha, ← hq] at hsm HAB
          rw [← ha] at R7
          rw [← hq] at R8
          rw [← ha, ← hq]
          have HPa := Lib.hid (fun (u v : Value) (wx : World) h1 h2 => rPlus_any u v a (nd 32 a) t (nd 32 t) wx h1 h2 (by omega) hnt)
          have HPb := Lib.hid (fun (u v : Value) (wx : World) h1 h2 => rPlus_any u v q (nd 32 q) t (nd 32 t) wx h1 h2 (by omega) hnt)
          clear key hall r hb hbW hfi hz hle hsm hab hlt z1 z2 z3 hnd hk hk2 ht hnt ha hq
          go_wp2_with fail
          refine HOf.out.mono ?_
          rintro _ w2 ⟨_, rfl, ⟨V, rfl, rv⟩, hb'⟩
          obtain ⟨A3, c3, rfl, -, -⟩ := rv.form
          have hb2 := below1 w2 (.cells #[.bool fi.2.s, .slice A3 (nd 32 fi.2.n) c3, .int .i64 fi.2.e] 53)
          have B4 := Lib.hid (Box3.new w2 (.bool fi.2.s) (.slice A3 (nd 32 fi.2.n) c3) (.int .i64 fi.2.e) 53)
          have hb := hb'.trans (hb2.mono hb'.size)
          have R4 := Lib.hid (rv.below hb2)
          replace HBr := Lib.hid (keep_below HBr.out hb)
          replace R7 := Lib.hid (R7.out.below hb)
          replace R8 := Lib.hid (R8.out.below hb)
          clear hb hb' hb2 rv HOf k0 k1 k2
          obtain ⟨p0, p1, p2, -, -⟩ := B4.out.cells
          go_wp2_with fail
          refine (HLf.out _ _ R4.out).mono ?_
          rintro _ w3 ⟨_, rfl, ⟨hV3, -⟩, hb⟩
          obtain ⟨A5, c5, rfl, -, -⟩ := hV3.form
          have R5 := Lib.hid hV3
          replace B4 := Lib.hid (B4.out.keep hb)
          replace HBr := Lib.hid (keep_below HBr.out hb)
          replace R7 := Lib.hid (R7.out.below hb)
          replace R8 := Lib.hid (R8.out.below hb)
          clear hb hV3 HLf p0 p1 p2 R4
          obtain ⟨p0, p1, p2, -, -⟩ := B4.out.cells
          cases hs : fi.2.s with
          | true =>
            rw [hs] at p0
            rw [hs, if_pos rfl] at HAB
            go_wp2_with fail
            refine (HPb.out _ _ _ R8.out R5.out).mono ?_
            rintro _ w4 ⟨_, rfl, ⟨hV4, -⟩, hb⟩
            obtain ⟨A6, c6, rfl, -, -⟩ := hV4.form
            have R6 := Lib.hid hV4
            replace HBr := Lib.hid (keep_below HBr.out hb)
            replace R7 := Lib.hid (R7.out.below hb)
            clear hb hV4 p0 p1 p2 HPa HPb B4 R8 R5
            go_wp2_with fail
            go_roundw
            case rel => exact ⟨j + 1, by omega, by go_num, by rw [HAB.out]; exact ⟨A7, c7, rfl, R7⟩, by rw [HAB.out]; exact ⟨A6, c6, rfl, R6⟩, HBr⟩
            case measure => simp [intOf]; omega
          | false =>
            rw [hs] at p0
            rw [hs, if_neg (by decide)] at HAB
            go_wp2_with fail
            refine (HPa.out _ _ _ R7.out R5.out).mono ?_
            rintro _ w4 ⟨_, rfl, ⟨hV4, -⟩, hb⟩
            obtain ⟨A6, c6, rfl, -, -⟩ := hV4.form
            have R6 := Lib.hid hV4
            replace HBr := Lib.hid (keep_below HBr.out hb)
            replace R8 := Lib.hid (R8.out.below hb)
            clear hb hV4 p0 p1 p2 HPa HPb B4 R7 R5
            go_wp2_with fail
            go_roundw
            case rel => exact ⟨j + 1, by omega, by go_num, by rw [HAB.out]; exact ⟨A6, c6, rfl, R6⟩, by rw [HAB.out]; exact ⟨A8, c8, rfl, R8⟩, HBr⟩
            case measure => simp [intOf]; omega
        · obtain rfl : j = i := by omega
          have hlt : ∀ q, q < j → (f q).2.n < 2 ^ (64 * (f q).1) := fun q hq => by obtain ⟨b, o, _, _, hall⟩ := HS.out (by omega); exact (hall q hq).lt
          have hsm := abF_small (f := f) (l := l) (n := j) Hn.out Hl2.out.1 fun q hq => ⟨Hle.out q hq, Hz.out q hq, hlt q hq⟩
          have hts := totF_small (f := f) (n := j) Hn.out fun q hq => ⟨Hz.out q hq, hlt q hq⟩
          have htd : totF j f = sumR ⟨false, (abF f l j).1, l⟩ ⟨true, (abF f l j).2, l⟩ := by rw [Hl.out]; rfl
          obtain ⟨a, ha⟩ : ∃ a, a = (abF f l j).1 := ⟨_, rfl⟩
          obtain ⟨q, hq⟩ : ∃ q, q = (abF f l j).2 := ⟨_, rfl⟩
          rw [← ha, ← hq] at hsm htd
          rw [← ha] at R7
          rw [← hq] at R8
          rw [← ha, ← hq]
          have HSm := Lib.hid (rSum_any (.agg #[.bool false, .slice A7 (nd 32 a) c7, .int .i64 l]) (.agg #[.bool true, .slice A8 (nd 32 q) c8, .int .i64 l]) ⟨false, a, l⟩ ⟨true, q, l⟩ wr (numV_of R7.out) (numV_of R8.out) (show nd 32 a ≤ 10000 by omega) (show nd 32 q ≤ 10000 by omega) (show -100000 ≤ l ∧ l ≤ 100000 by have := Hl2.out; omega) (show -100000 ≤ l ∧ l ≤ 100000 by have := Hl2.out; omega))
          rw [← htd] at HSm
          have HAn := Lib.hid (fun (x : Value) (wx : World) h => rAnswer_any x (totF j f) wx h hts.1 hts.2)
          rw [← HSa.out] at HAn
          clear hlt hsm hts htd ha hq HSa R7 R8
          go_wp2_with fail
          refine HSm.out.mono ?_
          rintro _ w3 ⟨x3, rfl, hv3, hb⟩
          have HV := Lib.hid hv3
          replace HBr := Lib.hid (keep_below HBr.out hb)
          clear hv3 hb HSm
          go_wp2_with fail
          refine (HAn.out _ _ HV.out).mono ?_
          rintro _ w5 ⟨_, rfl, hdv, hb⟩
          obtain ⟨A9, c9, rfl, -⟩ := id hdv
          have HBn := Lib.hid (keep_below HBr.out hb)
          have B3n := Lib.hid (B1.out.keep HBn.out)
          have HD := Lib.hid hdv
          have HWr := Lib.hid (show w.heap.size < w3.heap.size by have h1 := HWs.out; have h2 := HBr.out.size; omega)
          have HBf := Lib.hid (keep_belowB HB.out HBn.out (by have := HB.out.size; omega))
          clear hb hdv HAn HV
          obtain ⟨y0, y1, y2, yf, -⟩ := B3n.out.cells
          go_wp2_with fail
          obtain ⟨q0, q1, q2, -, -⟩ := (B3n.out.setAll (.bool S.1.s) (.slice A9 (nd 64 S.1.n) c9) (.int .i64 S.1.e)).cells
          refine bodyPost_ret (v := .tuple #[.agg #[.bool S.1.s, .slice A9 (nd 64 S.1.n) c9, .int .i64 S.1.e], .int .i64 S.2]) (by simp [results, Tryd.results10, go_sem, q0, q1, q2]) rfl ?_
          exact ⟨_, rfl, (HD.out.setBox HWr.out _ _ _).mono (Nat.le_of_lt HWr.out), below_box HBf.out (Nat.le_refl _) _ _ _⟩

end Go.Proofs.YtakjbmlkcbedmaaDoor
