/- The walk of vernierlaw03.one. Printed by gen/done.py. -/
import Derived.Deep.RegionHeld3
import Derived.Test.YtakjbmlkcbedmaaDoorDNum
namespace Go.Proofs.YtakjbmlkcbedmaaDoor
set_option linter.unusedVariables false
set_option linter.unusedSimpArgs false
open Go.RowKit

set_option maxRecDepth 100000 in
set_option maxHeartbeats 16000000 in
theorem one_any (kd : Int) (s1 s2 : Bool) (A1 A2 : Option Addr) (N n1 c1 M n2 c2 : Nat) (e1 e2 k : Int) (w : World) (hv : Rd 64 w (.slice A1 n1 c1) N n1) (hu : Rd 64 w (.slice A2 n2 c2) M n2) (hA1 : A1 = none → c1 = 0) (hA2 : A2 = none → c2 = 0) (hn1 : n1 + 3 ≤ 17592186044416) (hn2 : n2 + 3 ≤ 17592186044416) (hk : -9223372036854775808 ≤ k ∧ k ≤ 9223372036854775807) (hG : Gl w) :
    Calls Tryd.prog 6 #[.agg #[.int .i64 kd, .bool s1, .slice A1 n1 c1, .int .i64 e1, .bool s2, .slice A2 n2 c2, .int .i64 e2, .int .i64 k]] w fun e' w' => e' = .returned (.bool true) ∧ Below w.heap.size w w' := by
  have hb0 := below1 w (.cells #[.int .i64 kd, .bool s1, .slice A1 n1 c1, .int .i64 e1, .bool s2, .slice A2 n2 c2, .int .i64 e2, .int .i64 k] 28)
  have bo := Bo.new w (.int .i64 kd) (.bool s1) (.slice A1 n1 c1) (.int .i64 e1) (.bool s2) (.slice A2 n2 c2) (.int .i64 e2) (.int .i64 k) 28
  obtain ⟨W, hW⟩ : ∃ W, W = w.alloc (.cells #[.int .i64 kd, .bool s1, .slice A1 n1 c1, .int .i64 e1, .bool s2, .slice A2 n2 c2, .int .i64 e2, .int .i64 k] 28) := ⟨_, rfl⟩
  rw [← hW] at hb0 bo
  have Bop := Lib.hid bo
  have HB := Lib.hid hb0
  have HG := Lib.hid (hG.below hb0)
  have Rv := Lib.hid (hv.below hb0)
  have Ru := Lib.hid (hu.below hb0)
  have HC1 := Lib.hid (lcopied_any s1 A1 N n1 c1 e1 W Rv.out hA1 hn1)
  have HC2 := Lib.hid (fun wx h => lcopied_any s2 A2 M n2 c2 e2 wx h hA2 hn2)
  have Hn1 := Lib.hid hn1
  have HA1 := Lib.hid hA1
  have HA2 := Lib.hid hA2
  have Hn2 := Lib.hid hn2
  obtain ⟨o0, o1, o2, o3, o4, o5, o6, o7⟩ := bo.cells
  clear hb0 bo hv hu hA1 hA2 hn1 hn2 hG
  go_enter Tryd.func6, Tryd.ntmps6
  go_upto_region 1 with (fail)
  rw [← hW]
  clear hW
  go_wp2_with fail
  refine HC1.out.mono ?_
  rintro _ w1 ⟨x1, rfl, hC, hb⟩
  obtain ⟨Aa, ca, rfl, ra, ra3⟩ := hC.open Hn1.out
  have hb2 := below1 w1 (.cells #[.bool s1, .slice Aa n1 ca, .int .i64 e1] 26)
  have hb' := hb.trans (hb2.mono hb.size)
  replace HB := Lib.hid (keep_belowB HB.out hb' (by have := HB.out.size; omega))
  replace HG := Lib.hid (HG.out.below hb')
  replace Bop := Lib.hid (Bop.out.keep hb')
  replace Rv := Lib.hid (Rv.out.below hb')
  replace Ru := Lib.hid (Ru.out.below hb')
  have Ra := Lib.hid (ra.below hb2)
  have Ra3 := Lib.hid (ra3.below hb2)
  have Ba := Lib.hid (Box3.new w1 (.bool s1) (.slice Aa n1 ca) (.int .i64 e1) 26)
  clear o0 o1 o2 o3 o4 o5 o6 o7 hC hb hb' hb2 ra ra3 HC1
  go_upto_region 2 with (fail)
  generalize hga : w1.heap.size = ga at *
  generalize w1.alloc (.cells #[.bool s1, .slice Aa n1 ca, .int .i64 e1] 26) = W1 at *
  clear hga
  obtain ⟨o0, o1, o2, o3, o4, o5, o6, o7⟩ := Bop.out.cells
  go_wp2_with fail
  refine (HC2.out _ Ru.out).mono ?_
  rintro _ w2 ⟨x2, rfl, hC, hb⟩
  obtain ⟨Ab, cb, rfl, rb, rb3⟩ := hC.open Hn2.out
  have hb2 := below1 w2 (.cells #[.bool s2, .slice Ab n2 cb, .int .i64 e2] 26)
  have hb' := hb.trans (hb2.mono hb.size)
  replace HB := Lib.hid (keep_belowB HB.out hb' (by have := HB.out.size; omega))
  replace HG := Lib.hid (HG.out.below hb')
  replace Bop := Lib.hid (Bop.out.keep hb')
  replace Rv := Lib.hid (Rv.out.below hb')
  replace Ru := Lib.hid (Ru.out.below hb')
  replace Ra := Lib.hid (Ra.out.below hb')
  replace Ra3 := Lib.hid (Ra3.out.below hb')
  replace Ba := Lib.hid (Ba.out.keep hb')
  have Rb := Lib.hid (rb.below hb2)
  have Rb3 := Lib.hid (rb3.below hb2)
  have Bb := Lib.hid (Box3.new w2 (.bool s2) (.slice Ab n2 cb) (.int .i64 e2) 26)
  clear o0 o1 o2 o3 o4 o5 o6 o7 hC hb hb' hb2 rb rb3 HC2
  go_upto_region 3 with (fail)
  generalize hgb : w2.heap.size = gb at *
  generalize w2.alloc (.cells #[.bool s2, .slice Ab n2 cb, .int .i64 e2] 26) = WA at *
  clear hgb
  obtain ⟨o0, o1, o2, o3, o4, o5, o6, o7⟩ := Bop.out.cells
  obtain ⟨t0, t1, t2, -, -⟩ := Ba.out.cells
  obtain ⟨u0, u1, u2, -, -⟩ := Bb.out.cells
  by_cases h3 : kd = 3
  · subst h3
    have HS := Lib.hid (fun (wx : World) (h : Rd 64 wx (.slice Aa n1 ca) N n1) => Sign_any s1 Aa N n1 ca e1 wx h)
    have HT := Lib.hid (fun (wx : World) (h : Rd 64 wx (.slice A1 n1 c1) N n1) => rSign_any s1 A1 N n1 c1 e1 wx h)
    have HK := Lib.hid (fun (wx : World) h1 h2 h3 => kept_any s1 A1 Aa N n1 c1 ca e1 wx h1 h2 h3)
    generalize sgD s1 N = sg at *
    have hse : (sg == sg) = true := by simp
    clear Hn1 Hn2 HA1 HA2
    clear o4 o5 o6 o7 u0 u1 u2 Bb Rb Rb3 Ru
    go_wp2_with fail
    go_region_held3 (fun w' => w'.cell? ⟨w.heap.size, 1, none⟩ = some (.bool s1) ∧ w'.cell? ⟨w.heap.size, 2, none⟩ = some (.slice A1 n1 c1) ∧ w'.cell? ⟨w.heap.size, 3, none⟩ = some (.int .i64 e1) ∧ w'.cell? ⟨ga, 0, none⟩ = some (.bool s1) ∧ w'.cell? ⟨ga, 1, none⟩ = some (.slice Aa n1 ca) ∧ w'.cell? ⟨ga, 2, none⟩ = some (.int .i64 e1) ∧ Below WA.heap.size WA w')
      (first | exact ⟨o1, o2, o3, t0, t1, t2, (Below.refl _ _).drew⟩ | ((try go_split_ands); refine ⟨keep_cell hx1 ?_, keep_cell hx1 ?_, keep_cell hx1 ?_, keep_cell hx1 ?_, keep_cell hx1 ?_, keep_cell hx1 ?_, keep_below ?_ hx1⟩ <;> assumption))
      (first | (go_at_call 16; (with_reducible refine (HS.out _ ?_).mono ?_); ((try go_split_ands); exact Ra.out.below ‹Below WA.heap.size WA _›); rintro e w7 ⟨rfl, hx1⟩) | (go_at_call 17; (with_reducible refine (HT.out _ ?_).mono ?_); ((try go_split_ands); exact Rv.out.below ‹Below WA.heap.size WA _›); rintro e w7 ⟨rfl, hx1⟩) | (go_at_call 12; (with_reducible refine (HK.out _ ?_ ?_ ?_).mono ?_); ((try go_split_ands); exact Ra.out.below ‹Below WA.heap.size WA _›); ((try go_split_ands); exact Ra3.out.below ‹Below WA.heap.size WA _›); ((try go_split_ands); exact Rv.out.below ‹Below WA.heap.size WA _›); rintro e w7 ⟨rfl, hx1⟩))
    all_goals (go_wp2_with fail; go_ret; (try go_split_ands); exact ⟨rfl, keep_belowB HB.out ‹Below WA.heap.size WA _› (by have := HB.out.size; omega)⟩)
  have f3 : (kd == 3) = false := by rw [beq_eq_false_iff_ne]; exact h3

  by_cases h8 : kd = 8
  · subst h8
    have HP := Lib.hid (DCmp_any s1 s2 Aa Ab N n1 ca M n2 cb e1 e2 _ Ra.out Rb.out HG.out)
    have HR := Lib.hid (fun (wx : World) (h1 : Rd 64 wx (.slice A1 n1 c1) N n1) (h2 : Rd 64 wx (.slice A2 n2 c2) M n2) => rCompare_any s1 s2 A1 A2 N n1 c1 M n2 c2 e1 e2 wx h1 h2)
    generalize cmpD n1 ⟨s1, N, e1⟩ n2 ⟨s2, M, e2⟩ = q at HP HR
    clear f3 h3
    go_wp2_with fail
    refine HP.out.mono ?_
    rintro _ w5 ⟨rfl, hb⟩
    have KB := Lib.hid hb
    clear hb HP o0 o1 o2 o3 o4 o5 o6 o7 t0 t1 t2 u0 u1 u2
    obtain ⟨o0, o1, o2, o3, o4, o5, o6, o7⟩ := (Bop.out.keep KB.out).cells
    go_wp2_with fail
    refine (HR.out _ (Rv.out.below KB.out) (Ru.out.below KB.out)).mono ?_
    rintro _ w7 ⟨rfl, hb⟩
    replace KB := Lib.hid (keep_below KB.out hb)
    clear hb HR o0 o1 o2 o3 o4 o5 o6 o7
    obtain ⟨o0, o1, o2, o3, o4, o5, o6, o7⟩ := (Bop.out.keep KB.out).cells
    obtain ⟨t0, t1, t2, -, -⟩ := (Ba.out.keep KB.out).cells
    have HK := Lib.hid (kept_any s1 A1 Aa N n1 c1 ca e1 _ (Ra.out.below KB.out) (Ra3.out.below KB.out) (Rv.out.below KB.out))
    go_wp2_with fail
    refine HK.out.mono ?_
    rintro _ w9 ⟨rfl, hb⟩
    replace KB := Lib.hid (keep_below KB.out hb)
    clear hb HK o0 o1 o2 o3 o4 o5 o6 o7 t0 t1 t2
    obtain ⟨o0, o1, o2, o3, o4, o5, o6, o7⟩ := (Bop.out.keep KB.out).cells
    obtain ⟨t0, t1, t2, -, -⟩ := (Bb.out.keep KB.out).cells
    have HK := Lib.hid (kept_any s2 A2 Ab M n2 c2 cb e2 _ (Rb.out.below KB.out) (Rb3.out.below KB.out) (Ru.out.below KB.out))
    go_wp2_with fail
    refine HK.out.mono ?_
    rintro _ w10 ⟨rfl, hb⟩
    replace KB := Lib.hid (keep_below KB.out hb)
    clear hb HK o0 o1 o2 o3 o4 o5 o6 o7 t0 t1 t2
    go_wp2_with fail
    go_ret
    exact ⟨rfl, keep_belowB HB.out KB.out (by have := HB.out.size; omega)⟩
  have f8 : (kd == 8) = false := by rw [beq_eq_false_iff_ne]; exact h8
  by_cases h10 : kd = 10
  · subst h10
    have HP := Lib.hid (Top_any s1 Aa N n1 ca e1 _ Ra.out)
    have HR := Lib.hid (fun (wx : World) (h1 : Rd 64 wx (.slice A1 n1 c1) N n1) => rTop_any s1 A1 N n1 c1 e1 wx h1)
    generalize topD n1 ⟨s1, N, e1⟩ = q at HP HR
    clear f3 h3
    go_wp2_with fail
    refine HP.out.mono ?_
    rintro _ w5 ⟨rfl, hb⟩
    have KB := Lib.hid hb
    clear hb HP o0 o1 o2 o3 o4 o5 o6 o7 t0 t1 t2 u0 u1 u2
    obtain ⟨o0, o1, o2, o3, o4, o5, o6, o7⟩ := (Bop.out.keep KB.out).cells
    go_wp2_with fail
    refine (HR.out _ (Rv.out.below KB.out)).mono ?_
    rintro _ w7 ⟨rfl, hb⟩
    replace KB := Lib.hid (keep_below KB.out hb)
    clear hb HR o0 o1 o2 o3 o4 o5 o6 o7
    obtain ⟨o0, o1, o2, o3, o4, o5, o6, o7⟩ := (Bop.out.keep KB.out).cells
    obtain ⟨t0, t1, t2, -, -⟩ := (Ba.out.keep KB.out).cells
    have HK := Lib.hid (kept_any s1 A1 Aa N n1 c1 ca e1 _ (Ra.out.below KB.out) (Ra3.out.below KB.out) (Rv.out.below KB.out))
    go_wp2_with fail
    refine HK.out.mono ?_
    rintro _ w9 ⟨rfl, hb⟩
    replace KB := Lib.hid (keep_below KB.out hb)
    clear hb HK o0 o1 o2 o3 o4 o5 o6 o7 t0 t1 t2
    go_wp2_with fail
    go_ret
    exact ⟨rfl, keep_belowB HB.out KB.out (by have := HB.out.size; omega)⟩
  have f10 : (kd == 10) = false := by rw [beq_eq_false_iff_ne]; exact h10
  have HN := Lib.hid (numbers_any kd s1 s2 A1 A2 N n1 c1 M n2 c2 e1 e2 k WA Rv.out Ru.out HA1.out HA2.out Hn1.out Hn2.out hk HG.out)
  clear h3 h8 h10 Ra Ra3 Rb Rb3 Ba Bb t0 t1 t2 u0 u1 u2 hk
  go_wp2_with fail
  refine HN.out.mono ?_
  rintro _ w5 ⟨rfl, hb⟩
  have KB := Lib.hid hb
  clear hb HN o0 o1 o2 o3 o4 o5 o6 o7
  go_wp2_with fail
  go_ret
  exact ⟨rfl, keep_belowB HB.out KB.out (by have := HB.out.size; omega)⟩

end Go.Proofs.YtakjbmlkcbedmaaDoor
