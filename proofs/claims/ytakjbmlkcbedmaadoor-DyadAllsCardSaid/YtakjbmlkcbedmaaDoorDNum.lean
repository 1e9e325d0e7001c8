/- The walk of vernierlaw03.numbers. Printed by gen/dnum.py. -/
import Derived.Test.YtakjbmlkcbedmaaDoorDLaw
import Derived.Test.YtakjbmlkcbedmaaDoorDRefFl
import Derived.Test.YtakjbmlkcbedmaaDoorPackC
namespace Go.Proofs.YtakjbmlkcbedmaaDoor
set_option linter.unusedVariables false
set_option linter.unusedSimpArgs false
open Go.RowKit

/-- block g is eight cells, not frozen -/
def Bo (w : World) (g : Nat) (a0 a1 a2 a3 a4 a5 a6 a7 : Value) : Prop := ∃ t, w.heap[g]? = some (.cells #[a0, a1, a2, a3, a4, a5, a6, a7] t (0, 0))

theorem Bo.cells {w : World} {g : Nat} {a0 a1 a2 a3 a4 a5 a6 a7 : Value} (h : Bo w g a0 a1 a2 a3 a4 a5 a6 a7) : w.cell? ⟨g, 0, none⟩ = some a0 ∧ w.cell? ⟨g, 1, none⟩ = some a1 ∧ w.cell? ⟨g, 2, none⟩ = some a2 ∧ w.cell? ⟨g, 3, none⟩ = some a3 ∧ w.cell? ⟨g, 4, none⟩ = some a4 ∧ w.cell? ⟨g, 5, none⟩ = some a5 ∧ w.cell? ⟨g, 6, none⟩ = some a6 ∧ w.cell? ⟨g, 7, none⟩ = some a7 := by
  obtain ⟨t, h⟩ := h
  unfold World.cell?
  simp only [h]
  exact ⟨rfl, rfl, rfl, rfl, rfl, rfl, rfl, rfl⟩

theorem Bo.keep {w w' : World} {g : Nat} {a0 a1 a2 a3 a4 a5 a6 a7 : Value} (h : Bo w g a0 a1 a2 a3 a4 a5 a6 a7) (hb : Below w.heap.size w w') : Bo w' g a0 a1 a2 a3 a4 a5 a6 a7 := by
  obtain ⟨t, h⟩ := h
  exact ⟨t, (hb.block g (lt_size_of_some h)).trans h⟩

theorem Bo.new (w : World) (a0 a1 a2 a3 a4 a5 a6 a7 : Value) (t : TypeId) : Bo (w.alloc (.cells #[a0, a1, a2, a3, a4, a5, a6, a7] t)) w.heap.size a0 a1 a2 a3 a4 a5 a6 a7 := ⟨t, heap_alloc_at w _⟩

theorem DVB.zero0 (w : World) : DVB 0 w.heap.size D.zero (w.alloc (.cells #[.bool false, .slice none 0 0, .int .i64 0] 26)) := by
  have h : DV 0 w (.agg #[.bool D.zero.s, .slice none (nd 64 D.zero.n) 0, .int .i64 D.zero.e]) D.zero := by
    have : nd 64 D.zero.n = 0 := nd_zero 64
    rw [this]
    exact DV.zero
  have h2 := DVB.new h
  have e : nd 64 D.zero.n = 0 := nd_zero 64
  rw [e] at h2
  exact h2

/-- one call's answer is put into a box -/
theorem dvb_put {B' g : Nat} {z q : D} {w : World} {A : Option Addr} {c : Nat} (hV : DV B' w (.agg #[.bool q.s, .slice A (nd 64 q.n) c, .int .i64 q.e]) q) (h : DVB 0 g z w) :
    DVB 0 g q (((w.setCell ⟨g, 0, none⟩ (.bool q.s)).setCell ⟨g, 1, none⟩ (.slice A (nd 64 q.n) c)).setCell ⟨g, 2, none⟩ (.int .i64 q.e)) := by
  obtain ⟨a, b, d, hb⟩ := h.box
  exact DVB.set hb (hV.mono (Nat.zero_le _))

theorem dvb_keep {g g' : Nat} {z q : D} {w : World} {x y u : Value} (h : DVB 0 g q w) (h' : DVB 0 g' z w) (hne : g' ≠ g) : DVB 0 g q (((w.setCell ⟨g', 0, none⟩ x).setCell ⟨g', 1, none⟩ y).setCell ⟨g', 2, none⟩ u) := by
  obtain ⟨a, b, d, hb⟩ := h'.box
  exact h.other hb hne

set_option maxRecDepth 100000 in
set_option maxHeartbeats 16000000 in
theorem numbers_any (kd : Int) (s1 s2 : Bool) (A1 A2 : Option Addr) (N n1 c1 M n2 c2 : Nat) (e1 e2 k : Int) (w : World) (hv : Rd 64 w (.slice A1 n1 c1) N n1) (hu : Rd 64 w (.slice A2 n2 c2) M n2) (hA1 : A1 = none → c1 = 0) (hA2 : A2 = none → c2 = 0) (hn1 : n1 + 3 ≤ 17592186044416) (hn2 : n2 + 3 ≤ 17592186044416) (hk : -9223372036854775808 ≤ k ∧ k ≤ 9223372036854775807) (hG : Gl w) :
    Calls Tryd.prog 21 #[.agg #[.int .i64 kd, .bool s1, .slice A1 n1 c1, .int .i64 e1, .bool s2, .slice A2 n2 c2, .int .i64 e2, .int .i64 k]] w fun e' w' => e' = .returned (.bool true) ∧ Below w.heap.size w w' := by
  have hb0 := below1 w (.cells #[.int .i64 kd, .bool s1, .slice A1 n1 c1, .int .i64 e1, .bool s2, .slice A2 n2 c2, .int .i64 e2, .int .i64 k] 28)
  have bo := Bo.new w (.int .i64 kd) (.bool s1) (.slice A1 n1 c1) (.int .i64 e1) (.bool s2) (.slice A2 n2 c2) (.int .i64 e2) (.int .i64 k) 28
  obtain ⟨W, hW⟩ : ∃ W, W = w.alloc (.cells #[.int .i64 kd, .bool s1, .slice A1 n1 c1, .int .i64 e1, .bool s2, .slice A2 n2 c2, .int .i64 e2, .int .i64 k] 28) := ⟨_, rfl⟩
  rw [← hW] at hb0 bo
  have Bop := Lib.hid bo
  have HB := Lib.hid hb0
  have HG := Lib.hid (hG.below hb0)
  have Rv := Lib.hid (hv.below hb0)
  have Ru := Lib.hid (hu.below hb0)
  have HC1 := Lib.hid (lcopied_any s1 A1 N n1 c1 e1 W Rv.out hA1 hn1)
  have HC2 := Lib.hid (fun wx h => lcopied_any s2 A2 M n2 c2 e2 wx h hA2 hn2)
  have Hn1 := Lib.hid hn1
  have Hn2 := Lib.hid hn2
  obtain ⟨o0, o1, o2, o3, o4, o5, o6, o7⟩ := bo.cells
  clear hb0 bo hv hu hA1 hA2 hn1 hn2 hG
  go_enter Tryd.func21, Tryd.ntmps21
  go_upto_region 1 with (fail)
  rw [← hW]
  clear hW
  go_wp2_with fail
  refine HC1.out.mono ?_
  rintro _ w1 ⟨x1, rfl, hC, hb⟩
  obtain ⟨Aa, ca, rfl, ra, ra3⟩ := hC.open Hn1.out
  have hb2 := below1 w1 (.cells #[.bool s1, .slice Aa n1 ca, .int .i64 e1] 26)
  have hb' := hb.trans (hb2.mono hb.size)
  replace HB := Lib.hid (keep_belowB HB.out hb' (by have := HB.out.size; omega))
  replace HG := Lib.hid (HG.out.below hb')
  replace Bop := Lib.hid (Bop.out.keep hb')
  replace Rv := Lib.hid (Rv.out.below hb')
  replace Ru := Lib.hid (Ru.out.below hb')
  have Ra := Lib.hid (ra.below hb2)
  have Ra3 := Lib.hid (ra3.below hb2)
  have Ba := Lib.hid (Box3.new w1 (.bool s1) (.slice Aa n1 ca) (.int .i64 e1) 26)
  clear o0 o1 o2 o3 o4 o5 o6 o7 hC hb hb' hb2 ra ra3 HC1
  go_upto_region 2 with (fail)
  generalize hga : w1.heap.size = ga at *
  generalize w1.alloc (.cells #[.bool s1, .slice Aa n1 ca, .int .i64 e1] 26) = W1 at *
  clear hga
  obtain ⟨o0, o1, o2, o3, o4, o5, o6, o7⟩ := Bop.out.cells
  go_wp2_with fail
  refine (HC2.out _ Ru.out).mono ?_
  rintro _ w2 ⟨x2, rfl, hC, hb⟩
  obtain ⟨Ab, cb, rfl, rb, rb3⟩ := hC.open Hn2.out
  have hb2 := below1 w2 (.cells #[.bool s2, .slice Ab n2 cb, .int .i64 e2] 26)
  have hb' := hb.trans (hb2.mono hb.size)
  replace HB := Lib.hid (keep_belowB HB.out hb' (by have := HB.out.size; omega))
  replace HG := Lib.hid (HG.out.below hb')
  replace Bop := Lib.hid (Bop.out.keep hb')
  replace Rv := Lib.hid (Rv.out.below hb')
  replace Ru := Lib.hid (Ru.out.below hb')
  replace Ra := Lib.hid (Ra.out.below hb')
  replace Ra3 := Lib.hid (Ra3.out.below hb')
  replace Ba := Lib.hid (Ba.out.keep hb')
  have Rb := Lib.hid (rb.below hb2)
  have Rb3 := Lib.hid (rb3.below hb2)
  have Bb := Lib.hid (Box3.new w2 (.bool s2) (.slice Ab n2 cb) (.int .i64 e2) 26)
  clear o0 o1 o2 o3 o4 o5 o6 o7 hC hb hb' hb2 rb rb3 HC2
  go_upto_region 3 with (fail)
  generalize hgb : w2.heap.size = gb at *
  generalize w2.alloc (.cells #[.bool s2, .slice Ab n2 cb, .int .i64 e2] 26) = WA at *
  clear hgb
  have HB0 := HB
  replace HB := Lib.hid (below2 WA (.cells #[.bool false, .slice none 0 0, .int .i64 0] 26) (.cells #[.bool false, .slice none 0 0, .int .i64 0] 26))
  have H5 := Lib.hid ((DVB.zero0 WA).below (below1 _ (.cells #[.bool false, .slice none 0 0, .int .i64 0] 26)))
  have H6 := Lib.hid (DVB.zero0 (WA.alloc (.cells #[.bool false, .slice none 0 0, .int .i64 0] 26)))
  rw [World.size_alloc] at H6
  obtain ⟨WB, hWB⟩ : ∃ WB, WB = (WA.alloc (.cells #[.bool false, .slice none 0 0, .int .i64 0] 26)).alloc (.cells #[.bool false, .slice none 0 0, .int .i64 0] 26) := ⟨_, rfl⟩
  rw [← hWB] at HB H5 H6
  go_upto_region 4 with (fail)
  rw [← hWB]
  clear hWB
  obtain ⟨o0, o1, o2, o3, o4, o5, o6, o7⟩ := (Bop.out.keep HB.out).cells
  go_upto_block 0 with (fail)
  clear o0 o1 o2 o3 o4 o5 o6 o7
  go_cut [7, 8] from 17 (fun v7 v8 wx => ∃ (q : D) (er : Int), v7 = .int .i64 er ∧ v8 = .int .i64 er ∧ Hid (DVB 0 WA.heap.size q wx) ∧ Hid (DVB 0 (WA.heap.size + 1) q wx) ∧ Hid (Below WA.heap.size WA wx))
  case first =>
    clear Hn1 Hn2 HB0 Ra3 Rb3

    by_cases h1 : kd = 1
    · subst h1
      have HP := Lib.hid (fun (wx : World) (h1 : Rd 64 wx (.slice Aa n1 ca) N n1) (hg : Gl wx) => Canon_any s1 Aa N n1 ca e1 wx h1 hg)
      have HR := Lib.hid (fun (wx : World) (h1 : Rd 64 wx (.slice A1 n1 c1) N n1) => rCanon_any s1 A1 N n1 c1 e1 wx h1)
      generalize canonD n1 ⟨s1, N, e1⟩ = q at HP HR
      obtain ⟨t0, t1, t2, -, -⟩ := (Ba.out.keep HB.out).cells
      obtain ⟨o0, o1, o2, o3, o4, o5, o6, o7⟩ := (Bop.out.keep HB.out).cells
      go_wp2_with fail
      refine (HP.out _ (Ra.out.below HB.out) (HG.out.below HB.out)).mono ?_
      rintro _ w5 ⟨x5, rfl, hV, hb⟩
      obtain ⟨A5, c5, rfl, -⟩ := id hV
      have H5' := H5.out.below hb
      have H6' := H6.out.below hb
      have HB' := keep_below HB.out hb
      obtain ⟨Az, cz, ⟨z0, z1, z2, zf⟩, -⟩ := H5'.open
      have K5 := Lib.hid (dvb_put hV H5')
      have K6 := Lib.hid (dvb_keep (x := .bool q.1.s) (y := .slice A5 (nd 64 q.1.n) c5) (u := .int .i64 q.1.e) H6' H5' (by omega))
      have KB := Lib.hid (below_box HB' (g := WA.heap.size) (Nat.le_refl _) (.bool q.1.s) (.slice A5 (nd 64 q.1.n) c5) (.int .i64 q.1.e))
      clear hV hb H5' H6' HB' HP H5 H6 HB t0 t1 t2 o0 o1 o2 o3 o4 o5 o6 o7
      go_upto_region 9 with (fail)
      generalize ((w5.setCell ⟨WA.heap.size, 0, none⟩ (.bool q.1.s)).setCell ⟨WA.heap.size, 1, none⟩ (.slice A5 (nd 64 q.1.n) c5)).setCell ⟨WA.heap.size, 2, none⟩ (.int .i64 q.1.e) = w6 at *
      clear z0 z1 z2 zf
      obtain ⟨o0, o1, o2, o3, o4, o5, o6, o7⟩ := (Bop.out.keep KB.out).cells
      go_wp2_with fail
      refine (HR.out _ (Rv.out.below KB.out)).mono ?_
      rintro _ w7 ⟨x7, rfl, hV, hb⟩
      obtain ⟨A7, c7, rfl, -⟩ := id hV
      have H5' := K5.out.below hb
      have H6' := K6.out.below hb
      have HB' := keep_below KB.out hb
      obtain ⟨Az, cz, ⟨z0, z1, z2, zf⟩, -⟩ := H6'.open
      have K6' := Lib.hid (dvb_put hV H6')
      have K5' := Lib.hid (dvb_keep (x := .bool q.1.s) (y := .slice A7 (nd 64 q.1.n) c7) (u := .int .i64 q.1.e) H5' H6' (by omega))
      have KB' := Lib.hid (below_box HB' (g := WA.heap.size + 1) (Nat.le_succ _) (.bool q.1.s) (.slice A7 (nd 64 q.1.n) c7) (.int .i64 q.1.e))
      clear hV hb H5' H6' HB' HR K5 K6 KB o0 o1 o2 o3 o4 o5 o6 o7
      go_wp2_with fail
      go_meet
      case rel => exact ⟨q.1, q.2, rfl, rfl, K5', K6', KB'⟩
    by_cases h2 : kd = 2
    · subst h2
      have HP := Lib.hid (fun (wx : World) (hg : Gl wx) => FromInt_any k wx hk hg)
      have HR := Lib.hid (fun (wx : World) => rFromInt_any k wx hk)
      generalize fromIntD k = q at HP HR
      obtain ⟨t0, t1, t2, -, -⟩ := (Ba.out.keep HB.out).cells
      obtain ⟨o0, o1, o2, o3, o4, o5, o6, o7⟩ := (Bop.out.keep HB.out).cells
      go_wp2_with fail
      refine (HP.out _  (HG.out.below HB.out)).mono ?_
      rintro _ w5 ⟨x5, rfl, hV, hb⟩
      obtain ⟨A5, c5, rfl, -⟩ := id hV
      have H5' := H5.out.below hb
      have H6' := H6.out.below hb
      have HB' := keep_below HB.out hb
      obtain ⟨Az, cz, ⟨z0, z1, z2, zf⟩, -⟩ := H5'.open
      have K5 := Lib.hid (dvb_put hV H5')
      have K6 := Lib.hid (dvb_keep (x := .bool q.s) (y := .slice A5 (nd 64 q.n) c5) (u := .int .i64 q.e) H6' H5' (by omega))
      have KB := Lib.hid (below_box HB' (g := WA.heap.size) (Nat.le_refl _) (.bool q.s) (.slice A5 (nd 64 q.n) c5) (.int .i64 q.e))
      clear hV hb H5' H6' HB' HP H5 H6 HB t0 t1 t2 o0 o1 o2 o3 o4 o5 o6 o7
      go_upto_region 12 with (fail)
      generalize ((w5.setCell ⟨WA.heap.size, 0, none⟩ (.bool q.s)).setCell ⟨WA.heap.size, 1, none⟩ (.slice A5 (nd 64 q.n) c5)).setCell ⟨WA.heap.size, 2, none⟩ (.int .i64 q.e) = w6 at *
      clear z0 z1 z2 zf
      obtain ⟨o0, o1, o2, o3, o4, o5, o6, o7⟩ := (Bop.out.keep KB.out).cells
      go_wp2_with fail
      refine (HR.out _ ).mono ?_
      rintro _ w7 ⟨x7, rfl, hV, hb⟩
      obtain ⟨A7, c7, rfl, -⟩ := id hV
      have H5' := K5.out.below hb
      have H6' := K6.out.below hb
      have HB' := keep_below KB.out hb
      obtain ⟨Az, cz, ⟨z0, z1, z2, zf⟩, -⟩ := H6'.open
      have K6' := Lib.hid (dvb_put hV H6')
      have K5' := Lib.hid (dvb_keep (x := .bool q.s) (y := .slice A7 (nd 64 q.n) c7) (u := .int .i64 q.e) H5' H6' (by omega))
      have KB' := Lib.hid (below_box HB' (g := WA.heap.size + 1) (Nat.le_succ _) (.bool q.s) (.slice A7 (nd 64 q.n) c7) (.int .i64 q.e))
      clear hV hb H5' H6' HB' HR K5 K6 KB o0 o1 o2 o3 o4 o5 o6 o7
      go_wp2_with fail
      go_meet
      case rel => exact ⟨q, 0, rfl, rfl, K5', K6', KB'⟩
    by_cases h4 : kd = 4
    · subst h4
      have HP := Lib.hid (fun (wx : World) (h1 : Rd 64 wx (.slice Aa n1 ca) N n1) (hg : Gl wx) => Neg_any s1 Aa N n1 ca e1 wx h1 hg)
      have HR := Lib.hid (fun (wx : World) (h1 : Rd 64 wx (.slice A1 n1 c1) N n1) => rNeg_any s1 A1 N n1 c1 e1 wx h1)
      generalize negD n1 ⟨s1, N, e1⟩ = q at HP HR
      obtain ⟨t0, t1, t2, -, -⟩ := (Ba.out.keep HB.out).cells
      obtain ⟨o0, o1, o2, o3, o4, o5, o6, o7⟩ := (Bop.out.keep HB.out).cells
      go_wp2_with fail
      refine (HP.out _ (Ra.out.below HB.out) (HG.out.below HB.out)).mono ?_
      rintro _ w5 ⟨x5, rfl, hV, hb⟩
      obtain ⟨A5, c5, rfl, -⟩ := id hV
      have H5' := H5.out.below hb
      have H6' := H6.out.below hb
      have HB' := keep_below HB.out hb
      obtain ⟨Az, cz, ⟨z0, z1, z2, zf⟩, -⟩ := H5'.open
      have K5 := Lib.hid (dvb_put hV H5')
      have K6 := Lib.hid (dvb_keep (x := .bool q.1.s) (y := .slice A5 (nd 64 q.1.n) c5) (u := .int .i64 q.1.e) H6' H5' (by omega))
      have KB := Lib.hid (below_box HB' (g := WA.heap.size) (Nat.le_refl _) (.bool q.1.s) (.slice A5 (nd 64 q.1.n) c5) (.int .i64 q.1.e))
      clear hV hb H5' H6' HB' HP H5 H6 HB t0 t1 t2 o0 o1 o2 o3 o4 o5 o6 o7
      go_upto_region 15 with (fail)
      generalize ((w5.setCell ⟨WA.heap.size, 0, none⟩ (.bool q.1.s)).setCell ⟨WA.heap.size, 1, none⟩ (.slice A5 (nd 64 q.1.n) c5)).setCell ⟨WA.heap.size, 2, none⟩ (.int .i64 q.1.e) = w6 at *
      clear z0 z1 z2 zf
      obtain ⟨o0, o1, o2, o3, o4, o5, o6, o7⟩ := (Bop.out.keep KB.out).cells
      go_wp2_with fail
      refine (HR.out _ (Rv.out.below KB.out)).mono ?_
      rintro _ w7 ⟨x7, rfl, hV, hb⟩
      obtain ⟨A7, c7, rfl, -⟩ := id hV
      have H5' := K5.out.below hb
      have H6' := K6.out.below hb
      have HB' := keep_below KB.out hb
      obtain ⟨Az, cz, ⟨z0, z1, z2, zf⟩, -⟩ := H6'.open
      have K6' := Lib.hid (dvb_put hV H6')
      have K5' := Lib.hid (dvb_keep (x := .bool q.1.s) (y := .slice A7 (nd 64 q.1.n) c7) (u := .int .i64 q.1.e) H5' H6' (by omega))
      have KB' := Lib.hid (below_box HB' (g := WA.heap.size + 1) (Nat.le_succ _) (.bool q.1.s) (.slice A7 (nd 64 q.1.n) c7) (.int .i64 q.1.e))
      clear hV hb H5' H6' HB' HR K5 K6 KB o0 o1 o2 o3 o4 o5 o6 o7
      go_wp2_with fail
      go_meet
      case rel => exact ⟨q.1, q.2, rfl, rfl, K5', K6', KB'⟩
    by_cases h5 : kd = 5
    · subst h5
      have HP := Lib.hid (fun (wx : World) (h1 : Rd 64 wx (.slice Aa n1 ca) N n1) (h2 : Rd 64 wx (.slice Ab n2 cb) M n2) (hg : Gl wx) => DAdd_any s1 s2 Aa Ab N n1 ca M n2 cb e1 e2 wx h1 h2 hg)
      have HR := Lib.hid (fun (wx : World) (h1 : Rd 64 wx (.slice A1 n1 c1) N n1) (h2 : Rd 64 wx (.slice A2 n2 c2) M n2) => rAdd_any s1 s2 A1 A2 N n1 c1 M n2 c2 e1 e2 wx h1 h2)
      generalize addD n1 ⟨s1, N, e1⟩ n2 ⟨s2, M, e2⟩ = q at HP HR
      obtain ⟨t0, t1, t2, -, -⟩ := (Ba.out.keep HB.out).cells
      obtain ⟨u0, u1, u2, -, -⟩ := (Bb.out.keep HB.out).cells
      obtain ⟨o0, o1, o2, o3, o4, o5, o6, o7⟩ := (Bop.out.keep HB.out).cells
      go_wp2_with fail
      refine (HP.out _ (Ra.out.below HB.out) (Rb.out.below HB.out) (HG.out.below HB.out)).mono ?_
      rintro _ w5 ⟨x5, rfl, hV, hb⟩
      obtain ⟨A5, c5, rfl, -⟩ := id hV
      have H5' := H5.out.below hb
      have H6' := H6.out.below hb
      have HB' := keep_below HB.out hb
      obtain ⟨Az, cz, ⟨z0, z1, z2, zf⟩, -⟩ := H5'.open
      have K5 := Lib.hid (dvb_put hV H5')
      have K6 := Lib.hid (dvb_keep (x := .bool q.1.s) (y := .slice A5 (nd 64 q.1.n) c5) (u := .int .i64 q.1.e) H6' H5' (by omega))
      have KB := Lib.hid (below_box HB' (g := WA.heap.size) (Nat.le_refl _) (.bool q.1.s) (.slice A5 (nd 64 q.1.n) c5) (.int .i64 q.1.e))
      clear hV hb H5' H6' HB' HP H5 H6 HB t0 t1 t2 o0 o1 o2 o3 o4 o5 o6 o7 u0 u1 u2
      go_upto_region 18 with (fail)
      generalize ((w5.setCell ⟨WA.heap.size, 0, none⟩ (.bool q.1.s)).setCell ⟨WA.heap.size, 1, none⟩ (.slice A5 (nd 64 q.1.n) c5)).setCell ⟨WA.heap.size, 2, none⟩ (.int .i64 q.1.e) = w6 at *
      clear z0 z1 z2 zf
      obtain ⟨o0, o1, o2, o3, o4, o5, o6, o7⟩ := (Bop.out.keep KB.out).cells
      go_wp2_with fail
      refine (HR.out _ (Rv.out.below KB.out) (Ru.out.below KB.out)).mono ?_
      rintro _ w7 ⟨x7, rfl, hV, hb⟩
      obtain ⟨A7, c7, rfl, -⟩ := id hV
      have H5' := K5.out.below hb
      have H6' := K6.out.below hb
      have HB' := keep_below KB.out hb
      obtain ⟨Az, cz, ⟨z0, z1, z2, zf⟩, -⟩ := H6'.open
      have K6' := Lib.hid (dvb_put hV H6')
      have K5' := Lib.hid (dvb_keep (x := .bool q.1.s) (y := .slice A7 (nd 64 q.1.n) c7) (u := .int .i64 q.1.e) H5' H6' (by omega))
      have KB' := Lib.hid (below_box HB' (g := WA.heap.size + 1) (Nat.le_succ _) (.bool q.1.s) (.slice A7 (nd 64 q.1.n) c7) (.int .i64 q.1.e))
      clear hV hb H5' H6' HB' HR K5 K6 KB o0 o1 o2 o3 o4 o5 o6 o7
      go_wp2_with fail
      go_meet
      case rel => exact ⟨q.1, q.2, rfl, rfl, K5', K6', KB'⟩
    by_cases h6 : kd = 6
    · subst h6
      have HP := Lib.hid (fun (wx : World) (h1 : Rd 64 wx (.slice Aa n1 ca) N n1) (h2 : Rd 64 wx (.slice Ab n2 cb) M n2) (hg : Gl wx) => DSub_any s1 s2 Aa Ab N n1 ca M n2 cb e1 e2 wx h1 h2 hg)
      have HR := Lib.hid (fun (wx : World) (h1 : Rd 64 wx (.slice A1 n1 c1) N n1) (h2 : Rd 64 wx (.slice A2 n2 c2) M n2) => rSub_any s1 s2 A1 A2 N n1 c1 M n2 c2 e1 e2 wx h1 h2)
      generalize subD n1 ⟨s1, N, e1⟩ n2 ⟨s2, M, e2⟩ = q at HP HR
      obtain ⟨t0, t1, t2, -, -⟩ := (Ba.out.keep HB.out).cells
      obtain ⟨u0, u1, u2, -, -⟩ := (Bb.out.keep HB.out).cells
      obtain ⟨o0, o1, o2, o3, o4, o5, o6, o7⟩ := (Bop.out.keep HB.out).cells
      go_wp2_with fail
      refine (HP.out _ (Ra.out.below HB.out) (Rb.out.below HB.out) (HG.out.below HB.out)).mono ?_
      rintro _ w5 ⟨x5, rfl, hV, hb⟩
      obtain ⟨A5, c5, rfl, -⟩ := id hV
      have H5' := H5.out.below hb
      have H6' := H6.out.below hb
      have HB' := keep_below HB.out hb
      obtain ⟨Az, cz, ⟨z0, z1, z2, zf⟩, -⟩ := H5'.open
      have K5 := Lib.hid (dvb_put hV H5')
      have K6 := Lib.hid (dvb_keep (x := .bool q.1.s) (y := .slice A5 (nd 64 q.1.n) c5) (u := .int .i64 q.1.e) H6' H5' (by omega))
      have KB := Lib.hid (below_box HB' (g := WA.heap.size) (Nat.le_refl _) (.bool q.1.s) (.slice A5 (nd 64 q.1.n) c5) (.int .i64 q.1.e))
      clear hV hb H5' H6' HB' HP H5 H6 HB t0 t1 t2 o0 o1 o2 o3 o4 o5 o6 o7 u0 u1 u2
      go_upto_region 21 with (fail)
      generalize ((w5.setCell ⟨WA.heap.size, 0, none⟩ (.bool q.1.s)).setCell ⟨WA.heap.size, 1, none⟩ (.slice A5 (nd 64 q.1.n) c5)).setCell ⟨WA.heap.size, 2, none⟩ (.int .i64 q.1.e) = w6 at *
      clear z0 z1 z2 zf
      obtain ⟨o0, o1, o2, o3, o4, o5, o6, o7⟩ := (Bop.out.keep KB.out).cells
      go_wp2_with fail
      refine (HR.out _ (Rv.out.below KB.out) (Ru.out.below KB.out)).mono ?_
      rintro _ w7 ⟨x7, rfl, hV, hb⟩
      obtain ⟨A7, c7, rfl, -⟩ := id hV
      have H5' := K5.out.below hb
      have H6' := K6.out.below hb
      have HB' := keep_below KB.out hb
      obtain ⟨Az, cz, ⟨z0, z1, z2, zf⟩, -⟩ := H6'.open
      have K6' := Lib.hid (dvb_put hV H6')
      have K5' := Lib.hid (dvb_keep (x := .bool q.1.s) (y := .slice A7 (nd 64 q.1.n) c7) (u := .int .i64 q.1.e) H5' H6' (by omega))
      have KB' := Lib.hid (below_box HB' (g := WA.heap.size + 1) (Nat.le_succ _) (.bool q.1.s) (.slice A7 (nd 64 q.1.n) c7) (.int .i64 q.1.e))
      clear hV hb H5' H6' HB' HR K5 K6 KB o0 o1 o2 o3 o4 o5 o6 o7
      go_wp2_with fail
      go_meet
      case rel => exact ⟨q.1, q.2, rfl, rfl, K5', K6', KB'⟩
    by_cases h7 : kd = 7
    · subst h7
      have HP := Lib.hid (fun (wx : World) (h1 : Rd 64 wx (.slice Aa n1 ca) N n1) (h2 : Rd 64 wx (.slice Ab n2 cb) M n2) (hg : Gl wx) => DMul_any s1 s2 Aa Ab N n1 ca M n2 cb e1 e2 wx h1 h2 hg)
      have HR := Lib.hid (fun (wx : World) (h1 : Rd 64 wx (.slice A1 n1 c1) N n1) (h2 : Rd 64 wx (.slice A2 n2 c2) M n2) => rMul_any s1 s2 A1 A2 N n1 c1 M n2 c2 e1 e2 wx h1 h2)
      generalize mulD n1 ⟨s1, N, e1⟩ n2 ⟨s2, M, e2⟩ = q at HP HR
      obtain ⟨t0, t1, t2, -, -⟩ := (Ba.out.keep HB.out).cells
      obtain ⟨u0, u1, u2, -, -⟩ := (Bb.out.keep HB.out).cells
      obtain ⟨o0, o1, o2, o3, o4, o5, o6, o7⟩ := (Bop.out.keep HB.out).cells
      go_wp2_with fail
      refine (HP.out _ (Ra.out.below HB.out) (Rb.out.below HB.out) (HG.out.below HB.out)).mono ?_
      rintro _ w5 ⟨x5, rfl, hV, hb⟩
      obtain ⟨A5, c5, rfl, -⟩ := id hV
      have H5' := H5.out.below hb
      have H6' := H6.out.below hb
      have HB' := keep_below HB.out hb
      obtain ⟨Az, cz, ⟨z0, z1, z2, zf⟩, -⟩ := H5'.open
      have K5 := Lib.hid (dvb_put hV H5')
      have K6 := Lib.hid (dvb_keep (x := .bool q.1.s) (y := .slice A5 (nd 64 q.1.n) c5) (u := .int .i64 q.1.e) H6' H5' (by omega))
      have KB := Lib.hid (below_box HB' (g := WA.heap.size) (Nat.le_refl _) (.bool q.1.s) (.slice A5 (nd 64 q.1.n) c5) (.int .i64 q.1.e))
      clear hV hb H5' H6' HB' HP H5 H6 HB t0 t1 t2 o0 o1 o2 o3 o4 o5 o6 o7 u0 u1 u2
      go_upto_region 24 with (fail)
      generalize ((w5.setCell ⟨WA.heap.size, 0, none⟩ (.bool q.1.s)).setCell ⟨WA.heap.size, 1, none⟩ (.slice A5 (nd 64 q.1.n) c5)).setCell ⟨WA.heap.size, 2, none⟩ (.int .i64 q.1.e) = w6 at *
      clear z0 z1 z2 zf
      obtain ⟨o0, o1, o2, o3, o4, o5, o6, o7⟩ := (Bop.out.keep KB.out).cells
      go_wp2_with fail
      refine (HR.out _ (Rv.out.below KB.out) (Ru.out.below KB.out)).mono ?_
      rintro _ w7 ⟨x7, rfl, hV, hb⟩
      obtain ⟨A7, c7, rfl, -⟩ := id hV
      have H5' := K5.out.below hb
      have H6' := K6.out.below hb
      have HB' := keep_below KB.out hb
      obtain ⟨Az, cz, ⟨z0, z1, z2, zf⟩, -⟩ := H6'.open
      have K6' := Lib.hid (dvb_put hV H6')
      have K5' := Lib.hid (dvb_keep (x := .bool q.1.s) (y := .slice A7 (nd 64 q.1.n) c7) (u := .int .i64 q.1.e) H5' H6' (by omega))
      have KB' := Lib.hid (below_box HB' (g := WA.heap.size + 1) (Nat.le_succ _) (.bool q.1.s) (.slice A7 (nd 64 q.1.n) c7) (.int .i64 q.1.e))
      clear hV hb H5' H6' HB' HR K5 K6 KB o0 o1 o2 o3 o4 o5 o6 o7
      go_wp2_with fail
      go_meet
      case rel => exact ⟨q.1, q.2, rfl, rfl, K5', K6', KB'⟩
    by_cases h9 : kd = 9
    · subst h9
      have HP := Lib.hid (fun (wx : World) (h1 : Rd 64 wx (.slice Aa n1 ca) N n1) (hg : Gl wx) => Scale_any s1 Aa N n1 ca e1 k wx h1 hg hk)
      have HR := Lib.hid (fun (wx : World) (h1 : Rd 64 wx (.slice A1 n1 c1) N n1) => rScale_any s1 A1 N n1 c1 e1 k wx h1 hk)
      generalize scaleD n1 ⟨s1, N, e1⟩ k = q at HP HR
      obtain ⟨t0, t1, t2, -, -⟩ := (Ba.out.keep HB.out).cells
      obtain ⟨o0, o1, o2, o3, o4, o5, o6, o7⟩ := (Bop.out.keep HB.out).cells
      go_wp2_with fail
      refine (HP.out _ (Ra.out.below HB.out) (HG.out.below HB.out)).mono ?_
      rintro _ w5 ⟨x5, rfl, hV, hb⟩
      obtain ⟨A5, c5, rfl, -⟩ := id hV
      have H5' := H5.out.below hb
      have H6' := H6.out.below hb
      have HB' := keep_below HB.out hb
      obtain ⟨Az, cz, ⟨z0, z1, z2, zf⟩, -⟩ := H5'.open
      have K5 := Lib.hid (dvb_put hV H5')
      have K6 := Lib.hid (dvb_keep (x := .bool q.1.s) (y := .slice A5 (nd 64 q.1.n) c5) (u := .int .i64 q.1.e) H6' H5' (by omega))
      have KB := Lib.hid (below_box HB' (g := WA.heap.size) (Nat.le_refl _) (.bool q.1.s) (.slice A5 (nd 64 q.1.n) c5) (.int .i64 q.1.e))
      clear hV hb H5' H6' HB' HP H5 H6 HB t0 t1 t2 o0 o1 o2 o3 o4 o5 o6 o7
      go_upto_region 27 with (fail)
      generalize ((w5.setCell ⟨WA.heap.size, 0, none⟩ (.bool q.1.s)).setCell ⟨WA.heap.size, 1, none⟩ (.slice A5 (nd 64 q.1.n) c5)).setCell ⟨WA.heap.size, 2, none⟩ (.int .i64 q.1.e) = w6 at *
      clear z0 z1 z2 zf
      obtain ⟨o0, o1, o2, o3, o4, o5, o6, o7⟩ := (Bop.out.keep KB.out).cells
      go_wp2_with fail
      refine (HR.out _ (Rv.out.below KB.out)).mono ?_
      rintro _ w7 ⟨x7, rfl, hV, hb⟩
      obtain ⟨A7, c7, rfl, -⟩ := id hV
      have H5' := K5.out.below hb
      have H6' := K6.out.below hb
      have HB' := keep_below KB.out hb
      obtain ⟨Az, cz, ⟨z0, z1, z2, zf⟩, -⟩ := H6'.open
      have K6' := Lib.hid (dvb_put hV H6')
      have K5' := Lib.hid (dvb_keep (x := .bool q.1.s) (y := .slice A7 (nd 64 q.1.n) c7) (u := .int .i64 q.1.e) H5' H6' (by omega))
      have KB' := Lib.hid (below_box HB' (g := WA.heap.size + 1) (Nat.le_succ _) (.bool q.1.s) (.slice A7 (nd 64 q.1.n) c7) (.int .i64 q.1.e))
      clear hV hb H5' H6' HB' HR K5 K6 KB o0 o1 o2 o3 o4 o5 o6 o7
      go_wp2_with fail
      go_meet
      case rel => exact ⟨q.1, q.2, rfl, rfl, K5', K6', KB'⟩
    by_cases h11 : kd = 11
    · subst h11
      have HP := Lib.hid (fun (wx : World) (h1 : Rd 64 wx (.slice Aa n1 ca) N n1) (hg : Gl wx) => Floor_any s1 Aa N n1 ca e1 wx h1 hg)
      have HR := Lib.hid (fun (wx : World) (h1 : Rd 64 wx (.slice A1 n1 c1) N n1) => rFloor_any s1 A1 N n1 c1 e1 wx h1)
      generalize floorD n1 ⟨s1, N, e1⟩ = q at HP HR
      obtain ⟨t0, t1, t2, -, -⟩ := (Ba.out.keep HB.out).cells
      obtain ⟨o0, o1, o2, o3, o4, o5, o6, o7⟩ := (Bop.out.keep HB.out).cells
      go_wp2_with fail
      refine (HP.out _ (Ra.out.below HB.out) (HG.out.below HB.out)).mono ?_
      rintro _ w5 ⟨x5, rfl, hV, hb⟩
      obtain ⟨A5, c5, rfl, -⟩ := id hV
      have H5' := H5.out.below hb
      have H6' := H6.out.below hb
      have HB' := keep_below HB.out hb
      obtain ⟨Az, cz, ⟨z0, z1, z2, zf⟩, -⟩ := H5'.open
      have K5 := Lib.hid (dvb_put hV H5')
      have K6 := Lib.hid (dvb_keep (x := .bool q.1.s) (y := .slice A5 (nd 64 q.1.n) c5) (u := .int .i64 q.1.e) H6' H5' (by omega))
      have KB := Lib.hid (below_box HB' (g := WA.heap.size) (Nat.le_refl _) (.bool q.1.s) (.slice A5 (nd 64 q.1.n) c5) (.int .i64 q.1.e))
      clear hV hb H5' H6' HB' HP H5 H6 HB t0 t1 t2 o0 o1 o2 o3 o4 o5 o6 o7
      go_upto_region 30 with (fail)
      generalize ((w5.setCell ⟨WA.heap.size, 0, none⟩ (.bool q.1.s)).setCell ⟨WA.heap.size, 1, none⟩ (.slice A5 (nd 64 q.1.n) c5)).setCell ⟨WA.heap.size, 2, none⟩ (.int .i64 q.1.e) = w6 at *
      clear z0 z1 z2 zf
      obtain ⟨o0, o1, o2, o3, o4, o5, o6, o7⟩ := (Bop.out.keep KB.out).cells
      go_wp2_with fail
      refine (HR.out _ (Rv.out.below KB.out)).mono ?_
      rintro _ w7 ⟨x7, rfl, hV, hb⟩
      obtain ⟨A7, c7, rfl, -⟩ := id hV
      have H5' := K5.out.below hb
      have H6' := K6.out.below hb
      have HB' := keep_below KB.out hb
      obtain ⟨Az, cz, ⟨z0, z1, z2, zf⟩, -⟩ := H6'.open
      have K6' := Lib.hid (dvb_put hV H6')
      have K5' := Lib.hid (dvb_keep (x := .bool q.1.s) (y := .slice A7 (nd 64 q.1.n) c7) (u := .int .i64 q.1.e) H5' H6' (by omega))
      have KB' := Lib.hid (below_box HB' (g := WA.heap.size + 1) (Nat.le_succ _) (.bool q.1.s) (.slice A7 (nd 64 q.1.n) c7) (.int .i64 q.1.e))
      clear hV hb H5' H6' HB' HR K5 K6 KB o0 o1 o2 o3 o4 o5 o6 o7
      go_wp2_with fail
      go_meet
      case rel => exact ⟨q.1, q.2, rfl, rfl, K5', K6', KB'⟩
    have f1 : (kd == 1) = false := by rw [beq_eq_false_iff_ne]; exact h1
    have f2 : (kd == 2) = false := by rw [beq_eq_false_iff_ne]; exact h2
    have f4 : (kd == 4) = false := by rw [beq_eq_false_iff_ne]; exact h4
    have f5 : (kd == 5) = false := by rw [beq_eq_false_iff_ne]; exact h5
    have f6 : (kd == 6) = false := by rw [beq_eq_false_iff_ne]; exact h6
    have f7 : (kd == 7) = false := by rw [beq_eq_false_iff_ne]; exact h7
    have f9 : (kd == 9) = false := by rw [beq_eq_false_iff_ne]; exact h9
    have f11 : (kd == 11) = false := by rw [beq_eq_false_iff_ne]; exact h11
    clear h1 h2 h4 h5 h6 h7 h9 h11
    go_wp2_with fail
    go_meet
    case rel => exact ⟨D.zero, 0, rfl, rfl, H5, H6, HB⟩
  case rest =>
    obtain ⟨q, er, rfl, rfl, K5, K6, KB⟩ := hcut
    clear H5 H6 HB
    obtain ⟨A5, c5, ⟨x0, x1, x2, xf⟩, r5⟩ := K5.out.open
    obtain ⟨A6, c6, ⟨y0, y1, y2, yf⟩, r6⟩ := K6.out.open
    have HS := Lib.hid (same_any q.s q.s A5 A6 q.n (nd 64 q.n) c5 q.n (nd 64 q.n) c6 q.e q.e _ r5 r6)
    clear r5 r6
    go_wp2_with fail
    refine HS.out.mono ?_
    rintro _ w8 ⟨rfl, hb⟩
    rw [same_self]
    replace KB := Lib.hid (keep_below KB.out hb)
    clear hb HS K5 K6 x0 x1 x2 xf y0 y1 y2 yf
    obtain ⟨o0, o1, o2, o3, o4, o5, o6, o7⟩ := (Bop.out.keep KB.out).cells
    obtain ⟨t0, t1, t2, -, -⟩ := (Ba.out.keep KB.out).cells
    have HK := Lib.hid (kept_any s1 A1 Aa N n1 c1 ca e1 w8 (Ra.out.below KB.out) (Ra3.out.below KB.out) (Rv.out.below KB.out))
    go_wp2_with fail
    refine HK.out.mono ?_
    rintro _ w9 ⟨rfl, hb⟩
    replace KB := Lib.hid (keep_below KB.out hb)
    clear hb HK o0 o1 o2 o3 o4 o5 o6 o7 t0 t1 t2
    obtain ⟨o0, o1, o2, o3, o4, o5, o6, o7⟩ := (Bop.out.keep KB.out).cells
    obtain ⟨t0, t1, t2, -, -⟩ := (Bb.out.keep KB.out).cells
    have HK := Lib.hid (kept_any s2 A2 Ab M n2 c2 cb e2 w9 (Rb.out.below KB.out) (Rb3.out.below KB.out) (Ru.out.below KB.out))
    go_wp2_with fail
    refine HK.out.mono ?_
    rintro _ w10 ⟨rfl, hb⟩
    replace KB := Lib.hid (keep_below KB.out hb)
    clear hb HK o0 o1 o2 o3 o4 o5 o6 o7 t0 t1 t2
    go_wp2_with fail
    go_ret
    exact ⟨rfl, keep_belowB HB0.out KB.out (by have := HB0.out.size; omega)⟩

end Go.Proofs.YtakjbmlkcbedmaaDoor
