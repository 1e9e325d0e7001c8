/- The contract of vernierlaw09.value, with memory of its own. -/
import Derived.Test.YtcgceigmglikpaaDoorFusK
import Derived.Test.YtcgceigmglikpaaDoorReady
namespace Go.Proofs.YtcgceigmglikpaaDoor
set_option linter.unusedVariables false
set_option linter.unusedSimpArgs false
open Go.RowKit

theorem DV.of {B : Nat} {w : World} {d : D} {A : Option Addr} {c : Nat} (h : Rd 64 w (.slice A (nd 64 d.n) c) d.n (nd 64 d.n)) (hf : Fr B w (.slice A (nd 64 d.n) c)) : DV B w (.agg #[.bool d.s, .slice A (nd 64 d.n) c, .int .i64 d.e]) d := by
  obtain ⟨A', c', e, h1, h2, _⟩ := id h
  injection e with e1 e2 e3
  subst e1 e3
  exact ⟨_, _, rfl, h1, h2, h, hf⟩

set_option maxRecDepth 100000 in
theorem lvalue_dv (n a : Nat) (w : World) (hn : n < 4) (ha : a < 2 ^ (fm n).w) (hfin : (fm n).abs a < (fm n).inf) (hG : Gl w) (hR : GlR w) :
    Calls Tryd.prog 38 #[.int .i64 n, .int .u64 a] w fun e w' => ∃ x, e = .returned x ∧ DV w.heap.size w' x (valD (fm n) a) ∧ Below w.heap.size w w' := by
  have hv := fun wx h1 h2 => Value_vf (n : Int) a (valD (fm n) a) 0 (Nat.lt_of_lt_of_le ha (Nat.pow_le_pow_right (show 0 < 2 by decide) (fm_ok n).w64)) (valA_fin hn ha hfin).symm (valE_fin hn ha hfin).symm wx h1 h2
  obtain ⟨d, hd⟩ : ∃ d, d = valD (fm n) a := ⟨_, rfl⟩
  rw [← hd] at hv ⊢
  have Hv := Lib.hid hv
  have hb0 := below1 w (.cells #[.bool false, .slice none 0 0, .int .i64 0] 53)
  have b4 := Box3.new w (.bool false) (.slice none 0 0) (.int .i64 0) 53
  have HB := Lib.hid hb0
  have B4 := Lib.hid b4
  have HG := Lib.hid (hG.below hb0)
  have HR := Lib.hid (hR.below hb0)
  clear hv hd hn ha hfin hG hR hb0 b4
  go_enter Tryd.func38, Tryd.ntmps38
  go_wp2_with fail
  refine (Hv.out _ HR.out HG.out).mono ?_
  rintro _ w1 ⟨A, c, rfl, hrd, hb1⟩
  replace HB := Lib.hid (keep_belowB HB.out hb1 (Nat.le_refl _))
  replace B4 := Lib.hid (B4.out.keep hb1)
  have hb2 := below1 w1 (.cells #[.bool d.s, .slice A (nd 64 d.n) c, .int .i64 d.e] 53)
  have V5 := Lib.hid (VB.new hrd.1 53)
  replace HB := Lib.hid (keep_belowB HB.out hb2 (Nat.le_refl _))
  replace B4 := Lib.hid (B4.out.keep hb2)
  obtain ⟨x0, x1, x2, -, -⟩ := V5.out.bx.cells
  obtain ⟨c0, c1, c2, cf, -⟩ := B4.out.cells
  have HF := Lib.hid (And.intro V5.out.rd (hrd.2.below hb2))
  clear hb1 hb2 Hv hrd
  go_wp2_with fail
  obtain ⟨r0, r1, r2, -, -⟩ := (B4.out.setAll (.bool d.s) (.slice A (nd 64 d.n) c) (.int .i64 d.e)).cells
  refine bodyPost_ret (v := .agg #[.bool d.s, .slice A (nd 64 d.n) c, .int .i64 d.e]) (by simp [results, Tryd.results38, go_sem, r0, r1, r2]) rfl ?_
  have hB : w.heap.size < (w.alloc (.cells #[.bool false, .slice none 0 0, .int .i64 0] 53)).heap.size := by simp
  obtain ⟨h1, h2⟩ := rf_set (rf_set (rf_set HF.out (p := ⟨w.heap.size, 0, none⟩) hB _) (p := ⟨w.heap.size, 1, none⟩) hB _) (p := ⟨w.heap.size, 2, none⟩) hB _
  exact ⟨_, rfl, DV.of h1 (h2.mono (Nat.le_of_lt hB)), below_box HB.out (Nat.le_refl _) _ _ _⟩

end Go.Proofs.YtcgceigmglikpaaDoor
