/- The walks of vernierlaw09.fma, dot2, value. -/
import Derived.Test.YtcgceigmglikpaaDoorFusG
namespace Go.Proofs.YtcgceigmglikpaaDoor
set_option linter.unusedVariables false
open Go.RowKit

set_option maxRecDepth 100000 in
set_option maxHeartbeats 4000000 in
theorem lfma_ok (n k a b c d : Nat) (w : World) (hn : n < 4) (hk : k ≤ 5) (ha : a < 2 ^ (fm n).w) (hb : b < 2 ^ (fm n).w) (hc : c < 2 ^ (fm n).w) (hd : d < 2 ^ (fm n).w) (hG : Gl w) (hR : GlR w) :
    Calls Tryd.prog 40 #[.agg (fourA n k a b c d)] w fun e w' => e = .returned (.tuple #[.int .u64 ((fmaS (fm n) k a b c).1 : Int), .int .i64 ((fmaS (fm n) k a b c).2 : Int), .bool true]) ∧ Below w.heap.size w w' := by
  obtain ⟨r, hr⟩ : ∃ r, r = fmaS (fm n) k a b c := ⟨_, rfl⟩
  have hfm := fun wx h1 h2 => Fma_ok n k a b c wx hn hk ha hb hc h1 h2
  rw [← hr] at hfm ⊢
  have hb1 := below1 w (.cells #[.int .i64 n, .int .i64 k, .int .u64 a, .int .u64 b, .int .u64 c, .int .u64 d] 68)
  have b1 := Bx.new w #[.int .i64 n, .int .i64 k, .int .u64 a, .int .u64 b, .int .u64 c, .int .u64 d] 68
  obtain ⟨W1, hW1⟩ : ∃ W1, W1 = w.alloc (.cells #[.int .i64 n, .int .i64 k, .int .u64 a, .int .u64 b, .int .u64 c, .int .u64 d] 68) := ⟨_, rfl⟩
  rw [← hW1] at hb1 b1
  have HB := Lib.hid hb1
  have HG := Lib.hid (hG.below hb1)
  have HR := Lib.hid (hR.below hb1)
  have Hfm := Lib.hid hfm
  obtain ⟨x0, x1, x2, x3, x4, x5⟩ := b1.six
  unfold fourA
  clear hfm hr hb1 b1 hG hR hn hk ha hb hc hd
  go_enter Tryd.func40, Tryd.ntmps40
  go_upto_region 1 with (fail)
  rw [← hW1]
  clear hW1
  go_wp2_with fail
  refine (Hfm.out W1 HG.out HR.out).mono ?_
  rintro _ w2 ⟨rfl, hb2⟩
  replace HB := Lib.hid (keep_belowB HB.out hb2 (Nat.le_refl _))
  clear hb2 Hfm x0 x1 x2 x3 x4 x5
  go_wp2_with fail
  refine bodyPost_ret (v := .tuple #[.int .u64 r.1, .int .i64 r.2, .bool true]) (by simp [results, Tryd.results40, go_sem]) rfl ⟨rfl, HB.out⟩

set_option maxRecDepth 100000 in
set_option maxHeartbeats 4000000 in
theorem ldot2_ok (n k a b c d : Nat) (w : World) (hn : n < 4) (hk : k ≤ 5) (ha : a < 2 ^ (fm n).w) (hb : b < 2 ^ (fm n).w) (hc : c < 2 ^ (fm n).w) (hd : d < 2 ^ (fm n).w) (hG : Gl w) (hR : GlR w) :
    Calls Tryd.prog 41 #[.agg (fourA n k a b c d)] w fun e w' => e = .returned (.tuple #[.int .u64 ((dot2S (fm n) k a b c d).1 : Int), .int .i64 ((dot2S (fm n) k a b c d).2 : Int), .bool true]) ∧ Below w.heap.size w w' := by
  obtain ⟨r, hr⟩ : ∃ r, r = dot2S (fm n) k a b c d := ⟨_, rfl⟩
  have hfm := fun wx h1 h2 => Dot2_ok n k a b c d wx hn hk ha hb hc hd h1 h2
  rw [← hr] at hfm ⊢
  have hb1 := below1 w (.cells #[.int .i64 n, .int .i64 k, .int .u64 a, .int .u64 b, .int .u64 c, .int .u64 d] 68)
  have b1 := Bx.new w #[.int .i64 n, .int .i64 k, .int .u64 a, .int .u64 b, .int .u64 c, .int .u64 d] 68
  obtain ⟨W1, hW1⟩ : ∃ W1, W1 = w.alloc (.cells #[.int .i64 n, .int .i64 k, .int .u64 a, .int .u64 b, .int .u64 c, .int .u64 d] 68) := ⟨_, rfl⟩
  rw [← hW1] at hb1 b1
  have HB := Lib.hid hb1
  have HG := Lib.hid (hG.below hb1)
  have HR := Lib.hid (hR.below hb1)
  have Hfm := Lib.hid hfm
  obtain ⟨x0, x1, x2, x3, x4, x5⟩ := b1.six
  unfold fourA
  clear hfm hr hb1 b1 hG hR hn hk ha hb hc hd
  go_enter Tryd.func41, Tryd.ntmps41
  go_upto_region 1 with (fail)
  rw [← hW1]
  clear hW1
  go_wp2_with fail
  refine (Hfm.out W1 HG.out HR.out).mono ?_
  rintro _ w2 ⟨rfl, hb2⟩
  replace HB := Lib.hid (keep_belowB HB.out hb2 (Nat.le_refl _))
  clear hb2 Hfm x0 x1 x2 x3 x4 x5
  go_wp2_with fail
  refine bodyPost_ret (v := .tuple #[.int .u64 r.1, .int .i64 r.2, .bool true]) (by simp [results, Tryd.results41, go_sem]) rfl ⟨rfl, HB.out⟩

theorem Value_vf (f : Int) (a : Nat) (d : D) (z : Int) (ha : a < 18446744073709551616) (hd : d = valA f a) (hz : z = valE f a) (w : World) (hG : GlR w) (hT : Gl w) :
    Calls Tryd.prog 27 #[.int .i64 f, .int .u64 a] w fun e w' => ∃ A c, e = .returned (.tuple #[.agg #[.bool d.s, .slice A (nd 64 d.n) c, .int .i64 d.e], .int .i64 z]) ∧ (Rd 64 w' (.slice A (nd 64 d.n) c) d.n (nd 64 d.n) ∧ Fr w.heap.size w' (.slice A (nd 64 d.n) c)) ∧ Below w.heap.size w w' := by
  subst hd hz
  refine (Value_any f a w ha hG hT).mono ?_
  rintro e w' ⟨x, rfl, ⟨A, c, rfl, _, _, h, h'⟩, hb⟩
  exact ⟨A, c, rfl, ⟨h, h'⟩, hb⟩

set_option maxRecDepth 100000 in
theorem lvalue_ok (n a : Nat) (w : World) (hn : n < 4) (ha : a < 2 ^ (fm n).w) (hfin : (fm n).abs a < (fm n).inf) (hG : Gl w) (hR : GlR w) :
    Calls Tryd.prog 38 #[.int .i64 n, .int .u64 a] w fun e w' => ∃ A c, e = .returned (.agg #[.bool (valD (fm n) a).s, .slice A (nd 64 (valD (fm n) a).n) c, .int .i64 (valD (fm n) a).e]) ∧ Rd 64 w' (.slice A (nd 64 (valD (fm n) a).n) c) (valD (fm n) a).n (nd 64 (valD (fm n) a).n) ∧ Below w.heap.size w w' := by
  have hv := fun wx h1 h2 => Value_vf (n : Int) a (valD (fm n) a) 0 (Nat.lt_of_lt_of_le ha (Nat.pow_le_pow_right (show 0 < 2 by decide) (fm_ok n).w64)) (valA_fin hn ha hfin).symm (valE_fin hn ha hfin).symm wx h1 h2
  obtain ⟨d, hd⟩ : ∃ d, d = valD (fm n) a := ⟨_, rfl⟩
  rw [← hd] at hv ⊢
  have Hv := Lib.hid hv
  have hb0 := below1 w (.cells #[.bool false, .slice none 0 0, .int .i64 0] 53)
  have b4 := Box3.new w (.bool false) (.slice none 0 0) (.int .i64 0) 53
  have HB := Lib.hid hb0
  have B4 := Lib.hid b4
  have HG := Lib.hid (hG.below hb0)
  have HR := Lib.hid (hR.below hb0)
  clear hv hd hn ha hfin hG hR hb0 b4
  go_enter Tryd.func38, Tryd.ntmps38
  go_wp2_with fail
  refine (Hv.out _ HR.out HG.out).mono ?_
  rintro _ w1 ⟨A, c, rfl, hrd, hb1⟩
  replace HB := Lib.hid (keep_belowB HB.out hb1 (Nat.le_refl _))
  replace B4 := Lib.hid (B4.out.keep hb1)
  have hb2 := below1 w1 (.cells #[.bool d.s, .slice A (nd 64 d.n) c, .int .i64 d.e] 53)
  have V5 := Lib.hid (VB.new hrd.1 53)
  replace HB := Lib.hid (keep_belowB HB.out hb2 (Nat.le_refl _))
  replace B4 := Lib.hid (B4.out.keep hb2)
  obtain ⟨x0, x1, x2, -, -⟩ := V5.out.bx.cells
  obtain ⟨c0, c1, c2, cf, -⟩ := B4.out.cells
  have HF := Lib.hid (And.intro V5.out.rd (hrd.2.below hb2))
  clear hb1 hb2 Hv hrd
  go_wp2_with fail
  obtain ⟨r0, r1, r2, -, -⟩ := (B4.out.setAll (.bool d.s) (.slice A (nd 64 d.n) c) (.int .i64 d.e)).cells
  refine bodyPost_ret (v := .agg #[.bool d.s, .slice A (nd 64 d.n) c, .int .i64 d.e]) (by simp [results, Tryd.results38, go_sem, r0, r1, r2]) rfl ?_
  refine ⟨A, c, rfl, ?_, below_box HB.out (Nat.le_refl _) _ _ _⟩
  have hB : w.heap.size < (w.alloc (.cells #[.bool false, .slice none 0 0, .int .i64 0] 53)).heap.size := by simp
  exact (rf_set (rf_set (rf_set HF.out (p := ⟨w.heap.size, 0, none⟩) hB _) (p := ⟨w.heap.size, 1, none⟩) hB _) (p := ⟨w.heap.size, 2, none⟩) hB _).1

end Go.Proofs.YtcgceigmglikpaaDoor
