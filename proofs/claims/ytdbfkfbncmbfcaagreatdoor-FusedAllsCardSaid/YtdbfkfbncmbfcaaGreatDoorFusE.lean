/- The walks of fused's calls, of what is in range. -/
import Derived.Outline
import Derived.Deep.LoopGhost
import Derived.Lib.Hide
import Derived.Test.YtdbfkfbncmbfcaaGreatDoorFusD
namespace Go.Proofs.YtdbfkfbncmbfcaaGreatDoor
set_option linter.unusedVariables false
open Go.RowKit

set_option maxRecDepth 100000 in
set_option maxHeartbeats 4000000 in
theorem frefuses_ok (f m : Nat) (b : Nat) (xs : List Nat) (w : World) (hf : f < 4) (hm : m ≤ 5) (hxs : ∀ x ∈ xs, x < 2 ^ (fm f).w) (hn : xs.length ≤ 100) (hb : b < w.heap.size) (hc : ∀ j, j < xs.length → w.cell? ⟨b, j, none⟩ = some (.int .u64 (xs.getD j 0 : Nat))) (hR : GlR w) :
    Calls Tryz.prog 29 #[.int .i64 f, .int .i64 m, .slice (some ⟨b, 0, none⟩) xs.length xs.length] w fun e w' => e = .returned (.int .i64 0) ∧ Below w.heap.size w w' := by
  have hp := fun wx h => Params_ok f wx hf h
  have hmem : ∀ j, j < xs.length → xs.getD j 0 ∈ xs := by
    intro j hj
    have e : xs.getD j 0 = xs[j] := by simp [List.getD, hj]
    rw [e]
    exact List.getElem_mem hj
  have hck := fun (j : Nat) (hj : j < xs.length) wx h => Check_ok f (xs.getD j 0) wx hf (hxs _ (hmem j hj)) h
  clear hmem
  obtain ⟨n, hnl⟩ : ∃ n, n = xs.length := ⟨_, rfl⟩
  rw [← hnl] at hn hc hck ⊢
  have t1 : decide ((m : Int) < 0) = false := by simp
  have t2 : decide ((5 : Int) < (m : Int)) = false := by simp; omega
  have t3 : ¬ (5 < m) := by omega
  have Hp := Lib.hid hp
  have Hck := Lib.hid hck
  have Hc := Lib.hid hc
  have HR := Lib.hid hR
  have Hb := Lib.hid hb
  generalize fm f = F at *
  clear hp hck hc hR hnl hxs hb hf hm
  unfold PV at Hp
  go_enter Tryz.func29, Tryz.ntmps29
  go_wp2_with fail
  refine (Hp.out _ HR.out).mono ?_
  rintro _ w1 ⟨rfl, hb1⟩
  have hb2 := below1 w1 (.cells #[.int .i64 F.w, .int .i64 F.p, .int .i64 F.emin, .int .i64 F.emax] 97)
  have HB := Lib.hid (keep_belowB hb1 hb2 (Nat.le_refl _))
  obtain ⟨W1, hW1⟩ : ∃ W1, W1 = w1.alloc (.cells #[.int .i64 F.w, .int .i64 F.p, .int .i64 F.emin, .int .i64 F.emax] 97) := ⟨_, rfl⟩
  rw [← hW1] at HB
  clear hb1 hb2 Hp
  go_upto_region 4 with (fail)
  rw [← hW1]
  clear hW1
  go_wp2
  clear t1 t2 t3
  go_loopw [28] (fun v wr => ∃ j : Nat, j ≤ n ∧ v = .int .i64 j ∧ Hid (Below w.heap.size w wr)) (fun v _ => n - (intOf v).toNat)
  case atStart => exact ⟨0, Nat.zero_le _, rfl, HB⟩
  case round =>
    obtain ⟨j, hj, rfl, HBr⟩ := hrel
    by_cases hjn : j < n
    · obtain ⟨x, hx⟩ : ∃ x, x = xs.getD j 0 := ⟨_, rfl⟩
      have hcj := (HBr.out.cell (p := ⟨b, j, none⟩) Hb.out).trans (Hc.out j hjn)
      have hcall := Hck.out j hjn _ (HR.out.below HBr.out)
      rw [← hx] at hcj hcall
      have Hcall := Lib.hid hcall
      have hjn' : (j : Int) < n := by omega
      clear hx hcall Hck Hc HR HB
      go_wp2_with fail
      refine Hcall.out.mono ?_
      rintro _ w2 ⟨rfl, hb2⟩
      replace HBr := Lib.hid (keep_belowB HBr.out hb2 (Nat.le_refl _))
      clear hb2 Hcall hcj
      go_wp2_with fail
      go_roundw
      case rel => exact ⟨j + 1, by omega, by go_num, HBr⟩
      case measure => simp [intOf]; omega
    · obtain rfl : j = n := by omega
      clear Hck Hc HR HB
      go_wp2_with fail
      go_ret
      exact ⟨rfl, HBr.out⟩

/-- a * b + c and a * b + c * d, rounded once: bits and flags -/
def fmaS (F : Fm) (m a b c : Nat) : Nat × Nat := fuseS F m (timesP (singleP F a) (singleP F b)) (singleP F c)
def dot2S (F : Fm) (m a b c d : Nat) : Nat × Nat := fuseS F m (timesP (singleP F a) (singleP F b)) (timesP (singleP F c) (singleP F d))

set_option maxRecDepth 100000 in
set_option maxHeartbeats 4000000 in
theorem Fma_ok (f m a b c : Nat) (w : World) (hf : f < 4) (hm : m ≤ 5) (ha : a < 2 ^ (fm f).w) (hb : b < 2 ^ (fm f).w) (hc : c < 2 ^ (fm f).w) (hG : Gl w) (hR : GlR w) :
    Calls Tryz.prog 8 #[.int .i64 f, .int .i64 m, .int .u64 a, .int .u64 b, .int .u64 c] w fun e w' => e = .returned (.tuple #[.int .u64 ((fmaS (fm f) m a b c).1 : Int), .int .i64 ((fmaS (fm f) m a b c).2 : Int), .int .i64 0]) ∧ Below w.heap.size w w' := by
  have hb0 := below1 w (.cells #[.int .u64 a, .int .u64 b, .int .u64 c] 25)
  have bs := Bx.new w #[.int .u64 a, .int .u64 b, .int .u64 c] 25
  have HB := Lib.hid hb0
  have HG := Lib.hid (hG.below hb0)
  have HR := Lib.hid (hR.below hb0)
  have hrf := frefuses_ok f m w.heap.size [a, b, c] _ hf hm (by intro x hx; simp at hx; rcases hx with rfl | rfl | rfl <;> assumption) (by simp) (by simp) (by
    intro j hj
    have hj' : j = 0 ∨ j = 1 ∨ j = 2 := by simp at hj; omega
    rcases hj' with rfl | rfl | rfl
    · exact bs.cell 0 rfl
    · exact bs.cell 1 rfl
    · exact bs.cell 2 rfl
    ) HR.out
  have Hrf := Lib.hid hrf
  obtain ⟨x, hx⟩ : ∃ x, x = timesP (singleP (fm f) a) (singleP (fm f) b) := ⟨_, rfl⟩
  obtain ⟨y, hy⟩ : ∃ y, y = singleP (fm f) c := ⟨_, rfl⟩
  have hpr := fun wx h1 h2 => product_pt f a b wx hf ha hb h1 h2
  have hsi := fun wx h1 h2 => single_any f c wx hf hc h1 h2
  have hpx : Sm x.d := by rw [hx]; exact (times_ps (fm_ok f) a b).sm
  have hpy : Sm y.d := by rw [hy]; exact (single_ps (fm_ok f) c).sm
  have hfu := fun A1 A2 c1 c2 wx h1 h2 h3 h4 => fuse_pt f m x y A1 A2 c1 c2 wx hf hm hpx hpy h1 h2 h3 h4
  unfold fmaS
  rw [← hx, ← hy]
  rw [← hx] at hpr
  rw [← hy] at hsi
  obtain ⟨r, hr⟩ : ∃ r, r = fuseS (fm f) m x y := ⟨_, rfl⟩
  rw [← hr] at hfu ⊢
  have Hpr := Lib.hid hpr
  have Hsi := Lib.hid hsi
  have Hfu := Lib.hid hfu
  clear hx hy hpr hsi hpx hpy hfu hr hb0 bs hrf hf hm ha hb hc hG hR
  go_enter Tryz.func8, Tryz.ntmps8
  go_wp2_with fail
  refine Hrf.out.mono ?_
  rintro _ w1 ⟨rfl, hb1⟩
  replace HB := Lib.hid (keep_belowB HB.out hb1 (Nat.le_refl _))
  replace HG := Lib.hid (HG.out.below hb1)
  replace HR := Lib.hid (HR.out.below hb1)
  clear hb1 Hrf
  go_wp2_with fail
  refine (Hpr.out _ HG.out HR.out).mono ?_
  rintro _ w2 ⟨A1, c1, rfl, hrx, hb2⟩
  replace HB := Lib.hid (keep_belowB HB.out hb2 (Nat.le_refl _))
  replace HG := Lib.hid (HG.out.below hb2)
  replace HR := Lib.hid (HR.out.below hb2)
  have HX := Lib.hid hrx
  clear hb2 hrx Hpr
  go_wp2_with fail
  refine (Hsi.out _ HG.out HR.out).mono ?_
  rintro _ w3 ⟨A2, c2, rfl, hry, hb3⟩
  replace HB := Lib.hid (keep_belowB HB.out hb3 (Nat.le_refl _))
  replace HG := Lib.hid (HG.out.below hb3)
  replace HR := Lib.hid (HR.out.below hb3)
  replace HX := Lib.hid (HX.out.below hb3)
  have HY := Lib.hid hry
  clear hb3 hry Hsi
  go_wp2_with fail
  refine (Hfu.out _ _ _ _ _ HX.out HY.out HG.out HR.out).mono ?_
  rintro _ w4 ⟨rfl, hb4⟩
  replace HB := Lib.hid (keep_belowB HB.out hb4 (Nat.le_refl _))
  clear hb4 Hfu HX HY
  go_wp2_with fail
  refine bodyPost_ret (v := .tuple #[.int .u64 r.1, .int .i64 r.2, .int .i64 0]) (by simp [results, Tryz.results8, go_sem]) rfl ⟨rfl, HB.out⟩


set_option maxRecDepth 100000 in
set_option maxHeartbeats 4000000 in
theorem Dot2_ok (f m a b c d : Nat) (w : World) (hf : f < 4) (hm : m ≤ 5) (ha : a < 2 ^ (fm f).w) (hb : b < 2 ^ (fm f).w) (hc : c < 2 ^ (fm f).w) (hd : d < 2 ^ (fm f).w) (hG : Gl w) (hR : GlR w) :
    Calls Tryz.prog 19 #[.int .i64 f, .int .i64 m, .int .u64 a, .int .u64 b, .int .u64 c, .int .u64 d] w fun e w' => e = .returned (.tuple #[.int .u64 ((dot2S (fm f) m a b c d).1 : Int), .int .i64 ((dot2S (fm f) m a b c d).2 : Int), .int .i64 0]) ∧ Below w.heap.size w w' := by
  have hb0 := below1 w (.cells #[.int .u64 a, .int .u64 b, .int .u64 c, .int .u64 d] 25)
  have bs := Bx.new w #[.int .u64 a, .int .u64 b, .int .u64 c, .int .u64 d] 25
  have HB := Lib.hid hb0
  have HG := Lib.hid (hG.below hb0)
  have HR := Lib.hid (hR.below hb0)
  have hrf := frefuses_ok f m w.heap.size [a, b, c, d] _ hf hm (by intro x hx; simp at hx; rcases hx with rfl | rfl | rfl | rfl <;> assumption) (by simp) (by simp) (by
    intro j hj
    have hj' : j = 0 ∨ j = 1 ∨ j = 2 ∨ j = 3 := by simp at hj; omega
    rcases hj' with rfl | rfl | rfl | rfl
    · exact bs.cell 0 rfl
    · exact bs.cell 1 rfl
    · exact bs.cell 2 rfl
    · exact bs.cell 3 rfl
    ) HR.out
  have Hrf := Lib.hid hrf
  obtain ⟨x, hx⟩ : ∃ x, x = timesP (singleP (fm f) a) (singleP (fm f) b) := ⟨_, rfl⟩
  obtain ⟨y, hy⟩ : ∃ y, y = timesP (singleP (fm f) c) (singleP (fm f) d) := ⟨_, rfl⟩
  have hpr := fun wx h1 h2 => product_pt f a b wx hf ha hb h1 h2
  have hsi := fun wx h1 h2 => product_pt f c d wx hf hc hd h1 h2
  have hpx : Sm x.d := by rw [hx]; exact (times_ps (fm_ok f) a b).sm
  have hpy : Sm y.d := by rw [hy]; exact (times_ps (fm_ok f) c d).sm
  have hfu := fun A1 A2 c1 c2 wx h1 h2 h3 h4 => fuse_pt f m x y A1 A2 c1 c2 wx hf hm hpx hpy h1 h2 h3 h4
  unfold dot2S
  rw [← hx, ← hy]
  rw [← hx] at hpr
  rw [← hy] at hsi
  obtain ⟨r, hr⟩ : ∃ r, r = fuseS (fm f) m x y := ⟨_, rfl⟩
  rw [← hr] at hfu ⊢
  have Hpr := Lib.hid hpr
  have Hsi := Lib.hid hsi
  have Hfu := Lib.hid hfu
  clear hx hy hpr hsi hpx hpy hfu hr hb0 bs hrf hf hm ha hb hc hd hG hR
  go_enter Tryz.func19, Tryz.ntmps19
  go_wp2_with fail
  refine Hrf.out.mono ?_
  rintro _ w1 ⟨rfl, hb1⟩
  replace HB := Lib.hid (keep_belowB HB.out hb1 (Nat.le_refl _))
  replace HG := Lib.hid (HG.out.below hb1)
  replace HR := Lib.hid (HR.out.below hb1)
  clear hb1 Hrf
  go_wp2_with fail
  refine (Hpr.out _ HG.out HR.out).mono ?_
  rintro _ w2 ⟨A1, c1, rfl, hrx, hb2⟩
  replace HB := Lib.hid (keep_belowB HB.out hb2 (Nat.le_refl _))
  replace HG := Lib.hid (HG.out.below hb2)
  replace HR := Lib.hid (HR.out.below hb2)
  have HX := Lib.hid hrx
  clear hb2 hrx Hpr
  go_wp2_with fail
  refine (Hsi.out _ HG.out HR.out).mono ?_
  rintro _ w3 ⟨A2, c2, rfl, hry, hb3⟩
  replace HB := Lib.hid (keep_belowB HB.out hb3 (Nat.le_refl _))
  replace HG := Lib.hid (HG.out.below hb3)
  replace HR := Lib.hid (HR.out.below hb3)
  replace HX := Lib.hid (HX.out.below hb3)
  have HY := Lib.hid hry
  clear hb3 hry Hsi
  go_wp2_with fail
  refine (Hfu.out _ _ _ _ _ HX.out HY.out HG.out HR.out).mono ?_
  rintro _ w4 ⟨rfl, hb4⟩
  replace HB := Lib.hid (keep_belowB HB.out hb4 (Nat.le_refl _))
  clear hb4 Hfu HX HY
  go_wp2_with fail
  refine bodyPost_ret (v := .tuple #[.int .u64 r.1, .int .i64 r.2, .int .i64 0]) (by simp [results, Tryz.results19, go_sem]) rfl ⟨rfl, HB.out⟩



set_option maxRecDepth 100000 in
set_option maxHeartbeats 4000000 in
theorem Fms_ok (f m a b c : Nat) (w : World) (hf : f < 4) (hm : m ≤ 5) (ha : a < 2 ^ (fm f).w) (hb : b < 2 ^ (fm f).w) (hc : c < 2 ^ (fm f).w) (hG : Gl w) (hR : GlR w) :
    Calls Tryz.prog 21 #[.int .i64 f, .int .i64 m, .int .u64 a, .int .u64 b, .int .u64 c] w fun e w' => e = .returned (.tuple #[.int .u64 ((fmaS (fm f) m a b ((fm f).flip c)).1 : Int), .int .i64 ((fmaS (fm f) m a b ((fm f).flip c)).2 : Int), .int .i64 0]) ∧ Below w.heap.size w w' := by
  have hb0 := below1 w (.cells #[.int .u64 a, .int .u64 b, .int .u64 c] 25)
  have bs := Bx.new w #[.int .u64 a, .int .u64 b, .int .u64 c] 25
  have HB := Lib.hid hb0
  have HG := Lib.hid (hG.below hb0)
  have HR := Lib.hid (hR.below hb0)
  have hrf := frefuses_ok f m w.heap.size [a, b, c] _ hf hm (by intro x hx; simp at hx; rcases hx with rfl | rfl | rfl <;> assumption) (by simp) (by simp) (by
    intro j hj
    have hj' : j = 0 ∨ j = 1 ∨ j = 2 := by simp at hj; omega
    rcases hj' with rfl | rfl | rfl
    · exact bs.cell 0 rfl
    · exact bs.cell 1 rfl
    · exact bs.cell 2 rfl
    ) HR.out
  have Hrf := Lib.hid hrf
  have hng := fun wx h => FNeg_ok f c wx hf hc h
  have hv := flip_lt (fm_ok f) c
  obtain ⟨v, hvd⟩ : ∃ v, v = ((fm f).flip c) := ⟨_, rfl⟩
  rw [← hvd] at hng hv ⊢
  have hfm := fun wx h1 h2 => Fma_ok f m a b v wx hf hm ha hb hv h1 h2
  obtain ⟨r, hr⟩ : ∃ r, r = fmaS (fm f) m a b v := ⟨_, rfl⟩
  rw [← hr] at hfm ⊢
  have Hng := Lib.hid hng
  have Hfm := Lib.hid hfm
  clear hng hfm hr hvd hv hb0 bs hrf hf hm ha hb hc hG hR
  go_enter Tryz.func21, Tryz.ntmps21
  go_wp2_with fail
  refine Hrf.out.mono ?_
  rintro _ w1 ⟨rfl, hb1⟩
  replace HB := Lib.hid (keep_belowB HB.out hb1 (Nat.le_refl _))
  replace HG := Lib.hid (HG.out.below hb1)
  replace HR := Lib.hid (HR.out.below hb1)
  clear hb1 Hrf
  go_wp2_with fail
  refine (Hng.out _ HR.out).mono ?_
  rintro _ w2 ⟨rfl, hb2⟩
  replace HB := Lib.hid (keep_belowB HB.out hb2 (Nat.le_refl _))
  replace HG := Lib.hid (HG.out.below hb2)
  replace HR := Lib.hid (HR.out.below hb2)
  clear hb2 Hng
  go_wp2_with fail
  refine (Hfm.out _ HG.out HR.out).mono ?_
  rintro _ w3 ⟨rfl, hb3⟩
  replace HB := Lib.hid (keep_belowB HB.out hb3 (Nat.le_refl _))
  clear hb3 Hfm
  go_wp2_with fail
  refine bodyPost_ret (v := .tuple #[.int .u64 r.1, .int .i64 r.2, .int .i64 0]) (by simp [results, Tryz.results21, go_sem]) rfl ⟨rfl, HB.out⟩

set_option maxRecDepth 100000 in
set_option maxHeartbeats 4000000 in
theorem Fnma_ok (f m a b c : Nat) (w : World) (hf : f < 4) (hm : m ≤ 5) (ha : a < 2 ^ (fm f).w) (hb : b < 2 ^ (fm f).w) (hc : c < 2 ^ (fm f).w) (hG : Gl w) (hR : GlR w) :
    Calls Tryz.prog 23 #[.int .i64 f, .int .i64 m, .int .u64 a, .int .u64 b, .int .u64 c] w fun e w' => e = .returned (.tuple #[.int .u64 ((fmaS (fm f) m ((fm f).flip a) b c).1 : Int), .int .i64 ((fmaS (fm f) m ((fm f).flip a) b c).2 : Int), .int .i64 0]) ∧ Below w.heap.size w w' := by
  have hb0 := below1 w (.cells #[.int .u64 a, .int .u64 b, .int .u64 c] 25)
  have bs := Bx.new w #[.int .u64 a, .int .u64 b, .int .u64 c] 25
  have HB := Lib.hid hb0
  have HG := Lib.hid (hG.below hb0)
  have HR := Lib.hid (hR.below hb0)
  have hrf := frefuses_ok f m w.heap.size [a, b, c] _ hf hm (by intro x hx; simp at hx; rcases hx with rfl | rfl | rfl <;> assumption) (by simp) (by simp) (by
    intro j hj
    have hj' : j = 0 ∨ j = 1 ∨ j = 2 := by simp at hj; omega
    rcases hj' with rfl | rfl | rfl
    · exact bs.cell 0 rfl
    · exact bs.cell 1 rfl
    · exact bs.cell 2 rfl
    ) HR.out
  have Hrf := Lib.hid hrf
  have hng := fun wx h => FNeg_ok f a wx hf ha h
  have hv := flip_lt (fm_ok f) a
  obtain ⟨v, hvd⟩ : ∃ v, v = ((fm f).flip a) := ⟨_, rfl⟩
  rw [← hvd] at hng hv ⊢
  have hfm := fun wx h1 h2 => Fma_ok f m v b c wx hf hm hv hb hc h1 h2
  obtain ⟨r, hr⟩ : ∃ r, r = fmaS (fm f) m v b c := ⟨_, rfl⟩
  rw [← hr] at hfm ⊢
  have Hng := Lib.hid hng
  have Hfm := Lib.hid hfm
  clear hng hfm hr hvd hv hb0 bs hrf hf hm ha hb hc hG hR
  go_enter Tryz.func23, Tryz.ntmps23
  go_wp2_with fail
  refine Hrf.out.mono ?_
  rintro _ w1 ⟨rfl, hb1⟩
  replace HB := Lib.hid (keep_belowB HB.out hb1 (Nat.le_refl _))
  replace HG := Lib.hid (HG.out.below hb1)
  replace HR := Lib.hid (HR.out.below hb1)
  clear hb1 Hrf
  go_wp2_with fail
  refine (Hng.out _ HR.out).mono ?_
  rintro _ w2 ⟨rfl, hb2⟩
  replace HB := Lib.hid (keep_belowB HB.out hb2 (Nat.le_refl _))
  replace HG := Lib.hid (HG.out.below hb2)
  replace HR := Lib.hid (HR.out.below hb2)
  clear hb2 Hng
  go_wp2_with fail
  refine (Hfm.out _ HG.out HR.out).mono ?_
  rintro _ w3 ⟨rfl, hb3⟩
  replace HB := Lib.hid (keep_belowB HB.out hb3 (Nat.le_refl _))
  clear hb3 Hfm
  go_wp2_with fail
  refine bodyPost_ret (v := .tuple #[.int .u64 r.1, .int .i64 r.2, .int .i64 0]) (by simp [results, Tryz.results23, go_sem]) rfl ⟨rfl, HB.out⟩

end Go.Proofs.YtdbfkfbncmbfcaaGreatDoor
