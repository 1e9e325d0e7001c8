/- The walk of MulRises. -/
import Derived.Test.YtcgceigmglikpaaDoorTurns
import Derived.Test.YtcgceigmglikpaaDoorPackF
namespace Go.Proofs.YtcgceigmglikpaaDoor
set_option linter.unusedVariables false
open Go.RowKit

/-- what is needed of the state at each step -/
structure St (B : Nat) (w0 : World) (g : Nat) (arr : Array Value) (w : World) : Prop where
  bl : Below B w0 w
  gl : Gl w
  glr : GlR w
  bx : Bx w g arr

theorem St.below {B : Nat} {w0 w w' : World} {g : Nat} {arr : Array Value} (h : St B w0 g arr w) (hb : Below w.heap.size w w') (hB : B ≤ w0.heap.size) : St B w0 g arr w' :=
  ⟨h.bl.trans (hb.mono (Nat.le_trans hB h.bl.size)), h.gl.below hb, h.glr.below hb, h.bx.below hb⟩

theorem St.alloc {B : Nat} {w0 w : World} {g : Nat} {arr : Array Value} (h : St B w0 g arr w) (o : Obj) (hB : B ≤ w0.heap.size) : St B w0 g arr (w.alloc o) :=
  h.below (below1 w o) hB

/-- bits without a sign, of a number -/
structure Low4 (F : Fm) (p : Nat) : Prop where
  lt : p < 2 ^ F.w
  neg : F.neg p = false
  fin : F.abs p < F.inf
  self : F.abs p = p

theorem Low4.of {F : Fm} (ok : F.Ok) {p a : Nat} (h : p = F.abs a) (hf : F.abs a < F.inf) : Low4 F p := by
  have h1 := inf_lt ok
  have h2 := w_two ok
  subst h
  have hm := abs_mk (F := F) (x := F.abs a) (s := false) (by omega)
  have hn := neg_mk (F := F) (x := F.abs a) (s := false) (by omega)
  have e : F.abs a + F.sg false = F.abs a := by unfold Fm.sg; simp
  rw [e] at hm hn
  exact ⟨by omega, hn, by rw [hm]; exact hf, hm⟩

theorem rises_low {F : Fm} (m : Nat) {lo hi c : Nat} (h1 : Low4 F lo) (h2 : Low4 F hi) (hc : F.abs c < F.inf) (h : lo ≤ hi) (ok : F.Ok) : F.abs (mulS F m lo c).1 ≤ F.abs (mulS F m hi c).1 :=
  mul_rises ok m h1.neg h2.neg h1.fin h2.fin hc (by rw [h1.self, h2.self]; exact h)

theorem err_low {n : Nat} {m : Int} {lo hi c : Nat} (hn : n < 4) (h1 : Low4 (fm n) lo) (h2 : Low4 (fm n) hi) (hc : c < 2 ^ (fm n).w) : errS (n : Int) m hi c = errS (n : Int) m lo c := by
  unfold errS
  rw [chkS_of hn h1.lt, chkS_of hn h2.lt]

set_option maxRecDepth 100000 in
set_option maxHeartbeats 16000000 in
theorem rises_any (f m : Int) (a b c : Nat) (w : World) (ha : a < 18446744073709551616) (hb : b < 18446744073709551616) (hc : c < 18446744073709551616) (hG : Gl w) (hR : GlR w) :
    Calls Tryd.prog 7 #[.agg (twoA f m a b), .int .u64 c] w fun e w' => e = .returned (.bool true) ∧ Below w.heap.size w w' := by
  have hb0 := below1 w (.cells (twoA f m a b) 40)
  have hx := Bx.new w (twoA f m a b) 40
  obtain ⟨W, hW⟩ : ∃ W, W = w.alloc (.cells (twoA f m a b) 40) := ⟨_, rfl⟩
  rw [← hW] at hb0 hx
  have HS := Lib.hid (show St w.heap.size w w.heap.size (twoA f m a b) W from ⟨hb0, hG.below hb0, hR.below hb0, hx⟩)
  obtain ⟨k0, k1, k2, k3⟩ := hx.two
  have Hab := Lib.hid (fun wx h1 => FAbs_any f a wx ha h1)
  have Hbb := Lib.hid (fun wx h1 => FAbs_any f b wx hb h1)
  have Hva := Lib.hid (fun wx h1 h2 => Value_any f a wx ha h1 h2)
  have Hvb := Lib.hid (fun wx h1 h2 => Value_any f b wx hb h1 h2)
  have Hvc := Lib.hid (fun wx h1 h2 => Value_any f c wx hc h1 h2)
  clear hb0 hx hG hR ha hb hc
  obtain ⟨p, hp⟩ : ∃ p, p = absA f a := ⟨_, rfl⟩
  obtain ⟨q, hq⟩ : ∃ p, p = absA f b := ⟨_, rfl⟩
  obtain ⟨c1, hc1⟩ : ∃ p, p = chkS f a := ⟨_, rfl⟩
  obtain ⟨c2, hc2⟩ : ∃ p, p = chkS f b := ⟨_, rfl⟩
  obtain ⟨c3, hc3⟩ : ∃ p, p = valE f a := ⟨_, rfl⟩
  obtain ⟨c4, hc4⟩ : ∃ p, p = valE f b := ⟨_, rfl⟩
  obtain ⟨c5, hc5⟩ : ∃ p, p = valE f c := ⟨_, rfl⟩
  rw [← hp, ← hc1] at Hab
  rw [← hq, ← hc2] at Hbb
  simp only [← hc3] at Hva
  simp only [← hc4] at Hvb
  simp only [← hc5] at Hvc
  have Hp := Lib.hid hp
  have Hq := Lib.hid hq
  have H1 := Lib.hid hc1
  have H2 := Lib.hid hc2
  have H3 := Lib.hid hc3
  have H4 := Lib.hid hc4
  have H5 := Lib.hid hc5
  clear hp hq hc1 hc2 hc3 hc4 hc5
  unfold twoA at hW
  unfold twoA
  go_enter Tryd.func7, Tryd.ntmps7
  go_upto_region 1 with (fail)
  rw [← hW]
  clear hW
  go_quiet (fail)
  have HS' := Lib.hid (show St w.heap.size w w.heap.size (twoA f m a b) (W.drewN nq) from ⟨below_drewN HS.out.bl nq, HS.out.gl, HS.out.glr, HS.out.bx⟩)
  clear HS k0 k1 k2 k3
  generalize W.drewN nq = W2 at *
  go_wp2_with fail
  refine (fixed_any W2 HS'.out.gl HS'.out.glr).mono ?_
  rintro _ w1 ⟨rfl, hb1⟩
  have HS := Lib.hid (HS'.out.below hb1 (Nat.le_refl _))
  clear hb1 HS'
  obtain ⟨k0, k1, k2, k3⟩ := HS.out.bx.two
  go_wp2_with fail
  refine (Hab.out w1 HS.out.glr).mono ?_
  rintro _ w2 ⟨rfl, hb2⟩
  replace HS := Lib.hid (HS.out.below hb2 (Nat.le_refl _))
  clear hb2 k0 k1 k2 k3 Hab
  obtain ⟨k0, k1, k2, k3⟩ := HS.out.bx.two
  go_wp2_with fail
  refine (Hbb.out w2 HS.out.glr).mono ?_
  rintro _ w3 ⟨rfl, hb3⟩
  replace HS := Lib.hid (HS.out.below hb3 (Nat.le_refl _))
  clear hb3 k0 k1 k2 k3 Hbb
  obtain ⟨k0, k1, k2, k3⟩ := HS.out.bx.two
  go_wp2_with fail
  refine (Hva.out w3 HS.out.glr HS.out.gl).mono ?_
  rintro _ w4 ⟨x1, rfl, ⟨A1, n1, rfl, -⟩, hb4⟩
  replace HS := Lib.hid ((HS.out.below hb4 (Nat.le_refl _)).alloc (.cells #[.bool (valA f a).s, .slice A1 (nd 64 (valA f a).n) n1, .int .i64 (valA f a).e] 53) (Nat.le_refl _))
  generalize nd 64 (valA f a).n = l1 at *
  generalize (valA f a).s = s1 at *
  generalize (valA f a).e = d1 at *
  clear hb4 k0 k1 k2 k3 Hva
  obtain ⟨k0, k1, k2, k3⟩ := HS.out.bx.two
  go_wp2_with fail
  refine (Hvb.out _ HS.out.glr HS.out.gl).mono ?_
  rintro _ w5 ⟨x2, rfl, ⟨A2, n2, rfl, -⟩, hb5⟩
  replace HS := Lib.hid ((HS.out.below hb5 (Nat.le_refl _)).alloc (.cells #[.bool (valA f b).s, .slice A2 (nd 64 (valA f b).n) n2, .int .i64 (valA f b).e] 53) (Nat.le_refl _))
  generalize nd 64 (valA f b).n = l2 at *
  generalize (valA f b).s = s2 at *
  generalize (valA f b).e = d2 at *
  clear hb5 k0 k1 k2 k3 Hvb
  obtain ⟨k0, k1, k2, k3⟩ := HS.out.bx.two
  go_wp2_with fail
  refine (Hvc.out _ HS.out.glr HS.out.gl).mono ?_
  rintro _ w6 ⟨x3, rfl, ⟨A3, n3, rfl, -⟩, hb6⟩
  replace HS := Lib.hid ((HS.out.below hb6 (Nat.le_refl _)).alloc (.cells #[.bool (valA f c).s, .slice A3 (nd 64 (valA f c).n) n3, .int .i64 (valA f c).e] 53) (Nat.le_refl _))
  generalize nd 64 (valA f c).n = l3 at *
  generalize (valA f c).s = s3 at *
  generalize (valA f c).e = d3 at *
  clear hb6 k0 k1 k2 k3 Hvc
  obtain ⟨W6, hW6⟩ : ∃ W6, W6 = w6.alloc (.cells #[.bool s3, .slice A3 l3 n3, .int .i64 d3] 53) := ⟨_, rfl⟩
  rw [← hW6] at HS
  go_upto_region 9 with (fail)
  rw [← hW6]
  clear hW6
  by_cases h1 : c1 = 0
  rotate_left
  · have t1 : (c1 != 0) = true := by simpa using h1
    clear h1 H1 H2 H3 H4 H5 Hp Hq
    go_wp2_with fail
    go_ret
    exact ⟨rfl, HS.out.bl⟩
  by_cases h2 : c2 = 0
  rotate_left
  · have t1 : (c2 != 0) = true := by simpa using h2
    clear h2 H1 H2 H3 H4 H5 Hp Hq
    subst h1
    go_wp2_with fail
    go_ret
    exact ⟨rfl, HS.out.bl⟩
  by_cases h3 : c3 = 0
  rotate_left
  · have t1 : (c3 != 0) = true := by simpa using h3
    clear h3 H1 H2 H3 H4 H5 Hp Hq
    subst h1 h2
    go_wp2_with fail
    go_ret
    exact ⟨rfl, HS.out.bl⟩
  by_cases h4 : c4 = 0
  rotate_left
  · have t1 : (c4 != 0) = true := by simpa using h4
    clear h4 H1 H2 H3 H4 H5 Hp Hq
    subst h1 h2 h3
    go_wp2_with fail
    go_ret
    exact ⟨rfl, HS.out.bl⟩
  by_cases h5 : c5 = 0
  rotate_left
  · have t1 : (c5 != 0) = true := by simpa using h5
    clear h5 H1 H2 H3 H4 H5 Hp Hq
    subst h1 h2 h3 h4
    go_wp2_with fail
    go_ret
    exact ⟨rfl, HS.out.bl⟩
  have hA := valE_ok (H3.out.symm.trans h3)
  have hB := valE_ok (H4.out.symm.trans h4)
  have hC := valE_ok (H5.out.symm.trans h5)
  have e1 := H1.out.symm.trans h1
  have e2 := H2.out.symm.trans h2
  have ep := Hp.out
  have eq := Hq.out
  subst h1 h2 h3 h4 h5
  clear H1 H2 H3 H4 H5 Hp Hq
  obtain ⟨n, rfl, hn, hal, haf⟩ := hA
  obtain ⟨n', hn', hn2, hbl, hbf⟩ := hB
  obtain rfl : n = n' := by omega
  obtain ⟨n'', hn'', hn3, hcl, hcf⟩ := hC
  obtain rfl : n = n'' := by omega
  clear hn' hn2 hn'' hn3
  unfold absA at ep eq
  rw [if_pos e1, Int.toNat_natCast] at ep
  rw [if_pos e2, Int.toNat_natCast] at eq
  clear e1 e2
  have fp : Low4 (fm n) p := Low4.of (fm_ok n) ep haf
  have fq : Low4 (fm n) q := Low4.of (fm_ok n) eq hbf
  clear ep eq hal haf hbl hbf
  have Fp := Lib.hid fp
  have Fq := Lib.hid fq
  have Hcl := Lib.hid (And.intro hcl hcf)
  clear fp fq hcl hcf
  by_cases hpq : q < p
  · have t1 : (decide ((q : Int) < (p : Int))) = true := by simp; omega
    have Hle := Lib.hid (Nat.le_of_lt hpq)
    go_upto_region 13 with (fail)
    clear hpq
    generalize hlo : q = lo at *
    generalize hhi : p = hi at *
    clear t1 hlo hhi
    have Fz := Fp
    clear Fp
    have Fp := Fq
    clear Fq
    have Fq := Fz
    clear Fz
    have hlo := fun wx h1 h2 => Mul_any' (n : Int) m lo c wx (u64_of _ (fm_ok n) Fp.out.lt) (u64_of _ (fm_ok n) Hcl.out.1) h1 h2
    have hhi := fun wx h1 h2 => Mul_any' (n : Int) m hi c wx (u64_of _ (fm_ok n) Fq.out.lt) (u64_of _ (fm_ok n) Hcl.out.1) h1 h2
    obtain ⟨r1, er1⟩ : ∃ r, r = mulA (n : Int) m lo c := ⟨_, rfl⟩
    obtain ⟨r2, er2⟩ : ∃ r, r = mulA (n : Int) m hi c := ⟨_, rfl⟩
    rw [← er1] at hlo
    rw [← er2] at hhi
    have Hlo := Lib.hid hlo
    have Hhi := Lib.hid hhi
    have E1 := Lib.hid er1
    have E2 := Lib.hid er2
    clear hlo hhi er1 er2
    go_wp2_with fail
    refine (Hlo.out W6 HS.out.gl HS.out.glr).mono ?_
    rintro _ w7 ⟨rfl, hb7⟩
    replace HS := Lib.hid (HS.out.below hb7 (Nat.le_refl _))
    clear hb7 Hlo
    go_wp2_with fail
    refine (Hhi.out w7 HS.out.gl HS.out.glr).mono ?_
    rintro _ w8 ⟨rfl, hb8⟩
    replace HS := Lib.hid (HS.out.below hb8 (Nat.le_refl _))
    clear hb8 Hhi
    have he2 := err_low hn Fp.out Fq.out Hcl.out.1 (m := m)
    by_cases he : errS (n : Int) m lo c = 0
    rotate_left
    · have q1 : r1.2.2 = errS (n : Int) m lo c := by rw [E1.out]; unfold mulA; rw [if_neg he]
      have q2 : r2.2.2 = errS (n : Int) m lo c := by rw [E2.out]; unfold mulA; rw [if_neg (by rw [he2]; exact he), he2]
      rw [q1, q2]
      clear q1 q2 he2 E1 E2
      generalize errS (n : Int) m lo c = z at *
      have t1 : (z != 0) = true := by simpa using he
      clear he
      go_wp2_with fail
      go_ret
      exact ⟨by simp, HS.out.bl⟩
    have q1 : r1 = ((mulS (fm n) m.toNat lo c).1, (mulS (fm n) m.toNat lo c).2, 0) := by rw [E1.out]; unfold mulA; rw [if_pos he, Int.toNat_natCast]
    have q2 : r2 = ((mulS (fm n) m.toNat hi c).1, (mulS (fm n) m.toNat hi c).2, 0) := by rw [E2.out]; unfold mulA; rw [if_pos (by rw [he2]; exact he), Int.toNat_natCast]
    have hx1 := mulS_lt (fm_ok n) m.toNat lo c
    have hx2 := mulS_lt (fm_ok n) m.toNat hi c
    have hle := rises_low m.toNat Fp.out Fq.out Hcl.out.2 Hle.out (fm_ok n)
    subst q1 q2
    generalize (mulS (fm n) m.toNat lo c).1 = x1 at *
    generalize (mulS (fm n) m.toNat hi c).1 = x2 at *
    generalize (mulS (fm n) m.toNat lo c).2 = g1 at *
    generalize (mulS (fm n) m.toNat hi c).2 = g2 at *
    have hf1 := fun wx hx => FAbs_ok n x1 wx hn hx1 hx
    have hf2 := fun wx hx => FAbs_ok n x2 wx hn hx2 hx
    generalize (fm n).abs x1 = y1 at *
    generalize (fm n).abs x2 = y2 at *
    have t2 : (decide ((y1 : Int) ≤ (y2 : Int))) = true := by simp; omega
    have t3 : y1 ≤ y2 := hle
    have F1 := Lib.hid hf1
    have F2 := Lib.hid hf2
    clear hle hf1 hf2 hx1 hx2 he he2 E1 E2 Hle Fp Fq Hcl hn
    go_wp2_with fail
    refine (F1.out w8 HS.out.glr).mono ?_
    rintro _ w9 ⟨rfl, hb9⟩
    replace HS := Lib.hid (HS.out.below hb9 (Nat.le_refl _))
    clear hb9 F1
    go_wp2_with fail
    refine (F2.out w9 HS.out.glr).mono ?_
    rintro _ w10 ⟨rfl, hb10⟩
    replace HS := Lib.hid (HS.out.below hb10 (Nat.le_refl _))
    clear hb10 F2
    go_wp2_with fail
    go_ret
    exact ⟨by simp, HS.out.bl⟩
  · have t1 : (decide ((q : Int) < (p : Int))) = false := by simp; omega
    have Hle := Lib.hid (Nat.le_of_not_lt hpq)
    go_upto_region 13 with (fail)
    clear hpq
    generalize hlo : p = lo at *
    generalize hhi : q = hi at *
    clear t1 hlo hhi
    have hlo := fun wx h1 h2 => Mul_any' (n : Int) m lo c wx (u64_of _ (fm_ok n) Fp.out.lt) (u64_of _ (fm_ok n) Hcl.out.1) h1 h2
    have hhi := fun wx h1 h2 => Mul_any' (n : Int) m hi c wx (u64_of _ (fm_ok n) Fq.out.lt) (u64_of _ (fm_ok n) Hcl.out.1) h1 h2
    obtain ⟨r1, er1⟩ : ∃ r, r = mulA (n : Int) m lo c := ⟨_, rfl⟩
    obtain ⟨r2, er2⟩ : ∃ r, r = mulA (n : Int) m hi c := ⟨_, rfl⟩
    rw [← er1] at hlo
    rw [← er2] at hhi
    have Hlo := Lib.hid hlo
    have Hhi := Lib.hid hhi
    have E1 := Lib.hid er1
    have E2 := Lib.hid er2
    clear hlo hhi er1 er2
    go_wp2_with fail
    refine (Hlo.out W6 HS.out.gl HS.out.glr).mono ?_
    rintro _ w7 ⟨rfl, hb7⟩
    replace HS := Lib.hid (HS.out.below hb7 (Nat.le_refl _))
    clear hb7 Hlo
    go_wp2_with fail
    refine (Hhi.out w7 HS.out.gl HS.out.glr).mono ?_
    rintro _ w8 ⟨rfl, hb8⟩
    replace HS := Lib.hid (HS.out.below hb8 (Nat.le_refl _))
    clear hb8 Hhi
    have he2 := err_low hn Fp.out Fq.out Hcl.out.1 (m := m)
    by_cases he : errS (n : Int) m lo c = 0
    rotate_left
    · have q1 : r1.2.2 = errS (n : Int) m lo c := by rw [E1.out]; unfold mulA; rw [if_neg he]
      have q2 : r2.2.2 = errS (n : Int) m lo c := by rw [E2.out]; unfold mulA; rw [if_neg (by rw [he2]; exact he), he2]
      rw [q1, q2]
      clear q1 q2 he2 E1 E2
      generalize errS (n : Int) m lo c = z at *
      have t1 : (z != 0) = true := by simpa using he
      clear he
      go_wp2_with fail
      go_ret
      exact ⟨by simp, HS.out.bl⟩
    have q1 : r1 = ((mulS (fm n) m.toNat lo c).1, (mulS (fm n) m.toNat lo c).2, 0) := by rw [E1.out]; unfold mulA; rw [if_pos he, Int.toNat_natCast]
    have q2 : r2 = ((mulS (fm n) m.toNat hi c).1, (mulS (fm n) m.toNat hi c).2, 0) := by rw [E2.out]; unfold mulA; rw [if_pos (by rw [he2]; exact he), Int.toNat_natCast]
    have hx1 := mulS_lt (fm_ok n) m.toNat lo c
    have hx2 := mulS_lt (fm_ok n) m.toNat hi c
    have hle := rises_low m.toNat Fp.out Fq.out Hcl.out.2 Hle.out (fm_ok n)
    subst q1 q2
    generalize (mulS (fm n) m.toNat lo c).1 = x1 at *
    generalize (mulS (fm n) m.toNat hi c).1 = x2 at *
    generalize (mulS (fm n) m.toNat lo c).2 = g1 at *
    generalize (mulS (fm n) m.toNat hi c).2 = g2 at *
    have hf1 := fun wx hx => FAbs_ok n x1 wx hn hx1 hx
    have hf2 := fun wx hx => FAbs_ok n x2 wx hn hx2 hx
    generalize (fm n).abs x1 = y1 at *
    generalize (fm n).abs x2 = y2 at *
    have t2 : (decide ((y1 : Int) ≤ (y2 : Int))) = true := by simp; omega
    have t3 : y1 ≤ y2 := hle
    have F1 := Lib.hid hf1
    have F2 := Lib.hid hf2
    clear hle hf1 hf2 hx1 hx2 he he2 E1 E2 Hle Fp Fq Hcl hn
    go_wp2_with fail
    refine (F1.out w8 HS.out.glr).mono ?_
    rintro _ w9 ⟨rfl, hb9⟩
    replace HS := Lib.hid (HS.out.below hb9 (Nat.le_refl _))
    clear hb9 F1
    go_wp2_with fail
    refine (F2.out w9 HS.out.glr).mono ?_
    rintro _ w10 ⟨rfl, hb10⟩
    replace HS := Lib.hid (HS.out.below hb10 (Nat.le_refl _))
    clear hb10 F2
    go_wp2_with fail
    go_ret
    exact ⟨by simp, HS.out.bl⟩

end Go.Proofs.YtcgceigmglikpaaDoor
