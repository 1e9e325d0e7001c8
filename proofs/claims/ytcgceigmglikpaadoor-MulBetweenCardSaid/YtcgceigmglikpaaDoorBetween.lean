/- The walk of MulBetween. Printed by gen/between.py. -/
import Derived.Test.YtcgceigmglikpaaDoorRises
import Derived.Test.YtcgceigmglikpaaDoorBetwD
namespace Go.Proofs.YtcgceigmglikpaaDoor
set_option linter.unusedVariables false
open Go.RowKit

/-- an exact number in a box -/
structure VB (g : Nat) (d : D) (A : Option Addr) (c : Nat) (w : World) : Prop where
  bx : Box3 w g (.bool d.s) (.slice A (nd 64 d.n) c) (.int .i64 d.e)
  rd : Rd 64 w (.slice A (nd 64 d.n) c) d.n (nd 64 d.n)

theorem VB.below {g : Nat} {d : D} {A : Option Addr} {c : Nat} {w w' : World} (h : VB g d A c w) (hb : Below w.heap.size w w') : VB g d A c w' := ⟨h.bx.keep hb, h.rd.below hb⟩

theorem VB.new {d : D} {A : Option Addr} {c : Nat} {w : World} (h : Rd 64 w (.slice A (nd 64 d.n) c) d.n (nd 64 d.n)) (t : TypeId) : VB w.heap.size d A c (w.alloc (.cells #[.bool d.s, .slice A (nd 64 d.n) c, .int .i64 d.e] t)) :=
  ⟨Box3.new w _ _ _ t, h.below (below1 w _)⟩

theorem DMul_vb {u v x : D} {A1 A2 : Option Addr} {c1 c2 g1 g2 : Nat} {w : World} (h1 : VB g1 u A1 c1 w) (h2 : VB g2 v A2 c2 w) (hG : Gl w) (hm : mulD (nd 64 u.n) u (nd 64 v.n) v = (x, 0)) :
    Calls Tryd.prog 32 #[.agg #[.bool u.s, .slice A1 (nd 64 u.n) c1, .int .i64 u.e], .agg #[.bool v.s, .slice A2 (nd 64 v.n) c2, .int .i64 v.e]] w fun e w' =>
      ∃ A c, e = .returned (.tuple #[.agg #[.bool x.s, .slice A (nd 64 x.n) c, .int .i64 x.e], .int .i64 0]) ∧ Rd 64 w' (.slice A (nd 64 x.n) c) x.n (nd 64 x.n) ∧ Below w.heap.size w w' := by
  refine (DMul_any u.s v.s A1 A2 u.n (nd 64 u.n) c1 v.n (nd 64 v.n) c2 u.e v.e w h1.rd h2.rd hG).mono ?_
  rintro e w' ⟨y, rfl, hd, hb⟩
  rw [show mulD (nd 64 u.n) ⟨u.s, u.n, u.e⟩ (nd 64 v.n) ⟨v.s, v.n, v.e⟩ = (x, 0) from hm] at hd
  obtain ⟨A, c, rfl, _, _, h, _⟩ := hd
  exact ⟨A, c, by rw [show mulD (nd 64 u.n) ⟨u.s, u.n, u.e⟩ (nd 64 v.n) ⟨v.s, v.n, v.e⟩ = (x, 0) from hm], h, hb⟩

theorem DCmp_vb {u v : D} {A1 A2 : Option Addr} {c1 c2 g1 g2 : Nat} {o : Int} {w : World} (h1 : VB g1 u A1 c1 w) (h2 : VB g2 v A2 c2 w) (hG : Gl w) (hm : cmpD (nd 64 u.n) u (nd 64 v.n) v = (o, 0)) :
    Calls Tryd.prog 33 #[.agg #[.bool u.s, .slice A1 (nd 64 u.n) c1, .int .i64 u.e], .agg #[.bool v.s, .slice A2 (nd 64 v.n) c2, .int .i64 v.e]] w fun e w' =>
      e = .returned (.tuple #[.int .i64 o, .int .i64 0]) ∧ Below w.heap.size w w' := by
  refine (DCmp_any u.s v.s A1 A2 u.n (nd 64 u.n) c1 v.n (nd 64 v.n) c2 u.e v.e w h1.rd h2.rd hG).mono ?_
  rintro e w' ⟨rfl, hb⟩
  rw [show cmpD (nd 64 u.n) ⟨u.s, u.n, u.e⟩ (nd 64 v.n) ⟨v.s, v.n, v.e⟩ = (o, 0) from hm]
  exact ⟨rfl, hb⟩

theorem Value_vb (f : Int) (a : Nat) (d : D) (z : Int) (ha : a < 18446744073709551616) (hd : d = valA f a) (hz : z = valE f a) (w : World) (hG : GlR w) (hT : Gl w) :
    Calls Tryd.prog 27 #[.int .i64 f, .int .u64 a] w fun e w' => ∃ A c, e = .returned (.tuple #[.agg #[.bool d.s, .slice A (nd 64 d.n) c, .int .i64 d.e], .int .i64 z]) ∧ Rd 64 w' (.slice A (nd 64 d.n) c) d.n (nd 64 d.n) ∧ Below w.heap.size w w' := by
  subst hd hz
  refine (Value_any f a w ha hG hT).mono ?_
  rintro e w' ⟨x, rfl, ⟨A, c, rfl, _, _, h, _⟩, hb⟩
  exact ⟨A, c, rfl, h, hb⟩

theorem flag16 {g : Nat} (h : g = 0 ∨ g = 16 ∨ g = 20 ∨ g = 24) : (bits .and .i64 (g : Int) 16 == 0) = decide (g &&& 16 = 0) ∧ (bits .and .i64 (g : Int) 4 == 0) = decide (g &&& 4 = 0) := by
  rcases h with rfl | rfl | rfl | rfl <;> exact ⟨by decide +kernel, by decide +kernel⟩

theorem valE_fin {n A : Nat} (hn : n < 4) (hl : A < 2 ^ (fm n).w) (hf : (fm n).abs A < (fm n).inf) : valE (n : Int) A = 0 := by
  unfold valE
  rw [chkS_of hn hl, if_neg (by decide), Int.toNat_natCast, if_pos hf]

theorem valE_inf {n A : Nat} (hn : n < 4) (hl : A < 2 ^ (fm n).w) (hf : ¬ (fm n).abs A < (fm n).inf) : valE (n : Int) A = 40 := by
  unfold valE
  rw [chkS_of hn hl, if_neg (by decide), Int.toNat_natCast, if_neg hf]

theorem valA_fin {n A : Nat} (hn : n < 4) (hl : A < 2 ^ (fm n).w) (hf : (fm n).abs A < (fm n).inf) : valA (n : Int) A = valD (fm n) A := by
  unfold valA
  rw [valE_fin hn hl hf, if_pos rfl, Int.toNat_natCast]

theorem infinity_any (f : Nat) (s : Bool) (w : World) (hf : f < 4) (hG : GlR w) : Calls Tryd.prog 34 #[.int .i64 f, .bool s] w fun e w' => e = .returned (.int .u64 (((fm f).inf + (fm f).sg s : Nat) : Int)) ∧ Below w.heap.size w w' := by
  have H := Lib.hid (Inf_ok f s w hf hG)
  clear hf hG
  go_enter Tryd.func34, Tryd.ntmps34
  go_wp2_with fail
  refine H.out.mono ?_
  rintro _ w1 ⟨rfl, hb⟩
  clear H
  go_wp2
  go_ret
  exact ⟨rfl, hb⟩

set_option maxRecDepth 100000 in
set_option maxHeartbeats 32000000 in
theorem between_any (f m : Int) (a b : Nat) (w : World) (ha : a < 18446744073709551616) (hb : b < 18446744073709551616) (hG : Gl w) (hR : GlR w) :
    Calls Tryd.prog 9 #[.agg (twoA f m a b)] w fun e w' => e = .returned (.bool true) ∧ Below w.heap.size w w' := by
  have hb0 := below1 w (.cells (twoA f m a b) 40)
  have hx := Bx.new w (twoA f m a b) 40
  obtain ⟨W, hW⟩ : ∃ W, W = w.alloc (.cells (twoA f m a b) 40) := ⟨_, rfl⟩
  rw [← hW] at hb0 hx
  have HS := Lib.hid (show St w.heap.size w w.heap.size (twoA f m a b) W from ⟨hb0, hG.below hb0, hR.below hb0, hx⟩)
  obtain ⟨k0, k1, k2, k3⟩ := hx.two
  obtain ⟨u, hu⟩ : ∃ u, u = valA f a := ⟨_, rfl⟩
  obtain ⟨v, hv⟩ : ∃ u, u = valA f b := ⟨_, rfl⟩
  obtain ⟨c3, hc3⟩ : ∃ p, p = valE f a := ⟨_, rfl⟩
  obtain ⟨c4, hc4⟩ : ∃ p, p = valE f b := ⟨_, rfl⟩
  obtain ⟨⟨c, g, c5⟩, hq⟩ : ∃ p, p = mulA f m a b := ⟨_, rfl⟩
  have Hva := Lib.hid (fun wx h1 h2 => Value_vb f a u c3 ha hu hc3 wx h1 h2)
  have Hvb := Lib.hid (fun wx h1 h2 => Value_vb f b v c4 hb hv hc4 wx h1 h2)
  have hml := fun wx h1 h2 => Mul_any' f m a b wx ha hb h1 h2
  rw [← hq] at hml
  simp only at hml
  have Hml := Lib.hid hml
  have Hab := Lib.hid (And.intro ha hb)
  have Hu := Lib.hid hu
  have Hv := Lib.hid hv
  have H3 := Lib.hid hc3
  have H4 := Lib.hid hc4
  have Hq := Lib.hid hq
  clear hb0 hx hG hR ha hb hu hv hc3 hc4 hq hml
  unfold twoA at hW
  unfold twoA
  go_enter Tryd.func9, Tryd.ntmps9
  go_upto_region 1 with (fail)
  rw [← hW]
  clear hW
  go_quiet (fail)
  have HS' := Lib.hid (show St w.heap.size w w.heap.size (twoA f m a b) (W.drewN nq) from ⟨below_drewN HS.out.bl nq, HS.out.gl, HS.out.glr, HS.out.bx⟩)
  clear HS k0 k1 k2 k3
  generalize W.drewN nq = W2 at *
  go_wp2_with fail
  refine (fixed_any W2 HS'.out.gl HS'.out.glr).mono ?_
  rintro _ w1 ⟨rfl, hb1⟩
  have HS := Lib.hid (HS'.out.below hb1 (Nat.le_refl _))
  clear hb1 HS'
  obtain ⟨k0, k1, k2, k3⟩ := HS.out.bx.two
  go_wp2_with fail
  refine (Hva.out w1 HS.out.glr HS.out.gl).mono ?_
  rintro _ w2 ⟨A1, n1, rfl, hrd, hb2⟩
  replace HS := Lib.hid ((HS.out.below hb2 (Nat.le_refl _)).alloc (.cells #[.bool u.s, .slice A1 (nd 64 u.n) n1, .int .i64 u.e] 53) (Nat.le_refl _))
  have VU := Lib.hid (VB.new hrd 53)
  clear hb2 k0 k1 k2 k3 Hva hrd
  obtain ⟨k0, k1, k2, k3⟩ := HS.out.bx.two
  go_wp2_with fail
  refine (Hvb.out _ HS.out.glr HS.out.gl).mono ?_
  rintro _ w3 ⟨A2, n2, rfl, hrd, hb3⟩
  replace VU := Lib.hid ((VU.out.below hb3).below (below1 w3 (.cells #[.bool v.s, .slice A2 (nd 64 v.n) n2, .int .i64 v.e] 53)))
  replace HS := Lib.hid ((HS.out.below hb3 (Nat.le_refl _)).alloc (.cells #[.bool v.s, .slice A2 (nd 64 v.n) n2, .int .i64 v.e] 53) (Nat.le_refl _))
  have VV := Lib.hid (VB.new hrd 53)
  clear hb3 k0 k1 k2 k3 Hvb hrd
  obtain ⟨k0, k1, k2, k3⟩ := HS.out.bx.two
  go_wp2_with fail
  refine (Hml.out _ HS.out.gl HS.out.glr).mono ?_
  rintro _ w4 ⟨rfl, hb4⟩
  replace VU := Lib.hid (VU.out.below hb4)
  replace VV := Lib.hid (VV.out.below hb4)
  replace HS := Lib.hid (HS.out.below hb4 (Nat.le_refl _))
  clear hb4 k0 k1 k2 k3 Hml
  generalize w2.heap.size = g5 at *
  generalize w3.heap.size = g7 at *
  go_upto_region 7 with (fail)
  by_cases h3 : c3 = 0
  rotate_left
  · have t1 : (c3 != 0) = true := by simpa using h3
    clear h3 H3 H4 Hu Hv Hq Hab VU VV
    go_wp2_with fail
    go_ret
    exact ⟨rfl, HS.out.bl⟩
  by_cases h4 : c4 = 0
  rotate_left
  · have t1 : (c4 != 0) = true := by simpa using h4
    clear h4 H3 H4 Hu Hv Hq Hab VU VV
    subst h3
    go_wp2_with fail
    go_ret
    exact ⟨rfl, HS.out.bl⟩
  by_cases h5 : c5 = 0
  rotate_left
  · have t1 : (c5 != 0) = true := by simpa using h5
    clear h5 H3 H4 Hu Hv Hq Hab VU VV
    subst h3 h4
    go_wp2_with fail
    go_ret
    exact ⟨rfl, HS.out.bl⟩
  have hA := valE_ok (H3.out.symm.trans h3)
  have hB := valE_ok (H4.out.symm.trans h4)
  have hu := Hu.out
  have hv := Hv.out
  have eu : valE f a = 0 := H3.out.symm.trans h3
  have ev : valE f b = 0 := H4.out.symm.trans h4
  unfold valA at hu hv
  rw [if_pos eu] at hu
  rw [if_pos ev] at hv
  subst h3 h4
  clear H3 H4 Hu Hv eu ev
  obtain ⟨n, rfl, hn, hal, haf⟩ := hA
  obtain ⟨n', hn', hn2, hbl, hbf⟩ := hB
  obtain rfl : n = n' := by omega
  clear hn' hn2
  rw [Int.toNat_natCast] at hu hv
  have ok := fm_ok n
  have zu := (valD_facts ok haf).2.2.2
  have zv := (valD_facts ok hbf).2.2.2
  rw [← hu] at zu
  rw [← hv] at zv
  have HN := Lib.hid (show n < 4 ∧ a < 2 ^ (fm n).w ∧ b < 2 ^ (fm n).w ∧ (fm n).abs a < (fm n).inf ∧ (fm n).abs b < (fm n).inf from ⟨hn, hal, hbl, haf, hbf⟩)
  have HU := Lib.hid hu
  have HV := Lib.hid hv
  clear hn hal hbl haf hbf ok hu hv
  have hq := Hq.out
  subst h5
  have hE : errS (n : Int) m a b = 0 := by
    unfold mulA at hq
    by_cases he : errS (n : Int) m a b = 0
    · exact he
    · rw [if_neg he] at hq
      have := congrArg (fun p => p.2.2) hq
      simp only at this
      exact absurd this.symm he
  unfold mulA at hq
  rw [if_pos hE, Int.toNat_natCast] at hq
  obtain ⟨n', k, hn', -, rfl, hk, -, -⟩ := errS_ok hE
  obtain rfl : n = n' := by omega
  clear hn' hE Hq
  rw [Int.toNat_natCast] at hq
  injection hq with hqc hqg
  injection hqg with hqg _
  have HC := Lib.hid (And.intro hqc hqg)
  clear hqc hqg
  have hsg := fun wx h => Sign_any u.s A1 u.n (nd 64 u.n) n1 u.e wx h
  have hsg2 := fun wx h => Sign_any v.s A2 v.n (nd 64 v.n) n2 v.e wx h
  obtain ⟨su, hsu⟩ : ∃ z, z = sgD u.s u.n := ⟨_, rfl⟩
  obtain ⟨sv, hsv⟩ : ∃ z, z = sgD v.s v.n := ⟨_, rfl⟩
  rw [← hsu] at hsg
  rw [← hsv] at hsg2
  have Hsg := Lib.hid hsg
  have Hsg2 := Lib.hid hsg2
  have Hz := Lib.hid (And.intro zu zv)
  clear hsg hsg2 zu zv
  obtain ⟨b0, b1, b2, -, -⟩ := VU.out.bx.cells
  by_cases zu : u.n = 0
  · have e0 : su = 0 := by rw [hsu]; unfold sgD; rw [if_pos zu]
    subst e0
    clear hsu hsv zu Hz HC HU HV HN Hab
    go_wp2_with fail
    refine (Hsg.out _ VU.out.rd).mono ?_
    rintro _ w5 ⟨rfl, hb5⟩
    replace HS := Lib.hid (HS.out.below hb5 (Nat.le_refl _))
    clear hb5 Hsg Hsg2 VU VV
    go_wp2_with fail
    go_ret
    exact ⟨rfl, HS.out.bl⟩
  have t1 : (su == 0) = false := by
    rw [hsu]; unfold sgD; rw [if_neg zu]; cases u.s <;> rfl
  go_wp2_with fail
  refine (Hsg.out _ VU.out.rd).mono ?_
  rintro _ w5 ⟨rfl, hb5⟩
  replace VU := Lib.hid (VU.out.below hb5)
  replace VV := Lib.hid (VV.out.below hb5)
  replace HS := Lib.hid (HS.out.below hb5 (Nat.le_refl _))
  clear hb5 b0 b1 b2 Hsg
  obtain ⟨b0, b1, b2, -, -⟩ := VV.out.bx.cells
  by_cases zv : v.n = 0
  · have e0 : sv = 0 := by rw [hsv]; unfold sgD; rw [if_pos zv]
    subst e0
    clear hsu hsv zu zv Hz HC HU HV HN Hab
    go_wp2_with fail
    refine (Hsg2.out _ VV.out.rd).mono ?_
    rintro _ w6 ⟨rfl, hb6⟩
    replace HS := Lib.hid (HS.out.below hb6 (Nat.le_refl _))
    clear hb6 Hsg2 VU VV
    go_wp2_with fail
    go_ret
    exact ⟨rfl, HS.out.bl⟩
  have t2 : (sv == 0) = false := by
    rw [hsv]; unfold sgD; rw [if_neg zv]; cases v.s <;> rfl
  clear hsu hsv
  go_wp2_with fail
  refine (Hsg2.out _ VV.out.rd).mono ?_
  rintro _ w6 ⟨rfl, hb6⟩
  replace VU := Lib.hid (VU.out.below hb6)
  replace VV := Lib.hid (VV.out.below hb6)
  replace HS := Lib.hid (HS.out.below hb6 (Nat.le_refl _))
  clear hb6 b0 b1 b2 Hsg2
  go_upto_region 9 with (fail)
  obtain ⟨hn, hal, hbl, haf, hbf⟩ := HN.out
  have hza := Hz.out.1.2 zu
  have hzb := Hz.out.2.2 zv
  obtain ⟨x, hx, BD⟩ := mul_between (fm_ok n) k haf hbf hza hzb
  have hu := HU.out
  have hv := HV.out
  rw [← hu, ← hv] at hx
  have hmd := fun wx h1 h2 => Mul_ok n 4 a b wx hn (by decide) hal hbl h1 h2
  have hmu := fun wx h1 h2 => Mul_ok n 3 a b wx hn (by decide) hal hbl h1 h2
  rw [← HC.out.1, ← HC.out.2] at BD
  obtain ⟨A, hA⟩ : ∃ A, A = (mulS (fm n) 4 a b).1 := ⟨_, rfl⟩
  obtain ⟨B, hB⟩ : ∃ A, A = (mulS (fm n) 3 a b).1 := ⟨_, rfl⟩
  rw [← hA, ← hB] at BD
  rw [← hA] at hmd
  rw [← hB] at hmu
  generalize (mulS (fm n) 4 a b).2 = gA at *
  generalize (mulS (fm n) 3 a b).2 = gB at *
  have HX := Lib.hid hx
  have HD := Lib.hid hmd
  have HUp := Lib.hid hmu
  have HBD := Lib.hid BD
  have Hn := Lib.hid hn
  clear hn hal hbl haf hbf hza hzb hx BD hu hv hmd hmu hA hB zu zv t1 t2 HC Hz HU HV HN Hab
  obtain ⟨b0, b1, b2, -, -⟩ := VU.out.bx.cells
  obtain ⟨d0, d1, d2, -, -⟩ := VV.out.bx.cells
  go_wp2_with fail
  refine (DMul_vb VU.out VV.out HS.out.gl HX.out).mono ?_
  rintro _ w7 ⟨A3, n3, rfl, hrd, hb7⟩
  clear b0 b1 b2 d0 d1 d2 VU VV HX
  replace HS := Lib.hid ((HS.out.below hb7 (Nat.le_refl _)).alloc (.cells #[.bool x.s, .slice A3 (nd 64 x.n) n3, .int .i64 x.e] 53) (Nat.le_refl _))
  have VX := Lib.hid (VB.new hrd 53)
  clear hb7 hrd
  obtain ⟨k0, k1, k2, k3⟩ := HS.out.bx.two
  go_wp2_with fail
  refine (HD.out _ HS.out.gl HS.out.glr).mono ?_
  rintro _ w8 ⟨rfl, hb8⟩
  replace VX := Lib.hid (VX.out.below hb8)
  replace HS := Lib.hid (HS.out.below hb8 (Nat.le_refl _))
  generalize w7.heap.size = g12 at *
  clear hb8 k0 k1 k2 k3 HD
  obtain ⟨k0, k1, k2, k3⟩ := HS.out.bx.two
  go_wp2_with fail
  refine (HUp.out _ HS.out.gl HS.out.glr).mono ?_
  rintro _ w9 ⟨rfl, hb9⟩
  replace VX := Lib.hid (VX.out.below hb9)
  replace HS := Lib.hid (HS.out.below hb9 (Nat.le_refl _))
  clear hb9 k0 k1 k2 k3 HUp
  go_upto_region 12 with (fail)
  have BD := HBD.out
  have hn := Hn.out
  have hAl := u64_of _ (fm_ok n) BD.lt.1
  have hBl := u64_of _ (fm_ok n) BD.lt.2

  by_cases hAB : A = B
  · subst hAB
    have hc : c = A := by rcases BD.one with h | h <;> exact h
    subst hc
    have hA : (fm n).abs c < (fm n).inf := by rcases BD.fin with h | h <;> exact h
    have zA : (0 : Int) = valE (n : Int) c := (valE_fin hn BD.lt.1 hA).symm
    have dA : valD (fm n) c = valA (n : Int) c := (valA_fin hn BD.lt.1 hA).symm
    have VAf := Lib.hid (fun wx h1 h2 => Value_vb (n : Int) c (valD (fm n) c) 0 hAl dA zA wx h1 h2)
    obtain ⟨cA, gA16⟩ := BD.down hA
    rw [if_pos rfl] at cA
    have CA := Lib.hid cA
    have cB := BD.up hA
    rw [if_pos rfl] at cB
    have CB := Lib.hid cB
    have g16 : g &&& 16 = 0 := gA16.1 rfl
    have q16 := (flag16 BD.fl).1
    rw [decide_eq_true g16] at q16
    clear g16
    have g4 : g &&& 4 = 0 := BD.over hA hA
    have q4 := (flag16 BD.fl).2
    rw [decide_eq_true g4] at q4
    clear g4
    clear BD HBD Hn hn hAl hA zA dA cA gA16 cB
    go_wp2_with fail
    refine (VAf.out _ HS.out.glr HS.out.gl).mono ?_
    rintro _ w10 ⟨A4, n4, rfl, hrd, hb10⟩
    replace VX := Lib.hid ((VX.out.below hb10).below (below1 w10 (.cells #[.bool (valD (fm n) c).s, .slice A4 (nd 64 (valD (fm n) c).n) n4, .int .i64 (valD (fm n) c).e] 53)))
    replace HS := Lib.hid ((HS.out.below hb10 (Nat.le_refl _)).alloc (.cells #[.bool (valD (fm n) c).s, .slice A4 (nd 64 (valD (fm n) c).n) n4, .int .i64 (valD (fm n) c).e] 53) (Nat.le_refl _))
    have VA := Lib.hid (VB.new hrd 53)
    clear hb10 hrd
    obtain ⟨b0, b1, b2, -, -⟩ := VA.out.bx.cells
    obtain ⟨d0, d1, d2, -, -⟩ := VX.out.bx.cells
    go_wp2_with fail
    refine (DCmp_vb VA.out VX.out HS.out.gl CA.out).mono ?_
    rintro _ w11 ⟨rfl, hb11⟩
    replace VX := Lib.hid (VX.out.below hb11)
    replace HS := Lib.hid (HS.out.below hb11 (Nat.le_refl _))
    clear hb11 b0 b1 b2 d0 d1 d2 VA CA
    go_wp2_with fail
    refine (VAf.out _ HS.out.glr HS.out.gl).mono ?_
    rintro _ w12 ⟨A5, n5, rfl, hrd, hb12⟩
    replace VX := Lib.hid ((VX.out.below hb12).below (below1 w12 (.cells #[.bool (valD (fm n) c).s, .slice A5 (nd 64 (valD (fm n) c).n) n5, .int .i64 (valD (fm n) c).e] 53)))
    replace HS := Lib.hid ((HS.out.below hb12 (Nat.le_refl _)).alloc (.cells #[.bool (valD (fm n) c).s, .slice A5 (nd 64 (valD (fm n) c).n) n5, .int .i64 (valD (fm n) c).e] 53) (Nat.le_refl _))
    have VY := Lib.hid (VB.new hrd 53)
    clear hb12 hrd VAf
    obtain ⟨b0, b1, b2, -, -⟩ := VY.out.bx.cells
    obtain ⟨d0, d1, d2, -, -⟩ := VX.out.bx.cells
    go_wp2_with fail
    refine (DCmp_vb VX.out VY.out HS.out.gl CB.out).mono ?_
    rintro _ w13 ⟨rfl, hb13⟩
    replace HS := Lib.hid (HS.out.below hb13 (Nat.le_refl _))
    clear hb13 b0 b1 b2 d0 d1 d2 VY CB VX
    go_wp2_with fail
    go_ret
    exact ⟨by simp, HS.out.bl⟩
  by_cases hcA : c = A
  · subst hcA
    by_cases hA : (fm n).abs c < (fm n).inf
    · by_cases hB : (fm n).abs B < (fm n).inf
      · skip
        have hBA : ¬ B = c := fun h => hAB h.symm
        have zA : (0 : Int) = valE (n : Int) c := (valE_fin hn BD.lt.1 hA).symm
        have dA : valD (fm n) c = valA (n : Int) c := (valA_fin hn BD.lt.1 hA).symm
        have VAf := Lib.hid (fun wx h1 h2 => Value_vb (n : Int) c (valD (fm n) c) 0 hAl dA zA wx h1 h2)
        have zB : (0 : Int) = valE (n : Int) B := (valE_fin hn BD.lt.2 hB).symm
        have dB : valD (fm n) B = valA (n : Int) B := (valA_fin hn BD.lt.2 hB).symm
        have VBf := Lib.hid (fun wx h1 h2 => Value_vb (n : Int) B (valD (fm n) B) 0 hBl dB zB wx h1 h2)
        obtain ⟨cA, gA16⟩ := BD.down hA
        rw [if_neg hAB] at cA
        have CA := Lib.hid cA
        have cB := BD.up hB
        rw [if_neg hAB] at cB
        have CB := Lib.hid cB
        have g16 : ¬ g &&& 16 = 0 := fun h => hAB (gA16.2 h)
        have q16 := (flag16 BD.fl).1
        rw [decide_eq_false g16] at q16
        clear g16
        have g4 : g &&& 4 = 0 := BD.over hA hB
        have q4 := (flag16 BD.fl).2
        rw [decide_eq_true g4] at q4
        clear g4
        clear BD HBD Hn hn hAl hBl zB hA zA hB dA cA gA16 cB dB
        go_wp2_with fail
        refine (VAf.out _ HS.out.glr HS.out.gl).mono ?_
        rintro _ w10 ⟨A4, n4, rfl, hrd, hb10⟩
        replace VX := Lib.hid ((VX.out.below hb10).below (below1 w10 (.cells #[.bool (valD (fm n) c).s, .slice A4 (nd 64 (valD (fm n) c).n) n4, .int .i64 (valD (fm n) c).e] 53)))
        replace HS := Lib.hid ((HS.out.below hb10 (Nat.le_refl _)).alloc (.cells #[.bool (valD (fm n) c).s, .slice A4 (nd 64 (valD (fm n) c).n) n4, .int .i64 (valD (fm n) c).e] 53) (Nat.le_refl _))
        have VA := Lib.hid (VB.new hrd 53)
        clear hb10 hrd VAf
        obtain ⟨b0, b1, b2, -, -⟩ := VA.out.bx.cells
        obtain ⟨d0, d1, d2, -, -⟩ := VX.out.bx.cells
        go_wp2_with fail
        refine (DCmp_vb VA.out VX.out HS.out.gl CA.out).mono ?_
        rintro _ w11 ⟨rfl, hb11⟩
        replace VX := Lib.hid (VX.out.below hb11)
        replace HS := Lib.hid (HS.out.below hb11 (Nat.le_refl _))
        clear hb11 b0 b1 b2 d0 d1 d2 VA CA
        go_wp2_with fail
        refine (VBf.out _ HS.out.glr HS.out.gl).mono ?_
        rintro _ w12 ⟨A5, n5, rfl, hrd, hb12⟩
        replace VX := Lib.hid ((VX.out.below hb12).below (below1 w12 (.cells #[.bool (valD (fm n) B).s, .slice A5 (nd 64 (valD (fm n) B).n) n5, .int .i64 (valD (fm n) B).e] 53)))
        replace HS := Lib.hid ((HS.out.below hb12 (Nat.le_refl _)).alloc (.cells #[.bool (valD (fm n) B).s, .slice A5 (nd 64 (valD (fm n) B).n) n5, .int .i64 (valD (fm n) B).e] 53) (Nat.le_refl _))
        have VY := Lib.hid (VB.new hrd 53)
        clear hb12 hrd VBf
        obtain ⟨b0, b1, b2, -, -⟩ := VY.out.bx.cells
        obtain ⟨d0, d1, d2, -, -⟩ := VX.out.bx.cells
        go_wp2_with fail
        refine (DCmp_vb VX.out VY.out HS.out.gl CB.out).mono ?_
        rintro _ w13 ⟨rfl, hb13⟩
        replace HS := Lib.hid (HS.out.below hb13 (Nat.le_refl _))
        clear hb13 b0 b1 b2 d0 d1 d2 VY CB VX
        go_wp2_with fail
        go_ret
        exact ⟨by simp, HS.out.bl⟩
      · skip
        have hBA : ¬ B = c := fun h => hAB h.symm
        have zA : (0 : Int) = valE (n : Int) c := (valE_fin hn BD.lt.1 hA).symm
        have dA : valD (fm n) c = valA (n : Int) c := (valA_fin hn BD.lt.1 hA).symm
        have VAf := Lib.hid (fun wx h1 h2 => Value_vb (n : Int) c (valD (fm n) c) 0 hAl dA zA wx h1 h2)
        have zB : (40 : Int) = valE (n : Int) B := (valE_inf hn BD.lt.2 hB).symm
        have VBf := Lib.hid (fun wx h1 h2 => Value_vb (n : Int) B (valA (n : Int) B) 40 hBl rfl zB wx h1 h2)
        obtain ⟨cA, gA16⟩ := BD.down hA
        rw [if_neg hAB] at cA
        have CA := Lib.hid cA
        have g16 : ¬ g &&& 16 = 0 := fun h => hAB (gA16.2 h)
        have q16 := (flag16 BD.fl).1
        rw [decide_eq_false g16] at q16
        clear g16
        have eB : (fm n).inf + (fm n).sg false = B := (BD.pinf hB).symm
        have hIB := fun wx h => infinity_any n false wx hn h
        rw [eB] at hIB
        have HIB := Lib.hid hIB
        clear hIB eB
        clear BD HBD Hn hn hAl hBl zB hA zA hB dA cA gA16
        go_wp2_with fail
        refine (VAf.out _ HS.out.glr HS.out.gl).mono ?_
        rintro _ w10 ⟨A4, n4, rfl, hrd, hb10⟩
        replace VX := Lib.hid ((VX.out.below hb10).below (below1 w10 (.cells #[.bool (valD (fm n) c).s, .slice A4 (nd 64 (valD (fm n) c).n) n4, .int .i64 (valD (fm n) c).e] 53)))
        replace HS := Lib.hid ((HS.out.below hb10 (Nat.le_refl _)).alloc (.cells #[.bool (valD (fm n) c).s, .slice A4 (nd 64 (valD (fm n) c).n) n4, .int .i64 (valD (fm n) c).e] 53) (Nat.le_refl _))
        have VA := Lib.hid (VB.new hrd 53)
        clear hb10 hrd VAf
        obtain ⟨b0, b1, b2, -, -⟩ := VA.out.bx.cells
        obtain ⟨d0, d1, d2, -, -⟩ := VX.out.bx.cells
        go_wp2_with fail
        refine (DCmp_vb VA.out VX.out HS.out.gl CA.out).mono ?_
        rintro _ w11 ⟨rfl, hb11⟩
        replace VX := Lib.hid (VX.out.below hb11)
        replace HS := Lib.hid (HS.out.below hb11 (Nat.le_refl _))
        clear hb11 b0 b1 b2 d0 d1 d2 VA CA
        go_wp2_with fail
        refine (VBf.out _ HS.out.glr HS.out.gl).mono ?_
        rintro _ w12 ⟨A5, n5, rfl, hrd, hb12⟩
        replace VX := Lib.hid ((VX.out.below hb12).below (below1 w12 (.cells #[.bool (valA (n : Int) B).s, .slice A5 (nd 64 (valA (n : Int) B).n) n5, .int .i64 (valA (n : Int) B).e] 53)))
        replace HS := Lib.hid ((HS.out.below hb12 (Nat.le_refl _)).alloc (.cells #[.bool (valA (n : Int) B).s, .slice A5 (nd 64 (valA (n : Int) B).n) n5, .int .i64 (valA (n : Int) B).e] 53) (Nat.le_refl _))
        have VY := Lib.hid (VB.new hrd 53)
        clear hb12 hrd VBf
        go_wp2_with fail
        refine (HIB.out _ HS.out.glr).mono ?_
        rintro _ w14 ⟨rfl, hb14⟩
        replace HS := Lib.hid (HS.out.below hb14 (Nat.le_refl _))
        clear hb14 HIB
        go_wp2_with fail
        go_ret
        exact ⟨by simp, HS.out.bl⟩
    · have hB : (fm n).abs B < (fm n).inf := by rcases BD.fin with h | h; exact absurd h hA; exact h
      have hBA : ¬ B = c := fun h => hAB h.symm
      have zA : (40 : Int) = valE (n : Int) c := (valE_inf hn BD.lt.1 hA).symm
      have VAf := Lib.hid (fun wx h1 h2 => Value_vb (n : Int) c (valA (n : Int) c) 40 hAl rfl zA wx h1 h2)
      have zB : (0 : Int) = valE (n : Int) B := (valE_fin hn BD.lt.2 hB).symm
      have dB : valD (fm n) B = valA (n : Int) B := (valA_fin hn BD.lt.2 hB).symm
      have VBf := Lib.hid (fun wx h1 h2 => Value_vb (n : Int) B (valD (fm n) B) 0 hBl dB zB wx h1 h2)
      have cB := BD.up hB
      rw [if_neg hAB] at cB
      have CB := Lib.hid cB
      have eA : (fm n).inf + (fm n).sg true = c := (BD.minf hA).symm
      have hIA := fun wx h => infinity_any n true wx hn h
      rw [eA] at hIA
      have HIA := Lib.hid hIA
      clear hIA eA
      clear BD HBD Hn hn hAl hBl zB hA zA hB cB dB
      go_wp2_with fail
      refine (VAf.out _ HS.out.glr HS.out.gl).mono ?_
      rintro _ w10 ⟨A4, n4, rfl, hrd, hb10⟩
      replace VX := Lib.hid ((VX.out.below hb10).below (below1 w10 (.cells #[.bool (valA (n : Int) c).s, .slice A4 (nd 64 (valA (n : Int) c).n) n4, .int .i64 (valA (n : Int) c).e] 53)))
      replace HS := Lib.hid ((HS.out.below hb10 (Nat.le_refl _)).alloc (.cells #[.bool (valA (n : Int) c).s, .slice A4 (nd 64 (valA (n : Int) c).n) n4, .int .i64 (valA (n : Int) c).e] 53) (Nat.le_refl _))
      have VA := Lib.hid (VB.new hrd 53)
      clear hb10 hrd VAf
      go_wp2_with fail
      refine (VBf.out _ HS.out.glr HS.out.gl).mono ?_
      rintro _ w12 ⟨A5, n5, rfl, hrd, hb12⟩
      replace VX := Lib.hid ((VX.out.below hb12).below (below1 w12 (.cells #[.bool (valD (fm n) B).s, .slice A5 (nd 64 (valD (fm n) B).n) n5, .int .i64 (valD (fm n) B).e] 53)))
      replace HS := Lib.hid ((HS.out.below hb12 (Nat.le_refl _)).alloc (.cells #[.bool (valD (fm n) B).s, .slice A5 (nd 64 (valD (fm n) B).n) n5, .int .i64 (valD (fm n) B).e] 53) (Nat.le_refl _))
      have VY := Lib.hid (VB.new hrd 53)
      clear hb12 hrd VBf
      obtain ⟨b0, b1, b2, -, -⟩ := VY.out.bx.cells
      obtain ⟨d0, d1, d2, -, -⟩ := VX.out.bx.cells
      go_wp2_with fail
      refine (DCmp_vb VX.out VY.out HS.out.gl CB.out).mono ?_
      rintro _ w13 ⟨rfl, hb13⟩
      replace HS := Lib.hid (HS.out.below hb13 (Nat.le_refl _))
      clear hb13 b0 b1 b2 d0 d1 d2 VY CB VX
      go_wp2_with fail
      refine (HIA.out _ HS.out.glr).mono ?_
      rintro _ w14 ⟨rfl, hb14⟩
      replace HS := Lib.hid (HS.out.below hb14 (Nat.le_refl _))
      clear hb14 HIA
      go_wp2_with fail
      go_ret
      exact ⟨by simp, HS.out.bl⟩
  · have hcB : c = B := by rcases BD.one with h | h; exact absurd h hcA; exact h
    subst hcB
    clear hcA
    by_cases hA : (fm n).abs A < (fm n).inf
    · by_cases hB : (fm n).abs c < (fm n).inf
      · skip
        have hBA : ¬ c = A := fun h => hAB h.symm
        have zA : (0 : Int) = valE (n : Int) A := (valE_fin hn BD.lt.1 hA).symm
        have dA : valD (fm n) A = valA (n : Int) A := (valA_fin hn BD.lt.1 hA).symm
        have VAf := Lib.hid (fun wx h1 h2 => Value_vb (n : Int) A (valD (fm n) A) 0 hAl dA zA wx h1 h2)
        have zB : (0 : Int) = valE (n : Int) c := (valE_fin hn BD.lt.2 hB).symm
        have dB : valD (fm n) c = valA (n : Int) c := (valA_fin hn BD.lt.2 hB).symm
        have VBf := Lib.hid (fun wx h1 h2 => Value_vb (n : Int) c (valD (fm n) c) 0 hBl dB zB wx h1 h2)
        obtain ⟨cA, gA16⟩ := BD.down hA
        rw [if_neg hAB] at cA
        have CA := Lib.hid cA
        have cB := BD.up hB
        rw [if_neg hAB] at cB
        have CB := Lib.hid cB
        have g16 : ¬ g &&& 16 = 0 := fun h => hAB (gA16.2 h)
        have q16 := (flag16 BD.fl).1
        rw [decide_eq_false g16] at q16
        clear g16
        have g4 : g &&& 4 = 0 := BD.over hA hB
        have q4 := (flag16 BD.fl).2
        rw [decide_eq_true g4] at q4
        clear g4
        clear BD HBD Hn hn hAl hBl zB hA zA hB dA cA gA16 cB dB
        go_wp2_with fail
        refine (VAf.out _ HS.out.glr HS.out.gl).mono ?_
        rintro _ w10 ⟨A4, n4, rfl, hrd, hb10⟩
        replace VX := Lib.hid ((VX.out.below hb10).below (below1 w10 (.cells #[.bool (valD (fm n) A).s, .slice A4 (nd 64 (valD (fm n) A).n) n4, .int .i64 (valD (fm n) A).e] 53)))
        replace HS := Lib.hid ((HS.out.below hb10 (Nat.le_refl _)).alloc (.cells #[.bool (valD (fm n) A).s, .slice A4 (nd 64 (valD (fm n) A).n) n4, .int .i64 (valD (fm n) A).e] 53) (Nat.le_refl _))
        have VA := Lib.hid (VB.new hrd 53)
        clear hb10 hrd VAf
        obtain ⟨b0, b1, b2, -, -⟩ := VA.out.bx.cells
        obtain ⟨d0, d1, d2, -, -⟩ := VX.out.bx.cells
        go_wp2_with fail
        refine (DCmp_vb VA.out VX.out HS.out.gl CA.out).mono ?_
        rintro _ w11 ⟨rfl, hb11⟩
        replace VX := Lib.hid (VX.out.below hb11)
        replace HS := Lib.hid (HS.out.below hb11 (Nat.le_refl _))
        clear hb11 b0 b1 b2 d0 d1 d2 VA CA
        go_wp2_with fail
        refine (VBf.out _ HS.out.glr HS.out.gl).mono ?_
        rintro _ w12 ⟨A5, n5, rfl, hrd, hb12⟩
        replace VX := Lib.hid ((VX.out.below hb12).below (below1 w12 (.cells #[.bool (valD (fm n) c).s, .slice A5 (nd 64 (valD (fm n) c).n) n5, .int .i64 (valD (fm n) c).e] 53)))
        replace HS := Lib.hid ((HS.out.below hb12 (Nat.le_refl _)).alloc (.cells #[.bool (valD (fm n) c).s, .slice A5 (nd 64 (valD (fm n) c).n) n5, .int .i64 (valD (fm n) c).e] 53) (Nat.le_refl _))
        have VY := Lib.hid (VB.new hrd 53)
        clear hb12 hrd VBf
        obtain ⟨b0, b1, b2, -, -⟩ := VY.out.bx.cells
        obtain ⟨d0, d1, d2, -, -⟩ := VX.out.bx.cells
        go_wp2_with fail
        refine (DCmp_vb VX.out VY.out HS.out.gl CB.out).mono ?_
        rintro _ w13 ⟨rfl, hb13⟩
        replace HS := Lib.hid (HS.out.below hb13 (Nat.le_refl _))
        clear hb13 b0 b1 b2 d0 d1 d2 VY CB VX
        go_wp2_with fail
        go_ret
        exact ⟨by simp, HS.out.bl⟩
      · skip
        have hBA : ¬ c = A := fun h => hAB h.symm
        have zA : (0 : Int) = valE (n : Int) A := (valE_fin hn BD.lt.1 hA).symm
        have dA : valD (fm n) A = valA (n : Int) A := (valA_fin hn BD.lt.1 hA).symm
        have VAf := Lib.hid (fun wx h1 h2 => Value_vb (n : Int) A (valD (fm n) A) 0 hAl dA zA wx h1 h2)
        have zB : (40 : Int) = valE (n : Int) c := (valE_inf hn BD.lt.2 hB).symm
        have VBf := Lib.hid (fun wx h1 h2 => Value_vb (n : Int) c (valA (n : Int) c) 40 hBl rfl zB wx h1 h2)
        obtain ⟨cA, gA16⟩ := BD.down hA
        rw [if_neg hAB] at cA
        have CA := Lib.hid cA
        have g16 : ¬ g &&& 16 = 0 := fun h => hAB (gA16.2 h)
        have q16 := (flag16 BD.fl).1
        rw [decide_eq_false g16] at q16
        clear g16
        have eB : (fm n).inf + (fm n).sg false = c := (BD.pinf hB).symm
        have hIB := fun wx h => infinity_any n false wx hn h
        rw [eB] at hIB
        have HIB := Lib.hid hIB
        clear hIB eB
        clear BD HBD Hn hn hAl hBl zB hA zA hB dA cA gA16
        go_wp2_with fail
        refine (VAf.out _ HS.out.glr HS.out.gl).mono ?_
        rintro _ w10 ⟨A4, n4, rfl, hrd, hb10⟩
        replace VX := Lib.hid ((VX.out.below hb10).below (below1 w10 (.cells #[.bool (valD (fm n) A).s, .slice A4 (nd 64 (valD (fm n) A).n) n4, .int .i64 (valD (fm n) A).e] 53)))
        replace HS := Lib.hid ((HS.out.below hb10 (Nat.le_refl _)).alloc (.cells #[.bool (valD (fm n) A).s, .slice A4 (nd 64 (valD (fm n) A).n) n4, .int .i64 (valD (fm n) A).e] 53) (Nat.le_refl _))
        have VA := Lib.hid (VB.new hrd 53)
        clear hb10 hrd VAf
        obtain ⟨b0, b1, b2, -, -⟩ := VA.out.bx.cells
        obtain ⟨d0, d1, d2, -, -⟩ := VX.out.bx.cells
        go_wp2_with fail
        refine (DCmp_vb VA.out VX.out HS.out.gl CA.out).mono ?_
        rintro _ w11 ⟨rfl, hb11⟩
        replace VX := Lib.hid (VX.out.below hb11)
        replace HS := Lib.hid (HS.out.below hb11 (Nat.le_refl _))
        clear hb11 b0 b1 b2 d0 d1 d2 VA CA
        go_wp2_with fail
        refine (VBf.out _ HS.out.glr HS.out.gl).mono ?_
        rintro _ w12 ⟨A5, n5, rfl, hrd, hb12⟩
        replace VX := Lib.hid ((VX.out.below hb12).below (below1 w12 (.cells #[.bool (valA (n : Int) c).s, .slice A5 (nd 64 (valA (n : Int) c).n) n5, .int .i64 (valA (n : Int) c).e] 53)))
        replace HS := Lib.hid ((HS.out.below hb12 (Nat.le_refl _)).alloc (.cells #[.bool (valA (n : Int) c).s, .slice A5 (nd 64 (valA (n : Int) c).n) n5, .int .i64 (valA (n : Int) c).e] 53) (Nat.le_refl _))
        have VY := Lib.hid (VB.new hrd 53)
        clear hb12 hrd VBf
        go_wp2_with fail
        refine (HIB.out _ HS.out.glr).mono ?_
        rintro _ w14 ⟨rfl, hb14⟩
        replace HS := Lib.hid (HS.out.below hb14 (Nat.le_refl _))
        clear hb14 HIB
        go_wp2_with fail
        go_ret
        exact ⟨by simp, HS.out.bl⟩
    · have hB : (fm n).abs c < (fm n).inf := by rcases BD.fin with h | h; exact absurd h hA; exact h
      have hBA : ¬ c = A := fun h => hAB h.symm
      have zA : (40 : Int) = valE (n : Int) A := (valE_inf hn BD.lt.1 hA).symm
      have VAf := Lib.hid (fun wx h1 h2 => Value_vb (n : Int) A (valA (n : Int) A) 40 hAl rfl zA wx h1 h2)
      have zB : (0 : Int) = valE (n : Int) c := (valE_fin hn BD.lt.2 hB).symm
      have dB : valD (fm n) c = valA (n : Int) c := (valA_fin hn BD.lt.2 hB).symm
      have VBf := Lib.hid (fun wx h1 h2 => Value_vb (n : Int) c (valD (fm n) c) 0 hBl dB zB wx h1 h2)
      have cB := BD.up hB
      rw [if_neg hAB] at cB
      have CB := Lib.hid cB
      have eA : (fm n).inf + (fm n).sg true = A := (BD.minf hA).symm
      have hIA := fun wx h => infinity_any n true wx hn h
      rw [eA] at hIA
      have HIA := Lib.hid hIA
      clear hIA eA
      clear BD HBD Hn hn hAl hBl zB hA zA hB cB dB
      go_wp2_with fail
      refine (VAf.out _ HS.out.glr HS.out.gl).mono ?_
      rintro _ w10 ⟨A4, n4, rfl, hrd, hb10⟩
      replace VX := Lib.hid ((VX.out.below hb10).below (below1 w10 (.cells #[.bool (valA (n : Int) A).s, .slice A4 (nd 64 (valA (n : Int) A).n) n4, .int .i64 (valA (n : Int) A).e] 53)))
      replace HS := Lib.hid ((HS.out.below hb10 (Nat.le_refl _)).alloc (.cells #[.bool (valA (n : Int) A).s, .slice A4 (nd 64 (valA (n : Int) A).n) n4, .int .i64 (valA (n : Int) A).e] 53) (Nat.le_refl _))
      have VA := Lib.hid (VB.new hrd 53)
      clear hb10 hrd VAf
      go_wp2_with fail
      refine (VBf.out _ HS.out.glr HS.out.gl).mono ?_
      rintro _ w12 ⟨A5, n5, rfl, hrd, hb12⟩
      replace VX := Lib.hid ((VX.out.below hb12).below (below1 w12 (.cells #[.bool (valD (fm n) c).s, .slice A5 (nd 64 (valD (fm n) c).n) n5, .int .i64 (valD (fm n) c).e] 53)))
      replace HS := Lib.hid ((HS.out.below hb12 (Nat.le_refl _)).alloc (.cells #[.bool (valD (fm n) c).s, .slice A5 (nd 64 (valD (fm n) c).n) n5, .int .i64 (valD (fm n) c).e] 53) (Nat.le_refl _))
      have VY := Lib.hid (VB.new hrd 53)
      clear hb12 hrd VBf
      obtain ⟨b0, b1, b2, -, -⟩ := VY.out.bx.cells
      obtain ⟨d0, d1, d2, -, -⟩ := VX.out.bx.cells
      go_wp2_with fail
      refine (DCmp_vb VX.out VY.out HS.out.gl CB.out).mono ?_
      rintro _ w13 ⟨rfl, hb13⟩
      replace HS := Lib.hid (HS.out.below hb13 (Nat.le_refl _))
      clear hb13 b0 b1 b2 d0 d1 d2 VY CB VX
      go_wp2_with fail
      refine (HIA.out _ HS.out.glr).mono ?_
      rintro _ w14 ⟨rfl, hb14⟩
      replace HS := Lib.hid (HS.out.below hb14 (Nat.le_refl _))
      clear hb14 HIA
      go_wp2_with fail
      go_ret
      exact ⟨by simp, HS.out.bl⟩

end Go.Proofs.YtcgceigmglikpaaDoor
