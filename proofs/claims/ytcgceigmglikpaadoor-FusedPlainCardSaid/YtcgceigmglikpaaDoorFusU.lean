/- The walk of FusedPlain. Printed by gen/fusu.py. -/
import Derived.Deep.CutBlock
import Derived.Test.YtcgceigmglikpaaDoorFusN
import Derived.Test.YtcgceigmglikpaaDoorAddC
namespace Go.Proofs.YtcgceigmglikpaaDoor
set_option linter.unusedVariables false
set_option linter.unusedSimpArgs false
open Go.RowKit

section
variable {F : Fm}
theorem one_lt_w (ok : F.Ok) : F.one < 2 ^ F.w := by
  have h1 := (one_ok ok).2.2.2.2.2
  have h2 := inf_lt ok
  have h3 := w_two ok
  omega

theorem plain_law (ok : F.Ok) (k : Nat) {a b c : Nat} (ha : a < 2 ^ F.w) (hb : b < 2 ^ F.w) (hc : c < 2 ^ F.w) :
    fmaS F k a F.one c = addS F k a c ∧ fmaS F k a b (F.sg (F.neg a != F.neg b)) = mulS F k a b ∧ dot2S F k a b c F.one = fmaS F k a b c := by
  refine ⟨?_, ?_, ?_⟩
  · rw [fmaZ ok, prodZ_one ok]; exact sum_z ok k ha hc
  · rw [fmaZ ok]; exact product_z ok k ha hb
  · rw [fmaZ ok, dotZ ok, prodZ_one ok]

theorem sg_lt_w (ok : F.Ok) (s : Bool) : F.sg s < 2 ^ F.w := by
  have h1 := sg_lt ok s
  have h3 := w_two ok
  have h5 := pow_pos2 (F.w - 1)
  omega
end

theorem St.put5 {w w1 : World} {a0 a1 a2 a3 a4 a5 : Value} (h : St w.heap.size w w.heap.size #[a0, a1, a2, a3, a4, a5] w1) (hG : ∀ u : World, Below w.heap.size w u → Gl u) (hR : ∀ u : World, Below w.heap.size w u → GlR u) (x : Value) :
    St w.heap.size w w.heap.size #[a0, a1, a2, a3, a4, x] (w1.setCell ⟨w.heap.size, 5, none⟩ x) :=
  have hb := h.bl.setCell (p := ⟨w.heap.size, 5, none⟩) (Nat.le_refl _) x
  ⟨hb, hG _ hb, hR _ hb, h.bx.put 5 x _ rfl⟩

set_option maxRecDepth 100000 in
set_option maxHeartbeats 32000000 in
theorem plain_any (f m : Int) (a b c d : Nat) (w : World) (hf : -9223372036854775808 ≤ f ∧ f ≤ 9223372036854775807) (hm : -9223372036854775808 ≤ m ∧ m ≤ 9223372036854775807) (ha : a < 18446744073709551616) (hb : b < 18446744073709551616) (hc : c < 18446744073709551616) (hd : d < 18446744073709551616) (hG : Gl w) (hR : GlR w) :
    Calls Tryd.prog 14 #[.agg (fourA f m a b c d)] w fun e w' => e = .returned (.bool true) ∧ Below w.heap.size w w' := by
  have hst := fun wx => four_start f m a b c d wx hf hm ha hb hc hd
  have hb0 := below1 w (.cells (fourA f m a b c d) 68)
  have hx := Bx.new w (fourA f m a b c d) 68
  obtain ⟨W, hW⟩ : ∃ W, W = w.alloc (.cells (fourA f m a b c d) 68) := ⟨_, rfl⟩
  rw [← hW] at hb0 hx
  have HS := Lib.hid (show St w.heap.size w w.heap.size (fourA f m a b c d) W from ⟨hb0, hG.below hb0, hR.below hb0, hx⟩)
  have HGB := Lib.hid (fun (u : World) (h : Below w.heap.size w u) => hG.below h)
  have HRB := Lib.hid (fun (u : World) (h : Below w.heap.size w u) => hR.below h)
  have Hst := Lib.hid hst
  clear hst hb0 hx hG hR hf hm ha hb hc hd
  unfold fourA at hW HS Hst
  unfold fourA
  go_enter Tryd.func14, Tryd.ntmps14
  go_upto_region 1 with (fail)
  rw [← hW]
  clear hW
  go_wp2_with fail
  refine (fawake_any W HS.out.gl HS.out.glr).mono ?_
  rintro _ w1 ⟨rfl, hb1⟩
  replace HS := Lib.hid (HS.out.below hb1 (Nat.le_refl _))
  clear hb1
  obtain ⟨k0, k1, k2, k3, k4, k5⟩ := HS.out.bx.six
  have xf : ∀ j, w1.frozen? ⟨w.heap.size, j, none⟩ = false := fun j => HS.out.bx.free j
  go_wp2_with fail
  refine (Hst.out w1).mono ?_
  rintro _ w2 ⟨n, k, a, b, c, d, hin, rfl, hb2⟩
  replace HS := Lib.hid (HS.out.below hb2 (Nat.le_refl _))
  clear hb2 k0 k1 k2 k3 k4 k5 xf Hst
  have HI := Lib.hid hin
  clear hin
  obtain ⟨k0, k1, k2, k3, k4, k5⟩ := HS.out.bx.six
  have xf : ∀ j, w2.frozen? ⟨w.heap.size, j, none⟩ = false := fun j => HS.out.bx.free j
  go_upto_region 4 with (fail)
  replace HS := Lib.hid (HS.out.set6 HGB.out HRB.out (.int .i64 n) (.int .i64 k) (.int .u64 a) (.int .u64 b) (.int .u64 c) (.int .u64 d))
  clear k0 k1 k2 k3 k4 k5 xf
  generalize (((((w2.setCell ⟨w.heap.size, 0, none⟩ (.int .i64 n)).setCell ⟨w.heap.size, 1, none⟩ (.int .i64 k)).setCell ⟨w.heap.size, 2, none⟩ (.int .u64 a)).setCell ⟨w.heap.size, 3, none⟩ (.int .u64 b)).setCell ⟨w.heap.size, 4, none⟩ (.int .u64 c)).setCell ⟨w.heap.size, 5, none⟩ (.int .u64 d) = W3 at *
  obtain ⟨hn, hk, hal, hbl, hcl, hdl⟩ := HI.out
  have ok := fm_ok n
  obtain ⟨s1, s2, s3⟩ := plain_law ok k hal hbl hcl
  have ol := one_lt_w ok
  have un := fun wx => unity_ok n wx hn
  have c1 := fun wx h1 h2 => Fma_ok n k a (fm n).one c wx hn hk hal ol hcl h1 h2
  have c2 := fun wx h1 h2 => Add_ok n k a c wx hn hk hal hcl h1 h2
  have ro : ∀ wx z, z = a ∨ z = b → Calls Tryd.prog 52 #[.int .i64 n, .int .u64 z] wx fun e w' => ∃ (p0 p1 p2 p3 : Bool) (A : Option Addr) (nn cc : Nat) (p4 : Int), e = .returned (.agg #[.bool p0, .bool p1, .bool p2, .bool ((fm n).neg z), .bool p3, .slice A nn cc, .int .i64 p4]) ∧ Below wx.heap.size wx w' := by
    intro wx z hz
    refine (ropen_ok n z wx hn (by rcases hz with rfl | rfl <;> assumption)).mono ?_
    rintro e w' ⟨v, rfl, V, rfl, hrd, hb⟩
    obtain ⟨A, cc, rfl, -⟩ := hrd.form
    exact ⟨_, _, _, _, _, _, _, _, rfl, hb⟩
  have fl : ∀ (p0 p1 p2 g p3 : Bool) (A : Option Addr) (nn cc : Nat) (p4 : Int) (wx : World), (Instr.field 85 (.agg #[.bool p0, .bool p1, .bool p2, .bool g, .bool p3, .slice A nn cc, .int .i64 p4]) 3).run Tryd.prog wx = .ok (.bool g) wx := by
    intros
    with_unfolding_all rfl
  have no : ∀ wx, Calls Tryd.prog 51 #[.int .i64 n, .bool ((fm n).neg a != (fm n).neg b)] wx fun e w' => e = .returned (.int .u64 ((fm n).sg ((fm n).neg a != (fm n).neg b) : Nat)) ∧ Below wx.heap.size wx w' :=
    fun wx => (rnought_ok n ((fm n).neg a != (fm n).neg b) wx hn).mono fun e w' ⟨h1, h2⟩ => ⟨h1, h2 ▸ Below.refl _ _⟩
  have c3 := fun wx h1 h2 => Fma_ok n k a b ((fm n).sg ((fm n).neg a != (fm n).neg b)) wx hn hk hal hbl (sg_lt_w ok _) h1 h2
  have c4 := fun wx h1 h2 => Mul_ok n k a b wx hn hk hal hbl h1 h2
  have c5 := fun wx h1 h2 => lfma_ok n k a b c d wx hn hk hal hbl hcl hdl h1 h2
  have c6 := fun wx h1 h2 => ldot2_ok n k a b c (fm n).one wx hn hk hal hbl hcl ol h1 h2
  rw [s1] at c1
  rw [s2] at c3
  rw [s3] at c6
  obtain ⟨x, hx⟩ : ∃ x, x = (addS (fm n) k a c) := ⟨_, rfl⟩
  obtain ⟨y, hy⟩ : ∃ x, x = (mulS (fm n) k a b) := ⟨_, rfl⟩
  obtain ⟨z, hz⟩ : ∃ x, x = (fmaS (fm n) k a b c) := ⟨_, rfl⟩
  rw [← hx] at c1 c2
  rw [← hy] at c3 c4
  rw [← hz] at c5 c6
  obtain ⟨o, ho⟩ : ∃ x, x = (fm n).one := ⟨_, rfl⟩
  rw [← ho] at un c1 c6
  obtain ⟨ng, hng⟩ : ∃ g, g = ((fm n).neg a != (fm n).neg b) := ⟨_, rfl⟩
  rw [← hng] at no c3
  obtain ⟨q, hq⟩ : ∃ x, x = (fm n).sg ng := ⟨_, rfl⟩
  rw [← hq] at no c3
  obtain ⟨x1, x2⟩ := x
  obtain ⟨y1, y2⟩ := y
  obtain ⟨z1, z2⟩ := z
  dsimp only at c1 c2 c3 c4 c5 c6
  have C1 := Lib.hid c1
  have C2 := Lib.hid c2
  have C3 := Lib.hid c3
  have C4 := Lib.hid c4
  have C5 := Lib.hid c5
  have C6 := Lib.hid c6
  have UN := Lib.hid un
  have RO := Lib.hid ro
  have NO := Lib.hid no
  have HNG := Lib.hid (show (!((fm n).neg a == (fm n).neg b)) = ng from hng.symm)
  unfold fourA at C5 C6
  generalize (fm n).neg = sgn at *
  clear c1 c2 c3 c4 c5 c6 un ro no s1 s2 s3 ol hx hy hz ho hng hq hn hk hal hbl hcl hdl ok HI
  obtain ⟨k0, k1, k2, k3, k4, k5⟩ := HS.out.bx.six
  go_wp2_with fail
  refine (UN.out _).mono ?_
  rintro _ _ ⟨rfl, rfl⟩
  clear UN
  go_wp2_with fail
  refine (C1.out _ HS.out.gl HS.out.glr).mono ?_
  rintro _ W4 ⟨rfl, hb⟩
  replace HS := Lib.hid (HS.out.below hb (Nat.le_refl _))
  clear hb k0 k1 k2 k3 k4 k5 C1
  obtain ⟨k0, k1, k2, k3, k4, k5⟩ := HS.out.bx.six
  go_wp2_with fail
  refine (C2.out _ HS.out.gl HS.out.glr).mono ?_
  rintro _ W5 ⟨rfl, hb⟩
  replace HS := Lib.hid (HS.out.below hb (Nat.le_refl _))
  clear hb k0 k1 k2 k3 k4 k5 C2
  obtain ⟨k0, k1, k2, k3, k4, k5⟩ := HS.out.bx.six
  go_upto_region 11 with (fail)
  have hng2 := HNG.out
  obtain ⟨k0, k1, k2, k3, k4, k5⟩ := HS.out.bx.six
  have hGw := HS.out.gl
  have hRw := HS.out.glr
  go_region_held3 (fun v => v.cell? ⟨w.heap.size, 0, none⟩ = some (.int .i64 n) ∧ v.cell? ⟨w.heap.size, 2, none⟩ = some (.int .u64 a) ∧ v.cell? ⟨w.heap.size, 3, none⟩ = some (.int .u64 b) ∧ Gl v ∧ GlR v ∧ Below W5.heap.size W5 v)
    (first | exact ⟨k0, k2, k3, hGw, hRw, (Below.refl _ _).drew⟩ | exact ⟨keep_cell hb1 k0, keep_cell hb1 k2, keep_cell hb1 k3, hGw.below hb1, hRw.below hb1, keep_below (Below.refl _ _).drew hb1⟩ | ((try go_split_ands); (try dsimp only); refine ⟨keep_cell hb1 ?_, keep_cell hb1 ?_, keep_cell hb1 ?_, Gl.below ?_ hb1, GlR.below ?_ hb1, keep_below ?_ hb1⟩ <;> assumption))
    ((first | (go_at_call 52; refine (RO.out _ _ ?_).mono ?_; (first | exact Or.inl rfl | exact Or.inr rfl); rintro _ wz ⟨p0, p1, p2, p3, A, nn, cc, p4, rfl, hb1⟩) | (go_at_call 51; refine (NO.out _).mono ?_; rintro _ wz ⟨rfl, hb1⟩) | (go_at_call 45; refine (C3.out _ ?_ ?_).mono ?_; (go_split_ands; assumption); (go_split_ands; assumption); rintro _ wz ⟨rfl, hb1⟩)))
  have hbz : Below W5.heap.size W5 wz := by
    go_split_ands
    assumption
  replace HS := Lib.hid (HS.out.below hbz (Nat.le_refl _))
  clear hbz k0 k1 k2 k3 k4 k5 hGw hRw RO NO C3 HNG hng2 fl
  obtain ⟨k0, k1, k2, k3, k4, k5⟩ := HS.out.bx.six
  go_wp2_with fail
  refine (C4.out _ HS.out.gl HS.out.glr).mono ?_
  rintro _ W9 ⟨rfl, hb⟩
  replace HS := Lib.hid (HS.out.below hb (Nat.le_refl _))
  clear hb k0 k1 k2 k3 k4 k5 C4
  obtain ⟨k0, k1, k2, k3, k4, k5⟩ := HS.out.bx.six
  go_wp2_with fail
  refine (C5.out _ HS.out.gl HS.out.glr).mono ?_
  rintro _ W10 ⟨rfl, hb⟩
  replace HS := Lib.hid (HS.out.below hb (Nat.le_refl _))
  clear hb k0 k1 k2 k3 k4 k5 C5
  obtain ⟨k0, k1, k2, k3, k4, k5⟩ := HS.out.bx.six
  have xf : W10.frozen? ⟨w.heap.size, 5, none⟩ = false := HS.out.bx.free 5
  go_upto_region 17 with (fail)
  replace HS := Lib.hid (HS.out.put5 HGB.out HRB.out (.int .u64 o))
  clear k0 k1 k2 k3 k4 k5 xf
  generalize W10.setCell ⟨w.heap.size, 5, none⟩ (.int .u64 o) = W11 at *
  obtain ⟨k0, k1, k2, k3, k4, k5⟩ := HS.out.bx.six
  go_wp2_with fail
  refine (C6.out _ HS.out.gl HS.out.glr).mono ?_
  rintro _ W12 ⟨rfl, hb⟩
  replace HS := Lib.hid (HS.out.below hb (Nat.le_refl _))
  clear hb k0 k1 k2 k3 k4 k5 C6
  obtain ⟨k0, k1, k2, k3, k4, k5⟩ := HS.out.bx.six
  go_wp2_with fail
  go_ret
  exact ⟨rfl, HS.out.bl⟩

end Go.Proofs.YtcgceigmglikpaaDoor

