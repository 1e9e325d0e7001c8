/- The walks of together and EftSplits. -/
import Derived.Test.YtlibhfojfonfjaaGreatDoorESplP
namespace Go.Proofs.YtlibhfojfonfjaaGreatDoor
set_option linter.unusedVariables false
set_option linter.unusedSimpArgs false
open Go.RowKit

set_option maxRecDepth 100000 in
set_option maxHeartbeats 2000000 in
theorem together18 (n a b : Nat) (d : D) (A : Option Addr) (c : Nat) (w : World) (hn : n < 4) (la : a < 2 ^ (fm n).w) (lb : b < 2 ^ (fm n).w) (fa : finP (fm n) a = true) (fb : finP (fm n) b = true)
    (hs : addD (nd 64 (valA n a).n) (valA n a) (nd 64 (valA n b).n) (valA n b) = (d, 0)) (hc : cmpD (nd 64 d.n) d (nd 64 d.n) d = (0, 0)) (hd : Rd 64 w (.slice A (nd 64 d.n) c) d.n (nd 64 d.n)) (hG : Gl w) (hR : GlR w) :
    Calls Tryz.prog 12 #[.int .i64 n, .int .u64 a, .int .u64 b, .agg #[.bool d.s, .slice A (nd 64 d.n) c, .int .i64 d.e]] w fun e w' => e = .returned (.bool true) ∧ Below w.heap.size w w' := by
  have hv1 := fun wx h1 h2 => value18 n a wx hn la h1 h2
  have hv2 := fun wx h1 h2 => value18 n b wx hn lb h1 h2
  rw [fa] at hv1
  rw [fb] at hv2
  obtain ⟨x, hx⟩ : ∃ x, x = valA n a := ⟨_, rfl⟩
  obtain ⟨y, hy⟩ : ∃ y, y = valA n b := ⟨_, rfl⟩
  rw [← hx] at hv1 hs
  rw [← hy] at hv2 hs
  have hb0 := below1 w (.cells #[.bool d.s, .slice A (nd 64 d.n) c, .int .i64 d.e] 28)
  have V0 := Lib.hid (VB.new hd 28)
  have HV1 := Lib.hid hv1
  have HV2 := Lib.hid hv2
  have HS := Lib.hid hs
  have HC := Lib.hid hc
  have HB := Lib.hid hb0
  have HG := Lib.hid (hG.below hb0)
  have HR := Lib.hid (hR.below hb0)
  clear hv1 hv2 hs hx hy fa fb la lb hn hG hR hb0 hd hc
  go_enter Tryz.func12, Tryz.ntmps12
  go_wp2_with fail
  refine (HV1.out _ HG.out HR.out).mono ?_
  rintro _ w1 ⟨A1, c1, rfl, hrd, hb1⟩
  have hb2 := below1 w1 (.cells #[.bool x.s, .slice A1 (nd 64 x.n) c1, .int .i64 x.e] 28)
  have V1 := Lib.hid (VB.new hrd 28)
  have hb := hb1.trans (hb2.mono hb1.size)
  replace V0 := Lib.hid (V0.out.below hb)
  replace HG := Lib.hid (HG.out.below hb)
  replace HR := Lib.hid (HR.out.below hb)
  replace HB := Lib.hid (HB.out.trans (hb.mono HB.out.size))
  clear hb1 hb2 hb HV1 hrd
  go_wp2_with fail
  refine (HV2.out _ HG.out HR.out).mono ?_
  rintro _ w2 ⟨A2, c2, rfl, hrd, hb1⟩
  have hb2 := below1 w2 (.cells #[.bool y.s, .slice A2 (nd 64 y.n) c2, .int .i64 y.e] 28)
  have V2 := Lib.hid (VB.new hrd 28)
  have hb := hb1.trans (hb2.mono hb1.size)
  replace V0 := Lib.hid (V0.out.below hb)
  replace V1 := Lib.hid (V1.out.below hb)
  replace HG := Lib.hid (HG.out.below hb)
  replace HR := Lib.hid (HR.out.below hb)
  replace HB := Lib.hid (HB.out.trans (hb.mono HB.out.size))
  have hA := DAdd_any x.s y.s A1 A2 x.n (nd 64 x.n) c1 y.n (nd 64 y.n) c2 x.e y.e _ V1.out.rd V2.out.rd HG.out
  rw [show addD (nd 64 x.n) ⟨x.s, x.n, x.e⟩ (nd 64 y.n) ⟨y.s, y.n, y.e⟩ = (d, 0) from HS.out] at hA
  have HA := Lib.hid hA
  obtain ⟨x0, x1, x2, -, -⟩ := V1.out.bx.cells
  obtain ⟨y0, y1, y2, -, -⟩ := V2.out.bx.cells
  clear hb1 hb2 hb hA HV2 hrd
  go_wp2_with fail
  refine HA.out.mono ?_
  rintro _ w3 ⟨_, rfl, ⟨A3, c3, rfl, -, -, hrd, -⟩, hb1⟩
  have hb2 := below1 w3 (.cells #[.bool d.s, .slice A3 (nd 64 d.n) c3, .int .i64 d.e] 28)
  have V3 := Lib.hid (VB.new hrd 28)
  have hb := hb1.trans (hb2.mono hb1.size)
  replace V0 := Lib.hid (V0.out.below hb)
  replace HG := Lib.hid (HG.out.below hb)
  replace HB := Lib.hid (HB.out.trans (hb.mono HB.out.size))
  have HA' := Lib.hid (DCmp_vb V3.out V0.out HG.out HC.out)
  obtain ⟨z0, z1, z2, -, -⟩ := V3.out.bx.cells
  obtain ⟨d0, d1, d2, -, -⟩ := V0.out.bx.cells
  clear hb1 hb2 hb HA hrd x0 x1 x2 y0 y1 y2
  go_wp2_with fail
  refine HA'.out.mono ?_
  rintro _ w4 ⟨rfl, hb1⟩
  replace HB := Lib.hid (HB.out.trans (hb1.mono HB.out.size))
  clear hb1 HA' z0 z1 z2 d0 d1 d2
  go_wp2_with fail
  go_ret
  exact ⟨rfl, HB.out⟩

end Go.Proofs.YtlibhfojfonfjaaGreatDoor
