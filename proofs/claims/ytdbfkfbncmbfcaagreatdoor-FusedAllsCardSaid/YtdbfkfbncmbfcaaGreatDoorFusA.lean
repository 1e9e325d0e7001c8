/- The walk of round.Exact, of a canonical number. -/
import Derived.Test.YtdbfkfbncmbfcaaGreatDoorVb
import Derived.Test.YtdbfkfbncmbfcaaGreatDoorPackO
namespace Go.Proofs.YtdbfkfbncmbfcaaGreatDoor
set_option linter.unusedVariables false
open Go.RowKit

set_option maxRecDepth 100000 in
set_option maxHeartbeats 4000000 in
theorem Exact_ok (f m : Nat) (d : D) (A : Option Addr) (c : Nat) (w : World) (hf : f < 4) (hm : m ≤ 5) (hc : canonD (nd 64 d.n) d = (d, 0)) (hb : nd 64 d.n ≤ 1024 ∧ -40000 ≤ d.e ∧ d.e ≤ 40000) (h0 : d.n ≠ 0)
    (hrd : Rd 64 w (.slice A (nd 64 d.n) c) d.n (nd 64 d.n)) (hG : Gl w) (hR : GlR w) :
    Calls Tryz.prog 59 #[.int .i64 f, .int .i64 m, .agg #[.bool d.s, .slice A (nd 64 d.n) c, .int .i64 d.e]] w fun e w' =>
      e = .returned (.tuple #[.int .u64 ((intoS (fm f) m d.s d.n d.e false).1 : Int), .int .i64 ((intoS (fm f) m d.s d.n d.e false).2 : Int), .int .i64 0]) ∧ Below w.heap.size w w' := by
  have hrf := fun wx h => refuses_m f m wx hf h
  rw [rfS_of hf hm] at hrf
  have hcn := fun wx h1 h2 => Canon_any d.s A d.n (nd 64 d.n) c d.e wx h1 h2
  rw [show canonD (nd 64 d.n) ⟨d.s, d.n, d.e⟩ = (d, 0) from hc] at hcn
  have hin := fun A' c' wx h1 h2 h3 => into_any f hf d.s A' d.n (nd 64 d.n) c' d.e false m wx h1 hm hb.1 (by omega) h0 h2 h3
  obtain ⟨x, hx⟩ : ∃ x, x = (intoS (fm f) m d.s d.n d.e false).1 := ⟨_, rfl⟩
  obtain ⟨g, hg⟩ : ∃ x, x = (intoS (fm f) m d.s d.n d.e false).2 := ⟨_, rfl⟩
  simp only [← hx, ← hg] at hin
  rw [← hx, ← hg]
  have hnz : nd 64 d.n ≠ 0 := by have := nd_pos 64 d.n; omega
  have t1 : ((nd 64 d.n : Int) == 0) = false := by simpa using hnz
  have hb0 := below1 w (.cells #[.bool d.s, .slice A (nd 64 d.n) c, .int .i64 d.e] 63)
  have VD := Lib.hid (VB.new hrd 63)
  have HB := Lib.hid hb0
  have HG := Lib.hid (hG.below hb0)
  have HR := Lib.hid (hR.below hb0)
  have Hrf := Lib.hid hrf
  have Hcn := Lib.hid hcn
  have Hin := Lib.hid hin
  generalize hF : fm f = F at *
  clear hx hg hrf hcn hin hc hb h0 hrd hG hR hb0 hF
  go_enter Tryz.func59, Tryz.ntmps59
  go_wp2_with fail
  refine (Hrf.out _ HR.out).mono ?_
  rintro _ w1 ⟨rfl, hb1⟩
  unfold PV
  have hb2 := below1 w1 (.cells #[.int .i64 F.w, .int .i64 F.p, .int .i64 F.emin, .int .i64 F.emax] 97)
  have BP := Lib.hid (BxP.new F w1 97)
  replace VD := Lib.hid ((VD.out.below hb1).below hb2)
  replace HB := Lib.hid (keep_belowB (keep_belowB HB.out hb1 (Nat.le_refl _)) hb2 (Nat.le_refl _))
  replace HG := Lib.hid ((HG.out.below hb1).below hb2)
  replace HR := Lib.hid ((HR.out.below hb1).below hb2)
  clear hb1 hb2 Hrf
  obtain ⟨d0, d1, d2, -, -⟩ := VD.out.bx.cells
  go_wp2_with fail
  refine (Hcn.out _ VD.out.rd HG.out).mono ?_
  rintro _ w2 ⟨y, rfl, ⟨A2, c2, rfl, -, -, hrd2, -⟩, hb3⟩
  have hb4 := below1 w2 (.cells #[.bool d.s, .slice A2 (nd 64 d.n) c2, .int .i64 d.e] 63)
  have VY := Lib.hid (VB.new hrd2 63)
  replace BP := Lib.hid ((BP.out.below hb3).below hb4)
  replace HB := Lib.hid (keep_belowB (keep_belowB HB.out hb3 (Nat.le_refl _)) hb4 (Nat.le_refl _))
  replace HG := Lib.hid ((HG.out.below hb3).below hb4)
  replace HR := Lib.hid ((HR.out.below hb3).below hb4)
  clear hb3 hb4 Hcn VD d0 d1 d2 hrd2
  obtain ⟨d0, d1, d2, -, -⟩ := VY.out.bx.cells
  obtain ⟨q0, q1, q2, q3⟩ := BP.out.cells
  go_wp2_with fail
  refine (Hin.out _ _ _ VY.out.rd HG.out HR.out).mono ?_
  rintro _ w3 ⟨rfl, hb5⟩
  replace HB := Lib.hid (keep_belowB HB.out hb5 (Nat.le_refl _))
  clear hb5 Hin VY BP d0 d1 d2 q0 q1 q2 q3
  go_wp2_with fail
  refine bodyPost_ret (v := .tuple #[.int .u64 x, .int .i64 g, .int .i64 0]) (by simp [results, Tryz.results59, go_sem]) rfl ⟨rfl, HB.out⟩

end Go.Proofs.YtdbfkfbncmbfcaaGreatDoor
