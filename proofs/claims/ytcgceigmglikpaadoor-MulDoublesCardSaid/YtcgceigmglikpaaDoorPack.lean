/- format.Pack, of a format that is there. -/
import Derived.Deep.RegionHeld3
import Derived.Test.YtcgceigmglikpaaDoorPackF
namespace Go.Proofs.YtcgceigmglikpaaDoor
set_option linter.unusedVariables false
open Go.RowKit

set_option maxRecDepth 100000 in
set_option maxHeartbeats 2000000 in
theorem Pack_ok (f : Nat) (s : Bool) (x y : Nat) (w : World) (hf : f < 4) (hG : GlR w) (hx : x < 2 ^ ((fm f).w - (fm f).p)) (hy : y < 2 ^ ((fm f).p - 1)) :
    Calls Tryd.prog 29 #[.int .i64 f, .bool s, .int .u64 x, .int .u64 y] w fun e w' => e = .returned (.tuple #[.int .u64 ((x * 2 ^ ((fm f).p - 1) + y + (fm f).sg s : Nat) : Int), .int .i64 0]) ∧ Below w.heap.size w w' := by
  have ok := fm_ok f
  have hj := fun wx => join_any (fm f) ok s x y wx hx hy
  have hp := fun wx hx => Params_ok f wx hf hx
  generalize fm f = F at *
  obtain ⟨R, hR⟩ : ∃ R, R = x * 2 ^ (F.p - 1) + y + F.sg s := ⟨_, rfl⟩
  rw [← hR] at hj ⊢
  obtain ⟨p8, p53, pw, w64, emx, emn, b16, b1023⟩ := id ok
  clear emx emn
  obtain ⟨t, ht⟩ : ∃ t, t = F.w - F.p := ⟨_, rfl⟩
  obtain ⟨n, hn⟩ : ∃ n, n = F.p - 1 := ⟨_, rfl⟩
  have ht63 : t ≤ 63 := by omega
  have hn63 : n ≤ 63 := by omega
  obtain ⟨o1, ho1⟩ : ∃ o, Hid (o = 2 ^ t - 1) := ⟨_, Lib.hid rfl⟩
  obtain ⟨o2, ho2⟩ : ∃ o, Hid (o = 2 ^ n - 1) := ⟨_, Lib.hid rfl⟩
  rw [← ht] at hx
  rw [← hn] at hy
  have hxo : x ≤ o1 := by rw [ho1.out]; omega
  have hyo : y ≤ o2 := by rw [ho2.out]; omega
  have t1 : decide ((x : Int) > (o1 : Int)) = false := decide_eq_false (by omega)
  have t2 : decide (o1 < x) = false := decide_eq_false (by omega)
  have t3 : decide ((y : Int) > (o2 : Int)) = false := decide_eq_false (by omega)
  have t4 : decide (o2 < y) = false := decide_eq_false (by omega)
  have w1' : IntKind.i64.wrap ((F.p : Int) - 1) = (n : Int) := by rw [IntKind.wrap_i64]; omega
  have w2' : IntKind.i64.wrap ((F.w : Int) - F.p) = (t : Int) := by rw [IntKind.wrap_i64]; omega
  have hO1 := fun wx => ones_op t o1 wx ht63 ho1
  have hO2 := fun wx => ones_op n o2 wx hn63 ho2
  have HP := Lib.hid hp
  have HJ := Lib.hid hj
  have HO1 := Lib.hid hO1
  have HO2 := Lib.hid hO2
  clear hp hj hO1 hO2 hx hy hR ht hn p8 p53 pw w64 b16 b1023 ok ho1 ho2 ht63 hn63 hxo hyo
  go_enter Tryd.func29, Tryd.ntmps29
  go_wp2_with fail
  refine (HP.out _ hG).mono ?_
  rintro _ w1 ⟨rfl, hb1⟩
  unfold PV
  have ha1 := below1 w1 (.cells #[.int .i64 F.w, .int .i64 F.p, .int .i64 F.emin, .int .i64 F.emax] 58)
  have HB := Lib.hid (hb1.trans (ha1.mono hb1.size))
  have BP := Lib.hid (BxP.new F w1 58)
  obtain ⟨W1, hW1⟩ : ∃ W, W = w1.alloc (.cells #[.int .i64 F.w, .int .i64 F.p, .int .i64 F.emin, .int .i64 F.emax] 58) := ⟨_, rfl⟩
  rw [← hW1] at HB BP
  obtain ⟨q0, q1, q2, q3⟩ := BP.out.cells
  clear hb1 ha1 HP hG
  go_upto_region 2 with (fail)
  rw [← hW1]
  clear hW1
  go_wp2_with fail
  refine (HO1.out _).mono ?_
  rintro _ _ ⟨rfl, rfl⟩
  go_wp2_with fail
  refine (HO2.out _).mono ?_
  rintro _ _ ⟨rfl, rfl⟩
  go_wp2_with fail
  refine (HJ.out _).mono ?_
  rintro _ w2 ⟨rfl, hb2⟩
  replace HB := Lib.hid (HB.out.trans (hb2.mono HB.out.size))
  go_wp2
  go_ret2
  exact ⟨rfl, HB.out⟩

end Go.Proofs.YtcgceigmglikpaaDoor
