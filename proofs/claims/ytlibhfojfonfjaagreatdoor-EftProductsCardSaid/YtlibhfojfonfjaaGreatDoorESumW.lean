/- The walks of light and EftSums. Printed by gen/eftsum.py. -/
import Derived.Test.YtlibhfojfonfjaaGreatDoorESum
import Derived.Test.YtlibhfojfonfjaaGreatDoorETog
import Derived.Test.YtlibhfojfonfjaaGreatDoorAddC
namespace Go.Proofs.YtlibhfojfonfjaaGreatDoor
set_option linter.unusedVariables false
set_option linter.unusedSimpArgs false
open Go.RowKit

theorem lt_64' {n x : Nat} (h : x < 2 ^ (fm n).w) : x < 18446744073709551616 := Nat.lt_of_lt_of_le h (Nat.pow_le_pow_right (show 0 < 2 by decide) (fm_ok n).w64)

theorem TwoSum_m (n a b : Nat) (w : World) (hn : n = 2 ∨ n = 3) (ha : a < 18446744073709551616) (hb : b < 18446744073709551616) :
    Calls Tryz.prog 16 #[.int .i64 n, .int .u64 a, .int .u64 b] w fun e w' => e = .returned (tupE (sumE n a b)) ∧ Below w.heap.size w w' := by
  rcases hn with rfl | rfl
  · exact TwoSum_c2 a b w
  · exact TwoSum_c3 a b w ha hb

theorem sz_2 (a : Nat) (w : World) (ha : a < 18446744073709551616) : Calls Tryz.prog 14 #[.int .i64 2, .int .u64 a] w fun e w' => e = .returned (.int .u64 ((fm 2).abs a : Nat)) ∧ w = w' := by
  have hP : Calls Tryz.prog 46 #[.int .i64 2] w fun e w' => e = .returned (.tuple #[.int .i64 32, .int .i64 24, .int .i64 (-126)]) ∧ w = w' := rparams18 2 w (by decide)
  have e1 : ((fm 2).abs a : Int) = (a : Int).tmod 2147483648 := by
    rw [Int.tmod_eq_emod_of_nonneg (by omega)]
    show ((a % 2 ^ (32 - 1) : Nat) : Int) = _
    omega
  have e2 : (a : Int).tmod 2147483648 = ((a % 2147483648 : Nat) : Int) := by rw [Int.tmod_eq_emod_of_nonneg (by omega)]; omega
  rw [e1, e2]
  have hm : a % 2147483648 < 18446744073709551616 := by omega
  clear e1
  go_enter Tryz.func14, Tryz.ntmps14
  go_wp2_with fail
  refine hP.mono ?_
  rintro _ _ ⟨rfl, rfl⟩
  go_wp2_with fail
  go_ret
  exact ⟨by go_num, rfl⟩


theorem sz_3 (a : Nat) (w : World) (ha : a < 18446744073709551616) : Calls Tryz.prog 14 #[.int .i64 3, .int .u64 a] w fun e w' => e = .returned (.int .u64 ((fm 3).abs a : Nat)) ∧ w = w' := by
  have hP : Calls Tryz.prog 46 #[.int .i64 3] w fun e w' => e = .returned (.tuple #[.int .i64 64, .int .i64 53, .int .i64 (-1022)]) ∧ w = w' := rparams18 3 w (by decide)
  have e1 : ((fm 3).abs a : Int) = (a : Int).tmod 9223372036854775808 := by
    rw [Int.tmod_eq_emod_of_nonneg (by omega)]
    show ((a % 2 ^ (64 - 1) : Nat) : Int) = _
    omega
  have e2 : (a : Int).tmod 9223372036854775808 = ((a % 9223372036854775808 : Nat) : Int) := by rw [Int.tmod_eq_emod_of_nonneg (by omega)]; omega
  rw [e1, e2]
  have hm : a % 9223372036854775808 < 18446744073709551616 := by omega
  clear e1
  go_enter Tryz.func14, Tryz.ntmps14
  go_wp2_with fail
  refine hP.mono ?_
  rintro _ _ ⟨rfl, rfl⟩
  go_wp2_with fail
  go_ret
  exact ⟨by go_num, rfl⟩


theorem sz_n (n a : Nat) (w : World) (hn : n = 2 ∨ n = 3) (ha : a < 18446744073709551616) : Calls Tryz.prog 14 #[.int .i64 n, .int .u64 a] w fun e w' => e = .returned (.int .u64 ((fm n).abs a : Nat)) ∧ w = w' := by
  rcases hn with rfl | rfl
  · exact sz_2 a w ha
  · exact sz_3 a w ha

set_option maxRecDepth 100000 in
theorem light18 (n s r : Nat) (w : World) (hn : n = 2 ∨ n = 3) (ls : s < 2 ^ (fm n).w) (lr : r < 2 ^ (fm n).w) (h : addR (fm n) s r = s ∨ ((fm n).abs s = 0 ∧ (fm n).abs (addR (fm n) s r) = 0)) (hG : Gl w) (hR : GlR w) :
    Calls Tryz.prog 13 #[.int .i64 n, .int .u64 s, .int .u64 r] w fun e w' => e = .returned (.bool true) ∧ Below w.heap.size w w' := by
  have lx := addR_lt (fm_ok n) ls lr
  have hA := Add_ok n 0 s r w (by omega) (by decide) ls lr hG hR
  have hz1 := fun wx => sz_n n s wx hn (lt_64' ls)
  have hz2 := fun wx => sz_n n (addR (fm n) s r) wx hn (lt_64' lx)
  rw [show (addS (fm n) 0 s r).1 = addR (fm n) s r from rfl] at hA
  generalize addR (fm n) s r = x at *
  generalize (addS (fm n) 0 s r).2 = fl at *
  clear hG hR hn ls lr lx
  by_cases hx : x = s
  · have HA := Lib.hid hA
    subst hx
    clear hA hz1 hz2 h
    go_enter Tryz.func13, Tryz.ntmps13
    go_wp2_with fail
    refine HA.out.mono ?_
    rintro _ w1 ⟨rfl, hb⟩
    have HB := Lib.hid hb
    clear hb HA
    go_wp2_with fail
    go_ret
    exact ⟨rfl, HB.out⟩
  · obtain ⟨h1, h2⟩ := h.resolve_left hx
    rw [h1] at hz1
    rw [h2] at hz2
    have hne : ((x : Int) == s) = false := by
      simp only [beq_eq_false_iff_ne]
      omega
    have HA := Lib.hid hA
    have HZ1 := Lib.hid hz1
    have HZ2 := Lib.hid hz2
    clear hA hz1 hz2 h hx h1 h2
    go_enter Tryz.func13, Tryz.ntmps13
    go_wp2_with fail
    refine HA.out.mono ?_
    rintro _ w1 ⟨rfl, hb⟩
    have HB := Lib.hid hb
    clear hb HA
    go_wp2_with fail
    refine (HZ1.out _).mono ?_
    rintro _ _ ⟨rfl, rfl⟩
    go_wp2_with fail
    refine (HZ2.out _).mono ?_
    rintro _ _ ⟨rfl, rfl⟩
    clear HZ1 HZ2
    go_wp2_with fail
    go_ret
    exact ⟨rfl, HB.out⟩

/-- what the walk needs of an answer that is right -/
theorem good_walk {n a b s r : Nat} {d : D} (hn : n = 2 ∨ n = 3) (h : Good n a b d s r) (hc : cmpD (nd 64 d.n) d (nd 64 d.n) d = (0, 0)) :
    s = addR (fm n) a b ∧ (∀ A c w, Rd 64 w (.slice A (nd 64 d.n) c) d.n (nd 64 d.n) → Gl w → GlR w → Calls Tryz.prog 12 #[.int .i64 n, .int .u64 s, .int .u64 r, .agg #[.bool d.s, .slice A (nd 64 d.n) c, .int .i64 d.e]] w fun e w' => e = .returned (.bool true) ∧ Below w.heap.size w w') ∧
    (∀ w, Gl w → GlR w → Calls Tryz.prog 13 #[.int .i64 n, .int .u64 s, .int .u64 r] w fun e w' => e = .returned (.bool true) ∧ Below w.heap.size w w') := by
  obtain ⟨h1, h2, h3, h4, h5, h6, h7⟩ := h
  exact ⟨h1, fun A c w hr hG hR => together18 n s r d A c w (by omega) h2 h3 h4 h5 h6 hc hr hG hR, fun w hG hR => light18 n s r w hn h2 h3 h7 hG hR⟩

end Go.Proofs.YtlibhfojfonfjaaGreatDoor
