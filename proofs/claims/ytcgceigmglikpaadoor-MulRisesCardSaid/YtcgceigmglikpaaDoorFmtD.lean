/- Walks of layer 4: the special numbers. -/
import Derived.Deep.RegionHeld3
import Derived.Test.YtcgceigmglikpaaDoorFmtC
namespace Go.Proofs.YtcgceigmglikpaaDoor
set_option linter.unusedVariables false
open Go.RowKit

theorem none_any (F : Fm) (w : World) : Calls Tryd.prog 101 #[PV F] w fun e w' => e = .returned (.int .u64 ((0 : Nat) : Int)) ∧ Below w.heap.size w w' := by
  unfold PV
  go_enter Tryd.func101, Tryd.ntmps101
  go_wp2
  go_ret
  exact ⟨rfl, (Below.refl _ _).alloc (Nat.le_refl _) _⟩

theorem one_any (F : Fm) (w : World) : Calls Tryd.prog 164 #[PV F] w fun e w' => e = .returned (.int .u64 ((1 : Nat) : Int)) ∧ Below w.heap.size w w' := by
  unfold PV
  go_enter Tryd.func164, Tryd.ntmps164
  go_wp2
  go_ret
  exact ⟨rfl, (Below.refl _ _).alloc (Nat.le_refl _) _⟩

theorem all_any (F : Fm) (ok : F.Ok) (w : World) : Calls Tryd.prog 103 #[PV F] w fun e w' => e = .returned (.int .u64 ((2 ^ (F.w - F.p) - 1 : Nat) : Int)) ∧ Below w.heap.size w w' := by
  obtain ⟨p8, p53, pw, w64, emx, emn, b16, b1023⟩ := id ok
  clear emx emn
  unfold PV
  obtain ⟨t, ht⟩ : ∃ t, t = F.w - F.p := ⟨_, rfl⟩
  rw [← ht]
  have e2 : (F.w : Int) - F.p = (t : Int) := by omega
  have ht63 : t ≤ 63 := by omega
  obtain ⟨o1, ho1⟩ : ∃ o, Hid (o = 2 ^ t - 1) := ⟨_, Lib.hid rfl⟩
  rw [← ho1.out]
  clear ht
  go_enter Tryd.func103, Tryd.ntmps103
  go_wp2_with fail
  refine (ones_op t o1 _ ht63 ho1).mono ?_
  rintro _ _ ⟨rfl, rfl⟩
  go_wp2
  go_ret
  exact ⟨rfl, (Below.refl _ _).alloc (Nat.le_refl _) _⟩

theorem top_any (F : Fm) (ok : F.Ok) (w : World) : Calls Tryd.prog 102 #[PV F] w fun e w' => e = .returned (.int .u64 ((2 ^ (F.p - 2) : Nat) : Int)) ∧ Below w.heap.size w w' := by
  obtain ⟨p8, p53, pw, w64, emx, emn, b16, b1023⟩ := id ok
  clear emx emn
  unfold PV
  obtain ⟨k, hk⟩ : ∃ k, k = F.p - 2 := ⟨_, rfl⟩
  rw [← hk]
  have e2 : (F.p : Int) - 2 = (k : Int) := by omega
  have hk63 : k ≤ 63 := by omega
  obtain ⟨s3, hs3⟩ : ∃ s3, s3 = 2 ^ k := ⟨_, rfl⟩
  have hK : 2 ^ k ≤ 2 ^ 63 := Nat.pow_le_pow_right (by decide) hk63
  have h3 : IntKind.u64.wrap ((2 : Int) ^ k) = (s3 : Int) := by
    have e0 : (2 : Int) ^ k = ((2 ^ k : Nat) : Int) := by simp
    rw [e0, hs3, IntKind.wrap_u64]; omega
  rw [← hs3]
  clear hs3 hK hk
  go_enter Tryd.func102, Tryd.ntmps102
  go_wp2
  go_ret
  exact ⟨rfl, (Below.refl _ _).alloc (Nat.le_refl _) _⟩

theorem fraction_any (F : Fm) (ok : F.Ok) (w : World) : Calls Tryd.prog 165 #[PV F] w fun e w' => e = .returned (.int .u64 ((2 ^ (F.p - 1) - 1 : Nat) : Int)) ∧ Below w.heap.size w w' := by
  obtain ⟨p8, p53, pw, w64, emx, emn, b16, b1023⟩ := id ok
  clear emx emn
  unfold PV
  obtain ⟨t, ht⟩ : ∃ t, t = F.p - 1 := ⟨_, rfl⟩
  rw [← ht]
  have e2 : (F.p : Int) - 1 = (t : Int) := by omega
  have ht63 : t ≤ 63 := by omega
  obtain ⟨o1, ho1⟩ : ∃ o, Hid (o = 2 ^ t - 1) := ⟨_, Lib.hid rfl⟩
  rw [← ho1.out]
  clear ht
  go_enter Tryd.func165, Tryd.ntmps165
  go_wp2_with fail
  refine (ones_op t o1 _ ht63 ho1).mono ?_
  rintro _ _ ⟨rfl, rfl⟩
  go_wp2
  go_ret
  exact ⟨rfl, (Below.refl _ _).alloc (Nat.le_refl _) _⟩

theorem ones_below (n o : Nat) (w : World) (hn : n ≤ 63) (ho : Hid (o = 2 ^ n - 1)) : Calls Tryd.prog 77 #[.int .i64 n] w fun e w' => e = .returned (.int .u64 (o : Int)) ∧ Below w.heap.size w w' :=
  (ones_op n o w hn ho).mono fun e w' ⟨he, hw⟩ => ⟨he, by subst hw; exact Below.refl _ _⟩

set_option maxRecDepth 100000 in
set_option maxHeartbeats 2000000 in
/-- special, with its two functions -/
theorem special_nan (f : Nat) (s : Bool) (w : World) (hf : f < 4) (hG : GlR w) (l y : Nat) (hl : Hid (∀ w, Calls Tryd.prog 101 #[PV (fm f)] w fun e w' => e = .returned (.int .u64 (l : Int)) ∧ Below w.heap.size w w'))
    (hy : Hid (∀ w, Calls Tryd.prog 102 #[PV (fm f)] w fun e w' => e = .returned (.int .u64 (y : Int)) ∧ Below w.heap.size w w'))
    (hl1 : l ≤ 2 ^ ((fm f).w - (fm f).p) - 1) (hy1 : y < 2 ^ ((fm f).p - 1)) :
    Calls Tryd.prog 100 #[.int .i64 f, .bool s, .func (.func 101) #[] #[], .func (.func 102) #[] #[]] w fun e w' => e = .returned (.tuple #[.int .u64 (((2 ^ ((fm f).w - (fm f).p) - 1 - l) * 2 ^ ((fm f).p - 1) + y + (fm f).sg s : Nat) : Int), .int .i64 0]) ∧ Below w.heap.size w w' := by
  have ok := fm_ok f
  obtain ⟨R, hR⟩ : ∃ R, R = (2 ^ ((fm f).w - (fm f).p) - 1 - l) * 2 ^ ((fm f).p - 1) + y + (fm f).sg s := ⟨_, rfl⟩
  rw [← hR]
  go_enter Tryd.func100, Tryd.ntmps100
  go_wp2_with fail
  refine (Params_ok f w hf hG).mono ?_
  rintro _ w1 ⟨rfl, hb1⟩
  generalize fm f = F at *
  obtain ⟨p8, p53, pw, w64, emx, emn, b16, b1023⟩ := id ok
  clear emx emn
  obtain ⟨t, ht⟩ : ∃ t, t = F.w - F.p := ⟨_, rfl⟩
  have w2 : IntKind.i64.wrap ((F.w : Int) - F.p) = (t : Int) := by rw [IntKind.wrap_i64]; omega
  have ht63 : t ≤ 63 := by omega
  obtain ⟨o1, ho1⟩ : ∃ o, Hid (o = 2 ^ t - 1) := ⟨_, Lib.hid rfl⟩
  obtain ⟨x, hx⟩ : ∃ x, x = o1 - l := ⟨_, rfl⟩
  rw [← ht, ← ho1.out] at hl1
  have hx1 : x < 2 ^ (F.w - F.p) := by rw [hx, ← ht, ho1.out]; have := pow_pos2 t; omega
  have ho64 : o1 < 18446744073709551616 := by rw [ho1.out]; have : (2 : Nat) ^ t ≤ 2 ^ 63 := Nat.pow_le_pow_right (by decide) ht63; omega
  have h3 : IntKind.u64.wrap ((o1 : Int) - (l : Int)) = (x : Int) := by rw [IntKind.wrap_u64]; omega
  have hjoin := fun wx => join_any F ok s x y wx hx1 hy1
  rw [show x * 2 ^ (F.p - 1) + y + F.sg s = R by rw [hR, hx, ho1.out, ht]] at hjoin
  have Hj := Lib.hid hjoin
  clear hjoin hR hx hl1 hx1 hy1 ho64 ht p8 p53 pw w64 b16 b1023 hG ok
  obtain ⟨W, hW⟩ : ∃ W, W = w1.alloc (Obj.cells #[.int .i64 F.w, .int .i64 F.p, .int .i64 F.emin, .int .i64 F.emax] 58) := ⟨_, rfl⟩
  have HB : Hid (Below w.heap.size w W) := by show Below _ _ _; rw [hW]; exact hb1.trans ((below1 _ _).mono hb1.size)
  have bx : BxP F W w1.heap.size := by rw [hW]; exact BxP.new ..
  obtain ⟨k0, k1, k2, k3⟩ := bx.cells
  clear bx hb1
  unfold PV
  go_upto_region 4 with (fail)
  rw [← hW]
  clear hW
  go_region_held3 (fun w' => w'.cell? ⟨w1.heap.size, 0, none⟩ = some (.int .i64 F.w) ∧ w'.cell? ⟨w1.heap.size, 1, none⟩ = some (.int .i64 F.p) ∧ w'.cell? ⟨w1.heap.size, 2, none⟩ = some (.int .i64 F.emin) ∧ w'.cell? ⟨w1.heap.size, 3, none⟩ = some (.int .i64 F.emax) ∧ Below W.heap.size W w')
    (first | exact ⟨k0, k1, k2, k3, (Below.refl _ _).drew⟩ | exact ⟨keep_cell hb1 k0, keep_cell hb1 k1, keep_cell hb1 k2, keep_cell hb1 k3, keep_below (Below.refl _ _).drew hb1⟩ | ((try go_split_ands); (try dsimp only); refine ⟨keep_cell hb4 ?_, keep_cell hb4 ?_, keep_cell hb4 ?_, keep_cell hb4 ?_, keep_below ?_ hb4⟩ <;> assumption) | ((try go_split_ands); (try dsimp only); refine ⟨keep_cell hb3 ?_, keep_cell hb3 ?_, keep_cell hb3 ?_, keep_cell hb3 ?_, keep_below ?_ hb3⟩ <;> assumption) | ((try go_split_ands); (try dsimp only); refine ⟨keep_cell hb2 ?_, keep_cell hb2 ?_, keep_cell hb2 ?_, keep_cell hb2 ?_, keep_below ?_ hb2⟩ <;> assumption))
    ((first | (go_at_call 77; refine (ones_below t o1 _ ht63 ho1).mono ?_; rintro _ w1 ⟨rfl, hb1⟩) | (go_at_call 101; refine (hl.out _).mono ?_; rintro _ w2 ⟨rfl, hb2⟩) | (go_at_call 102; refine (hy.out _).mono ?_; rintro _ w3 ⟨rfl, hb3⟩) | (go_at_call 79; refine (Hj.out _).mono ?_; rintro _ w4 ⟨rfl, hb4⟩)))
  replace HB := Lib.hid (HB.out.drew.trans (hb1.mono HB.out.drew.size))
  replace HB := Lib.hid (HB.out.trans (hb2.mono HB.out.size))
  replace HB := Lib.hid (HB.out.trans (hb3.mono HB.out.size))
  replace HB := Lib.hid (HB.out.trans (hb4.mono HB.out.size))
  clear hb1 hb2 hb3 hb4 h3 w2
  go_wp2
  go_ret2
  exact ⟨rfl, HB.out⟩

set_option maxRecDepth 100000 in
set_option maxHeartbeats 2000000 in
/-- special, with its two functions -/
theorem special_inf (f : Nat) (s : Bool) (w : World) (hf : f < 4) (hG : GlR w) (l y : Nat) (hl : Hid (∀ w, Calls Tryd.prog 101 #[PV (fm f)] w fun e w' => e = .returned (.int .u64 (l : Int)) ∧ Below w.heap.size w w'))
    (hy : Hid (∀ w, Calls Tryd.prog 101 #[PV (fm f)] w fun e w' => e = .returned (.int .u64 (y : Int)) ∧ Below w.heap.size w w'))
    (hl1 : l ≤ 2 ^ ((fm f).w - (fm f).p) - 1) (hy1 : y < 2 ^ ((fm f).p - 1)) :
    Calls Tryd.prog 100 #[.int .i64 f, .bool s, .func (.func 101) #[] #[], .func (.func 101) #[] #[]] w fun e w' => e = .returned (.tuple #[.int .u64 (((2 ^ ((fm f).w - (fm f).p) - 1 - l) * 2 ^ ((fm f).p - 1) + y + (fm f).sg s : Nat) : Int), .int .i64 0]) ∧ Below w.heap.size w w' := by
  have ok := fm_ok f
  obtain ⟨R, hR⟩ : ∃ R, R = (2 ^ ((fm f).w - (fm f).p) - 1 - l) * 2 ^ ((fm f).p - 1) + y + (fm f).sg s := ⟨_, rfl⟩
  rw [← hR]
  go_enter Tryd.func100, Tryd.ntmps100
  go_wp2_with fail
  refine (Params_ok f w hf hG).mono ?_
  rintro _ w1 ⟨rfl, hb1⟩
  generalize fm f = F at *
  obtain ⟨p8, p53, pw, w64, emx, emn, b16, b1023⟩ := id ok
  clear emx emn
  obtain ⟨t, ht⟩ : ∃ t, t = F.w - F.p := ⟨_, rfl⟩
  have w2 : IntKind.i64.wrap ((F.w : Int) - F.p) = (t : Int) := by rw [IntKind.wrap_i64]; omega
  have ht63 : t ≤ 63 := by omega
  obtain ⟨o1, ho1⟩ : ∃ o, Hid (o = 2 ^ t - 1) := ⟨_, Lib.hid rfl⟩
  obtain ⟨x, hx⟩ : ∃ x, x = o1 - l := ⟨_, rfl⟩
  rw [← ht, ← ho1.out] at hl1
  have hx1 : x < 2 ^ (F.w - F.p) := by rw [hx, ← ht, ho1.out]; have := pow_pos2 t; omega
  have ho64 : o1 < 18446744073709551616 := by rw [ho1.out]; have : (2 : Nat) ^ t ≤ 2 ^ 63 := Nat.pow_le_pow_right (by decide) ht63; omega
  have h3 : IntKind.u64.wrap ((o1 : Int) - (l : Int)) = (x : Int) := by rw [IntKind.wrap_u64]; omega
  have hjoin := fun wx => join_any F ok s x y wx hx1 hy1
  rw [show x * 2 ^ (F.p - 1) + y + F.sg s = R by rw [hR, hx, ho1.out, ht]] at hjoin
  have Hj := Lib.hid hjoin
  clear hjoin hR hx hl1 hx1 hy1 ho64 ht p8 p53 pw w64 b16 b1023 hG ok
  obtain ⟨W, hW⟩ : ∃ W, W = w1.alloc (Obj.cells #[.int .i64 F.w, .int .i64 F.p, .int .i64 F.emin, .int .i64 F.emax] 58) := ⟨_, rfl⟩
  have HB : Hid (Below w.heap.size w W) := by show Below _ _ _; rw [hW]; exact hb1.trans ((below1 _ _).mono hb1.size)
  have bx : BxP F W w1.heap.size := by rw [hW]; exact BxP.new ..
  obtain ⟨k0, k1, k2, k3⟩ := bx.cells
  clear bx hb1
  unfold PV
  go_upto_region 4 with (fail)
  rw [← hW]
  clear hW
  go_region_held3 (fun w' => w'.cell? ⟨w1.heap.size, 0, none⟩ = some (.int .i64 F.w) ∧ w'.cell? ⟨w1.heap.size, 1, none⟩ = some (.int .i64 F.p) ∧ w'.cell? ⟨w1.heap.size, 2, none⟩ = some (.int .i64 F.emin) ∧ w'.cell? ⟨w1.heap.size, 3, none⟩ = some (.int .i64 F.emax) ∧ Below W.heap.size W w')
    (first | exact ⟨k0, k1, k2, k3, (Below.refl _ _).drew⟩ | exact ⟨keep_cell hb1 k0, keep_cell hb1 k1, keep_cell hb1 k2, keep_cell hb1 k3, keep_below (Below.refl _ _).drew hb1⟩ | ((try go_split_ands); (try dsimp only); refine ⟨keep_cell hb4 ?_, keep_cell hb4 ?_, keep_cell hb4 ?_, keep_cell hb4 ?_, keep_below ?_ hb4⟩ <;> assumption) | ((try go_split_ands); (try dsimp only); refine ⟨keep_cell hb3 ?_, keep_cell hb3 ?_, keep_cell hb3 ?_, keep_cell hb3 ?_, keep_below ?_ hb3⟩ <;> assumption) | ((try go_split_ands); (try dsimp only); refine ⟨keep_cell hb2 ?_, keep_cell hb2 ?_, keep_cell hb2 ?_, keep_cell hb2 ?_, keep_below ?_ hb2⟩ <;> assumption))
    ((first | (go_at_call 77; refine (ones_below t o1 _ ht63 ho1).mono ?_; rintro _ w1 ⟨rfl, hb1⟩) | (go_at_call 101; have hbx := hb2; clear hbx; refine (hy.out _).mono ?_; rintro _ w3 ⟨rfl, hb3⟩) | (go_at_call 101; refine (hl.out _).mono ?_; rintro _ w2 ⟨rfl, hb2⟩) | (go_at_call 79; refine (Hj.out _).mono ?_; rintro _ w4 ⟨rfl, hb4⟩)))
  replace HB := Lib.hid (HB.out.drew.trans (hb1.mono HB.out.drew.size))
  replace HB := Lib.hid (HB.out.trans (hb2.mono HB.out.size))
  replace HB := Lib.hid (HB.out.trans (hb3.mono HB.out.size))
  replace HB := Lib.hid (HB.out.trans (hb4.mono HB.out.size))
  clear hb1 hb2 hb3 hb4 h3 w2
  go_wp2
  go_ret2
  exact ⟨rfl, HB.out⟩

set_option maxRecDepth 100000 in
set_option maxHeartbeats 2000000 in
/-- special, with its two functions -/
theorem special_zero (f : Nat) (s : Bool) (w : World) (hf : f < 4) (hG : GlR w) (l y : Nat) (hl : Hid (∀ w, Calls Tryd.prog 103 #[PV (fm f)] w fun e w' => e = .returned (.int .u64 (l : Int)) ∧ Below w.heap.size w w'))
    (hy : Hid (∀ w, Calls Tryd.prog 101 #[PV (fm f)] w fun e w' => e = .returned (.int .u64 (y : Int)) ∧ Below w.heap.size w w'))
    (hl1 : l ≤ 2 ^ ((fm f).w - (fm f).p) - 1) (hy1 : y < 2 ^ ((fm f).p - 1)) :
    Calls Tryd.prog 100 #[.int .i64 f, .bool s, .func (.func 103) #[] #[], .func (.func 101) #[] #[]] w fun e w' => e = .returned (.tuple #[.int .u64 (((2 ^ ((fm f).w - (fm f).p) - 1 - l) * 2 ^ ((fm f).p - 1) + y + (fm f).sg s : Nat) : Int), .int .i64 0]) ∧ Below w.heap.size w w' := by
  have ok := fm_ok f
  obtain ⟨R, hR⟩ : ∃ R, R = (2 ^ ((fm f).w - (fm f).p) - 1 - l) * 2 ^ ((fm f).p - 1) + y + (fm f).sg s := ⟨_, rfl⟩
  rw [← hR]
  go_enter Tryd.func100, Tryd.ntmps100
  go_wp2_with fail
  refine (Params_ok f w hf hG).mono ?_
  rintro _ w1 ⟨rfl, hb1⟩
  generalize fm f = F at *
  obtain ⟨p8, p53, pw, w64, emx, emn, b16, b1023⟩ := id ok
  clear emx emn
  obtain ⟨t, ht⟩ : ∃ t, t = F.w - F.p := ⟨_, rfl⟩
  have w2 : IntKind.i64.wrap ((F.w : Int) - F.p) = (t : Int) := by rw [IntKind.wrap_i64]; omega
  have ht63 : t ≤ 63 := by omega
  obtain ⟨o1, ho1⟩ : ∃ o, Hid (o = 2 ^ t - 1) := ⟨_, Lib.hid rfl⟩
  obtain ⟨x, hx⟩ : ∃ x, x = o1 - l := ⟨_, rfl⟩
  rw [← ht, ← ho1.out] at hl1
  have hx1 : x < 2 ^ (F.w - F.p) := by rw [hx, ← ht, ho1.out]; have := pow_pos2 t; omega
  have ho64 : o1 < 18446744073709551616 := by rw [ho1.out]; have : (2 : Nat) ^ t ≤ 2 ^ 63 := Nat.pow_le_pow_right (by decide) ht63; omega
  have h3 : IntKind.u64.wrap ((o1 : Int) - (l : Int)) = (x : Int) := by rw [IntKind.wrap_u64]; omega
  have hjoin := fun wx => join_any F ok s x y wx hx1 hy1
  rw [show x * 2 ^ (F.p - 1) + y + F.sg s = R by rw [hR, hx, ho1.out, ht]] at hjoin
  have Hj := Lib.hid hjoin
  clear hjoin hR hx hl1 hx1 hy1 ho64 ht p8 p53 pw w64 b16 b1023 hG ok
  obtain ⟨W, hW⟩ : ∃ W, W = w1.alloc (Obj.cells #[.int .i64 F.w, .int .i64 F.p, .int .i64 F.emin, .int .i64 F.emax] 58) := ⟨_, rfl⟩
  have HB : Hid (Below w.heap.size w W) := by show Below _ _ _; rw [hW]; exact hb1.trans ((below1 _ _).mono hb1.size)
  have bx : BxP F W w1.heap.size := by rw [hW]; exact BxP.new ..
  obtain ⟨k0, k1, k2, k3⟩ := bx.cells
  clear bx hb1
  unfold PV
  go_upto_region 4 with (fail)
  rw [← hW]
  clear hW
  go_region_held3 (fun w' => w'.cell? ⟨w1.heap.size, 0, none⟩ = some (.int .i64 F.w) ∧ w'.cell? ⟨w1.heap.size, 1, none⟩ = some (.int .i64 F.p) ∧ w'.cell? ⟨w1.heap.size, 2, none⟩ = some (.int .i64 F.emin) ∧ w'.cell? ⟨w1.heap.size, 3, none⟩ = some (.int .i64 F.emax) ∧ Below W.heap.size W w')
    (first | exact ⟨k0, k1, k2, k3, (Below.refl _ _).drew⟩ | exact ⟨keep_cell hb1 k0, keep_cell hb1 k1, keep_cell hb1 k2, keep_cell hb1 k3, keep_below (Below.refl _ _).drew hb1⟩ | ((try go_split_ands); (try dsimp only); refine ⟨keep_cell hb4 ?_, keep_cell hb4 ?_, keep_cell hb4 ?_, keep_cell hb4 ?_, keep_below ?_ hb4⟩ <;> assumption) | ((try go_split_ands); (try dsimp only); refine ⟨keep_cell hb3 ?_, keep_cell hb3 ?_, keep_cell hb3 ?_, keep_cell hb3 ?_, keep_below ?_ hb3⟩ <;> assumption) | ((try go_split_ands); (try dsimp only); refine ⟨keep_cell hb2 ?_, keep_cell hb2 ?_, keep_cell hb2 ?_, keep_cell hb2 ?_, keep_below ?_ hb2⟩ <;> assumption))
    ((first | (go_at_call 77; refine (ones_below t o1 _ ht63 ho1).mono ?_; rintro _ w1 ⟨rfl, hb1⟩) | (go_at_call 103; refine (hl.out _).mono ?_; rintro _ w2 ⟨rfl, hb2⟩) | (go_at_call 101; refine (hy.out _).mono ?_; rintro _ w3 ⟨rfl, hb3⟩) | (go_at_call 79; refine (Hj.out _).mono ?_; rintro _ w4 ⟨rfl, hb4⟩)))
  replace HB := Lib.hid (HB.out.drew.trans (hb1.mono HB.out.drew.size))
  replace HB := Lib.hid (HB.out.trans (hb2.mono HB.out.size))
  replace HB := Lib.hid (HB.out.trans (hb3.mono HB.out.size))
  replace HB := Lib.hid (HB.out.trans (hb4.mono HB.out.size))
  clear hb1 hb2 hb3 hb4 h3 w2
  go_wp2
  go_ret2
  exact ⟨rfl, HB.out⟩

set_option maxRecDepth 100000 in
set_option maxHeartbeats 2000000 in
/-- special, with its two functions -/
theorem special_great (f : Nat) (s : Bool) (w : World) (hf : f < 4) (hG : GlR w) (l y : Nat) (hl : Hid (∀ w, Calls Tryd.prog 164 #[PV (fm f)] w fun e w' => e = .returned (.int .u64 (l : Int)) ∧ Below w.heap.size w w'))
    (hy : Hid (∀ w, Calls Tryd.prog 165 #[PV (fm f)] w fun e w' => e = .returned (.int .u64 (y : Int)) ∧ Below w.heap.size w w'))
    (hl1 : l ≤ 2 ^ ((fm f).w - (fm f).p) - 1) (hy1 : y < 2 ^ ((fm f).p - 1)) :
    Calls Tryd.prog 100 #[.int .i64 f, .bool s, .func (.func 164) #[] #[], .func (.func 165) #[] #[]] w fun e w' => e = .returned (.tuple #[.int .u64 (((2 ^ ((fm f).w - (fm f).p) - 1 - l) * 2 ^ ((fm f).p - 1) + y + (fm f).sg s : Nat) : Int), .int .i64 0]) ∧ Below w.heap.size w w' := by
  have ok := fm_ok f
  obtain ⟨R, hR⟩ : ∃ R, R = (2 ^ ((fm f).w - (fm f).p) - 1 - l) * 2 ^ ((fm f).p - 1) + y + (fm f).sg s := ⟨_, rfl⟩
  rw [← hR]
  go_enter Tryd.func100, Tryd.ntmps100
  go_wp2_with fail
  refine (Params_ok f w hf hG).mono ?_
  rintro _ w1 ⟨rfl, hb1⟩
  generalize fm f = F at *
  obtain ⟨p8, p53, pw, w64, emx, emn, b16, b1023⟩ := id ok
  clear emx emn
  obtain ⟨t, ht⟩ : ∃ t, t = F.w - F.p := ⟨_, rfl⟩
  have w2 : IntKind.i64.wrap ((F.w : Int) - F.p) = (t : Int) := by rw [IntKind.wrap_i64]; omega
  have ht63 : t ≤ 63 := by omega
  obtain ⟨o1, ho1⟩ : ∃ o, Hid (o = 2 ^ t - 1) := ⟨_, Lib.hid rfl⟩
  obtain ⟨x, hx⟩ : ∃ x, x = o1 - l := ⟨_, rfl⟩
  rw [← ht, ← ho1.out] at hl1
  have hx1 : x < 2 ^ (F.w - F.p) := by rw [hx, ← ht, ho1.out]; have := pow_pos2 t; omega
  have ho64 : o1 < 18446744073709551616 := by rw [ho1.out]; have : (2 : Nat) ^ t ≤ 2 ^ 63 := Nat.pow_le_pow_right (by decide) ht63; omega
  have h3 : IntKind.u64.wrap ((o1 : Int) - (l : Int)) = (x : Int) := by rw [IntKind.wrap_u64]; omega
  have hjoin := fun wx => join_any F ok s x y wx hx1 hy1
  rw [show x * 2 ^ (F.p - 1) + y + F.sg s = R by rw [hR, hx, ho1.out, ht]] at hjoin
  have Hj := Lib.hid hjoin
  clear hjoin hR hx hl1 hx1 hy1 ho64 ht p8 p53 pw w64 b16 b1023 hG ok
  obtain ⟨W, hW⟩ : ∃ W, W = w1.alloc (Obj.cells #[.int .i64 F.w, .int .i64 F.p, .int .i64 F.emin, .int .i64 F.emax] 58) := ⟨_, rfl⟩
  have HB : Hid (Below w.heap.size w W) := by show Below _ _ _; rw [hW]; exact hb1.trans ((below1 _ _).mono hb1.size)
  have bx : BxP F W w1.heap.size := by rw [hW]; exact BxP.new ..
  obtain ⟨k0, k1, k2, k3⟩ := bx.cells
  clear bx hb1
  unfold PV
  go_upto_region 4 with (fail)
  rw [← hW]
  clear hW
  go_region_held3 (fun w' => w'.cell? ⟨w1.heap.size, 0, none⟩ = some (.int .i64 F.w) ∧ w'.cell? ⟨w1.heap.size, 1, none⟩ = some (.int .i64 F.p) ∧ w'.cell? ⟨w1.heap.size, 2, none⟩ = some (.int .i64 F.emin) ∧ w'.cell? ⟨w1.heap.size, 3, none⟩ = some (.int .i64 F.emax) ∧ Below W.heap.size W w')
    (first | exact ⟨k0, k1, k2, k3, (Below.refl _ _).drew⟩ | exact ⟨keep_cell hb1 k0, keep_cell hb1 k1, keep_cell hb1 k2, keep_cell hb1 k3, keep_below (Below.refl _ _).drew hb1⟩ | ((try go_split_ands); (try dsimp only); refine ⟨keep_cell hb4 ?_, keep_cell hb4 ?_, keep_cell hb4 ?_, keep_cell hb4 ?_, keep_below ?_ hb4⟩ <;> assumption) | ((try go_split_ands); (try dsimp only); refine ⟨keep_cell hb3 ?_, keep_cell hb3 ?_, keep_cell hb3 ?_, keep_cell hb3 ?_, keep_below ?_ hb3⟩ <;> assumption) | ((try go_split_ands); (try dsimp only); refine ⟨keep_cell hb2 ?_, keep_cell hb2 ?_, keep_cell hb2 ?_, keep_cell hb2 ?_, keep_below ?_ hb2⟩ <;> assumption))
    ((first | (go_at_call 77; refine (ones_below t o1 _ ht63 ho1).mono ?_; rintro _ w1 ⟨rfl, hb1⟩) | (go_at_call 164; refine (hl.out _).mono ?_; rintro _ w2 ⟨rfl, hb2⟩) | (go_at_call 165; refine (hy.out _).mono ?_; rintro _ w3 ⟨rfl, hb3⟩) | (go_at_call 79; refine (Hj.out _).mono ?_; rintro _ w4 ⟨rfl, hb4⟩)))
  replace HB := Lib.hid (HB.out.drew.trans (hb1.mono HB.out.drew.size))
  replace HB := Lib.hid (HB.out.trans (hb2.mono HB.out.size))
  replace HB := Lib.hid (HB.out.trans (hb3.mono HB.out.size))
  replace HB := Lib.hid (HB.out.trans (hb4.mono HB.out.size))
  clear hb1 hb2 hb3 hb4 h3 w2
  go_wp2
  go_ret2
  exact ⟨rfl, HB.out⟩

theorem NaN_ok (f : Nat) (w : World) (hf : f < 4) (hG : GlR w) : Calls Tryd.prog 55 #[.int .i64 f] w fun e w' => e = .returned (.tuple #[.int .u64 (((fm f).nan : Nat) : Int), .int .i64 0]) ∧ Below w.heap.size w w' := by
  have ok := fm_ok f
  have h := special_nan f false w hf hG (0) (2 ^ ((fm f).p - 2)) (Lib.hid fun w => none_any (fm f) w) (Lib.hid fun w => top_any (fm f) ok w) (Nat.zero_le _) (Nat.pow_lt_pow_right (by decide) (by have := ok.p8; omega))
  have e : (2 ^ ((fm f).w - (fm f).p) - 1 - (0)) * 2 ^ ((fm f).p - 1) + (2 ^ ((fm f).p - 2)) + (fm f).sg false = (fm f).nan := by
    unfold Fm.nan Fm.sg; rw [Nat.sub_zero, inf_parts]; simp
  rw [e] at h
  have H := Lib.hid h
  clear h hG
  generalize (fm f).nan = R at *
  go_enter Tryd.func55, Tryd.ntmps55
  go_wp2_with fail
  refine H.out.mono ?_
  rintro _ w1 ⟨rfl, hb1⟩
  clear H
  go_wp2
  go_ret2
  exact ⟨rfl, hb1⟩

theorem Inf_ok (f : Nat) (s : Bool) (w : World) (hf : f < 4) (hG : GlR w) : Calls Tryd.prog 58 #[.int .i64 f, .bool s] w fun e w' => e = .returned (.tuple #[.int .u64 (((fm f).inf + (fm f).sg s : Nat) : Int), .int .i64 0]) ∧ Below w.heap.size w w' := by
  have ok := fm_ok f
  have h := special_inf f s w hf hG (0) (0) (Lib.hid fun w => none_any (fm f) w) (Lib.hid fun w => none_any (fm f) w) (Nat.zero_le _) (pow_pos2 _)
  have e : (2 ^ ((fm f).w - (fm f).p) - 1 - (0)) * 2 ^ ((fm f).p - 1) + (0) + (fm f).sg s = (fm f).inf + (fm f).sg s := by
    rw [Nat.sub_zero, Nat.add_zero, inf_parts]
  rw [e] at h
  have H := Lib.hid h
  clear h hG
  generalize (fm f).inf + (fm f).sg s = R at *
  go_enter Tryd.func58, Tryd.ntmps58
  go_wp2_with fail
  refine H.out.mono ?_
  rintro _ w1 ⟨rfl, hb1⟩
  clear H
  go_wp2
  go_ret2
  exact ⟨rfl, hb1⟩

theorem Zero_ok (f : Nat) (s : Bool) (w : World) (hf : f < 4) (hG : GlR w) : Calls Tryd.prog 59 #[.int .i64 f, .bool s] w fun e w' => e = .returned (.tuple #[.int .u64 (((fm f).sg s : Nat) : Int), .int .i64 0]) ∧ Below w.heap.size w w' := by
  have ok := fm_ok f
  have h := special_zero f s w hf hG (2 ^ ((fm f).w - (fm f).p) - 1) (0) (Lib.hid fun w => all_any (fm f) ok w) (Lib.hid fun w => none_any (fm f) w) (Nat.le_refl _) (pow_pos2 _)
  have e : (2 ^ ((fm f).w - (fm f).p) - 1 - (2 ^ ((fm f).w - (fm f).p) - 1)) * 2 ^ ((fm f).p - 1) + (0) + (fm f).sg s = (fm f).sg s := by
    rw [Nat.sub_self, Nat.zero_mul, Nat.add_zero, Nat.zero_add]
  rw [e] at h
  have H := Lib.hid h
  clear h hG
  generalize (fm f).sg s = R at *
  go_enter Tryd.func59, Tryd.ntmps59
  go_wp2_with fail
  refine H.out.mono ?_
  rintro _ w1 ⟨rfl, hb1⟩
  clear H
  go_wp2
  go_ret2
  exact ⟨rfl, hb1⟩

theorem Great_ok (f : Nat) (s : Bool) (w : World) (hf : f < 4) (hG : GlR w) : Calls Tryd.prog 157 #[.int .i64 f, .bool s] w fun e w' => e = .returned (.tuple #[.int .u64 (((fm f).inf - 1 + (fm f).sg s : Nat) : Int), .int .i64 0]) ∧ Below w.heap.size w w' := by
  have ok := fm_ok f
  have h := special_great f s w hf hG (1) (2 ^ ((fm f).p - 1) - 1) (Lib.hid fun w => one_any (fm f) w) (Lib.hid fun w => fraction_any (fm f) ok w) (by have h2 : 2 ^ 1 ≤ 2 ^ ((fm f).w - (fm f).p) := Nat.pow_le_pow_right (by decide) (by have := ok.pw; omega); omega) (by have := pow_pos2 ((fm f).p - 1); omega)
  have e : (2 ^ ((fm f).w - (fm f).p) - 1 - (1)) * 2 ^ ((fm f).p - 1) + (2 ^ ((fm f).p - 1) - 1) + (fm f).sg s = (fm f).inf - 1 + (fm f).sg s := by
    rw [inf_parts]
    have h1 := pow_pos2 ((fm f).p - 1)
    have h2 : 2 ^ 1 ≤ 2 ^ ((fm f).w - (fm f).p) := Nat.pow_le_pow_right (by decide) (by have := ok.pw; omega)
    obtain ⟨z, hz⟩ : ∃ z, 2 ^ ((fm f).w - (fm f).p) = z + 2 := ⟨2 ^ ((fm f).w - (fm f).p) - 2, by omega⟩
    rw [hz, show z + 2 - 1 - 1 = z by omega, show z + 2 - 1 = z + 1 by omega, Nat.add_mul]
    omega
  rw [e] at h
  have H := Lib.hid h
  clear h hG
  generalize (fm f).inf - 1 + (fm f).sg s = R at *
  go_enter Tryd.func157, Tryd.ntmps157
  go_wp2_with fail
  refine H.out.mono ?_
  rintro _ w1 ⟨rfl, hb1⟩
  clear H
  go_wp2
  go_ret2
  exact ⟨rfl, hb1⟩

end Go.Proofs.YtcgceigmglikpaaDoor
