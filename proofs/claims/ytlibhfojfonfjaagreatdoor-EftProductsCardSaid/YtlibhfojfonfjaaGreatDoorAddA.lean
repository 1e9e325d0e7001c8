/- The walk of addsub.finite. Printed by gen/addfin.py. -/
import Derived.Test.YtlibhfojfonfjaaGreatDoorPackW
import Derived.Test.YtlibhfojfonfjaaGreatDoorRefO
namespace Go.Proofs.YtlibhfojfonfjaaGreatDoor
set_option linter.unusedVariables false
set_option linter.unusedSimpArgs false
open Go.RowKit

def nmA (s : Bool) (n : Nat) (e : Int) : Array Value := #[.bool s, .int .u64 n, .int .i64 e]
theorem Bx.nm {w : World} {g : Nat} {s : Bool} {n : Nat} {e : Int} (h : Bx w g (nmA s n e)) : w.cell? ⟨g, 0, none⟩ = some (.bool s) ∧ w.cell? ⟨g, 1, none⟩ = some (.int .u64 n) ∧ w.cell? ⟨g, 2, none⟩ = some (.int .i64 e) := ⟨h.cell 0 rfl, h.cell 1 rfl, h.cell 2 rfl⟩
theorem Bx.set3' {w : World} {g : Nat} {a0 a1 a2 : Value} (h : Bx w g #[a0, a1, a2]) (x0 x1 x2 : Value) : Bx (((w.setCell ⟨g, 0, none⟩ x0).setCell ⟨g, 1, none⟩ x1).setCell ⟨g, 2, none⟩ x2) g #[x0, x1, x2] := by
  obtain ⟨t, h⟩ := h
  refine ⟨t, ?_⟩
  simp [World.setCell, Array.getElem?_modify, h]
theorem cell_one_other {w : World} {g g' o o' : Nat} {v x : Value} (hne : g' ≠ g) (h : w.cell? ⟨g', o', none⟩ = some x) : (w.setCell ⟨g, o, none⟩ v).cell? ⟨g', o', none⟩ = some x := by
  rw [World.cell?_setCell_other _ _ _ _ (fun e => by injection e with e1; omega)]
  exact h
theorem wrap64_of (y : Int) (h1 : -9223372036854775808 ≤ y) (h2 : y < 9223372036854775808) : wrap64 y = y := by unfold wrap64; omega
theorem fin_wraps {x p : Nat} {m E : Int} (hx : x ≠ 0 ∧ x < 2 ^ 60) (hm : -1022 ≤ m ∧ m ≤ 0) (hp : p ≤ 53) (he : E = m - p + 1 + x - 1) :
    wrap64 (x : Int) = (x : Int) ∧ wrap64 ((x : Int) - 1) = (x : Int) - 1 ∧ wrap64 (m - (p : Int) + 1 + ((x : Int) - 1)) = E := by
  have h2 : (2 : Nat) ^ 60 = 1152921504606846976 := by decide
  rw [h2] at hx
  refine ⟨wrap64_of _ (by omega) (by omega), wrap64_of _ (by omega) (by omega), ?_⟩
  rw [wrap64_of _ (by omega) (by omega)]
  omega
theorem Bx.drew {w : World} {g : Nat} {arr : Array Value} (h : Bx w g arr) : Bx w.drew g arr := h

set_option maxRecDepth 100000 in
set_option maxHeartbeats 4000000 in
theorem afinite_sub (f a : Nat) (w : World) (hf : f < 4) (ha : a < 2 ^ (fm f).w) (hG : GlR w) (hx : (fm f).fx a = 0) :
    Calls Tryz.prog 86 #[.int .i64 f, PV (fm f), .int .u64 a] w fun e w' => e = .returned (.agg (nmA ((fm f).neg a) ((fm f).mag a) ((fm f).ex a))) ∧ Below w.heap.size w w' := by
  have ok := fm_ok f
  have hfl := fun wx h => Fields_ok f a wx hf ha h
  obtain ⟨hm, he⟩ := mag_ex (F := fm f) a
  have hyl := fy_lt (F := fm f) a
  have hxl := fx_lt ok a
  rw [if_pos hx] at hm he
  rw [hx] at hfl
  rw [hm, he]
  obtain ⟨p8, p53, pw, w64, emx, emn, b16, b1023⟩ := ok
  have i1 : IntKind.i64.wrap ((fm f).emin - (fm f).p) = (fm f).emin - (fm f).p := by rw [IntKind.wrap_i64]; omega
  have i2 : IntKind.i64.wrap ((fm f).emin - (fm f).p + 1) = (fm f).emin - (fm f).p + 1 := by rw [IntKind.wrap_i64]; omega
  have Hfl := Lib.hid hfl
  have b1 := (BxP.new (fm f) w 65).below (below1 _ (.cells #[.bool false, .int .u64 0, .int .i64 0] 132))
  have b2 := Bx.new (w.alloc (.cells #[.int .i64 (fm f).w, .int .i64 (fm f).p, .int .i64 (fm f).emin, .int .i64 (fm f).emax] 65)) #[.bool false, .int .u64 0, .int .i64 0] 132
  have hb : Below w.heap.size w ((w.alloc (.cells #[.int .i64 (fm f).w, .int .i64 (fm f).p, .int .i64 (fm f).emin, .int .i64 (fm f).emax] 65)).alloc (.cells #[.bool false, .int .u64 0, .int .i64 0] 132)) := ((Below.refl _ _).alloc (Nat.le_refl _) _).alloc (by simp) _
  rw [show (w.alloc (.cells #[.int .i64 (fm f).w, .int .i64 (fm f).p, .int .i64 (fm f).emin, .int .i64 (fm f).emax] 65)).heap.size = w.heap.size + 1 by simp] at b2
  have HG := Lib.hid (hG.below hb)
  clear hf ha hG hx hfl hxl emx emn p8 p53 pw w64 b16 b1023 hm he hyl
  generalize (fm f).neg a = s at *
  generalize (fm f).fy a = y at *
  generalize fm f = F at *
  obtain ⟨W, hW⟩ : ∃ W, W = (w.alloc (.cells #[.int .i64 F.w, .int .i64 F.p, .int .i64 F.emin, .int .i64 F.emax] 65)).alloc (.cells #[.bool false, .int .u64 0, .int .i64 0] 132) := ⟨_, rfl⟩
  rw [← hW] at b1 b2 hb HG
  have B1 := Lib.hid b1
  have B2 := Lib.hid b2
  have HB := Lib.hid hb
  clear b1 b2 hb
  unfold PV
  go_enter Tryz.func86, Tryz.ntmps86
  go_upto_region 1 with (fail)
  rw [← hW]
  clear hW
  go_wp2_with fail
  refine (Hfl.out _ HG.out).mono ?_
  rintro _ w3 ⟨rfl, hb3⟩
  replace B1 := Lib.hid (B1.out.below hb3)
  replace B2 := Lib.hid (B2.out.below hb3)
  replace HB := Lib.hid (keep_belowB HB.out hb3 (Nat.le_refl _))
  clear hb3 Hfl HG
  obtain ⟨q0, q1, q2, q3⟩ := B1.out.cells
  have hlt := B2.out.lt
  go_upto_region 3 with (fail)
  clear q0 q1 q2 q3
  replace B1 := Lib.hid (B1.out.below (below1 w3 (.cells (nmA s y (F.emin - F.p + 1)) 132)))
  replace B2 := Lib.hid (B2.out.below (below1 w3 (.cells (nmA s y (F.emin - F.p + 1)) 132)))
  have B3 := Lib.hid (Bx.new w3 (nmA s y (F.emin - F.p + 1)) 132)
  replace HB := Lib.hid (HB.out.alloc HB.out.size (.cells (nmA s y (F.emin - F.p + 1)) 132))
  have hne1 : w3.heap.size ≠ w.heap.size + 1 := by omega
  have hne2 : w3.heap.size ≠ w.heap.size := by omega
  have hle : w.heap.size ≤ w3.heap.size := by omega
  clear hlt
  generalize hX : w3.alloc (.cells (nmA s y (F.emin - F.p + 1)) 132) = X at *
  unfold nmA at hX
  rw [hX]
  clear hX
  generalize w3.heap.size = g at *
  obtain ⟨z0, z1, z2⟩ := B3.out.nm
  obtain ⟨y0, y1, y2⟩ := (show Bx X (w.heap.size + 1) (nmA false 0 0) from B2.out).nm
  have yf : ∀ j, X.frozen? ⟨w.heap.size + 1, j, none⟩ = false := fun j => B2.out.free j
  go_wp2_with fail
  have hbd := (((HB.out.setCell (p := ⟨w.heap.size + 1, 0, none⟩) (Nat.le_succ _) (.bool s)).setCell (p := ⟨w.heap.size + 1, 1, none⟩) (Nat.le_succ _) (.int .u64 y)).setCell (p := ⟨w.heap.size + 1, 2, none⟩) (Nat.le_succ _) (.int .i64 (F.emin - F.p + 1)))
  obtain ⟨r0, r1, r2⟩ := (show Bx _ _ (nmA s y (F.emin - F.p + 1)) from B2.out.set3' (.bool s) (.int .u64 y) (.int .i64 (F.emin - F.p + 1))).nm
  refine bodyPost_ret (v := .agg (nmA s y (F.emin - F.p + 1))) (by simp [results, Tryz.results86, go_sem, r0, r1, r2, nmA]) rfl ⟨rfl, hbd⟩

set_option maxRecDepth 100000 in
set_option maxHeartbeats 4000000 in
theorem afinite_norm (f a : Nat) (w : World) (hf : f < 4) (ha : a < 2 ^ (fm f).w) (hG : GlR w) (hx : (fm f).fx a ≠ 0) :
    Calls Tryz.prog 86 #[.int .i64 f, PV (fm f), .int .u64 a] w fun e w' => e = .returned (.agg (nmA ((fm f).neg a) ((fm f).mag a) ((fm f).ex a))) ∧ Below w.heap.size w w' := by
  have ok := fm_ok f
  have hfl := fun wx h => Fields_ok f a wx hf ha h
  obtain ⟨hm, he⟩ := mag_ex (F := fm f) a
  have hyl := fy_lt (F := fm f) a
  have hxl := fx_lt ok a
  rw [if_neg hx] at hm he
  have hor := or_add 1 ((fm f).fy a) ((fm f).p - 1) hyl
  rw [Nat.one_mul] at hor
  rw [← hor] at hm
  obtain ⟨N, hN⟩ : ∃ N, N = (fm f).mag a := ⟨_, rfl⟩
  obtain ⟨E, hE⟩ : ∃ N, N = (fm f).ex a := ⟨_, rfl⟩
  rw [← hN, ← hE]
  rw [← hN] at hm
  rw [← hE] at he
  obtain ⟨p8, p53, pw, w64, emx, emn, b16, b1023⟩ := ok
  have i1 : IntKind.i64.wrap ((fm f).emin - (fm f).p) = (fm f).emin - (fm f).p := by rw [IntKind.wrap_i64]; omega
  have i2 : IntKind.i64.wrap ((fm f).emin - (fm f).p + 1) = (fm f).emin - (fm f).p + 1 := by rw [IntKind.wrap_i64]; omega
  have hP : (2 : Nat) ^ ((fm f).p - 1) ≤ 2 ^ 52 := Nat.pow_le_pow_right (by decide) (by omega)
  have hx60 : (fm f).fx a < 2 ^ 60 := Nat.lt_of_lt_of_le hxl (Nat.pow_le_pow_right (by decide) (by omega))
  have hbor : bits .or .u64 ((fm f).fy a : Int) ((2 ^ ((fm f).p - 1) : Nat) : Int) = (N : Int) := by
    rw [bits_or_u64_nat _ _ (by omega) (by omega), hm, Nat.or_comm]
  have i3 : IntKind.i64.wrap (((fm f).p : Int) - 1) = (((fm f).p - 1 : Nat) : Int) := by rw [IntKind.wrap_i64]; omega
  have hEb : -9223372036854775808 ≤ E ∧ E ≤ 9223372036854775807 := by rw [he]; omega
  obtain ⟨hE1, hE2⟩ := hEb
  have i6 : IntKind.u64.wrap (2 ^ min ((fm f).p - 1) 64) = ((2 ^ ((fm f).p - 1) : Nat) : Int) := by
    rw [Nat.min_eq_left (by omega)]
    have : ((2 : Int) ^ ((fm f).p - 1)) = ((2 ^ ((fm f).p - 1) : Nat) : Int) := by simp
    rw [this, wrap_u64_nat]; omega
  have hx0 : decide ((fm f).fx a > 0) = true := by rw [decide_eq_true_eq]; omega
  obtain ⟨k, hk⟩ : ∃ k, k = (fm f).p - 1 := ⟨_, rfl⟩
  rw [← hk] at hbor i3 i6
  obtain ⟨T, hT⟩ : ∃ T, T = 2 ^ k := ⟨_, rfl⟩
  rw [← hT] at hbor i6
  have IW := Lib.hid (fin_wraps ⟨hx, hx60⟩ (by omega) p53 he)
  have Hfl := Lib.hid hfl
  have b1 := (BxP.new (fm f) w 65).below (below1 _ (.cells #[.bool false, .int .u64 0, .int .i64 0] 132))
  have b2 := Bx.new (w.alloc (.cells #[.int .i64 (fm f).w, .int .i64 (fm f).p, .int .i64 (fm f).emin, .int .i64 (fm f).emax] 65)) #[.bool false, .int .u64 0, .int .i64 0] 132
  have hb : Below w.heap.size w ((w.alloc (.cells #[.int .i64 (fm f).w, .int .i64 (fm f).p, .int .i64 (fm f).emin, .int .i64 (fm f).emax] 65)).alloc (.cells #[.bool false, .int .u64 0, .int .i64 0] 132)) := ((Below.refl _ _).alloc (Nat.le_refl _) _).alloc (by simp) _
  rw [show (w.alloc (.cells #[.int .i64 (fm f).w, .int .i64 (fm f).p, .int .i64 (fm f).emin, .int .i64 (fm f).emax] 65)).heap.size = w.heap.size + 1 by simp] at b2
  have HG := Lib.hid (hG.below hb)
  clear hf ha hG hx hfl hxl emx emn p8 p53 pw w64 b16 b1023 hm he hN hE hyl hor hP hx60 hk hT
  generalize (fm f).neg a = s at *
  generalize (fm f).fy a = y at *
  generalize (fm f).fx a = x at *
  generalize fm f = F at *
  obtain ⟨W, hW⟩ : ∃ W, W = (w.alloc (.cells #[.int .i64 F.w, .int .i64 F.p, .int .i64 F.emin, .int .i64 F.emax] 65)).alloc (.cells #[.bool false, .int .u64 0, .int .i64 0] 132) := ⟨_, rfl⟩
  rw [← hW] at b1 b2 hb HG
  have B1 := Lib.hid b1
  have B2 := Lib.hid b2
  have HB := Lib.hid hb
  clear b1 b2 hb
  unfold PV
  go_enter Tryz.func86, Tryz.ntmps86
  go_upto_region 1 with (fail)
  rw [← hW]
  clear hW
  go_wp2_with fail
  refine (Hfl.out _ HG.out).mono ?_
  rintro _ w3 ⟨rfl, hb3⟩
  replace B1 := Lib.hid (B1.out.below hb3)
  replace B2 := Lib.hid (B2.out.below hb3)
  replace HB := Lib.hid (keep_belowB HB.out hb3 (Nat.le_refl _))
  clear hb3 Hfl HG
  obtain ⟨q0, q1, q2, q3⟩ := B1.out.cells
  have hlt := B2.out.lt
  go_upto_region 3 with (fail)
  clear q0 q1 q2 q3
  replace B1 := Lib.hid (B1.out.below (below1 w3 (.cells (nmA s y (F.emin - F.p + 1)) 132)))
  replace B2 := Lib.hid (B2.out.below (below1 w3 (.cells (nmA s y (F.emin - F.p + 1)) 132)))
  have B3 := Lib.hid (Bx.new w3 (nmA s y (F.emin - F.p + 1)) 132)
  replace HB := Lib.hid (HB.out.alloc HB.out.size (.cells (nmA s y (F.emin - F.p + 1)) 132))
  have hne1 : w3.heap.size ≠ w.heap.size + 1 := by omega
  have hne2 : w3.heap.size ≠ w.heap.size := by omega
  have hle : w.heap.size ≤ w3.heap.size := by omega
  clear hlt
  generalize hX : w3.alloc (.cells (nmA s y (F.emin - F.p + 1)) 132) = X at *
  unfold nmA at hX
  rw [hX]
  clear hX
  generalize w3.heap.size = g at *
  obtain ⟨q0, q1, q2, q3⟩ := B1.out.cells
  obtain ⟨z0, z1, z2⟩ := B3.out.nm
  have zf : ∀ j, X.frozen? ⟨g, j, none⟩ = false := fun j => B3.out.free j
  have hne2' : w.heap.size ≠ g := fun h => hne2 h.symm
  go_upto_region 4 with (fail)
  go_region
  have hbd := (HB.out.setCell (p := ⟨g, 1, none⟩) hle (.int .u64 N)).drew
  have c2 := (B2.out.other (p := ⟨g, 1, none⟩) hne1 (.int .u64 N)).drew
  have c3 := (show Bx _ _ (nmA s N (F.emin - F.p + 1)) from B3.out.put 1 (.int .u64 N) _ rfl).drew
  generalize (X.setCell ⟨g, 1, none⟩ (.int .u64 N)).drew = Y at *
  clear B1 B2 B3 HB q0 q1 q2 q3 z0 z1 z2 zf hx0 hbor i6
  obtain ⟨z0, z1, z2⟩ := c3.nm
  have zf : ∀ j, Y.frozen? ⟨g, j, none⟩ = false := fun j => c3.free j
  have C2 := Lib.hid c2
  have C3 := Lib.hid c3
  have HB := Lib.hid hbd
  clear c2 c3 hbd
  obtain ⟨i7, i8, i9⟩ := IW.out
  clear IW
  go_upto_region 6 with (fail)
  clear i7 i8 i9
  have hbd := HB.out.setCell (p := ⟨g, 2, none⟩) hle (.int .i64 E)
  have c2 := C2.out.other (p := ⟨g, 2, none⟩) hne1 (.int .i64 E)
  have c3 := show Bx _ _ (nmA s N E) from C3.out.put 2 (.int .i64 E) _ rfl
  generalize Y.setCell ⟨g, 2, none⟩ (.int .i64 E) = Z at *
  clear C2 C3 HB z0 z1 z2 zf
  obtain ⟨z0, z1, z2⟩ := c3.nm
  obtain ⟨y0, y1, y2⟩ := (show Bx Z (w.heap.size + 1) (nmA false 0 0) from c2).nm
  have yf : ∀ j, Z.frozen? ⟨w.heap.size + 1, j, none⟩ = false := fun j => c2.free j
  have C2 := Lib.hid c2
  have HB := Lib.hid hbd
  clear c2 c3 hbd
  go_wp2_with fail
  have hbd := (((HB.out.setCell (p := ⟨w.heap.size + 1, 0, none⟩) (Nat.le_succ _) (.bool s)).setCell (p := ⟨w.heap.size + 1, 1, none⟩) (Nat.le_succ _) (.int .u64 N)).setCell (p := ⟨w.heap.size + 1, 2, none⟩) (Nat.le_succ _) (.int .i64 E))
  obtain ⟨r0, r1, r2⟩ := (show Bx _ _ (nmA s N E) from C2.out.set3' (.bool s) (.int .u64 N) (.int .i64 E)).nm
  refine bodyPost_ret (v := .agg (nmA s N E)) (by simp [results, Tryz.results86, go_sem, r0, r1, r2, nmA]) rfl ⟨rfl, hbd⟩

theorem afinite_any (f a : Nat) (w : World) (hf : f < 4) (ha : a < 2 ^ (fm f).w) (hG : GlR w) :
    Calls Tryz.prog 86 #[.int .i64 f, PV (fm f), .int .u64 a] w fun e w' => e = .returned (.agg (nmA ((fm f).neg a) ((fm f).mag a) ((fm f).ex a))) ∧ Below w.heap.size w w' := by
  by_cases hx : (fm f).fx a = 0
  · exact afinite_sub f a w hf ha hG hx
  · exact afinite_norm f a w hf ha hG hx

end Go.Proofs.YtlibhfojfonfjaaGreatDoor

