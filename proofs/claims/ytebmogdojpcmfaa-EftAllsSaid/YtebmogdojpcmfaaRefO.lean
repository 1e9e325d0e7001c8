/- The walk of vernierref06.Open. Printed by gen/refo.py. -/
import Derived.Test.YtebmogdojpcmfaaPackU
import Derived.Test.YtebmogdojpcmfaaRefB
namespace Go.Proofs.Ytebmogdojpcmfaa
set_option linter.unusedVariables false
open Go.RowKit

/-- the number of the bits, as the document opens them -/
def opD (F : Fm) (a : Nat) : D := if F.abs a < F.inf then ⟨F.neg a, F.mag a, F.ex a⟩ else ⟨false, 0, 0⟩

theorem Bx.seven {w : World} {g : Nat} {a0 a1 a2 a3 a4 a5 a6 : Value} (h : Bx w g #[a0, a1, a2, a3, a4, a5, a6]) :
    w.cell? ⟨g, 0, none⟩ = some a0 ∧ w.cell? ⟨g, 1, none⟩ = some a1 ∧ w.cell? ⟨g, 2, none⟩ = some a2 ∧ w.cell? ⟨g, 3, none⟩ = some a3 ∧ w.cell? ⟨g, 4, none⟩ = some a4 ∧ w.cell? ⟨g, 5, none⟩ = some a5 ∧ w.cell? ⟨g, 6, none⟩ = some a6 :=
  ⟨h.cell 0 rfl, h.cell 1 rfl, h.cell 2 rfl, h.cell 3 rfl, h.cell 4 rfl, h.cell 5 rfl, h.cell 6 rfl⟩

theorem Bx.set7 {w : World} {g : Nat} {a0 a1 a2 a3 a4 a5 a6 : Value} (h : Bx w g #[a0, a1, a2, a3, a4, a5, a6]) (x0 x1 x2 x3 x4 x5 x6 : Value) :
    Bx (((((((w.setCell ⟨g, 0, none⟩ x0).setCell ⟨g, 1, none⟩ x1).setCell ⟨g, 2, none⟩ x2).setCell ⟨g, 3, none⟩ x3).setCell ⟨g, 4, none⟩ x4).setCell ⟨g, 5, none⟩ x5).setCell ⟨g, 6, none⟩ x6) g #[x0, x1, x2, x3, x4, x5, x6] := by
  obtain ⟨t, h⟩ := h
  refine ⟨t, ?_⟩
  simp [World.setCell, Array.getElem?_modify, h]

theorem Bx.set456 {w : World} {g : Nat} {a0 a1 a2 a3 a4 a5 a6 : Value} (h : Bx w g #[a0, a1, a2, a3, a4, a5, a6]) (x4 x5 x6 : Value) :
    Bx (((w.setCell ⟨g, 4, none⟩ x4).setCell ⟨g, 5, none⟩ x5).setCell ⟨g, 6, none⟩ x6) g #[a0, a1, a2, a3, x4, x5, x6] := by
  obtain ⟨t, h⟩ := h
  refine ⟨t, ?_⟩
  simp [World.setCell, Array.getElem?_modify, h]

theorem below_set7 {w w1 : World} {g : Nat} (h : Below w.heap.size w w1) (hg : w.heap.size ≤ g) (x0 x1 x2 x3 x4 x5 x6 : Value) :
    Below w.heap.size w (((((((w1.setCell ⟨g, 0, none⟩ x0).setCell ⟨g, 1, none⟩ x1).setCell ⟨g, 2, none⟩ x2).setCell ⟨g, 3, none⟩ x3).setCell ⟨g, 4, none⟩ x4).setCell ⟨g, 5, none⟩ x5).setCell ⟨g, 6, none⟩ x6) :=
  ((((((h.setCell (p := ⟨g, 0, none⟩) hg x0).setCell (p := ⟨g, 1, none⟩) hg x1).setCell (p := ⟨g, 2, none⟩) hg x2).setCell (p := ⟨g, 3, none⟩) hg x3).setCell (p := ⟨g, 4, none⟩) hg x4).setCell (p := ⟨g, 5, none⟩) hg x5).setCell (p := ⟨g, 6, none⟩) hg x6

theorem Rd.set7 {k : Nat} {w : World} {v : Value} {N n g : Nat} (h : Rd k w v N n) (hf : Fr (g + 1) w v) (x0 x1 x2 x3 x4 x5 x6 : Value) :
    Rd k (((((((w.setCell ⟨g, 0, none⟩ x0).setCell ⟨g, 1, none⟩ x1).setCell ⟨g, 2, none⟩ x2).setCell ⟨g, 3, none⟩ x3).setCell ⟨g, 4, none⟩ x4).setCell ⟨g, 5, none⟩ x5).setCell ⟨g, 6, none⟩ x6) v N n := by
  have key : ∀ (w : World) (j : Nat) (x : Value), Rd k w v N n ∧ Fr (g + 1) w v → Rd k (w.setCell ⟨g, j, none⟩ x) v N n ∧ Fr (g + 1) (w.setCell ⟨g, j, none⟩ x) v := fun w j x h => ⟨h.1.setCell_fr h.2 (Nat.lt_succ_self g) x, h.2.setCell (Nat.lt_succ_self g) x⟩
  exact (key _ _ _ (key _ _ _ (key _ _ _ (key _ _ _ (key _ _ _ (key _ _ _ (key _ _ _ ⟨h, hf⟩))))))).1

theorem Rd.set456 {k : Nat} {w : World} {v : Value} {N n g : Nat} (h : Rd k w v N n) (hf : Fr (g + 1) w v) (x4 x5 x6 : Value) :
    Rd k (((w.setCell ⟨g, 4, none⟩ x4).setCell ⟨g, 5, none⟩ x5).setCell ⟨g, 6, none⟩ x6) v N n ∧ Fr (g + 1) (((w.setCell ⟨g, 4, none⟩ x4).setCell ⟨g, 5, none⟩ x5).setCell ⟨g, 6, none⟩ x6) v := by
  have key : ∀ (w : World) (j : Nat) (x : Value), Rd k w v N n ∧ Fr (g + 1) w v → Rd k (w.setCell ⟨g, j, none⟩ x) v N n ∧ Fr (g + 1) (w.setCell ⟨g, j, none⟩ x) v := fun w j x h => ⟨h.1.setCell_fr h.2 (Nat.lt_succ_self g) x, h.2.setCell (Nat.lt_succ_self g) x⟩
  exact key _ _ _ (key _ _ _ (key _ _ _ ⟨h, hf⟩))

theorem cell_456 {w : World} {g : Nat} {x x4 x5 x6 : Value} (h : w.cell? ⟨g, 3, none⟩ = some x) : (((w.setCell ⟨g, 4, none⟩ x4).setCell ⟨g, 5, none⟩ x5).setCell ⟨g, 6, none⟩ x6).cell? ⟨g, 3, none⟩ = some x := by
  rw [World.cell?_setCell_other _ _ _ _ (fun e => by injection e with e1 e2; omega), World.cell?_setCell_other _ _ _ _ (fun e => by injection e with e1 e2; omega), World.cell?_setCell_other _ _ _ _ (fun e => by injection e with e1 e2; omega)]
  exact h

theorem Rd.one64 (w : World) (N : Nat) (hN : N < 18446744073709551616) (t : TypeId) : Rd 64 (w.alloc (.cells #[.int .u64 N] t)) (.slice (some ⟨w.heap.size, 0, none⟩) 1 1) N 1 := by
  refine ⟨_, 1, rfl, Nat.le_refl _, by omega, by simpa using hN, fun _ => ⟨_, 0, rfl, by simp, fun j hj => ?_⟩⟩
  obtain rfl : j = 0 := by omega
  rw [World.cell?_alloc_at _ _ _ _ rfl]
  have : dg 64 N 0 = N := by unfold dg; simp; exact hN
  rw [this]; rfl

theorem Bx.lt {w : World} {g : Nat} {arr : Array Value} (h : Bx w g arr) : g < w.heap.size := by
  obtain ⟨t, h⟩ := h
  exact lt_size_of_some h

theorem and_u64 (x k : Nat) (hx : x < 18446744073709551616) (m : Int) (hm : m = ((2 ^ k - 1 : Nat) : Int)) (hk : k ≤ 63) : bits .and .u64 (x : Int) m = ((x % 2 ^ k : Nat) : Int) := by
  have : (2 : Nat) ^ k ≤ 2 ^ 63 := Nat.pow_le_pow_right (by decide) hk
  rw [hm, bits_and_u64_nat _ _ hx (by omega), Nat.and_two_pow_sub_one_eq_mod]

theorem fx_eq {F : Fm} (ok : F.Ok) (a : Nat) : a / 2 ^ (F.p - 1) % 2 ^ (F.w - F.p) = F.fx a := by
  have := ok.pw
  have := ok.p8
  unfold Fm.fx Fm.abs
  rw [show F.w - 1 = (F.p - 1) + (F.w - F.p) by omega, Nat.pow_add, Nat.mod_mul_right_div_self]

theorem fy_eq {F : Fm} (ok : F.Ok) (a : Nat) : a % 2 ^ (F.p - 1) = F.fy a := by
  have := ok.pw
  have := ok.p8
  unfold Fm.fy Fm.abs
  rw [show F.w - 1 = (F.p - 1) + (F.w - F.p) by omega, Nat.pow_add, Nat.mod_mul_right_mod]

theorem neg_eq {F : Fm} {a : Nat} (ok : F.Ok) (h : a < 2 ^ F.w) : (((a / 2 ^ (F.w - 1) % 2 : Nat) : Int) == 1) = F.neg a := by
  have hw := w_two ok
  unfold Fm.neg
  by_cases c : 2 ^ (F.w - 1) ≤ a
  · have : a / 2 ^ (F.w - 1) = 1 := by
      rw [Nat.div_eq_iff (pow_pos2 _)]; omega
    rw [this, decide_eq_true c]; rfl
  · have : a / 2 ^ (F.w - 1) = 0 := Nat.div_eq_of_lt (by omega)
    rw [this, decide_eq_false c]; rfl

theorem fin_iff {F : Fm} (ok : F.Ok) (a : Nat) : F.abs a < F.inf ↔ F.fx a ≠ 2 ^ (F.w - F.p) - 1 := by
  have h1 := abs_parts (F := F) a
  have h2 := fy_lt (F := F) a
  have h3 := fx_lt ok a
  have h4 := inf_parts (F := F)
  have hP := pow_pos2 (F.p - 1)
  constructor
  · intro h e
    rw [h1, h4, e] at h
    omega
  · intro h
    rw [h1, h4]
    have : F.fx a + 1 ≤ 2 ^ (F.w - F.p) - 1 := by omega
    have := Nat.mul_le_mul_right (2 ^ (F.p - 1)) this
    rw [Nat.add_mul] at this
    omega

theorem mag_ex {F : Fm} (a : Nat) : F.mag a = (if F.fx a = 0 then F.fy a else 2 ^ (F.p - 1) + F.fy a) ∧ F.ex a = (if F.fx a = 0 then F.emin - F.p + 1 else F.emin - F.p + 1 + F.fx a - 1) := by
  have hp := abs_parts (F := F) a
  constructor
  · unfold Fm.mag Fm.sig
    by_cases h : F.fx a = 0
    · have h' : F.abs a / 2 ^ (F.p - 1) = 0 := h
      rw [if_pos h, if_pos h', hp, h]; simp
    · have h' : ¬ F.abs a / 2 ^ (F.p - 1) = 0 := h
      rw [if_neg h, if_neg h']; rfl
  · unfold Fm.ex Fm.xp Fm.low
    by_cases h : F.fx a = 0
    · have h' : F.abs a / 2 ^ (F.p - 1) = 0 := h
      rw [if_pos h, if_pos h']
    · have h' : ¬ F.abs a / 2 ^ (F.p - 1) = 0 := h
      rw [if_neg h, if_neg h']; rfl

/-- what Open answers -/
def OpenV (F : Fm) (a : Nat) (w w' : World) (v : Value) : Prop := ∃ V, v = .agg #[.bool (F.isNan a), .bool (F.isSig a), .bool (F.isInf a), .bool (F.neg a), .bool (opD F a).s, V, .int .i64 (opD F a).e] ∧ Rd 32 w' V (opD F a).n (nd 32 (opD F a).n) ∧ Below w.heap.size w w'

set_option maxRecDepth 100000 in
set_option maxHeartbeats 8000000 in
theorem open_0_spec (a : Nat) (w : World) (ha : a < 2 ^ (fm 0).w) (hx : (fm 0).fx a = 31) :
    Calls Try.prog 50 #[.int .i64 0, .int .u64 a] w fun e w' => ∃ v, e = .returned v ∧ OpenV (fm 0) a w w' v := by
  have ok := fm_ok 0
  have a64 : a < 18446744073709551616 := Nat.lt_of_lt_of_le ha (show 2 ^ 16 ≤ 18446744073709551616 by decide)
  have q1 : bits .and .u64 ((a : Int) / 32768) 1 = ((a / 32768 % 2 : Nat) : Int) := by
    have := and_u64 (a / 32768) 1 (Nat.lt_of_le_of_lt (Nat.div_le_self _ _) a64) 1 (by decide) (by decide)
    rw [← show ((a / 32768 : Nat) : Int) = (a : Int) / 32768 by simp, this]
  have q2 : bits .and .u64 (a : Int) 1023 = ((fm 0).fy a : Int) := by
    have := and_u64 a 10 a64 1023 (by decide) (by decide)
    rw [this, ← fy_eq ok a]; rfl
  have q3 : bits .and .u64 ((a : Int) / 1024) 31 = ((fm 0).fx a : Int) := by
    have := and_u64 (a / 1024) 5 (Nat.lt_of_le_of_lt (Nat.div_le_self _ _) a64) 31 (by decide) (by decide)
    rw [← show ((a / 1024 : Nat) : Int) = (a : Int) / 1024 by simp, this, ← fx_eq ok a]; rfl
  have e1 : (((a / 32768 % 2 : Nat) : Int) == 1) = (fm 0).neg a := neg_eq ok ha
  obtain ⟨s0, hs0⟩ : ∃ s, s = a / 32768 % 2 := ⟨_, rfl⟩
  rw [← hs0] at q1 e1
  have hyl : (fm 0).fy a < 1024 := fy_lt a
  have hxl : (fm 0).fx a < 32 := fx_lt ok a
  obtain ⟨hmag, hex⟩ := mag_ex (F := fm 0) a
  have hfin := fin_iff ok a
  have hni := isNan_iff ok a
  have hii := isInf_iff ok a
  have hsi := isSig_iff ok a
  rw [show (2 ^ ((fm 0).w - (fm 0).p) - 1) = 31 from rfl] at hfin hni hii
  rw [show (2 ^ ((fm 0).p - 2)) = 512 from rfl] at hsi
  rw [show (2 ^ ((fm 0).p - 1)) = 1024 from rfl] at hmag
  rw [show (fm 0).emin - ((fm 0).p : Int) + 1 = -24 from rfl] at hex
  obtain ⟨x, hxx⟩ : ∃ x, x = (fm 0).fx a := ⟨_, rfl⟩
  obtain ⟨y, hyy⟩ : ∃ y, y = (fm 0).fy a := ⟨_, rfl⟩
  rw [← hyy] at q2 hyl hmag hni hii hsi
  rw [← hxx] at q3 hxl hmag hex hfin hni hii
  obtain ⟨sg, hsg⟩ : ∃ s, s = (fm 0).neg a := ⟨_, rfl⟩
  rw [← hsg] at e1
  have hpar := fun wx => rparams_ok 0 wx (by decide)
  rw [show (fm 0).w = 16 from rfl, show (fm 0).p = 11 from rfl, show (fm 0).emin = -14 from rfl] at hpar
  have Hpar := Lib.hid hpar
  rw [← hxx] at hx
  subst hx
  have hinf : (fm 0).isInf a = decide (y = 0) := by rw [hii]; simp
  have hnan : (fm 0).isNan a = !decide (y = 0) := by rw [hni]; simp
  have hsig : (fm 0).isSig a = (!decide (y = 0) && !decide (512 ≤ y)) := by rw [hsi, hnan]
  have hop : opD (fm 0) a = ⟨false, 0, 0⟩ := by unfold opD; rw [if_neg (fun h => (hfin.1 h) rfl)]
  have e2 : ((y : Int) == 0) = decide (y = 0) := by
    by_cases c : y = 0 <;> simp [c]
  have e4 : ((y : Int) != 0) = !decide (y = 0) := by
    by_cases c : y = 0 <;> simp [c]
  have e3 : ((y : Int) / 512 == 0) = !decide (512 ≤ y) := by
    by_cases c : 512 ≤ y
    · rw [decide_eq_true c, Bool.not_true, beq_eq_false_iff_ne]; omega
    · rw [decide_eq_false c, Bool.not_false, beq_iff_eq]; omega
  obtain ⟨i0, hi0⟩ : ∃ b, b = decide (y = 0) := ⟨_, rfl⟩
  obtain ⟨i1, hi1⟩ : ∃ b, b = !decide (512 ≤ y) := ⟨_, rfl⟩
  rw [← hi0] at hinf hnan hsig e2 e4
  rw [← hi1] at hsig e3
  have HV := Lib.hid (And.intro hop (And.intro hinf (And.intro hnan (And.intro hsig hsg))))
  clear hii hni hsi hfin hmag hex ha hs0 hxx hyy hsg hop hinf hnan hsig hi0 hi1 hxl ok
  have hb1 := below1 w (.cells #[.bool false, .bool false, .bool false, .bool false, .bool false, .slice none 0 0, .int .i64 0] 78)
  have b1 := Bx.new w #[.bool false, .bool false, .bool false, .bool false, .bool false, .slice none 0 0, .int .i64 0] 78
  obtain ⟨W1, hW1⟩ : ∃ W1, W1 = w.alloc (.cells #[.bool false, .bool false, .bool false, .bool false, .bool false, .slice none 0 0, .int .i64 0] 78) := ⟨_, rfl⟩
  rw [← hW1] at hb1 b1
  have hsz : W1.heap.size = w.heap.size + 1 := by rw [hW1]; simp
  have hb2 := below1 W1 (.cells #[.bool false, .bool false, .bool false, .bool sg, .bool false, .slice none 0 0, .int .i64 0] 78)
  have b2 := Bx.new W1 #[.bool false, .bool false, .bool false, .bool sg, .bool false, .slice none 0 0, .int .i64 0] 78
  obtain ⟨W2, hW2⟩ : ∃ W2, W2 = W1.alloc (.cells #[.bool false, .bool false, .bool false, .bool sg, .bool false, .slice none 0 0, .int .i64 0] 78) := ⟨_, rfl⟩
  rw [← hW2] at hb2 b2
  rw [hsz] at b2
  have HB := Lib.hid (keep_belowB hb1 hb2 (Nat.le_refl _))
  have B1 := Lib.hid (b1.below hb2)
  have B2 := Lib.hid b2
  have HW := Lib.hid (And.intro hW1 hW2)
  clear hb1 b1 hb2 b2 hsz hW1 hW2 hpar
  go_enter Try.func50, Try.ntmps50
  go_wp2_with fail
  refine (Hpar.out _).mono ?_
  rintro _ _ ⟨rfl, rfl⟩
  go_upto_region 6 with (fail)
  rw [← HW.out.1, ← HW.out.2]
  clear HW
  obtain ⟨x0, x1, x2, x3, x4, x5, x6⟩ := B2.out.seven
  have xf : ∀ j, W2.frozen? ⟨w.heap.size + 1, j, none⟩ = false := fun j => B2.out.free j
  go_upto_region 7 with (fail)
  clear x0 x1 x2 x3 x4 x5 x6 xf
  replace B2 := Lib.hid (B2.out.put 2 (.bool i0) #[.bool false, .bool false, .bool i0, .bool sg, .bool false, .slice none 0 0, .int .i64 0] rfl)
  replace B1 := Lib.hid (B1.out.other (p := ⟨w.heap.size + 1, 2, none⟩) (by show w.heap.size + 1 ≠ w.heap.size; omega) (.bool i0))
  replace HB := Lib.hid (HB.out.setCell (p := ⟨w.heap.size + 1, 2, none⟩) (Nat.le_succ _) (.bool i0))
  generalize W2.setCell ⟨w.heap.size + 1, 2, none⟩ (.bool i0) = W3 at *
  obtain ⟨x0, x1, x2, x3, x4, x5, x6⟩ := B2.out.seven
  have xf : ∀ j, W3.frozen? ⟨w.heap.size + 1, j, none⟩ = false := fun j => B2.out.free j
  go_upto_region 8 with (fail)
  clear x0 x1 x2 x3 x4 x5 x6 xf
  replace B2 := Lib.hid (B2.out.put 0 (.bool (!i0)) #[.bool (!i0), .bool false, .bool i0, .bool sg, .bool false, .slice none 0 0, .int .i64 0] rfl)
  replace B1 := Lib.hid (B1.out.other (p := ⟨w.heap.size + 1, 0, none⟩) (by show w.heap.size + 1 ≠ w.heap.size; omega) (.bool (!i0)))
  replace HB := Lib.hid (HB.out.setCell (p := ⟨w.heap.size + 1, 0, none⟩) (Nat.le_succ _) (.bool (!i0)))
  generalize W3.setCell ⟨w.heap.size + 1, 0, none⟩ (.bool (!i0)) = W4 at *
  cases i0
  · obtain ⟨x0, x1, x2, x3, x4, x5, x6⟩ := B2.out.seven
    have xf : ∀ j, W4.frozen? ⟨w.heap.size + 1, j, none⟩ = false := fun j => B2.out.free j
    go_upto_region 9 with (fail)
    clear x0 x1 x2 x3 x4 x5 x6 xf
    replace B2 := Lib.hid (B2.out.put 1 (.bool i1) #[.bool true, .bool i1, .bool false, .bool sg, .bool false, .slice none 0 0, .int .i64 0] rfl)
    replace B1 := Lib.hid (B1.out.other (p := ⟨w.heap.size + 1, 1, none⟩) (by show w.heap.size + 1 ≠ w.heap.size; omega) (.bool i1))
    replace HB := Lib.hid (HB.out.setCell (p := ⟨w.heap.size + 1, 1, none⟩) (Nat.le_succ _) (.bool i1))
    generalize W4.setCell ⟨w.heap.size + 1, 1, none⟩ (.bool i1) = W5 at *
    obtain ⟨x0, x1, x2, x3, x4, x5, x6⟩ := B2.out.seven
    obtain ⟨y0, y1, y2, y3, y4, y5, y6⟩ := B1.out.seven
    have yf : ∀ j, W5.frozen? ⟨w.heap.size, j, none⟩ = false := fun j => B1.out.free j
    go_wp2_with fail
    obtain ⟨r0, r1, r2, r3, r4, r5, r6⟩ := (B1.out.set7 (.bool true) (.bool i1) (.bool false) (.bool sg) (.bool false) (.slice none 0 0) (.int .i64 0)).seven
    refine bodyPost_ret (v := .agg #[.bool true, .bool i1, .bool false, .bool sg, .bool false, .slice none 0 0, .int .i64 0]) (by simp [results, Try.results50, go_sem, r0, r1, r2, r3, r4, r5, r6]) rfl ?_
    obtain ⟨v1, v2, v3, v4, v5⟩ := HV.out
    refine ⟨_, rfl, .slice none 0 0, ?_, ?_, below_set7 HB.out (Nat.le_refl _) _ _ _ _ _ _ _⟩
    · rw [v1, v2, v3, v4, ← v5]; simp
    · rw [v1]; exact ⟨none, 0, rfl, Nat.le_refl _, Nat.zero_le _, pow_pos2 _, fun h => by simp [nd_zero] at h⟩
  · obtain ⟨x0, x1, x2, x3, x4, x5, x6⟩ := B2.out.seven
    have xf : ∀ j, W4.frozen? ⟨w.heap.size + 1, j, none⟩ = false := fun j => B2.out.free j
    go_upto_region 9 with (fail)
    clear x0 x1 x2 x3 x4 x5 x6 xf
    replace B2 := Lib.hid (B2.out.put 1 (.bool false) #[.bool false, .bool false, .bool true, .bool sg, .bool false, .slice none 0 0, .int .i64 0] rfl)
    replace B1 := Lib.hid (B1.out.other (p := ⟨w.heap.size + 1, 1, none⟩) (by show w.heap.size + 1 ≠ w.heap.size; omega) (.bool false))
    replace HB := Lib.hid (HB.out.setCell (p := ⟨w.heap.size + 1, 1, none⟩) (Nat.le_succ _) (.bool false))
    generalize W4.setCell ⟨w.heap.size + 1, 1, none⟩ (.bool false) = W5 at *
    obtain ⟨x0, x1, x2, x3, x4, x5, x6⟩ := B2.out.seven
    obtain ⟨y0, y1, y2, y3, y4, y5, y6⟩ := B1.out.seven
    have yf : ∀ j, W5.frozen? ⟨w.heap.size, j, none⟩ = false := fun j => B1.out.free j
    go_wp2_with fail
    obtain ⟨r0, r1, r2, r3, r4, r5, r6⟩ := (B1.out.set7 (.bool false) (.bool false) (.bool true) (.bool sg) (.bool false) (.slice none 0 0) (.int .i64 0)).seven
    refine bodyPost_ret (v := .agg #[.bool false, .bool false, .bool true, .bool sg, .bool false, .slice none 0 0, .int .i64 0]) (by simp [results, Try.results50, go_sem, r0, r1, r2, r3, r4, r5, r6]) rfl ?_
    obtain ⟨v1, v2, v3, v4, v5⟩ := HV.out
    refine ⟨_, rfl, .slice none 0 0, ?_, ?_, below_set7 HB.out (Nat.le_refl _) _ _ _ _ _ _ _⟩
    · rw [v1, v2, v3, v4, ← v5]; simp
    · rw [v1]; exact ⟨none, 0, rfl, Nat.le_refl _, Nat.zero_le _, pow_pos2 _, fun h => by simp [nd_zero] at h⟩

set_option maxRecDepth 100000 in
set_option maxHeartbeats 8000000 in
theorem open_0_sub (a : Nat) (w : World) (ha : a < 2 ^ (fm 0).w) (hx : (fm 0).fx a = 0) :
    Calls Try.prog 50 #[.int .i64 0, .int .u64 a] w fun e w' => ∃ v, e = .returned v ∧ OpenV (fm 0) a w w' v := by
  have ok := fm_ok 0
  have a64 : a < 18446744073709551616 := Nat.lt_of_lt_of_le ha (show 2 ^ 16 ≤ 18446744073709551616 by decide)
  have q1 : bits .and .u64 ((a : Int) / 32768) 1 = ((a / 32768 % 2 : Nat) : Int) := by
    have := and_u64 (a / 32768) 1 (Nat.lt_of_le_of_lt (Nat.div_le_self _ _) a64) 1 (by decide) (by decide)
    rw [← show ((a / 32768 : Nat) : Int) = (a : Int) / 32768 by simp, this]
  have q2 : bits .and .u64 (a : Int) 1023 = ((fm 0).fy a : Int) := by
    have := and_u64 a 10 a64 1023 (by decide) (by decide)
    rw [this, ← fy_eq ok a]; rfl
  have q3 : bits .and .u64 ((a : Int) / 1024) 31 = ((fm 0).fx a : Int) := by
    have := and_u64 (a / 1024) 5 (Nat.lt_of_le_of_lt (Nat.div_le_self _ _) a64) 31 (by decide) (by decide)
    rw [← show ((a / 1024 : Nat) : Int) = (a : Int) / 1024 by simp, this, ← fx_eq ok a]; rfl
  have e1 : (((a / 32768 % 2 : Nat) : Int) == 1) = (fm 0).neg a := neg_eq ok ha
  obtain ⟨s0, hs0⟩ : ∃ s, s = a / 32768 % 2 := ⟨_, rfl⟩
  rw [← hs0] at q1 e1
  have hyl : (fm 0).fy a < 1024 := fy_lt a
  have hxl : (fm 0).fx a < 32 := fx_lt ok a
  obtain ⟨hmag, hex⟩ := mag_ex (F := fm 0) a
  have hfin := fin_iff ok a
  have hni := isNan_iff ok a
  have hii := isInf_iff ok a
  have hsi := isSig_iff ok a
  rw [show (2 ^ ((fm 0).w - (fm 0).p) - 1) = 31 from rfl] at hfin hni hii
  rw [show (2 ^ ((fm 0).p - 2)) = 512 from rfl] at hsi
  rw [show (2 ^ ((fm 0).p - 1)) = 1024 from rfl] at hmag
  rw [show (fm 0).emin - ((fm 0).p : Int) + 1 = -24 from rfl] at hex
  obtain ⟨x, hxx⟩ : ∃ x, x = (fm 0).fx a := ⟨_, rfl⟩
  obtain ⟨y, hyy⟩ : ∃ y, y = (fm 0).fy a := ⟨_, rfl⟩
  rw [← hyy] at q2 hyl hmag hni hii hsi
  rw [← hxx] at q3 hxl hmag hex hfin hni hii
  obtain ⟨sg, hsg⟩ : ∃ s, s = (fm 0).neg a := ⟨_, rfl⟩
  rw [← hsg] at e1
  have hpar := fun wx => rparams_ok 0 wx (by decide)
  rw [show (fm 0).w = 16 from rfl, show (fm 0).p = 11 from rfl, show (fm 0).emin = -14 from rfl] at hpar
  have Hpar := Lib.hid hpar
  rw [← hxx] at hx
  subst hx
  have hop : opD (fm 0) a = ⟨sg, y, -24⟩ := by
    unfold opD
    rw [if_pos (hfin.2 (by decide)), ← hsg, hmag, hex, if_pos rfl, if_pos rfl]
  have hn' : (fm 0).isNan a = false := by rw [hni]; rfl
  have hi' : (fm 0).isInf a = false := by rw [hii]; rfl
  have t0 : (((0 : Nat) : Int) == 31) = false := by decide
  have hs' : (fm 0).isSig a = false := by rw [hsi, hn']; rfl
  obtain ⟨E, hE⟩ : ∃ E : Int, E = -24 := ⟨_, rfl⟩
  rw [← hE] at hop
  obtain ⟨N, hN⟩ : ∃ N, N = y := ⟨_, rfl⟩
  rw [← hN] at hop
  have hNl : N < 18446744073709551616 := by omega
  have e2 : ((y : Int) == 0) = decide (y = 0) := by
    by_cases c : y = 0 <;> simp [c]
  obtain ⟨i0, hi0⟩ : ∃ b, b = decide (y = 0) := ⟨_, rfl⟩
  rw [← hi0] at e2
  have HV := Lib.hid (And.intro hop (And.intro hi' (And.intro hn' (And.intro hs' hsg))))
  have HN := Lib.hid (And.intro hN hE)
  have hNk : (N : Int) = (y : Int) := by omega
  have HNk := Lib.hid hNk
  clear hii hni hsi hfin hmag hex ha hs0 hxx hyy hsg hop hi' hn' hs' hi0 ok hN hE hNk
  have hb1 := below1 w (.cells #[.bool false, .bool false, .bool false, .bool false, .bool false, .slice none 0 0, .int .i64 0] 78)
  have b1 := Bx.new w #[.bool false, .bool false, .bool false, .bool false, .bool false, .slice none 0 0, .int .i64 0] 78
  obtain ⟨W1, hW1⟩ : ∃ W1, W1 = w.alloc (.cells #[.bool false, .bool false, .bool false, .bool false, .bool false, .slice none 0 0, .int .i64 0] 78) := ⟨_, rfl⟩
  rw [← hW1] at hb1 b1
  have hsz : W1.heap.size = w.heap.size + 1 := by rw [hW1]; simp
  have hb2 := below1 W1 (.cells #[.bool false, .bool false, .bool false, .bool sg, .bool false, .slice none 0 0, .int .i64 0] 78)
  have b2 := Bx.new W1 #[.bool false, .bool false, .bool false, .bool sg, .bool false, .slice none 0 0, .int .i64 0] 78
  obtain ⟨W2, hW2⟩ : ∃ W2, W2 = W1.alloc (.cells #[.bool false, .bool false, .bool false, .bool sg, .bool false, .slice none 0 0, .int .i64 0] 78) := ⟨_, rfl⟩
  rw [← hW2] at hb2 b2
  rw [hsz] at b2
  have HB := Lib.hid (keep_belowB hb1 hb2 (Nat.le_refl _))
  have B1 := Lib.hid (b1.below hb2)
  have B2 := Lib.hid b2
  have HW := Lib.hid (And.intro hW1 hW2)
  clear hb1 b1 hb2 b2 hsz hW1 hW2 hpar
  go_enter Try.func50, Try.ntmps50
  go_wp2_with fail
  refine (Hpar.out _).mono ?_
  rintro _ _ ⟨rfl, rfl⟩
  go_upto_region 14 with (fail)
  rw [← HW.out.1, ← HW.out.2]
  clear HW
  rw [← HNk.out, ← HN.out.2]
  have hrd1 : Rd 64 (W2.drew.alloc (.cells #[.int .u64 N] 24)) (.slice (some ⟨W2.drew.heap.size, 0, none⟩) 1 1) N 1 := Rd.one64 W2.drew N hNl 24
  have hdg : ∀ wx v, Rd 64 wx v N 1 → Calls Try.prog 60 #[v] wx fun e' w' => ∃ A c, e' = .returned (.slice A (nd 32 N) c) ∧ (Rd 32 w' (.slice A (nd 32 N) c) N (nd 32 N) ∧ Fr wx.heap.size w' (.slice A (nd 32 N) c)) ∧ Below wx.heap.size wx w' := fun wx v h => (rDigits_any v N 1 wx h (by decide)).mono fun _ _ ⟨v', h1, h2, h3⟩ => by obtain ⟨A, c, rfl, _⟩ := h2.1.form; exact ⟨A, c, h1, h2, h3⟩
  have HD := Lib.hid hdg
  have x3 := (B2.out.seven).2.2.2.1
  have hbd : Below W2.heap.size W2 (W2.drew.alloc (.cells #[.int .u64 N] 24)) := ((Below.refl _ _).drew).alloc (Nat.le_refl _) _
  have HBD := Lib.hid hbd
  have hbB := HB.out
  clear hdg q1 q2 q3 e1 e2 t0 hyl a64 hxl hbd
  go_region_held3 (fun w' => w'.cell? ⟨w.heap.size + 1, 3, none⟩ = some (.bool sg))
    (first | exact x3 | exact keep_cell HBD.out x3 | exact keep_cell hb3 (keep_cell HBD.out x3) | exact cell_456 z3)
    ((first | (go_at_call 60; refine (HD.out _ _ hrd1).mono ?_; rintro _ w3 ⟨A3, c3, rfl, hr3, hb3⟩; have bx3 := ((B2.out.below HBD.out).below hb3); have xf : ∀ j, w3.frozen? ⟨w.heap.size + 1, j, none⟩ = false := fun j => bx3.free j; obtain ⟨z0, z1, z2, z3, z4, z5, z6⟩ := bx3.seven)))
  have hb4 := hb3
  have by3 := (B1.out.below HBD.out).below hb3
  have hB3 := keep_belowB (keep_belowB hbB HBD.out (Nat.le_refl _)) hb3 (Nat.le_refl _)
  have hlt : w.heap.size + 1 < W2.heap.size := B2.out.lt
  have hfr3 := hr3.2
  have hsz3 : (W2.drew.alloc (.cells #[.int .u64 N] 24)).heap.size = W2.heap.size + 1 := by simp
  rw [hsz3] at hfr3
  have hr4 := Rd.set456 hr3.1 (hfr3.mono (B' := w.heap.size + 2) (by omega)) (.bool sg) (.slice A3 (nd 32 N) c3) (.int .i64 E)
  have bx4 := bx3.set456 (.bool sg) (.slice A3 (nd 32 N) c3) (.int .i64 E)
  have by4 := ((by3.other (p := ⟨w.heap.size + 1, 4, none⟩) (by show w.heap.size + 1 ≠ w.heap.size; omega) (.bool sg)).other (p := ⟨w.heap.size + 1, 5, none⟩) (by show w.heap.size + 1 ≠ w.heap.size; omega) (.slice A3 (nd 32 N) c3)).other (p := ⟨w.heap.size + 1, 6, none⟩) (by show w.heap.size + 1 ≠ w.heap.size; omega) (.int .i64 E)
  have hB4 := ((hB3.setCell (p := ⟨w.heap.size + 1, 4, none⟩) (Nat.le_succ _) (.bool sg)).setCell (p := ⟨w.heap.size + 1, 5, none⟩) (Nat.le_succ _) (.slice A3 (nd 32 N) c3)).setCell (p := ⟨w.heap.size + 1, 6, none⟩) (Nat.le_succ _) (.int .i64 E)
  clear z0 z1 z2 z3 z4 z5 z6 hb3 hb4 bx3 by3 xf x3 hr3 hfr3 hsz3 hB3 HBD hrd1 HD HB hbB
  generalize ((w3.setCell ⟨w.heap.size + 1, 4, none⟩ (.bool sg)).setCell ⟨w.heap.size + 1, 5, none⟩ (.slice A3 (nd 32 N) c3)).setCell ⟨w.heap.size + 1, 6, none⟩ (.int .i64 E) = W4 at *
  have B3 := Lib.hid bx4
  have B4 := Lib.hid by4
  have HR4 := Lib.hid hr4
  have HB4 := Lib.hid hB4
  clear bx4 by4 hr4 hB4 B1 B2
  obtain ⟨x0, x1, x2, x3, x4, x5, x6⟩ := B3.out.seven
  obtain ⟨y0, y1, y2, y3, y4, y5, y6⟩ := B4.out.seven
  have yf : ∀ j, W4.frozen? ⟨w.heap.size, j, none⟩ = false := fun j => B4.out.free j
  go_wp2_with fail
  obtain ⟨r0, r1, r2, r3, r4, r5, r6⟩ := (B4.out.set7 (.bool false) (.bool false) (.bool false) (.bool sg) (.bool sg) (.slice A3 (nd 32 N) c3) (.int .i64 E)).seven
  refine bodyPost_ret (v := .agg #[.bool false, .bool false, .bool false, .bool sg, .bool sg, .slice A3 (nd 32 N) c3, .int .i64 E]) (by simp [results, Try.results50, go_sem, r0, r1, r2, r3, r4, r5, r6]) rfl ?_
  obtain ⟨v1, v2, v3', v4, v5⟩ := HV.out
  refine ⟨_, rfl, .slice A3 (nd 32 N) c3, ?_, ?_, below_set7 HB4.out (Nat.le_refl _) _ _ _ _ _ _ _⟩
  · rw [v1, v2, v3', v4, ← v5]
  · rw [v1]; exact Rd.set7 HR4.out.1 (HR4.out.2.mono (Nat.le_succ _)) _ _ _ _ _ _ _

set_option maxRecDepth 100000 in
set_option maxHeartbeats 8000000 in
theorem open_0_norm (a : Nat) (w : World) (ha : a < 2 ^ (fm 0).w) (hx0 : (fm 0).fx a ≠ 0) (hx : (fm 0).fx a ≠ 31) :
    Calls Try.prog 50 #[.int .i64 0, .int .u64 a] w fun e w' => ∃ v, e = .returned v ∧ OpenV (fm 0) a w w' v := by
  have ok := fm_ok 0
  have a64 : a < 18446744073709551616 := Nat.lt_of_lt_of_le ha (show 2 ^ 16 ≤ 18446744073709551616 by decide)
  have q1 : bits .and .u64 ((a : Int) / 32768) 1 = ((a / 32768 % 2 : Nat) : Int) := by
    have := and_u64 (a / 32768) 1 (Nat.lt_of_le_of_lt (Nat.div_le_self _ _) a64) 1 (by decide) (by decide)
    rw [← show ((a / 32768 : Nat) : Int) = (a : Int) / 32768 by simp, this]
  have q2 : bits .and .u64 (a : Int) 1023 = ((fm 0).fy a : Int) := by
    have := and_u64 a 10 a64 1023 (by decide) (by decide)
    rw [this, ← fy_eq ok a]; rfl
  have q3 : bits .and .u64 ((a : Int) / 1024) 31 = ((fm 0).fx a : Int) := by
    have := and_u64 (a / 1024) 5 (Nat.lt_of_le_of_lt (Nat.div_le_self _ _) a64) 31 (by decide) (by decide)
    rw [← show ((a / 1024 : Nat) : Int) = (a : Int) / 1024 by simp, this, ← fx_eq ok a]; rfl
  have e1 : (((a / 32768 % 2 : Nat) : Int) == 1) = (fm 0).neg a := neg_eq ok ha
  obtain ⟨s0, hs0⟩ : ∃ s, s = a / 32768 % 2 := ⟨_, rfl⟩
  rw [← hs0] at q1 e1
  have hyl : (fm 0).fy a < 1024 := fy_lt a
  have hxl : (fm 0).fx a < 32 := fx_lt ok a
  obtain ⟨hmag, hex⟩ := mag_ex (F := fm 0) a
  have hfin := fin_iff ok a
  have hni := isNan_iff ok a
  have hii := isInf_iff ok a
  have hsi := isSig_iff ok a
  rw [show (2 ^ ((fm 0).w - (fm 0).p) - 1) = 31 from rfl] at hfin hni hii
  rw [show (2 ^ ((fm 0).p - 2)) = 512 from rfl] at hsi
  rw [show (2 ^ ((fm 0).p - 1)) = 1024 from rfl] at hmag
  rw [show (fm 0).emin - ((fm 0).p : Int) + 1 = -24 from rfl] at hex
  obtain ⟨x, hxx⟩ : ∃ x, x = (fm 0).fx a := ⟨_, rfl⟩
  obtain ⟨y, hyy⟩ : ∃ y, y = (fm 0).fy a := ⟨_, rfl⟩
  rw [← hyy] at q2 hyl hmag hni hii hsi
  rw [← hxx] at q3 hxl hmag hex hfin hni hii
  obtain ⟨sg, hsg⟩ : ∃ s, s = (fm 0).neg a := ⟨_, rfl⟩
  rw [← hsg] at e1
  have hpar := fun wx => rparams_ok 0 wx (by decide)
  rw [show (fm 0).w = 16 from rfl, show (fm 0).p = 11 from rfl, show (fm 0).emin = -14 from rfl] at hpar
  have Hpar := Lib.hid hpar
  rw [← hxx] at hx hx0
  have hop : opD (fm 0) a = ⟨sg, y + 1024, -24 + ((x : Int) - 1)⟩ := by
    unfold opD
    rw [if_pos (hfin.2 hx), ← hsg, hmag, hex, if_neg hx0, if_neg hx0, Nat.add_comm]
    congr 1
    omega
  have hn' : (fm 0).isNan a = false := by rw [hni, decide_eq_false hx]; rfl
  have hi' : (fm 0).isInf a = false := by rw [hii, decide_eq_false hx]; rfl
  have t0 : ((x : Int) == 31) = false := by rw [beq_eq_false_iff_ne]; omega
  have t1 : decide ((x : Int) > 0) = true := by rw [decide_eq_true_eq]; omega
  have hx1 : 1 ≤ x := by omega
  have hs' : (fm 0).isSig a = false := by rw [hsi, hn']; rfl
  obtain ⟨E, hE⟩ : ∃ E : Int, E = -24 + ((x : Int) - 1) := ⟨_, rfl⟩
  rw [← hE] at hop
  obtain ⟨N, hN⟩ : ∃ N, N = (y + 1024) := ⟨_, rfl⟩
  rw [← hN] at hop
  have hNl : N < 18446744073709551616 := by omega
  have e2 : ((y : Int) == 0) = decide (y = 0) := by
    by_cases c : y = 0 <;> simp [c]
  obtain ⟨i0, hi0⟩ : ∃ b, b = decide (y = 0) := ⟨_, rfl⟩
  rw [← hi0] at e2
  have HV := Lib.hid (And.intro hop (And.intro hi' (And.intro hn' (And.intro hs' hsg))))
  have HN := Lib.hid (And.intro hN hE)
  have hNk : (N : Int) = (y : Int) + 1024 := by omega
  have HNk := Lib.hid hNk
  clear hii hni hsi hfin hmag hex ha hs0 hxx hyy hsg hop hi' hn' hs' hi0 ok hN hE hNk hx hx0
  have hb1 := below1 w (.cells #[.bool false, .bool false, .bool false, .bool false, .bool false, .slice none 0 0, .int .i64 0] 78)
  have b1 := Bx.new w #[.bool false, .bool false, .bool false, .bool false, .bool false, .slice none 0 0, .int .i64 0] 78
  obtain ⟨W1, hW1⟩ : ∃ W1, W1 = w.alloc (.cells #[.bool false, .bool false, .bool false, .bool false, .bool false, .slice none 0 0, .int .i64 0] 78) := ⟨_, rfl⟩
  rw [← hW1] at hb1 b1
  have hsz : W1.heap.size = w.heap.size + 1 := by rw [hW1]; simp
  have hb2 := below1 W1 (.cells #[.bool false, .bool false, .bool false, .bool sg, .bool false, .slice none 0 0, .int .i64 0] 78)
  have b2 := Bx.new W1 #[.bool false, .bool false, .bool false, .bool sg, .bool false, .slice none 0 0, .int .i64 0] 78
  obtain ⟨W2, hW2⟩ : ∃ W2, W2 = W1.alloc (.cells #[.bool false, .bool false, .bool false, .bool sg, .bool false, .slice none 0 0, .int .i64 0] 78) := ⟨_, rfl⟩
  rw [← hW2] at hb2 b2
  rw [hsz] at b2
  have HB := Lib.hid (keep_belowB hb1 hb2 (Nat.le_refl _))
  have B1 := Lib.hid (b1.below hb2)
  have B2 := Lib.hid b2
  have HW := Lib.hid (And.intro hW1 hW2)
  clear hb1 b1 hb2 b2 hsz hW1 hW2 hpar
  go_enter Try.func50, Try.ntmps50
  go_wp2_with fail
  refine (Hpar.out _).mono ?_
  rintro _ _ ⟨rfl, rfl⟩
  go_upto_region 14 with (fail)
  rw [← HW.out.1, ← HW.out.2]
  clear HW
  rw [← HNk.out, ← HN.out.2]
  have hrd1 : Rd 64 (W2.drew.alloc (.cells #[.int .u64 N] 24)) (.slice (some ⟨W2.drew.heap.size, 0, none⟩) 1 1) N 1 := Rd.one64 W2.drew N hNl 24
  have hdg : ∀ wx v, Rd 64 wx v N 1 → Calls Try.prog 60 #[v] wx fun e' w' => ∃ A c, e' = .returned (.slice A (nd 32 N) c) ∧ (Rd 32 w' (.slice A (nd 32 N) c) N (nd 32 N) ∧ Fr wx.heap.size w' (.slice A (nd 32 N) c)) ∧ Below wx.heap.size wx w' := fun wx v h => (rDigits_any v N 1 wx h (by decide)).mono fun _ _ ⟨v', h1, h2, h3⟩ => by obtain ⟨A, c, rfl, _⟩ := h2.1.form; exact ⟨A, c, h1, h2, h3⟩
  have HD := Lib.hid hdg
  have x3 := (B2.out.seven).2.2.2.1
  have hbd : Below W2.heap.size W2 (W2.drew.alloc (.cells #[.int .u64 N] 24)) := ((Below.refl _ _).drew).alloc (Nat.le_refl _) _
  have HBD := Lib.hid hbd
  have hbB := HB.out
  clear hdg q1 q2 q3 e1 e2 t0 hyl a64 hxl hbd t1 hx1
  go_region_held3 (fun w' => w'.cell? ⟨w.heap.size + 1, 3, none⟩ = some (.bool sg))
    (first | exact x3 | exact keep_cell HBD.out x3 | exact keep_cell hb3 (keep_cell HBD.out x3) | exact cell_456 z3)
    ((first | (go_at_call 60; refine (HD.out _ _ hrd1).mono ?_; rintro _ w3 ⟨A3, c3, rfl, hr3, hb3⟩; have bx3 := ((B2.out.below HBD.out).below hb3); have xf : ∀ j, w3.frozen? ⟨w.heap.size + 1, j, none⟩ = false := fun j => bx3.free j; obtain ⟨z0, z1, z2, z3, z4, z5, z6⟩ := bx3.seven)))
  have hb4 := hb3
  have by3 := (B1.out.below HBD.out).below hb3
  have hB3 := keep_belowB (keep_belowB hbB HBD.out (Nat.le_refl _)) hb3 (Nat.le_refl _)
  have hlt : w.heap.size + 1 < W2.heap.size := B2.out.lt
  have hfr3 := hr3.2
  have hsz3 : (W2.drew.alloc (.cells #[.int .u64 N] 24)).heap.size = W2.heap.size + 1 := by simp
  rw [hsz3] at hfr3
  have hr4 := Rd.set456 hr3.1 (hfr3.mono (B' := w.heap.size + 2) (by omega)) (.bool sg) (.slice A3 (nd 32 N) c3) (.int .i64 E)
  have bx4 := bx3.set456 (.bool sg) (.slice A3 (nd 32 N) c3) (.int .i64 E)
  have by4 := ((by3.other (p := ⟨w.heap.size + 1, 4, none⟩) (by show w.heap.size + 1 ≠ w.heap.size; omega) (.bool sg)).other (p := ⟨w.heap.size + 1, 5, none⟩) (by show w.heap.size + 1 ≠ w.heap.size; omega) (.slice A3 (nd 32 N) c3)).other (p := ⟨w.heap.size + 1, 6, none⟩) (by show w.heap.size + 1 ≠ w.heap.size; omega) (.int .i64 E)
  have hB4 := ((hB3.setCell (p := ⟨w.heap.size + 1, 4, none⟩) (Nat.le_succ _) (.bool sg)).setCell (p := ⟨w.heap.size + 1, 5, none⟩) (Nat.le_succ _) (.slice A3 (nd 32 N) c3)).setCell (p := ⟨w.heap.size + 1, 6, none⟩) (Nat.le_succ _) (.int .i64 E)
  clear z0 z1 z2 z3 z4 z5 z6 hb3 hb4 bx3 by3 xf x3 hr3 hfr3 hsz3 hB3 HBD hrd1 HD HB hbB
  generalize ((w3.setCell ⟨w.heap.size + 1, 4, none⟩ (.bool sg)).setCell ⟨w.heap.size + 1, 5, none⟩ (.slice A3 (nd 32 N) c3)).setCell ⟨w.heap.size + 1, 6, none⟩ (.int .i64 E) = W4 at *
  have B3 := Lib.hid bx4
  have B4 := Lib.hid by4
  have HR4 := Lib.hid hr4
  have HB4 := Lib.hid hB4
  clear bx4 by4 hr4 hB4 B1 B2
  obtain ⟨x0, x1, x2, x3, x4, x5, x6⟩ := B3.out.seven
  obtain ⟨y0, y1, y2, y3, y4, y5, y6⟩ := B4.out.seven
  have yf : ∀ j, W4.frozen? ⟨w.heap.size, j, none⟩ = false := fun j => B4.out.free j
  go_wp2_with fail
  obtain ⟨r0, r1, r2, r3, r4, r5, r6⟩ := (B4.out.set7 (.bool false) (.bool false) (.bool false) (.bool sg) (.bool sg) (.slice A3 (nd 32 N) c3) (.int .i64 E)).seven
  refine bodyPost_ret (v := .agg #[.bool false, .bool false, .bool false, .bool sg, .bool sg, .slice A3 (nd 32 N) c3, .int .i64 E]) (by simp [results, Try.results50, go_sem, r0, r1, r2, r3, r4, r5, r6]) rfl ?_
  obtain ⟨v1, v2, v3', v4, v5⟩ := HV.out
  refine ⟨_, rfl, .slice A3 (nd 32 N) c3, ?_, ?_, below_set7 HB4.out (Nat.le_refl _) _ _ _ _ _ _ _⟩
  · rw [v1, v2, v3', v4, ← v5]
  · rw [v1]; exact Rd.set7 HR4.out.1 (HR4.out.2.mono (Nat.le_succ _)) _ _ _ _ _ _ _

set_option maxRecDepth 100000 in
set_option maxHeartbeats 8000000 in
theorem open_1_spec (a : Nat) (w : World) (ha : a < 2 ^ (fm 1).w) (hx : (fm 1).fx a = 255) :
    Calls Try.prog 50 #[.int .i64 1, .int .u64 a] w fun e w' => ∃ v, e = .returned v ∧ OpenV (fm 1) a w w' v := by
  have ok := fm_ok 1
  have a64 : a < 18446744073709551616 := Nat.lt_of_lt_of_le ha (show 2 ^ 16 ≤ 18446744073709551616 by decide)
  have q1 : bits .and .u64 ((a : Int) / 32768) 1 = ((a / 32768 % 2 : Nat) : Int) := by
    have := and_u64 (a / 32768) 1 (Nat.lt_of_le_of_lt (Nat.div_le_self _ _) a64) 1 (by decide) (by decide)
    rw [← show ((a / 32768 : Nat) : Int) = (a : Int) / 32768 by simp, this]
  have q2 : bits .and .u64 (a : Int) 127 = ((fm 1).fy a : Int) := by
    have := and_u64 a 7 a64 127 (by decide) (by decide)
    rw [this, ← fy_eq ok a]; rfl
  have q3 : bits .and .u64 ((a : Int) / 128) 255 = ((fm 1).fx a : Int) := by
    have := and_u64 (a / 128) 8 (Nat.lt_of_le_of_lt (Nat.div_le_self _ _) a64) 255 (by decide) (by decide)
    rw [← show ((a / 128 : Nat) : Int) = (a : Int) / 128 by simp, this, ← fx_eq ok a]; rfl
  have e1 : (((a / 32768 % 2 : Nat) : Int) == 1) = (fm 1).neg a := neg_eq ok ha
  obtain ⟨s0, hs0⟩ : ∃ s, s = a / 32768 % 2 := ⟨_, rfl⟩
  rw [← hs0] at q1 e1
  have hyl : (fm 1).fy a < 128 := fy_lt a
  have hxl : (fm 1).fx a < 256 := fx_lt ok a
  obtain ⟨hmag, hex⟩ := mag_ex (F := fm 1) a
  have hfin := fin_iff ok a
  have hni := isNan_iff ok a
  have hii := isInf_iff ok a
  have hsi := isSig_iff ok a
  rw [show (2 ^ ((fm 1).w - (fm 1).p) - 1) = 255 from rfl] at hfin hni hii
  rw [show (2 ^ ((fm 1).p - 2)) = 64 from rfl] at hsi
  rw [show (2 ^ ((fm 1).p - 1)) = 128 from rfl] at hmag
  rw [show (fm 1).emin - ((fm 1).p : Int) + 1 = -133 from rfl] at hex
  obtain ⟨x, hxx⟩ : ∃ x, x = (fm 1).fx a := ⟨_, rfl⟩
  obtain ⟨y, hyy⟩ : ∃ y, y = (fm 1).fy a := ⟨_, rfl⟩
  rw [← hyy] at q2 hyl hmag hni hii hsi
  rw [← hxx] at q3 hxl hmag hex hfin hni hii
  obtain ⟨sg, hsg⟩ : ∃ s, s = (fm 1).neg a := ⟨_, rfl⟩
  rw [← hsg] at e1
  have hpar := fun wx => rparams_ok 1 wx (by decide)
  rw [show (fm 1).w = 16 from rfl, show (fm 1).p = 8 from rfl, show (fm 1).emin = -126 from rfl] at hpar
  have Hpar := Lib.hid hpar
  rw [← hxx] at hx
  subst hx
  have hinf : (fm 1).isInf a = decide (y = 0) := by rw [hii]; simp
  have hnan : (fm 1).isNan a = !decide (y = 0) := by rw [hni]; simp
  have hsig : (fm 1).isSig a = (!decide (y = 0) && !decide (64 ≤ y)) := by rw [hsi, hnan]
  have hop : opD (fm 1) a = ⟨false, 0, 0⟩ := by unfold opD; rw [if_neg (fun h => (hfin.1 h) rfl)]
  have e2 : ((y : Int) == 0) = decide (y = 0) := by
    by_cases c : y = 0 <;> simp [c]
  have e4 : ((y : Int) != 0) = !decide (y = 0) := by
    by_cases c : y = 0 <;> simp [c]
  have e3 : ((y : Int) / 64 == 0) = !decide (64 ≤ y) := by
    by_cases c : 64 ≤ y
    · rw [decide_eq_true c, Bool.not_true, beq_eq_false_iff_ne]; omega
    · rw [decide_eq_false c, Bool.not_false, beq_iff_eq]; omega
  obtain ⟨i0, hi0⟩ : ∃ b, b = decide (y = 0) := ⟨_, rfl⟩
  obtain ⟨i1, hi1⟩ : ∃ b, b = !decide (64 ≤ y) := ⟨_, rfl⟩
  rw [← hi0] at hinf hnan hsig e2 e4
  rw [← hi1] at hsig e3
  have HV := Lib.hid (And.intro hop (And.intro hinf (And.intro hnan (And.intro hsig hsg))))
  clear hii hni hsi hfin hmag hex ha hs0 hxx hyy hsg hop hinf hnan hsig hi0 hi1 hxl ok
  have hb1 := below1 w (.cells #[.bool false, .bool false, .bool false, .bool false, .bool false, .slice none 0 0, .int .i64 0] 78)
  have b1 := Bx.new w #[.bool false, .bool false, .bool false, .bool false, .bool false, .slice none 0 0, .int .i64 0] 78
  obtain ⟨W1, hW1⟩ : ∃ W1, W1 = w.alloc (.cells #[.bool false, .bool false, .bool false, .bool false, .bool false, .slice none 0 0, .int .i64 0] 78) := ⟨_, rfl⟩
  rw [← hW1] at hb1 b1
  have hsz : W1.heap.size = w.heap.size + 1 := by rw [hW1]; simp
  have hb2 := below1 W1 (.cells #[.bool false, .bool false, .bool false, .bool sg, .bool false, .slice none 0 0, .int .i64 0] 78)
  have b2 := Bx.new W1 #[.bool false, .bool false, .bool false, .bool sg, .bool false, .slice none 0 0, .int .i64 0] 78
  obtain ⟨W2, hW2⟩ : ∃ W2, W2 = W1.alloc (.cells #[.bool false, .bool false, .bool false, .bool sg, .bool false, .slice none 0 0, .int .i64 0] 78) := ⟨_, rfl⟩
  rw [← hW2] at hb2 b2
  rw [hsz] at b2
  have HB := Lib.hid (keep_belowB hb1 hb2 (Nat.le_refl _))
  have B1 := Lib.hid (b1.below hb2)
  have B2 := Lib.hid b2
  have HW := Lib.hid (And.intro hW1 hW2)
  clear hb1 b1 hb2 b2 hsz hW1 hW2 hpar
  go_enter Try.func50, Try.ntmps50
  go_wp2_with fail
  refine (Hpar.out _).mono ?_
  rintro _ _ ⟨rfl, rfl⟩
  go_upto_region 6 with (fail)
  rw [← HW.out.1, ← HW.out.2]
  clear HW
  obtain ⟨x0, x1, x2, x3, x4, x5, x6⟩ := B2.out.seven
  have xf : ∀ j, W2.frozen? ⟨w.heap.size + 1, j, none⟩ = false := fun j => B2.out.free j
  go_upto_region 7 with (fail)
  clear x0 x1 x2 x3 x4 x5 x6 xf
  replace B2 := Lib.hid (B2.out.put 2 (.bool i0) #[.bool false, .bool false, .bool i0, .bool sg, .bool false, .slice none 0 0, .int .i64 0] rfl)
  replace B1 := Lib.hid (B1.out.other (p := ⟨w.heap.size + 1, 2, none⟩) (by show w.heap.size + 1 ≠ w.heap.size; omega) (.bool i0))
  replace HB := Lib.hid (HB.out.setCell (p := ⟨w.heap.size + 1, 2, none⟩) (Nat.le_succ _) (.bool i0))
  generalize W2.setCell ⟨w.heap.size + 1, 2, none⟩ (.bool i0) = W3 at *
  obtain ⟨x0, x1, x2, x3, x4, x5, x6⟩ := B2.out.seven
  have xf : ∀ j, W3.frozen? ⟨w.heap.size + 1, j, none⟩ = false := fun j => B2.out.free j
  go_upto_region 8 with (fail)
  clear x0 x1 x2 x3 x4 x5 x6 xf
  replace B2 := Lib.hid (B2.out.put 0 (.bool (!i0)) #[.bool (!i0), .bool false, .bool i0, .bool sg, .bool false, .slice none 0 0, .int .i64 0] rfl)
  replace B1 := Lib.hid (B1.out.other (p := ⟨w.heap.size + 1, 0, none⟩) (by show w.heap.size + 1 ≠ w.heap.size; omega) (.bool (!i0)))
  replace HB := Lib.hid (HB.out.setCell (p := ⟨w.heap.size + 1, 0, none⟩) (Nat.le_succ _) (.bool (!i0)))
  generalize W3.setCell ⟨w.heap.size + 1, 0, none⟩ (.bool (!i0)) = W4 at *
  cases i0
  · obtain ⟨x0, x1, x2, x3, x4, x5, x6⟩ := B2.out.seven
    have xf : ∀ j, W4.frozen? ⟨w.heap.size + 1, j, none⟩ = false := fun j => B2.out.free j
    go_upto_region 9 with (fail)
    clear x0 x1 x2 x3 x4 x5 x6 xf
    replace B2 := Lib.hid (B2.out.put 1 (.bool i1) #[.bool true, .bool i1, .bool false, .bool sg, .bool false, .slice none 0 0, .int .i64 0] rfl)
    replace B1 := Lib.hid (B1.out.other (p := ⟨w.heap.size + 1, 1, none⟩) (by show w.heap.size + 1 ≠ w.heap.size; omega) (.bool i1))
    replace HB := Lib.hid (HB.out.setCell (p := ⟨w.heap.size + 1, 1, none⟩) (Nat.le_succ _) (.bool i1))
    generalize W4.setCell ⟨w.heap.size + 1, 1, none⟩ (.bool i1) = W5 at *
    obtain ⟨x0, x1, x2, x3, x4, x5, x6⟩ := B2.out.seven
    obtain ⟨y0, y1, y2, y3, y4, y5, y6⟩ := B1.out.seven
    have yf : ∀ j, W5.frozen? ⟨w.heap.size, j, none⟩ = false := fun j => B1.out.free j
    go_wp2_with fail
    obtain ⟨r0, r1, r2, r3, r4, r5, r6⟩ := (B1.out.set7 (.bool true) (.bool i1) (.bool false) (.bool sg) (.bool false) (.slice none 0 0) (.int .i64 0)).seven
    refine bodyPost_ret (v := .agg #[.bool true, .bool i1, .bool false, .bool sg, .bool false, .slice none 0 0, .int .i64 0]) (by simp [results, Try.results50, go_sem, r0, r1, r2, r3, r4, r5, r6]) rfl ?_
    obtain ⟨v1, v2, v3, v4, v5⟩ := HV.out
    refine ⟨_, rfl, .slice none 0 0, ?_, ?_, below_set7 HB.out (Nat.le_refl _) _ _ _ _ _ _ _⟩
    · rw [v1, v2, v3, v4, ← v5]; simp
    · rw [v1]; exact ⟨none, 0, rfl, Nat.le_refl _, Nat.zero_le _, pow_pos2 _, fun h => by simp [nd_zero] at h⟩
  · obtain ⟨x0, x1, x2, x3, x4, x5, x6⟩ := B2.out.seven
    have xf : ∀ j, W4.frozen? ⟨w.heap.size + 1, j, none⟩ = false := fun j => B2.out.free j
    go_upto_region 9 with (fail)
    clear x0 x1 x2 x3 x4 x5 x6 xf
    replace B2 := Lib.hid (B2.out.put 1 (.bool false) #[.bool false, .bool false, .bool true, .bool sg, .bool false, .slice none 0 0, .int .i64 0] rfl)
    replace B1 := Lib.hid (B1.out.other (p := ⟨w.heap.size + 1, 1, none⟩) (by show w.heap.size + 1 ≠ w.heap.size; omega) (.bool false))
    replace HB := Lib.hid (HB.out.setCell (p := ⟨w.heap.size + 1, 1, none⟩) (Nat.le_succ _) (.bool false))
    generalize W4.setCell ⟨w.heap.size + 1, 1, none⟩ (.bool false) = W5 at *
    obtain ⟨x0, x1, x2, x3, x4, x5, x6⟩ := B2.out.seven
    obtain ⟨y0, y1, y2, y3, y4, y5, y6⟩ := B1.out.seven
    have yf : ∀ j, W5.frozen? ⟨w.heap.size, j, none⟩ = false := fun j => B1.out.free j
    go_wp2_with fail
    obtain ⟨r0, r1, r2, r3, r4, r5, r6⟩ := (B1.out.set7 (.bool false) (.bool false) (.bool true) (.bool sg) (.bool false) (.slice none 0 0) (.int .i64 0)).seven
    refine bodyPost_ret (v := .agg #[.bool false, .bool false, .bool true, .bool sg, .bool false, .slice none 0 0, .int .i64 0]) (by simp [results, Try.results50, go_sem, r0, r1, r2, r3, r4, r5, r6]) rfl ?_
    obtain ⟨v1, v2, v3, v4, v5⟩ := HV.out
    refine ⟨_, rfl, .slice none 0 0, ?_, ?_, below_set7 HB.out (Nat.le_refl _) _ _ _ _ _ _ _⟩
    · rw [v1, v2, v3, v4, ← v5]; simp
    · rw [v1]; exact ⟨none, 0, rfl, Nat.le_refl _, Nat.zero_le _, pow_pos2 _, fun h => by simp [nd_zero] at h⟩

set_option maxRecDepth 100000 in
set_option maxHeartbeats 8000000 in
theorem open_1_sub (a : Nat) (w : World) (ha : a < 2 ^ (fm 1).w) (hx : (fm 1).fx a = 0) :
    Calls Try.prog 50 #[.int .i64 1, .int .u64 a] w fun e w' => ∃ v, e = .returned v ∧ OpenV (fm 1) a w w' v := by
  have ok := fm_ok 1
  have a64 : a < 18446744073709551616 := Nat.lt_of_lt_of_le ha (show 2 ^ 16 ≤ 18446744073709551616 by decide)
  have q1 : bits .and .u64 ((a : Int) / 32768) 1 = ((a / 32768 % 2 : Nat) : Int) := by
    have := and_u64 (a / 32768) 1 (Nat.lt_of_le_of_lt (Nat.div_le_self _ _) a64) 1 (by decide) (by decide)
    rw [← show ((a / 32768 : Nat) : Int) = (a : Int) / 32768 by simp, this]
  have q2 : bits .and .u64 (a : Int) 127 = ((fm 1).fy a : Int) := by
    have := and_u64 a 7 a64 127 (by decide) (by decide)
    rw [this, ← fy_eq ok a]; rfl
  have q3 : bits .and .u64 ((a : Int) / 128) 255 = ((fm 1).fx a : Int) := by
    have := and_u64 (a / 128) 8 (Nat.lt_of_le_of_lt (Nat.div_le_self _ _) a64) 255 (by decide) (by decide)
    rw [← show ((a / 128 : Nat) : Int) = (a : Int) / 128 by simp, this, ← fx_eq ok a]; rfl
  have e1 : (((a / 32768 % 2 : Nat) : Int) == 1) = (fm 1).neg a := neg_eq ok ha
  obtain ⟨s0, hs0⟩ : ∃ s, s = a / 32768 % 2 := ⟨_, rfl⟩
  rw [← hs0] at q1 e1
  have hyl : (fm 1).fy a < 128 := fy_lt a
  have hxl : (fm 1).fx a < 256 := fx_lt ok a
  obtain ⟨hmag, hex⟩ := mag_ex (F := fm 1) a
  have hfin := fin_iff ok a
  have hni := isNan_iff ok a
  have hii := isInf_iff ok a
  have hsi := isSig_iff ok a
  rw [show (2 ^ ((fm 1).w - (fm 1).p) - 1) = 255 from rfl] at hfin hni hii
  rw [show (2 ^ ((fm 1).p - 2)) = 64 from rfl] at hsi
  rw [show (2 ^ ((fm 1).p - 1)) = 128 from rfl] at hmag
  rw [show (fm 1).emin - ((fm 1).p : Int) + 1 = -133 from rfl] at hex
  obtain ⟨x, hxx⟩ : ∃ x, x = (fm 1).fx a := ⟨_, rfl⟩
  obtain ⟨y, hyy⟩ : ∃ y, y = (fm 1).fy a := ⟨_, rfl⟩
  rw [← hyy] at q2 hyl hmag hni hii hsi
  rw [← hxx] at q3 hxl hmag hex hfin hni hii
  obtain ⟨sg, hsg⟩ : ∃ s, s = (fm 1).neg a := ⟨_, rfl⟩
  rw [← hsg] at e1
  have hpar := fun wx => rparams_ok 1 wx (by decide)
  rw [show (fm 1).w = 16 from rfl, show (fm 1).p = 8 from rfl, show (fm 1).emin = -126 from rfl] at hpar
  have Hpar := Lib.hid hpar
  rw [← hxx] at hx
  subst hx
  have hop : opD (fm 1) a = ⟨sg, y, -133⟩ := by
    unfold opD
    rw [if_pos (hfin.2 (by decide)), ← hsg, hmag, hex, if_pos rfl, if_pos rfl]
  have hn' : (fm 1).isNan a = false := by rw [hni]; rfl
  have hi' : (fm 1).isInf a = false := by rw [hii]; rfl
  have t0 : (((0 : Nat) : Int) == 255) = false := by decide
  have hs' : (fm 1).isSig a = false := by rw [hsi, hn']; rfl
  obtain ⟨E, hE⟩ : ∃ E : Int, E = -133 := ⟨_, rfl⟩
  rw [← hE] at hop
  obtain ⟨N, hN⟩ : ∃ N, N = y := ⟨_, rfl⟩
  rw [← hN] at hop
  have hNl : N < 18446744073709551616 := by omega
  have e2 : ((y : Int) == 0) = decide (y = 0) := by
    by_cases c : y = 0 <;> simp [c]
  obtain ⟨i0, hi0⟩ : ∃ b, b = decide (y = 0) := ⟨_, rfl⟩
  rw [← hi0] at e2
  have HV := Lib.hid (And.intro hop (And.intro hi' (And.intro hn' (And.intro hs' hsg))))
  have HN := Lib.hid (And.intro hN hE)
  have hNk : (N : Int) = (y : Int) := by omega
  have HNk := Lib.hid hNk
  clear hii hni hsi hfin hmag hex ha hs0 hxx hyy hsg hop hi' hn' hs' hi0 ok hN hE hNk
  have hb1 := below1 w (.cells #[.bool false, .bool false, .bool false, .bool false, .bool false, .slice none 0 0, .int .i64 0] 78)
  have b1 := Bx.new w #[.bool false, .bool false, .bool false, .bool false, .bool false, .slice none 0 0, .int .i64 0] 78
  obtain ⟨W1, hW1⟩ : ∃ W1, W1 = w.alloc (.cells #[.bool false, .bool false, .bool false, .bool false, .bool false, .slice none 0 0, .int .i64 0] 78) := ⟨_, rfl⟩
  rw [← hW1] at hb1 b1
  have hsz : W1.heap.size = w.heap.size + 1 := by rw [hW1]; simp
  have hb2 := below1 W1 (.cells #[.bool false, .bool false, .bool false, .bool sg, .bool false, .slice none 0 0, .int .i64 0] 78)
  have b2 := Bx.new W1 #[.bool false, .bool false, .bool false, .bool sg, .bool false, .slice none 0 0, .int .i64 0] 78
  obtain ⟨W2, hW2⟩ : ∃ W2, W2 = W1.alloc (.cells #[.bool false, .bool false, .bool false, .bool sg, .bool false, .slice none 0 0, .int .i64 0] 78) := ⟨_, rfl⟩
  rw [← hW2] at hb2 b2
  rw [hsz] at b2
  have HB := Lib.hid (keep_belowB hb1 hb2 (Nat.le_refl _))
  have B1 := Lib.hid (b1.below hb2)
  have B2 := Lib.hid b2
  have HW := Lib.hid (And.intro hW1 hW2)
  clear hb1 b1 hb2 b2 hsz hW1 hW2 hpar
  go_enter Try.func50, Try.ntmps50
  go_wp2_with fail
  refine (Hpar.out _).mono ?_
  rintro _ _ ⟨rfl, rfl⟩
  go_upto_region 14 with (fail)
  rw [← HW.out.1, ← HW.out.2]
  clear HW
  rw [← HNk.out, ← HN.out.2]
  have hrd1 : Rd 64 (W2.drew.alloc (.cells #[.int .u64 N] 24)) (.slice (some ⟨W2.drew.heap.size, 0, none⟩) 1 1) N 1 := Rd.one64 W2.drew N hNl 24
  have hdg : ∀ wx v, Rd 64 wx v N 1 → Calls Try.prog 60 #[v] wx fun e' w' => ∃ A c, e' = .returned (.slice A (nd 32 N) c) ∧ (Rd 32 w' (.slice A (nd 32 N) c) N (nd 32 N) ∧ Fr wx.heap.size w' (.slice A (nd 32 N) c)) ∧ Below wx.heap.size wx w' := fun wx v h => (rDigits_any v N 1 wx h (by decide)).mono fun _ _ ⟨v', h1, h2, h3⟩ => by obtain ⟨A, c, rfl, _⟩ := h2.1.form; exact ⟨A, c, h1, h2, h3⟩
  have HD := Lib.hid hdg
  have x3 := (B2.out.seven).2.2.2.1
  have hbd : Below W2.heap.size W2 (W2.drew.alloc (.cells #[.int .u64 N] 24)) := ((Below.refl _ _).drew).alloc (Nat.le_refl _) _
  have HBD := Lib.hid hbd
  have hbB := HB.out
  clear hdg q1 q2 q3 e1 e2 t0 hyl a64 hxl hbd
  go_region_held3 (fun w' => w'.cell? ⟨w.heap.size + 1, 3, none⟩ = some (.bool sg))
    (first | exact x3 | exact keep_cell HBD.out x3 | exact keep_cell hb3 (keep_cell HBD.out x3) | exact cell_456 z3)
    ((first | (go_at_call 60; refine (HD.out _ _ hrd1).mono ?_; rintro _ w3 ⟨A3, c3, rfl, hr3, hb3⟩; have bx3 := ((B2.out.below HBD.out).below hb3); have xf : ∀ j, w3.frozen? ⟨w.heap.size + 1, j, none⟩ = false := fun j => bx3.free j; obtain ⟨z0, z1, z2, z3, z4, z5, z6⟩ := bx3.seven)))
  have hb4 := hb3
  have by3 := (B1.out.below HBD.out).below hb3
  have hB3 := keep_belowB (keep_belowB hbB HBD.out (Nat.le_refl _)) hb3 (Nat.le_refl _)
  have hlt : w.heap.size + 1 < W2.heap.size := B2.out.lt
  have hfr3 := hr3.2
  have hsz3 : (W2.drew.alloc (.cells #[.int .u64 N] 24)).heap.size = W2.heap.size + 1 := by simp
  rw [hsz3] at hfr3
  have hr4 := Rd.set456 hr3.1 (hfr3.mono (B' := w.heap.size + 2) (by omega)) (.bool sg) (.slice A3 (nd 32 N) c3) (.int .i64 E)
  have bx4 := bx3.set456 (.bool sg) (.slice A3 (nd 32 N) c3) (.int .i64 E)
  have by4 := ((by3.other (p := ⟨w.heap.size + 1, 4, none⟩) (by show w.heap.size + 1 ≠ w.heap.size; omega) (.bool sg)).other (p := ⟨w.heap.size + 1, 5, none⟩) (by show w.heap.size + 1 ≠ w.heap.size; omega) (.slice A3 (nd 32 N) c3)).other (p := ⟨w.heap.size + 1, 6, none⟩) (by show w.heap.size + 1 ≠ w.heap.size; omega) (.int .i64 E)
  have hB4 := ((hB3.setCell (p := ⟨w.heap.size + 1, 4, none⟩) (Nat.le_succ _) (.bool sg)).setCell (p := ⟨w.heap.size + 1, 5, none⟩) (Nat.le_succ _) (.slice A3 (nd 32 N) c3)).setCell (p := ⟨w.heap.size + 1, 6, none⟩) (Nat.le_succ _) (.int .i64 E)
  clear z0 z1 z2 z3 z4 z5 z6 hb3 hb4 bx3 by3 xf x3 hr3 hfr3 hsz3 hB3 HBD hrd1 HD HB hbB
  generalize ((w3.setCell ⟨w.heap.size + 1, 4, none⟩ (.bool sg)).setCell ⟨w.heap.size + 1, 5, none⟩ (.slice A3 (nd 32 N) c3)).setCell ⟨w.heap.size + 1, 6, none⟩ (.int .i64 E) = W4 at *
  have B3 := Lib.hid bx4
  have B4 := Lib.hid by4
  have HR4 := Lib.hid hr4
  have HB4 := Lib.hid hB4
  clear bx4 by4 hr4 hB4 B1 B2
  obtain ⟨x0, x1, x2, x3, x4, x5, x6⟩ := B3.out.seven
  obtain ⟨y0, y1, y2, y3, y4, y5, y6⟩ := B4.out.seven
  have yf : ∀ j, W4.frozen? ⟨w.heap.size, j, none⟩ = false := fun j => B4.out.free j
  go_wp2_with fail
  obtain ⟨r0, r1, r2, r3, r4, r5, r6⟩ := (B4.out.set7 (.bool false) (.bool false) (.bool false) (.bool sg) (.bool sg) (.slice A3 (nd 32 N) c3) (.int .i64 E)).seven
  refine bodyPost_ret (v := .agg #[.bool false, .bool false, .bool false, .bool sg, .bool sg, .slice A3 (nd 32 N) c3, .int .i64 E]) (by simp [results, Try.results50, go_sem, r0, r1, r2, r3, r4, r5, r6]) rfl ?_
  obtain ⟨v1, v2, v3', v4, v5⟩ := HV.out
  refine ⟨_, rfl, .slice A3 (nd 32 N) c3, ?_, ?_, below_set7 HB4.out (Nat.le_refl _) _ _ _ _ _ _ _⟩
  · rw [v1, v2, v3', v4, ← v5]
  · rw [v1]; exact Rd.set7 HR4.out.1 (HR4.out.2.mono (Nat.le_succ _)) _ _ _ _ _ _ _

set_option maxRecDepth 100000 in
set_option maxHeartbeats 8000000 in
theorem open_1_norm (a : Nat) (w : World) (ha : a < 2 ^ (fm 1).w) (hx0 : (fm 1).fx a ≠ 0) (hx : (fm 1).fx a ≠ 255) :
    Calls Try.prog 50 #[.int .i64 1, .int .u64 a] w fun e w' => ∃ v, e = .returned v ∧ OpenV (fm 1) a w w' v := by
  have ok := fm_ok 1
  have a64 : a < 18446744073709551616 := Nat.lt_of_lt_of_le ha (show 2 ^ 16 ≤ 18446744073709551616 by decide)
  have q1 : bits .and .u64 ((a : Int) / 32768) 1 = ((a / 32768 % 2 : Nat) : Int) := by
    have := and_u64 (a / 32768) 1 (Nat.lt_of_le_of_lt (Nat.div_le_self _ _) a64) 1 (by decide) (by decide)
    rw [← show ((a / 32768 : Nat) : Int) = (a : Int) / 32768 by simp, this]
  have q2 : bits .and .u64 (a : Int) 127 = ((fm 1).fy a : Int) := by
    have := and_u64 a 7 a64 127 (by decide) (by decide)
    rw [this, ← fy_eq ok a]; rfl
  have q3 : bits .and .u64 ((a : Int) / 128) 255 = ((fm 1).fx a : Int) := by
    have := and_u64 (a / 128) 8 (Nat.lt_of_le_of_lt (Nat.div_le_self _ _) a64) 255 (by decide) (by decide)
    rw [← show ((a / 128 : Nat) : Int) = (a : Int) / 128 by simp, this, ← fx_eq ok a]; rfl
  have e1 : (((a / 32768 % 2 : Nat) : Int) == 1) = (fm 1).neg a := neg_eq ok ha
  obtain ⟨s0, hs0⟩ : ∃ s, s = a / 32768 % 2 := ⟨_, rfl⟩
  rw [← hs0] at q1 e1
  have hyl : (fm 1).fy a < 128 := fy_lt a
  have hxl : (fm 1).fx a < 256 := fx_lt ok a
  obtain ⟨hmag, hex⟩ := mag_ex (F := fm 1) a
  have hfin := fin_iff ok a
  have hni := isNan_iff ok a
  have hii := isInf_iff ok a
  have hsi := isSig_iff ok a
  rw [show (2 ^ ((fm 1).w - (fm 1).p) - 1) = 255 from rfl] at hfin hni hii
  rw [show (2 ^ ((fm 1).p - 2)) = 64 from rfl] at hsi
  rw [show (2 ^ ((fm 1).p - 1)) = 128 from rfl] at hmag
  rw [show (fm 1).emin - ((fm 1).p : Int) + 1 = -133 from rfl] at hex
  obtain ⟨x, hxx⟩ : ∃ x, x = (fm 1).fx a := ⟨_, rfl⟩
  obtain ⟨y, hyy⟩ : ∃ y, y = (fm 1).fy a := ⟨_, rfl⟩
  rw [← hyy] at q2 hyl hmag hni hii hsi
  rw [← hxx] at q3 hxl hmag hex hfin hni hii
  obtain ⟨sg, hsg⟩ : ∃ s, s = (fm 1).neg a := ⟨_, rfl⟩
  rw [← hsg] at e1
  have hpar := fun wx => rparams_ok 1 wx (by decide)
  rw [show (fm 1).w = 16 from rfl, show (fm 1).p = 8 from rfl, show (fm 1).emin = -126 from rfl] at hpar
  have Hpar := Lib.hid hpar
  rw [← hxx] at hx hx0
  have hop : opD (fm 1) a = ⟨sg, y + 128, -133 + ((x : Int) - 1)⟩ := by
    unfold opD
    rw [if_pos (hfin.2 hx), ← hsg, hmag, hex, if_neg hx0, if_neg hx0, Nat.add_comm]
    congr 1
    omega
  have hn' : (fm 1).isNan a = false := by rw [hni, decide_eq_false hx]; rfl
  have hi' : (fm 1).isInf a = false := by rw [hii, decide_eq_false hx]; rfl
  have t0 : ((x : Int) == 255) = false := by rw [beq_eq_false_iff_ne]; omega
  have t1 : decide ((x : Int) > 0) = true := by rw [decide_eq_true_eq]; omega
  have hx1 : 1 ≤ x := by omega
  have hs' : (fm 1).isSig a = false := by rw [hsi, hn']; rfl
  obtain ⟨E, hE⟩ : ∃ E : Int, E = -133 + ((x : Int) - 1) := ⟨_, rfl⟩
  rw [← hE] at hop
  obtain ⟨N, hN⟩ : ∃ N, N = (y + 128) := ⟨_, rfl⟩
  rw [← hN] at hop
  have hNl : N < 18446744073709551616 := by omega
  have e2 : ((y : Int) == 0) = decide (y = 0) := by
    by_cases c : y = 0 <;> simp [c]
  obtain ⟨i0, hi0⟩ : ∃ b, b = decide (y = 0) := ⟨_, rfl⟩
  rw [← hi0] at e2
  have HV := Lib.hid (And.intro hop (And.intro hi' (And.intro hn' (And.intro hs' hsg))))
  have HN := Lib.hid (And.intro hN hE)
  have hNk : (N : Int) = (y : Int) + 128 := by omega
  have HNk := Lib.hid hNk
  clear hii hni hsi hfin hmag hex ha hs0 hxx hyy hsg hop hi' hn' hs' hi0 ok hN hE hNk hx hx0
  have hb1 := below1 w (.cells #[.bool false, .bool false, .bool false, .bool false, .bool false, .slice none 0 0, .int .i64 0] 78)
  have b1 := Bx.new w #[.bool false, .bool false, .bool false, .bool false, .bool false, .slice none 0 0, .int .i64 0] 78
  obtain ⟨W1, hW1⟩ : ∃ W1, W1 = w.alloc (.cells #[.bool false, .bool false, .bool false, .bool false, .bool false, .slice none 0 0, .int .i64 0] 78) := ⟨_, rfl⟩
  rw [← hW1] at hb1 b1
  have hsz : W1.heap.size = w.heap.size + 1 := by rw [hW1]; simp
  have hb2 := below1 W1 (.cells #[.bool false, .bool false, .bool false, .bool sg, .bool false, .slice none 0 0, .int .i64 0] 78)
  have b2 := Bx.new W1 #[.bool false, .bool false, .bool false, .bool sg, .bool false, .slice none 0 0, .int .i64 0] 78
  obtain ⟨W2, hW2⟩ : ∃ W2, W2 = W1.alloc (.cells #[.bool false, .bool false, .bool false, .bool sg, .bool false, .slice none 0 0, .int .i64 0] 78) := ⟨_, rfl⟩
  rw [← hW2] at hb2 b2
  rw [hsz] at b2
  have HB := Lib.hid (keep_belowB hb1 hb2 (Nat.le_refl _))
  have B1 := Lib.hid (b1.below hb2)
  have B2 := Lib.hid b2
  have HW := Lib.hid (And.intro hW1 hW2)
  clear hb1 b1 hb2 b2 hsz hW1 hW2 hpar
  go_enter Try.func50, Try.ntmps50
  go_wp2_with fail
  refine (Hpar.out _).mono ?_
  rintro _ _ ⟨rfl, rfl⟩
  go_upto_region 14 with (fail)
  rw [← HW.out.1, ← HW.out.2]
  clear HW
  rw [← HNk.out, ← HN.out.2]
  have hrd1 : Rd 64 (W2.drew.alloc (.cells #[.int .u64 N] 24)) (.slice (some ⟨W2.drew.heap.size, 0, none⟩) 1 1) N 1 := Rd.one64 W2.drew N hNl 24
  have hdg : ∀ wx v, Rd 64 wx v N 1 → Calls Try.prog 60 #[v] wx fun e' w' => ∃ A c, e' = .returned (.slice A (nd 32 N) c) ∧ (Rd 32 w' (.slice A (nd 32 N) c) N (nd 32 N) ∧ Fr wx.heap.size w' (.slice A (nd 32 N) c)) ∧ Below wx.heap.size wx w' := fun wx v h => (rDigits_any v N 1 wx h (by decide)).mono fun _ _ ⟨v', h1, h2, h3⟩ => by obtain ⟨A, c, rfl, _⟩ := h2.1.form; exact ⟨A, c, h1, h2, h3⟩
  have HD := Lib.hid hdg
  have x3 := (B2.out.seven).2.2.2.1
  have hbd : Below W2.heap.size W2 (W2.drew.alloc (.cells #[.int .u64 N] 24)) := ((Below.refl _ _).drew).alloc (Nat.le_refl _) _
  have HBD := Lib.hid hbd
  have hbB := HB.out
  clear hdg q1 q2 q3 e1 e2 t0 hyl a64 hxl hbd t1 hx1
  go_region_held3 (fun w' => w'.cell? ⟨w.heap.size + 1, 3, none⟩ = some (.bool sg))
    (first | exact x3 | exact keep_cell HBD.out x3 | exact keep_cell hb3 (keep_cell HBD.out x3) | exact cell_456 z3)
    ((first | (go_at_call 60; refine (HD.out _ _ hrd1).mono ?_; rintro _ w3 ⟨A3, c3, rfl, hr3, hb3⟩; have bx3 := ((B2.out.below HBD.out).below hb3); have xf : ∀ j, w3.frozen? ⟨w.heap.size + 1, j, none⟩ = false := fun j => bx3.free j; obtain ⟨z0, z1, z2, z3, z4, z5, z6⟩ := bx3.seven)))
  have hb4 := hb3
  have by3 := (B1.out.below HBD.out).below hb3
  have hB3 := keep_belowB (keep_belowB hbB HBD.out (Nat.le_refl _)) hb3 (Nat.le_refl _)
  have hlt : w.heap.size + 1 < W2.heap.size := B2.out.lt
  have hfr3 := hr3.2
  have hsz3 : (W2.drew.alloc (.cells #[.int .u64 N] 24)).heap.size = W2.heap.size + 1 := by simp
  rw [hsz3] at hfr3
  have hr4 := Rd.set456 hr3.1 (hfr3.mono (B' := w.heap.size + 2) (by omega)) (.bool sg) (.slice A3 (nd 32 N) c3) (.int .i64 E)
  have bx4 := bx3.set456 (.bool sg) (.slice A3 (nd 32 N) c3) (.int .i64 E)
  have by4 := ((by3.other (p := ⟨w.heap.size + 1, 4, none⟩) (by show w.heap.size + 1 ≠ w.heap.size; omega) (.bool sg)).other (p := ⟨w.heap.size + 1, 5, none⟩) (by show w.heap.size + 1 ≠ w.heap.size; omega) (.slice A3 (nd 32 N) c3)).other (p := ⟨w.heap.size + 1, 6, none⟩) (by show w.heap.size + 1 ≠ w.heap.size; omega) (.int .i64 E)
  have hB4 := ((hB3.setCell (p := ⟨w.heap.size + 1, 4, none⟩) (Nat.le_succ _) (.bool sg)).setCell (p := ⟨w.heap.size + 1, 5, none⟩) (Nat.le_succ _) (.slice A3 (nd 32 N) c3)).setCell (p := ⟨w.heap.size + 1, 6, none⟩) (Nat.le_succ _) (.int .i64 E)
  clear z0 z1 z2 z3 z4 z5 z6 hb3 hb4 bx3 by3 xf x3 hr3 hfr3 hsz3 hB3 HBD hrd1 HD HB hbB
  generalize ((w3.setCell ⟨w.heap.size + 1, 4, none⟩ (.bool sg)).setCell ⟨w.heap.size + 1, 5, none⟩ (.slice A3 (nd 32 N) c3)).setCell ⟨w.heap.size + 1, 6, none⟩ (.int .i64 E) = W4 at *
  have B3 := Lib.hid bx4
  have B4 := Lib.hid by4
  have HR4 := Lib.hid hr4
  have HB4 := Lib.hid hB4
  clear bx4 by4 hr4 hB4 B1 B2
  obtain ⟨x0, x1, x2, x3, x4, x5, x6⟩ := B3.out.seven
  obtain ⟨y0, y1, y2, y3, y4, y5, y6⟩ := B4.out.seven
  have yf : ∀ j, W4.frozen? ⟨w.heap.size, j, none⟩ = false := fun j => B4.out.free j
  go_wp2_with fail
  obtain ⟨r0, r1, r2, r3, r4, r5, r6⟩ := (B4.out.set7 (.bool false) (.bool false) (.bool false) (.bool sg) (.bool sg) (.slice A3 (nd 32 N) c3) (.int .i64 E)).seven
  refine bodyPost_ret (v := .agg #[.bool false, .bool false, .bool false, .bool sg, .bool sg, .slice A3 (nd 32 N) c3, .int .i64 E]) (by simp [results, Try.results50, go_sem, r0, r1, r2, r3, r4, r5, r6]) rfl ?_
  obtain ⟨v1, v2, v3', v4, v5⟩ := HV.out
  refine ⟨_, rfl, .slice A3 (nd 32 N) c3, ?_, ?_, below_set7 HB4.out (Nat.le_refl _) _ _ _ _ _ _ _⟩
  · rw [v1, v2, v3', v4, ← v5]
  · rw [v1]; exact Rd.set7 HR4.out.1 (HR4.out.2.mono (Nat.le_succ _)) _ _ _ _ _ _ _

set_option maxRecDepth 100000 in
set_option maxHeartbeats 8000000 in
theorem open_2_spec (a : Nat) (w : World) (ha : a < 2 ^ (fm 2).w) (hx : (fm 2).fx a = 255) :
    Calls Try.prog 50 #[.int .i64 2, .int .u64 a] w fun e w' => ∃ v, e = .returned v ∧ OpenV (fm 2) a w w' v := by
  have ok := fm_ok 2
  have a64 : a < 18446744073709551616 := Nat.lt_of_lt_of_le ha (show 2 ^ 32 ≤ 18446744073709551616 by decide)
  have q1 : bits .and .u64 ((a : Int) / 2147483648) 1 = ((a / 2147483648 % 2 : Nat) : Int) := by
    have := and_u64 (a / 2147483648) 1 (Nat.lt_of_le_of_lt (Nat.div_le_self _ _) a64) 1 (by decide) (by decide)
    rw [← show ((a / 2147483648 : Nat) : Int) = (a : Int) / 2147483648 by simp, this]
  have q2 : bits .and .u64 (a : Int) 8388607 = ((fm 2).fy a : Int) := by
    have := and_u64 a 23 a64 8388607 (by decide) (by decide)
    rw [this, ← fy_eq ok a]; rfl
  have q3 : bits .and .u64 ((a : Int) / 8388608) 255 = ((fm 2).fx a : Int) := by
    have := and_u64 (a / 8388608) 8 (Nat.lt_of_le_of_lt (Nat.div_le_self _ _) a64) 255 (by decide) (by decide)
    rw [← show ((a / 8388608 : Nat) : Int) = (a : Int) / 8388608 by simp, this, ← fx_eq ok a]; rfl
  have e1 : (((a / 2147483648 % 2 : Nat) : Int) == 1) = (fm 2).neg a := neg_eq ok ha
  obtain ⟨s0, hs0⟩ : ∃ s, s = a / 2147483648 % 2 := ⟨_, rfl⟩
  rw [← hs0] at q1 e1
  have hyl : (fm 2).fy a < 8388608 := fy_lt a
  have hxl : (fm 2).fx a < 256 := fx_lt ok a
  obtain ⟨hmag, hex⟩ := mag_ex (F := fm 2) a
  have hfin := fin_iff ok a
  have hni := isNan_iff ok a
  have hii := isInf_iff ok a
  have hsi := isSig_iff ok a
  rw [show (2 ^ ((fm 2).w - (fm 2).p) - 1) = 255 from rfl] at hfin hni hii
  rw [show (2 ^ ((fm 2).p - 2)) = 4194304 from rfl] at hsi
  rw [show (2 ^ ((fm 2).p - 1)) = 8388608 from rfl] at hmag
  rw [show (fm 2).emin - ((fm 2).p : Int) + 1 = -149 from rfl] at hex
  obtain ⟨x, hxx⟩ : ∃ x, x = (fm 2).fx a := ⟨_, rfl⟩
  obtain ⟨y, hyy⟩ : ∃ y, y = (fm 2).fy a := ⟨_, rfl⟩
  rw [← hyy] at q2 hyl hmag hni hii hsi
  rw [← hxx] at q3 hxl hmag hex hfin hni hii
  obtain ⟨sg, hsg⟩ : ∃ s, s = (fm 2).neg a := ⟨_, rfl⟩
  rw [← hsg] at e1
  have hpar := fun wx => rparams_ok 2 wx (by decide)
  rw [show (fm 2).w = 32 from rfl, show (fm 2).p = 24 from rfl, show (fm 2).emin = -126 from rfl] at hpar
  have Hpar := Lib.hid hpar
  rw [← hxx] at hx
  subst hx
  have hinf : (fm 2).isInf a = decide (y = 0) := by rw [hii]; simp
  have hnan : (fm 2).isNan a = !decide (y = 0) := by rw [hni]; simp
  have hsig : (fm 2).isSig a = (!decide (y = 0) && !decide (4194304 ≤ y)) := by rw [hsi, hnan]
  have hop : opD (fm 2) a = ⟨false, 0, 0⟩ := by unfold opD; rw [if_neg (fun h => (hfin.1 h) rfl)]
  have e2 : ((y : Int) == 0) = decide (y = 0) := by
    by_cases c : y = 0 <;> simp [c]
  have e4 : ((y : Int) != 0) = !decide (y = 0) := by
    by_cases c : y = 0 <;> simp [c]
  have e3 : ((y : Int) / 4194304 == 0) = !decide (4194304 ≤ y) := by
    by_cases c : 4194304 ≤ y
    · rw [decide_eq_true c, Bool.not_true, beq_eq_false_iff_ne]; omega
    · rw [decide_eq_false c, Bool.not_false, beq_iff_eq]; omega
  obtain ⟨i0, hi0⟩ : ∃ b, b = decide (y = 0) := ⟨_, rfl⟩
  obtain ⟨i1, hi1⟩ : ∃ b, b = !decide (4194304 ≤ y) := ⟨_, rfl⟩
  rw [← hi0] at hinf hnan hsig e2 e4
  rw [← hi1] at hsig e3
  have HV := Lib.hid (And.intro hop (And.intro hinf (And.intro hnan (And.intro hsig hsg))))
  clear hii hni hsi hfin hmag hex ha hs0 hxx hyy hsg hop hinf hnan hsig hi0 hi1 hxl ok
  have hb1 := below1 w (.cells #[.bool false, .bool false, .bool false, .bool false, .bool false, .slice none 0 0, .int .i64 0] 78)
  have b1 := Bx.new w #[.bool false, .bool false, .bool false, .bool false, .bool false, .slice none 0 0, .int .i64 0] 78
  obtain ⟨W1, hW1⟩ : ∃ W1, W1 = w.alloc (.cells #[.bool false, .bool false, .bool false, .bool false, .bool false, .slice none 0 0, .int .i64 0] 78) := ⟨_, rfl⟩
  rw [← hW1] at hb1 b1
  have hsz : W1.heap.size = w.heap.size + 1 := by rw [hW1]; simp
  have hb2 := below1 W1 (.cells #[.bool false, .bool false, .bool false, .bool sg, .bool false, .slice none 0 0, .int .i64 0] 78)
  have b2 := Bx.new W1 #[.bool false, .bool false, .bool false, .bool sg, .bool false, .slice none 0 0, .int .i64 0] 78
  obtain ⟨W2, hW2⟩ : ∃ W2, W2 = W1.alloc (.cells #[.bool false, .bool false, .bool false, .bool sg, .bool false, .slice none 0 0, .int .i64 0] 78) := ⟨_, rfl⟩
  rw [← hW2] at hb2 b2
  rw [hsz] at b2
  have HB := Lib.hid (keep_belowB hb1 hb2 (Nat.le_refl _))
  have B1 := Lib.hid (b1.below hb2)
  have B2 := Lib.hid b2
  have HW := Lib.hid (And.intro hW1 hW2)
  clear hb1 b1 hb2 b2 hsz hW1 hW2 hpar
  go_enter Try.func50, Try.ntmps50
  go_wp2_with fail
  refine (Hpar.out _).mono ?_
  rintro _ _ ⟨rfl, rfl⟩
  go_upto_region 6 with (fail)
  rw [← HW.out.1, ← HW.out.2]
  clear HW
  obtain ⟨x0, x1, x2, x3, x4, x5, x6⟩ := B2.out.seven
  have xf : ∀ j, W2.frozen? ⟨w.heap.size + 1, j, none⟩ = false := fun j => B2.out.free j
  go_upto_region 7 with (fail)
  clear x0 x1 x2 x3 x4 x5 x6 xf
  replace B2 := Lib.hid (B2.out.put 2 (.bool i0) #[.bool false, .bool false, .bool i0, .bool sg, .bool false, .slice none 0 0, .int .i64 0] rfl)
  replace B1 := Lib.hid (B1.out.other (p := ⟨w.heap.size + 1, 2, none⟩) (by show w.heap.size + 1 ≠ w.heap.size; omega) (.bool i0))
  replace HB := Lib.hid (HB.out.setCell (p := ⟨w.heap.size + 1, 2, none⟩) (Nat.le_succ _) (.bool i0))
  generalize W2.setCell ⟨w.heap.size + 1, 2, none⟩ (.bool i0) = W3 at *
  obtain ⟨x0, x1, x2, x3, x4, x5, x6⟩ := B2.out.seven
  have xf : ∀ j, W3.frozen? ⟨w.heap.size + 1, j, none⟩ = false := fun j => B2.out.free j
  go_upto_region 8 with (fail)
  clear x0 x1 x2 x3 x4 x5 x6 xf
  replace B2 := Lib.hid (B2.out.put 0 (.bool (!i0)) #[.bool (!i0), .bool false, .bool i0, .bool sg, .bool false, .slice none 0 0, .int .i64 0] rfl)
  replace B1 := Lib.hid (B1.out.other (p := ⟨w.heap.size + 1, 0, none⟩) (by show w.heap.size + 1 ≠ w.heap.size; omega) (.bool (!i0)))
  replace HB := Lib.hid (HB.out.setCell (p := ⟨w.heap.size + 1, 0, none⟩) (Nat.le_succ _) (.bool (!i0)))
  generalize W3.setCell ⟨w.heap.size + 1, 0, none⟩ (.bool (!i0)) = W4 at *
  cases i0
  · obtain ⟨x0, x1, x2, x3, x4, x5, x6⟩ := B2.out.seven
    have xf : ∀ j, W4.frozen? ⟨w.heap.size + 1, j, none⟩ = false := fun j => B2.out.free j
    go_upto_region 9 with (fail)
    clear x0 x1 x2 x3 x4 x5 x6 xf
    replace B2 := Lib.hid (B2.out.put 1 (.bool i1) #[.bool true, .bool i1, .bool false, .bool sg, .bool false, .slice none 0 0, .int .i64 0] rfl)
    replace B1 := Lib.hid (B1.out.other (p := ⟨w.heap.size + 1, 1, none⟩) (by show w.heap.size + 1 ≠ w.heap.size; omega) (.bool i1))
    replace HB := Lib.hid (HB.out.setCell (p := ⟨w.heap.size + 1, 1, none⟩) (Nat.le_succ _) (.bool i1))
    generalize W4.setCell ⟨w.heap.size + 1, 1, none⟩ (.bool i1) = W5 at *
    obtain ⟨x0, x1, x2, x3, x4, x5, x6⟩ := B2.out.seven
    obtain ⟨y0, y1, y2, y3, y4, y5, y6⟩ := B1.out.seven
    have yf : ∀ j, W5.frozen? ⟨w.heap.size, j, none⟩ = false := fun j => B1.out.free j
    go_wp2_with fail
    obtain ⟨r0, r1, r2, r3, r4, r5, r6⟩ := (B1.out.set7 (.bool true) (.bool i1) (.bool false) (.bool sg) (.bool false) (.slice none 0 0) (.int .i64 0)).seven
    refine bodyPost_ret (v := .agg #[.bool true, .bool i1, .bool false, .bool sg, .bool false, .slice none 0 0, .int .i64 0]) (by simp [results, Try.results50, go_sem, r0, r1, r2, r3, r4, r5, r6]) rfl ?_
    obtain ⟨v1, v2, v3, v4, v5⟩ := HV.out
    refine ⟨_, rfl, .slice none 0 0, ?_, ?_, below_set7 HB.out (Nat.le_refl _) _ _ _ _ _ _ _⟩
    · rw [v1, v2, v3, v4, ← v5]; simp
    · rw [v1]; exact ⟨none, 0, rfl, Nat.le_refl _, Nat.zero_le _, pow_pos2 _, fun h => by simp [nd_zero] at h⟩
  · obtain ⟨x0, x1, x2, x3, x4, x5, x6⟩ := B2.out.seven
    have xf : ∀ j, W4.frozen? ⟨w.heap.size + 1, j, none⟩ = false := fun j => B2.out.free j
    go_upto_region 9 with (fail)
    clear x0 x1 x2 x3 x4 x5 x6 xf
    replace B2 := Lib.hid (B2.out.put 1 (.bool false) #[.bool false, .bool false, .bool true, .bool sg, .bool false, .slice none 0 0, .int .i64 0] rfl)
    replace B1 := Lib.hid (B1.out.other (p := ⟨w.heap.size + 1, 1, none⟩) (by show w.heap.size + 1 ≠ w.heap.size; omega) (.bool false))
    replace HB := Lib.hid (HB.out.setCell (p := ⟨w.heap.size + 1, 1, none⟩) (Nat.le_succ _) (.bool false))
    generalize W4.setCell ⟨w.heap.size + 1, 1, none⟩ (.bool false) = W5 at *
    obtain ⟨x0, x1, x2, x3, x4, x5, x6⟩ := B2.out.seven
    obtain ⟨y0, y1, y2, y3, y4, y5, y6⟩ := B1.out.seven
    have yf : ∀ j, W5.frozen? ⟨w.heap.size, j, none⟩ = false := fun j => B1.out.free j
    go_wp2_with fail
    obtain ⟨r0, r1, r2, r3, r4, r5, r6⟩ := (B1.out.set7 (.bool false) (.bool false) (.bool true) (.bool sg) (.bool false) (.slice none 0 0) (.int .i64 0)).seven
    refine bodyPost_ret (v := .agg #[.bool false, .bool false, .bool true, .bool sg, .bool false, .slice none 0 0, .int .i64 0]) (by simp [results, Try.results50, go_sem, r0, r1, r2, r3, r4, r5, r6]) rfl ?_
    obtain ⟨v1, v2, v3, v4, v5⟩ := HV.out
    refine ⟨_, rfl, .slice none 0 0, ?_, ?_, below_set7 HB.out (Nat.le_refl _) _ _ _ _ _ _ _⟩
    · rw [v1, v2, v3, v4, ← v5]; simp
    · rw [v1]; exact ⟨none, 0, rfl, Nat.le_refl _, Nat.zero_le _, pow_pos2 _, fun h => by simp [nd_zero] at h⟩

set_option maxRecDepth 100000 in
set_option maxHeartbeats 8000000 in
theorem open_2_sub (a : Nat) (w : World) (ha : a < 2 ^ (fm 2).w) (hx : (fm 2).fx a = 0) :
    Calls Try.prog 50 #[.int .i64 2, .int .u64 a] w fun e w' => ∃ v, e = .returned v ∧ OpenV (fm 2) a w w' v := by
  have ok := fm_ok 2
  have a64 : a < 18446744073709551616 := Nat.lt_of_lt_of_le ha (show 2 ^ 32 ≤ 18446744073709551616 by decide)
  have q1 : bits .and .u64 ((a : Int) / 2147483648) 1 = ((a / 2147483648 % 2 : Nat) : Int) := by
    have := and_u64 (a / 2147483648) 1 (Nat.lt_of_le_of_lt (Nat.div_le_self _ _) a64) 1 (by decide) (by decide)
    rw [← show ((a / 2147483648 : Nat) : Int) = (a : Int) / 2147483648 by simp, this]
  have q2 : bits .and .u64 (a : Int) 8388607 = ((fm 2).fy a : Int) := by
    have := and_u64 a 23 a64 8388607 (by decide) (by decide)
    rw [this, ← fy_eq ok a]; rfl
  have q3 : bits .and .u64 ((a : Int) / 8388608) 255 = ((fm 2).fx a : Int) := by
    have := and_u64 (a / 8388608) 8 (Nat.lt_of_le_of_lt (Nat.div_le_self _ _) a64) 255 (by decide) (by decide)
    rw [← show ((a / 8388608 : Nat) : Int) = (a : Int) / 8388608 by simp, this, ← fx_eq ok a]; rfl
  have e1 : (((a / 2147483648 % 2 : Nat) : Int) == 1) = (fm 2).neg a := neg_eq ok ha
  obtain ⟨s0, hs0⟩ : ∃ s, s = a / 2147483648 % 2 := ⟨_, rfl⟩
  rw [← hs0] at q1 e1
  have hyl : (fm 2).fy a < 8388608 := fy_lt a
  have hxl : (fm 2).fx a < 256 := fx_lt ok a
  obtain ⟨hmag, hex⟩ := mag_ex (F := fm 2) a
  have hfin := fin_iff ok a
  have hni := isNan_iff ok a
  have hii := isInf_iff ok a
  have hsi := isSig_iff ok a
  rw [show (2 ^ ((fm 2).w - (fm 2).p) - 1) = 255 from rfl] at hfin hni hii
  rw [show (2 ^ ((fm 2).p - 2)) = 4194304 from rfl] at hsi
  rw [show (2 ^ ((fm 2).p - 1)) = 8388608 from rfl] at hmag
  rw [show (fm 2).emin - ((fm 2).p : Int) + 1 = -149 from rfl] at hex
  obtain ⟨x, hxx⟩ : ∃ x, x = (fm 2).fx a := ⟨_, rfl⟩
  obtain ⟨y, hyy⟩ : ∃ y, y = (fm 2).fy a := ⟨_, rfl⟩
  rw [← hyy] at q2 hyl hmag hni hii hsi
  rw [← hxx] at q3 hxl hmag hex hfin hni hii
  obtain ⟨sg, hsg⟩ : ∃ s, s = (fm 2).neg a := ⟨_, rfl⟩
  rw [← hsg] at e1
  have hpar := fun wx => rparams_ok 2 wx (by decide)
  rw [show (fm 2).w = 32 from rfl, show (fm 2).p = 24 from rfl, show (fm 2).emin = -126 from rfl] at hpar
  have Hpar := Lib.hid hpar
  rw [← hxx] at hx
  subst hx
  have hop : opD (fm 2) a = ⟨sg, y, -149⟩ := by
    unfold opD
    rw [if_pos (hfin.2 (by decide)), ← hsg, hmag, hex, if_pos rfl, if_pos rfl]
  have hn' : (fm 2).isNan a = false := by rw [hni]; rfl
  have hi' : (fm 2).isInf a = false := by rw [hii]; rfl
  have t0 : (((0 : Nat) : Int) == 255) = false := by decide
  have hs' : (fm 2).isSig a = false := by rw [hsi, hn']; rfl
  obtain ⟨E, hE⟩ : ∃ E : Int, E = -149 := ⟨_, rfl⟩
  rw [← hE] at hop
  obtain ⟨N, hN⟩ : ∃ N, N = y := ⟨_, rfl⟩
  rw [← hN] at hop
  have hNl : N < 18446744073709551616 := by omega
  have e2 : ((y : Int) == 0) = decide (y = 0) := by
    by_cases c : y = 0 <;> simp [c]
  obtain ⟨i0, hi0⟩ : ∃ b, b = decide (y = 0) := ⟨_, rfl⟩
  rw [← hi0] at e2
  have HV := Lib.hid (And.intro hop (And.intro hi' (And.intro hn' (And.intro hs' hsg))))
  have HN := Lib.hid (And.intro hN hE)
  have hNk : (N : Int) = (y : Int) := by omega
  have HNk := Lib.hid hNk
  clear hii hni hsi hfin hmag hex ha hs0 hxx hyy hsg hop hi' hn' hs' hi0 ok hN hE hNk
  have hb1 := below1 w (.cells #[.bool false, .bool false, .bool false, .bool false, .bool false, .slice none 0 0, .int .i64 0] 78)
  have b1 := Bx.new w #[.bool false, .bool false, .bool false, .bool false, .bool false, .slice none 0 0, .int .i64 0] 78
  obtain ⟨W1, hW1⟩ : ∃ W1, W1 = w.alloc (.cells #[.bool false, .bool false, .bool false, .bool false, .bool false, .slice none 0 0, .int .i64 0] 78) := ⟨_, rfl⟩
  rw [← hW1] at hb1 b1
  have hsz : W1.heap.size = w.heap.size + 1 := by rw [hW1]; simp
  have hb2 := below1 W1 (.cells #[.bool false, .bool false, .bool false, .bool sg, .bool false, .slice none 0 0, .int .i64 0] 78)
  have b2 := Bx.new W1 #[.bool false, .bool false, .bool false, .bool sg, .bool false, .slice none 0 0, .int .i64 0] 78
  obtain ⟨W2, hW2⟩ : ∃ W2, W2 = W1.alloc (.cells #[.bool false, .bool false, .bool false, .bool sg, .bool false, .slice none 0 0, .int .i64 0] 78) := ⟨_, rfl⟩
  rw [← hW2] at hb2 b2
  rw [hsz] at b2
  have HB := Lib.hid (keep_belowB hb1 hb2 (Nat.le_refl _))
  have B1 := Lib.hid (b1.below hb2)
  have B2 := Lib.hid b2
  have HW := Lib.hid (And.intro hW1 hW2)
  clear hb1 b1 hb2 b2 hsz hW1 hW2 hpar
  go_enter Try.func50, Try.ntmps50
  go_wp2_with fail
  refine (Hpar.out _).mono ?_
  rintro _ _ ⟨rfl, rfl⟩
  go_upto_region 14 with (fail)
  rw [← HW.out.1, ← HW.out.2]
  clear HW
  rw [← HNk.out, ← HN.out.2]
  have hrd1 : Rd 64 (W2.drew.alloc (.cells #[.int .u64 N] 24)) (.slice (some ⟨W2.drew.heap.size, 0, none⟩) 1 1) N 1 := Rd.one64 W2.drew N hNl 24
  have hdg : ∀ wx v, Rd 64 wx v N 1 → Calls Try.prog 60 #[v] wx fun e' w' => ∃ A c, e' = .returned (.slice A (nd 32 N) c) ∧ (Rd 32 w' (.slice A (nd 32 N) c) N (nd 32 N) ∧ Fr wx.heap.size w' (.slice A (nd 32 N) c)) ∧ Below wx.heap.size wx w' := fun wx v h => (rDigits_any v N 1 wx h (by decide)).mono fun _ _ ⟨v', h1, h2, h3⟩ => by obtain ⟨A, c, rfl, _⟩ := h2.1.form; exact ⟨A, c, h1, h2, h3⟩
  have HD := Lib.hid hdg
  have x3 := (B2.out.seven).2.2.2.1
  have hbd : Below W2.heap.size W2 (W2.drew.alloc (.cells #[.int .u64 N] 24)) := ((Below.refl _ _).drew).alloc (Nat.le_refl _) _
  have HBD := Lib.hid hbd
  have hbB := HB.out
  clear hdg q1 q2 q3 e1 e2 t0 hyl a64 hxl hbd
  go_region_held3 (fun w' => w'.cell? ⟨w.heap.size + 1, 3, none⟩ = some (.bool sg))
    (first | exact x3 | exact keep_cell HBD.out x3 | exact keep_cell hb3 (keep_cell HBD.out x3) | exact cell_456 z3)
    ((first | (go_at_call 60; refine (HD.out _ _ hrd1).mono ?_; rintro _ w3 ⟨A3, c3, rfl, hr3, hb3⟩; have bx3 := ((B2.out.below HBD.out).below hb3); have xf : ∀ j, w3.frozen? ⟨w.heap.size + 1, j, none⟩ = false := fun j => bx3.free j; obtain ⟨z0, z1, z2, z3, z4, z5, z6⟩ := bx3.seven)))
  have hb4 := hb3
  have by3 := (B1.out.below HBD.out).below hb3
  have hB3 := keep_belowB (keep_belowB hbB HBD.out (Nat.le_refl _)) hb3 (Nat.le_refl _)
  have hlt : w.heap.size + 1 < W2.heap.size := B2.out.lt
  have hfr3 := hr3.2
  have hsz3 : (W2.drew.alloc (.cells #[.int .u64 N] 24)).heap.size = W2.heap.size + 1 := by simp
  rw [hsz3] at hfr3
  have hr4 := Rd.set456 hr3.1 (hfr3.mono (B' := w.heap.size + 2) (by omega)) (.bool sg) (.slice A3 (nd 32 N) c3) (.int .i64 E)
  have bx4 := bx3.set456 (.bool sg) (.slice A3 (nd 32 N) c3) (.int .i64 E)
  have by4 := ((by3.other (p := ⟨w.heap.size + 1, 4, none⟩) (by show w.heap.size + 1 ≠ w.heap.size; omega) (.bool sg)).other (p := ⟨w.heap.size + 1, 5, none⟩) (by show w.heap.size + 1 ≠ w.heap.size; omega) (.slice A3 (nd 32 N) c3)).other (p := ⟨w.heap.size + 1, 6, none⟩) (by show w.heap.size + 1 ≠ w.heap.size; omega) (.int .i64 E)
  have hB4 := ((hB3.setCell (p := ⟨w.heap.size + 1, 4, none⟩) (Nat.le_succ _) (.bool sg)).setCell (p := ⟨w.heap.size + 1, 5, none⟩) (Nat.le_succ _) (.slice A3 (nd 32 N) c3)).setCell (p := ⟨w.heap.size + 1, 6, none⟩) (Nat.le_succ _) (.int .i64 E)
  clear z0 z1 z2 z3 z4 z5 z6 hb3 hb4 bx3 by3 xf x3 hr3 hfr3 hsz3 hB3 HBD hrd1 HD HB hbB
  generalize ((w3.setCell ⟨w.heap.size + 1, 4, none⟩ (.bool sg)).setCell ⟨w.heap.size + 1, 5, none⟩ (.slice A3 (nd 32 N) c3)).setCell ⟨w.heap.size + 1, 6, none⟩ (.int .i64 E) = W4 at *
  have B3 := Lib.hid bx4
  have B4 := Lib.hid by4
  have HR4 := Lib.hid hr4
  have HB4 := Lib.hid hB4
  clear bx4 by4 hr4 hB4 B1 B2
  obtain ⟨x0, x1, x2, x3, x4, x5, x6⟩ := B3.out.seven
  obtain ⟨y0, y1, y2, y3, y4, y5, y6⟩ := B4.out.seven
  have yf : ∀ j, W4.frozen? ⟨w.heap.size, j, none⟩ = false := fun j => B4.out.free j
  go_wp2_with fail
  obtain ⟨r0, r1, r2, r3, r4, r5, r6⟩ := (B4.out.set7 (.bool false) (.bool false) (.bool false) (.bool sg) (.bool sg) (.slice A3 (nd 32 N) c3) (.int .i64 E)).seven
  refine bodyPost_ret (v := .agg #[.bool false, .bool false, .bool false, .bool sg, .bool sg, .slice A3 (nd 32 N) c3, .int .i64 E]) (by simp [results, Try.results50, go_sem, r0, r1, r2, r3, r4, r5, r6]) rfl ?_
  obtain ⟨v1, v2, v3', v4, v5⟩ := HV.out
  refine ⟨_, rfl, .slice A3 (nd 32 N) c3, ?_, ?_, below_set7 HB4.out (Nat.le_refl _) _ _ _ _ _ _ _⟩
  · rw [v1, v2, v3', v4, ← v5]
  · rw [v1]; exact Rd.set7 HR4.out.1 (HR4.out.2.mono (Nat.le_succ _)) _ _ _ _ _ _ _

set_option maxRecDepth 100000 in
set_option maxHeartbeats 8000000 in
theorem open_2_norm (a : Nat) (w : World) (ha : a < 2 ^ (fm 2).w) (hx0 : (fm 2).fx a ≠ 0) (hx : (fm 2).fx a ≠ 255) :
    Calls Try.prog 50 #[.int .i64 2, .int .u64 a] w fun e w' => ∃ v, e = .returned v ∧ OpenV (fm 2) a w w' v := by
  have ok := fm_ok 2
  have a64 : a < 18446744073709551616 := Nat.lt_of_lt_of_le ha (show 2 ^ 32 ≤ 18446744073709551616 by decide)
  have q1 : bits .and .u64 ((a : Int) / 2147483648) 1 = ((a / 2147483648 % 2 : Nat) : Int) := by
    have := and_u64 (a / 2147483648) 1 (Nat.lt_of_le_of_lt (Nat.div_le_self _ _) a64) 1 (by decide) (by decide)
    rw [← show ((a / 2147483648 : Nat) : Int) = (a : Int) / 2147483648 by simp, this]
  have q2 : bits .and .u64 (a : Int) 8388607 = ((fm 2).fy a : Int) := by
    have := and_u64 a 23 a64 8388607 (by decide) (by decide)
    rw [this, ← fy_eq ok a]; rfl
  have q3 : bits .and .u64 ((a : Int) / 8388608) 255 = ((fm 2).fx a : Int) := by
    have := and_u64 (a / 8388608) 8 (Nat.lt_of_le_of_lt (Nat.div_le_self _ _) a64) 255 (by decide) (by decide)
    rw [← show ((a / 8388608 : Nat) : Int) = (a : Int) / 8388608 by simp, this, ← fx_eq ok a]; rfl
  have e1 : (((a / 2147483648 % 2 : Nat) : Int) == 1) = (fm 2).neg a := neg_eq ok ha
  obtain ⟨s0, hs0⟩ : ∃ s, s = a / 2147483648 % 2 := ⟨_, rfl⟩
  rw [← hs0] at q1 e1
  have hyl : (fm 2).fy a < 8388608 := fy_lt a
  have hxl : (fm 2).fx a < 256 := fx_lt ok a
  obtain ⟨hmag, hex⟩ := mag_ex (F := fm 2) a
  have hfin := fin_iff ok a
  have hni := isNan_iff ok a
  have hii := isInf_iff ok a
  have hsi := isSig_iff ok a
  rw [show (2 ^ ((fm 2).w - (fm 2).p) - 1) = 255 from rfl] at hfin hni hii
  rw [show (2 ^ ((fm 2).p - 2)) = 4194304 from rfl] at hsi
  rw [show (2 ^ ((fm 2).p - 1)) = 8388608 from rfl] at hmag
  rw [show (fm 2).emin - ((fm 2).p : Int) + 1 = -149 from rfl] at hex
  obtain ⟨x, hxx⟩ : ∃ x, x = (fm 2).fx a := ⟨_, rfl⟩
  obtain ⟨y, hyy⟩ : ∃ y, y = (fm 2).fy a := ⟨_, rfl⟩
  rw [← hyy] at q2 hyl hmag hni hii hsi
  rw [← hxx] at q3 hxl hmag hex hfin hni hii
  obtain ⟨sg, hsg⟩ : ∃ s, s = (fm 2).neg a := ⟨_, rfl⟩
  rw [← hsg] at e1
  have hpar := fun wx => rparams_ok 2 wx (by decide)
  rw [show (fm 2).w = 32 from rfl, show (fm 2).p = 24 from rfl, show (fm 2).emin = -126 from rfl] at hpar
  have Hpar := Lib.hid hpar
  rw [← hxx] at hx hx0
  have hop : opD (fm 2) a = ⟨sg, y + 8388608, -149 + ((x : Int) - 1)⟩ := by
    unfold opD
    rw [if_pos (hfin.2 hx), ← hsg, hmag, hex, if_neg hx0, if_neg hx0, Nat.add_comm]
    congr 1
    omega
  have hn' : (fm 2).isNan a = false := by rw [hni, decide_eq_false hx]; rfl
  have hi' : (fm 2).isInf a = false := by rw [hii, decide_eq_false hx]; rfl
  have t0 : ((x : Int) == 255) = false := by rw [beq_eq_false_iff_ne]; omega
  have t1 : decide ((x : Int) > 0) = true := by rw [decide_eq_true_eq]; omega
  have hx1 : 1 ≤ x := by omega
  have hs' : (fm 2).isSig a = false := by rw [hsi, hn']; rfl
  obtain ⟨E, hE⟩ : ∃ E : Int, E = -149 + ((x : Int) - 1) := ⟨_, rfl⟩
  rw [← hE] at hop
  obtain ⟨N, hN⟩ : ∃ N, N = (y + 8388608) := ⟨_, rfl⟩
  rw [← hN] at hop
  have hNl : N < 18446744073709551616 := by omega
  have e2 : ((y : Int) == 0) = decide (y = 0) := by
    by_cases c : y = 0 <;> simp [c]
  obtain ⟨i0, hi0⟩ : ∃ b, b = decide (y = 0) := ⟨_, rfl⟩
  rw [← hi0] at e2
  have HV := Lib.hid (And.intro hop (And.intro hi' (And.intro hn' (And.intro hs' hsg))))
  have HN := Lib.hid (And.intro hN hE)
  have hNk : (N : Int) = (y : Int) + 8388608 := by omega
  have HNk := Lib.hid hNk
  clear hii hni hsi hfin hmag hex ha hs0 hxx hyy hsg hop hi' hn' hs' hi0 ok hN hE hNk hx hx0
  have hb1 := below1 w (.cells #[.bool false, .bool false, .bool false, .bool false, .bool false, .slice none 0 0, .int .i64 0] 78)
  have b1 := Bx.new w #[.bool false, .bool false, .bool false, .bool false, .bool false, .slice none 0 0, .int .i64 0] 78
  obtain ⟨W1, hW1⟩ : ∃ W1, W1 = w.alloc (.cells #[.bool false, .bool false, .bool false, .bool false, .bool false, .slice none 0 0, .int .i64 0] 78) := ⟨_, rfl⟩
  rw [← hW1] at hb1 b1
  have hsz : W1.heap.size = w.heap.size + 1 := by rw [hW1]; simp
  have hb2 := below1 W1 (.cells #[.bool false, .bool false, .bool false, .bool sg, .bool false, .slice none 0 0, .int .i64 0] 78)
  have b2 := Bx.new W1 #[.bool false, .bool false, .bool false, .bool sg, .bool false, .slice none 0 0, .int .i64 0] 78
  obtain ⟨W2, hW2⟩ : ∃ W2, W2 = W1.alloc (.cells #[.bool false, .bool false, .bool false, .bool sg, .bool false, .slice none 0 0, .int .i64 0] 78) := ⟨_, rfl⟩
  rw [← hW2] at hb2 b2
  rw [hsz] at b2
  have HB := Lib.hid (keep_belowB hb1 hb2 (Nat.le_refl _))
  have B1 := Lib.hid (b1.below hb2)
  have B2 := Lib.hid b2
  have HW := Lib.hid (And.intro hW1 hW2)
  clear hb1 b1 hb2 b2 hsz hW1 hW2 hpar
  go_enter Try.func50, Try.ntmps50
  go_wp2_with fail
  refine (Hpar.out _).mono ?_
  rintro _ _ ⟨rfl, rfl⟩
  go_upto_region 14 with (fail)
  rw [← HW.out.1, ← HW.out.2]
  clear HW
  rw [← HNk.out, ← HN.out.2]
  have hrd1 : Rd 64 (W2.drew.alloc (.cells #[.int .u64 N] 24)) (.slice (some ⟨W2.drew.heap.size, 0, none⟩) 1 1) N 1 := Rd.one64 W2.drew N hNl 24
  have hdg : ∀ wx v, Rd 64 wx v N 1 → Calls Try.prog 60 #[v] wx fun e' w' => ∃ A c, e' = .returned (.slice A (nd 32 N) c) ∧ (Rd 32 w' (.slice A (nd 32 N) c) N (nd 32 N) ∧ Fr wx.heap.size w' (.slice A (nd 32 N) c)) ∧ Below wx.heap.size wx w' := fun wx v h => (rDigits_any v N 1 wx h (by decide)).mono fun _ _ ⟨v', h1, h2, h3⟩ => by obtain ⟨A, c, rfl, _⟩ := h2.1.form; exact ⟨A, c, h1, h2, h3⟩
  have HD := Lib.hid hdg
  have x3 := (B2.out.seven).2.2.2.1
  have hbd : Below W2.heap.size W2 (W2.drew.alloc (.cells #[.int .u64 N] 24)) := ((Below.refl _ _).drew).alloc (Nat.le_refl _) _
  have HBD := Lib.hid hbd
  have hbB := HB.out
  clear hdg q1 q2 q3 e1 e2 t0 hyl a64 hxl hbd t1 hx1
  go_region_held3 (fun w' => w'.cell? ⟨w.heap.size + 1, 3, none⟩ = some (.bool sg))
    (first | exact x3 | exact keep_cell HBD.out x3 | exact keep_cell hb3 (keep_cell HBD.out x3) | exact cell_456 z3)
    ((first | (go_at_call 60; refine (HD.out _ _ hrd1).mono ?_; rintro _ w3 ⟨A3, c3, rfl, hr3, hb3⟩; have bx3 := ((B2.out.below HBD.out).below hb3); have xf : ∀ j, w3.frozen? ⟨w.heap.size + 1, j, none⟩ = false := fun j => bx3.free j; obtain ⟨z0, z1, z2, z3, z4, z5, z6⟩ := bx3.seven)))
  have hb4 := hb3
  have by3 := (B1.out.below HBD.out).below hb3
  have hB3 := keep_belowB (keep_belowB hbB HBD.out (Nat.le_refl _)) hb3 (Nat.le_refl _)
  have hlt : w.heap.size + 1 < W2.heap.size := B2.out.lt
  have hfr3 := hr3.2
  have hsz3 : (W2.drew.alloc (.cells #[.int .u64 N] 24)).heap.size = W2.heap.size + 1 := by simp
  rw [hsz3] at hfr3
  have hr4 := Rd.set456 hr3.1 (hfr3.mono (B' := w.heap.size + 2) (by omega)) (.bool sg) (.slice A3 (nd 32 N) c3) (.int .i64 E)
  have bx4 := bx3.set456 (.bool sg) (.slice A3 (nd 32 N) c3) (.int .i64 E)
  have by4 := ((by3.other (p := ⟨w.heap.size + 1, 4, none⟩) (by show w.heap.size + 1 ≠ w.heap.size; omega) (.bool sg)).other (p := ⟨w.heap.size + 1, 5, none⟩) (by show w.heap.size + 1 ≠ w.heap.size; omega) (.slice A3 (nd 32 N) c3)).other (p := ⟨w.heap.size + 1, 6, none⟩) (by show w.heap.size + 1 ≠ w.heap.size; omega) (.int .i64 E)
  have hB4 := ((hB3.setCell (p := ⟨w.heap.size + 1, 4, none⟩) (Nat.le_succ _) (.bool sg)).setCell (p := ⟨w.heap.size + 1, 5, none⟩) (Nat.le_succ _) (.slice A3 (nd 32 N) c3)).setCell (p := ⟨w.heap.size + 1, 6, none⟩) (Nat.le_succ _) (.int .i64 E)
  clear z0 z1 z2 z3 z4 z5 z6 hb3 hb4 bx3 by3 xf x3 hr3 hfr3 hsz3 hB3 HBD hrd1 HD HB hbB
  generalize ((w3.setCell ⟨w.heap.size + 1, 4, none⟩ (.bool sg)).setCell ⟨w.heap.size + 1, 5, none⟩ (.slice A3 (nd 32 N) c3)).setCell ⟨w.heap.size + 1, 6, none⟩ (.int .i64 E) = W4 at *
  have B3 := Lib.hid bx4
  have B4 := Lib.hid by4
  have HR4 := Lib.hid hr4
  have HB4 := Lib.hid hB4
  clear bx4 by4 hr4 hB4 B1 B2
  obtain ⟨x0, x1, x2, x3, x4, x5, x6⟩ := B3.out.seven
  obtain ⟨y0, y1, y2, y3, y4, y5, y6⟩ := B4.out.seven
  have yf : ∀ j, W4.frozen? ⟨w.heap.size, j, none⟩ = false := fun j => B4.out.free j
  go_wp2_with fail
  obtain ⟨r0, r1, r2, r3, r4, r5, r6⟩ := (B4.out.set7 (.bool false) (.bool false) (.bool false) (.bool sg) (.bool sg) (.slice A3 (nd 32 N) c3) (.int .i64 E)).seven
  refine bodyPost_ret (v := .agg #[.bool false, .bool false, .bool false, .bool sg, .bool sg, .slice A3 (nd 32 N) c3, .int .i64 E]) (by simp [results, Try.results50, go_sem, r0, r1, r2, r3, r4, r5, r6]) rfl ?_
  obtain ⟨v1, v2, v3', v4, v5⟩ := HV.out
  refine ⟨_, rfl, .slice A3 (nd 32 N) c3, ?_, ?_, below_set7 HB4.out (Nat.le_refl _) _ _ _ _ _ _ _⟩
  · rw [v1, v2, v3', v4, ← v5]
  · rw [v1]; exact Rd.set7 HR4.out.1 (HR4.out.2.mono (Nat.le_succ _)) _ _ _ _ _ _ _

set_option maxRecDepth 100000 in
set_option maxHeartbeats 8000000 in
theorem open_3_spec (a : Nat) (w : World) (ha : a < 2 ^ (fm 3).w) (hx : (fm 3).fx a = 2047) :
    Calls Try.prog 50 #[.int .i64 3, .int .u64 a] w fun e w' => ∃ v, e = .returned v ∧ OpenV (fm 3) a w w' v := by
  have ok := fm_ok 3
  have a64 : a < 18446744073709551616 := Nat.lt_of_lt_of_le ha (show 2 ^ 64 ≤ 18446744073709551616 by decide)
  have q1 : bits .and .u64 ((a : Int) / 9223372036854775808) 1 = ((a / 9223372036854775808 % 2 : Nat) : Int) := by
    have := and_u64 (a / 9223372036854775808) 1 (Nat.lt_of_le_of_lt (Nat.div_le_self _ _) a64) 1 (by decide) (by decide)
    rw [← show ((a / 9223372036854775808 : Nat) : Int) = (a : Int) / 9223372036854775808 by simp, this]
  have q2 : bits .and .u64 (a : Int) 4503599627370495 = ((fm 3).fy a : Int) := by
    have := and_u64 a 52 a64 4503599627370495 (by decide) (by decide)
    rw [this, ← fy_eq ok a]; rfl
  have q3 : bits .and .u64 ((a : Int) / 4503599627370496) 2047 = ((fm 3).fx a : Int) := by
    have := and_u64 (a / 4503599627370496) 11 (Nat.lt_of_le_of_lt (Nat.div_le_self _ _) a64) 2047 (by decide) (by decide)
    rw [← show ((a / 4503599627370496 : Nat) : Int) = (a : Int) / 4503599627370496 by simp, this, ← fx_eq ok a]; rfl
  have e1 : (((a / 9223372036854775808 % 2 : Nat) : Int) == 1) = (fm 3).neg a := neg_eq ok ha
  obtain ⟨s0, hs0⟩ : ∃ s, s = a / 9223372036854775808 % 2 := ⟨_, rfl⟩
  rw [← hs0] at q1 e1
  have hyl : (fm 3).fy a < 4503599627370496 := fy_lt a
  have hxl : (fm 3).fx a < 2048 := fx_lt ok a
  obtain ⟨hmag, hex⟩ := mag_ex (F := fm 3) a
  have hfin := fin_iff ok a
  have hni := isNan_iff ok a
  have hii := isInf_iff ok a
  have hsi := isSig_iff ok a
  rw [show (2 ^ ((fm 3).w - (fm 3).p) - 1) = 2047 from rfl] at hfin hni hii
  rw [show (2 ^ ((fm 3).p - 2)) = 2251799813685248 from rfl] at hsi
  rw [show (2 ^ ((fm 3).p - 1)) = 4503599627370496 from rfl] at hmag
  rw [show (fm 3).emin - ((fm 3).p : Int) + 1 = -1074 from rfl] at hex
  obtain ⟨x, hxx⟩ : ∃ x, x = (fm 3).fx a := ⟨_, rfl⟩
  obtain ⟨y, hyy⟩ : ∃ y, y = (fm 3).fy a := ⟨_, rfl⟩
  rw [← hyy] at q2 hyl hmag hni hii hsi
  rw [← hxx] at q3 hxl hmag hex hfin hni hii
  obtain ⟨sg, hsg⟩ : ∃ s, s = (fm 3).neg a := ⟨_, rfl⟩
  rw [← hsg] at e1
  have hpar := fun wx => rparams_ok 3 wx (by decide)
  rw [show (fm 3).w = 64 from rfl, show (fm 3).p = 53 from rfl, show (fm 3).emin = -1022 from rfl] at hpar
  have Hpar := Lib.hid hpar
  rw [← hxx] at hx
  subst hx
  have hinf : (fm 3).isInf a = decide (y = 0) := by rw [hii]; simp
  have hnan : (fm 3).isNan a = !decide (y = 0) := by rw [hni]; simp
  have hsig : (fm 3).isSig a = (!decide (y = 0) && !decide (2251799813685248 ≤ y)) := by rw [hsi, hnan]
  have hop : opD (fm 3) a = ⟨false, 0, 0⟩ := by unfold opD; rw [if_neg (fun h => (hfin.1 h) rfl)]
  have e2 : ((y : Int) == 0) = decide (y = 0) := by
    by_cases c : y = 0 <;> simp [c]
  have e4 : ((y : Int) != 0) = !decide (y = 0) := by
    by_cases c : y = 0 <;> simp [c]
  have e3 : ((y : Int) / 2251799813685248 == 0) = !decide (2251799813685248 ≤ y) := by
    by_cases c : 2251799813685248 ≤ y
    · rw [decide_eq_true c, Bool.not_true, beq_eq_false_iff_ne]; omega
    · rw [decide_eq_false c, Bool.not_false, beq_iff_eq]; omega
  obtain ⟨i0, hi0⟩ : ∃ b, b = decide (y = 0) := ⟨_, rfl⟩
  obtain ⟨i1, hi1⟩ : ∃ b, b = !decide (2251799813685248 ≤ y) := ⟨_, rfl⟩
  rw [← hi0] at hinf hnan hsig e2 e4
  rw [← hi1] at hsig e3
  have HV := Lib.hid (And.intro hop (And.intro hinf (And.intro hnan (And.intro hsig hsg))))
  clear hii hni hsi hfin hmag hex ha hs0 hxx hyy hsg hop hinf hnan hsig hi0 hi1 hxl ok
  have hb1 := below1 w (.cells #[.bool false, .bool false, .bool false, .bool false, .bool false, .slice none 0 0, .int .i64 0] 78)
  have b1 := Bx.new w #[.bool false, .bool false, .bool false, .bool false, .bool false, .slice none 0 0, .int .i64 0] 78
  obtain ⟨W1, hW1⟩ : ∃ W1, W1 = w.alloc (.cells #[.bool false, .bool false, .bool false, .bool false, .bool false, .slice none 0 0, .int .i64 0] 78) := ⟨_, rfl⟩
  rw [← hW1] at hb1 b1
  have hsz : W1.heap.size = w.heap.size + 1 := by rw [hW1]; simp
  have hb2 := below1 W1 (.cells #[.bool false, .bool false, .bool false, .bool sg, .bool false, .slice none 0 0, .int .i64 0] 78)
  have b2 := Bx.new W1 #[.bool false, .bool false, .bool false, .bool sg, .bool false, .slice none 0 0, .int .i64 0] 78
  obtain ⟨W2, hW2⟩ : ∃ W2, W2 = W1.alloc (.cells #[.bool false, .bool false, .bool false, .bool sg, .bool false, .slice none 0 0, .int .i64 0] 78) := ⟨_, rfl⟩
  rw [← hW2] at hb2 b2
  rw [hsz] at b2
  have HB := Lib.hid (keep_belowB hb1 hb2 (Nat.le_refl _))
  have B1 := Lib.hid (b1.below hb2)
  have B2 := Lib.hid b2
  have HW := Lib.hid (And.intro hW1 hW2)
  clear hb1 b1 hb2 b2 hsz hW1 hW2 hpar
  go_enter Try.func50, Try.ntmps50
  go_wp2_with fail
  refine (Hpar.out _).mono ?_
  rintro _ _ ⟨rfl, rfl⟩
  go_upto_region 6 with (fail)
  rw [← HW.out.1, ← HW.out.2]
  clear HW
  obtain ⟨x0, x1, x2, x3, x4, x5, x6⟩ := B2.out.seven
  have xf : ∀ j, W2.frozen? ⟨w.heap.size + 1, j, none⟩ = false := fun j => B2.out.free j
  go_upto_region 7 with (fail)
  clear x0 x1 x2 x3 x4 x5 x6 xf
  replace B2 := Lib.hid (B2.out.put 2 (.bool i0) #[.bool false, .bool false, .bool i0, .bool sg, .bool false, .slice none 0 0, .int .i64 0] rfl)
  replace B1 := Lib.hid (B1.out.other (p := ⟨w.heap.size + 1, 2, none⟩) (by show w.heap.size + 1 ≠ w.heap.size; omega) (.bool i0))
  replace HB := Lib.hid (HB.out.setCell (p := ⟨w.heap.size + 1, 2, none⟩) (Nat.le_succ _) (.bool i0))
  generalize W2.setCell ⟨w.heap.size + 1, 2, none⟩ (.bool i0) = W3 at *
  obtain ⟨x0, x1, x2, x3, x4, x5, x6⟩ := B2.out.seven
  have xf : ∀ j, W3.frozen? ⟨w.heap.size + 1, j, none⟩ = false := fun j => B2.out.free j
  go_upto_region 8 with (fail)
  clear x0 x1 x2 x3 x4 x5 x6 xf
  replace B2 := Lib.hid (B2.out.put 0 (.bool (!i0)) #[.bool (!i0), .bool false, .bool i0, .bool sg, .bool false, .slice none 0 0, .int .i64 0] rfl)
  replace B1 := Lib.hid (B1.out.other (p := ⟨w.heap.size + 1, 0, none⟩) (by show w.heap.size + 1 ≠ w.heap.size; omega) (.bool (!i0)))
  replace HB := Lib.hid (HB.out.setCell (p := ⟨w.heap.size + 1, 0, none⟩) (Nat.le_succ _) (.bool (!i0)))
  generalize W3.setCell ⟨w.heap.size + 1, 0, none⟩ (.bool (!i0)) = W4 at *
  cases i0
  · obtain ⟨x0, x1, x2, x3, x4, x5, x6⟩ := B2.out.seven
    have xf : ∀ j, W4.frozen? ⟨w.heap.size + 1, j, none⟩ = false := fun j => B2.out.free j
    go_upto_region 9 with (fail)
    clear x0 x1 x2 x3 x4 x5 x6 xf
    replace B2 := Lib.hid (B2.out.put 1 (.bool i1) #[.bool true, .bool i1, .bool false, .bool sg, .bool false, .slice none 0 0, .int .i64 0] rfl)
    replace B1 := Lib.hid (B1.out.other (p := ⟨w.heap.size + 1, 1, none⟩) (by show w.heap.size + 1 ≠ w.heap.size; omega) (.bool i1))
    replace HB := Lib.hid (HB.out.setCell (p := ⟨w.heap.size + 1, 1, none⟩) (Nat.le_succ _) (.bool i1))
    generalize W4.setCell ⟨w.heap.size + 1, 1, none⟩ (.bool i1) = W5 at *
    obtain ⟨x0, x1, x2, x3, x4, x5, x6⟩ := B2.out.seven
    obtain ⟨y0, y1, y2, y3, y4, y5, y6⟩ := B1.out.seven
    have yf : ∀ j, W5.frozen? ⟨w.heap.size, j, none⟩ = false := fun j => B1.out.free j
    go_wp2_with fail
    obtain ⟨r0, r1, r2, r3, r4, r5, r6⟩ := (B1.out.set7 (.bool true) (.bool i1) (.bool false) (.bool sg) (.bool false) (.slice none 0 0) (.int .i64 0)).seven
    refine bodyPost_ret (v := .agg #[.bool true, .bool i1, .bool false, .bool sg, .bool false, .slice none 0 0, .int .i64 0]) (by simp [results, Try.results50, go_sem, r0, r1, r2, r3, r4, r5, r6]) rfl ?_
    obtain ⟨v1, v2, v3, v4, v5⟩ := HV.out
    refine ⟨_, rfl, .slice none 0 0, ?_, ?_, below_set7 HB.out (Nat.le_refl _) _ _ _ _ _ _ _⟩
    · rw [v1, v2, v3, v4, ← v5]; simp
    · rw [v1]; exact ⟨none, 0, rfl, Nat.le_refl _, Nat.zero_le _, pow_pos2 _, fun h => by simp [nd_zero] at h⟩
  · obtain ⟨x0, x1, x2, x3, x4, x5, x6⟩ := B2.out.seven
    have xf : ∀ j, W4.frozen? ⟨w.heap.size + 1, j, none⟩ = false := fun j => B2.out.free j
    go_upto_region 9 with (fail)
    clear x0 x1 x2 x3 x4 x5 x6 xf
    replace B2 := Lib.hid (B2.out.put 1 (.bool false) #[.bool false, .bool false, .bool true, .bool sg, .bool false, .slice none 0 0, .int .i64 0] rfl)
    replace B1 := Lib.hid (B1.out.other (p := ⟨w.heap.size + 1, 1, none⟩) (by show w.heap.size + 1 ≠ w.heap.size; omega) (.bool false))
    replace HB := Lib.hid (HB.out.setCell (p := ⟨w.heap.size + 1, 1, none⟩) (Nat.le_succ _) (.bool false))
    generalize W4.setCell ⟨w.heap.size + 1, 1, none⟩ (.bool false) = W5 at *
    obtain ⟨x0, x1, x2, x3, x4, x5, x6⟩ := B2.out.seven
    obtain ⟨y0, y1, y2, y3, y4, y5, y6⟩ := B1.out.seven
    have yf : ∀ j, W5.frozen? ⟨w.heap.size, j, none⟩ = false := fun j => B1.out.free j
    go_wp2_with fail
    obtain ⟨r0, r1, r2, r3, r4, r5, r6⟩ := (B1.out.set7 (.bool false) (.bool false) (.bool true) (.bool sg) (.bool false) (.slice none 0 0) (.int .i64 0)).seven
    refine bodyPost_ret (v := .agg #[.bool false, .bool false, .bool true, .bool sg, .bool false, .slice none 0 0, .int .i64 0]) (by simp [results, Try.results50, go_sem, r0, r1, r2, r3, r4, r5, r6]) rfl ?_
    obtain ⟨v1, v2, v3, v4, v5⟩ := HV.out
    refine ⟨_, rfl, .slice none 0 0, ?_, ?_, below_set7 HB.out (Nat.le_refl _) _ _ _ _ _ _ _⟩
    · rw [v1, v2, v3, v4, ← v5]; simp
    · rw [v1]; exact ⟨none, 0, rfl, Nat.le_refl _, Nat.zero_le _, pow_pos2 _, fun h => by simp [nd_zero] at h⟩

set_option maxRecDepth 100000 in
set_option maxHeartbeats 8000000 in
theorem open_3_sub (a : Nat) (w : World) (ha : a < 2 ^ (fm 3).w) (hx : (fm 3).fx a = 0) :
    Calls Try.prog 50 #[.int .i64 3, .int .u64 a] w fun e w' => ∃ v, e = .returned v ∧ OpenV (fm 3) a w w' v := by
  have ok := fm_ok 3
  have a64 : a < 18446744073709551616 := Nat.lt_of_lt_of_le ha (show 2 ^ 64 ≤ 18446744073709551616 by decide)
  have q1 : bits .and .u64 ((a : Int) / 9223372036854775808) 1 = ((a / 9223372036854775808 % 2 : Nat) : Int) := by
    have := and_u64 (a / 9223372036854775808) 1 (Nat.lt_of_le_of_lt (Nat.div_le_self _ _) a64) 1 (by decide) (by decide)
    rw [← show ((a / 9223372036854775808 : Nat) : Int) = (a : Int) / 9223372036854775808 by simp, this]
  have q2 : bits .and .u64 (a : Int) 4503599627370495 = ((fm 3).fy a : Int) := by
    have := and_u64 a 52 a64 4503599627370495 (by decide) (by decide)
    rw [this, ← fy_eq ok a]; rfl
  have q3 : bits .and .u64 ((a : Int) / 4503599627370496) 2047 = ((fm 3).fx a : Int) := by
    have := and_u64 (a / 4503599627370496) 11 (Nat.lt_of_le_of_lt (Nat.div_le_self _ _) a64) 2047 (by decide) (by decide)
    rw [← show ((a / 4503599627370496 : Nat) : Int) = (a : Int) / 4503599627370496 by simp, this, ← fx_eq ok a]; rfl
  have e1 : (((a / 9223372036854775808 % 2 : Nat) : Int) == 1) = (fm 3).neg a := neg_eq ok ha
  obtain ⟨s0, hs0⟩ : ∃ s, s = a / 9223372036854775808 % 2 := ⟨_, rfl⟩
  rw [← hs0] at q1 e1
  have hyl : (fm 3).fy a < 4503599627370496 := fy_lt a
  have hxl : (fm 3).fx a < 2048 := fx_lt ok a
  obtain ⟨hmag, hex⟩ := mag_ex (F := fm 3) a
  have hfin := fin_iff ok a
  have hni := isNan_iff ok a
  have hii := isInf_iff ok a
  have hsi := isSig_iff ok a
  rw [show (2 ^ ((fm 3).w - (fm 3).p) - 1) = 2047 from rfl] at hfin hni hii
  rw [show (2 ^ ((fm 3).p - 2)) = 2251799813685248 from rfl] at hsi
  rw [show (2 ^ ((fm 3).p - 1)) = 4503599627370496 from rfl] at hmag
  rw [show (fm 3).emin - ((fm 3).p : Int) + 1 = -1074 from rfl] at hex
  obtain ⟨x, hxx⟩ : ∃ x, x = (fm 3).fx a := ⟨_, rfl⟩
  obtain ⟨y, hyy⟩ : ∃ y, y = (fm 3).fy a := ⟨_, rfl⟩
  rw [← hyy] at q2 hyl hmag hni hii hsi
  rw [← hxx] at q3 hxl hmag hex hfin hni hii
  obtain ⟨sg, hsg⟩ : ∃ s, s = (fm 3).neg a := ⟨_, rfl⟩
  rw [← hsg] at e1
  have hpar := fun wx => rparams_ok 3 wx (by decide)
  rw [show (fm 3).w = 64 from rfl, show (fm 3).p = 53 from rfl, show (fm 3).emin = -1022 from rfl] at hpar
  have Hpar := Lib.hid hpar
  rw [← hxx] at hx
  subst hx
  have hop : opD (fm 3) a = ⟨sg, y, -1074⟩ := by
    unfold opD
    rw [if_pos (hfin.2 (by decide)), ← hsg, hmag, hex, if_pos rfl, if_pos rfl]
  have hn' : (fm 3).isNan a = false := by rw [hni]; rfl
  have hi' : (fm 3).isInf a = false := by rw [hii]; rfl
  have t0 : (((0 : Nat) : Int) == 2047) = false := by decide
  have hs' : (fm 3).isSig a = false := by rw [hsi, hn']; rfl
  obtain ⟨E, hE⟩ : ∃ E : Int, E = -1074 := ⟨_, rfl⟩
  rw [← hE] at hop
  obtain ⟨N, hN⟩ : ∃ N, N = y := ⟨_, rfl⟩
  rw [← hN] at hop
  have hNl : N < 18446744073709551616 := by omega
  have e2 : ((y : Int) == 0) = decide (y = 0) := by
    by_cases c : y = 0 <;> simp [c]
  obtain ⟨i0, hi0⟩ : ∃ b, b = decide (y = 0) := ⟨_, rfl⟩
  rw [← hi0] at e2
  have HV := Lib.hid (And.intro hop (And.intro hi' (And.intro hn' (And.intro hs' hsg))))
  have HN := Lib.hid (And.intro hN hE)
  have hNk : (N : Int) = (y : Int) := by omega
  have HNk := Lib.hid hNk
  clear hii hni hsi hfin hmag hex ha hs0 hxx hyy hsg hop hi' hn' hs' hi0 ok hN hE hNk
  have hb1 := below1 w (.cells #[.bool false, .bool false, .bool false, .bool false, .bool false, .slice none 0 0, .int .i64 0] 78)
  have b1 := Bx.new w #[.bool false, .bool false, .bool false, .bool false, .bool false, .slice none 0 0, .int .i64 0] 78
  obtain ⟨W1, hW1⟩ : ∃ W1, W1 = w.alloc (.cells #[.bool false, .bool false, .bool false, .bool false, .bool false, .slice none 0 0, .int .i64 0] 78) := ⟨_, rfl⟩
  rw [← hW1] at hb1 b1
  have hsz : W1.heap.size = w.heap.size + 1 := by rw [hW1]; simp
  have hb2 := below1 W1 (.cells #[.bool false, .bool false, .bool false, .bool sg, .bool false, .slice none 0 0, .int .i64 0] 78)
  have b2 := Bx.new W1 #[.bool false, .bool false, .bool false, .bool sg, .bool false, .slice none 0 0, .int .i64 0] 78
  obtain ⟨W2, hW2⟩ : ∃ W2, W2 = W1.alloc (.cells #[.bool false, .bool false, .bool false, .bool sg, .bool false, .slice none 0 0, .int .i64 0] 78) := ⟨_, rfl⟩
  rw [← hW2] at hb2 b2
  rw [hsz] at b2
  have HB := Lib.hid (keep_belowB hb1 hb2 (Nat.le_refl _))
  have B1 := Lib.hid (b1.below hb2)
  have B2 := Lib.hid b2
  have HW := Lib.hid (And.intro hW1 hW2)
  clear hb1 b1 hb2 b2 hsz hW1 hW2 hpar
  go_enter Try.func50, Try.ntmps50
  go_wp2_with fail
  refine (Hpar.out _).mono ?_
  rintro _ _ ⟨rfl, rfl⟩
  go_upto_region 14 with (fail)
  rw [← HW.out.1, ← HW.out.2]
  clear HW
  rw [← HNk.out, ← HN.out.2]
  have hrd1 : Rd 64 (W2.drew.alloc (.cells #[.int .u64 N] 24)) (.slice (some ⟨W2.drew.heap.size, 0, none⟩) 1 1) N 1 := Rd.one64 W2.drew N hNl 24
  have hdg : ∀ wx v, Rd 64 wx v N 1 → Calls Try.prog 60 #[v] wx fun e' w' => ∃ A c, e' = .returned (.slice A (nd 32 N) c) ∧ (Rd 32 w' (.slice A (nd 32 N) c) N (nd 32 N) ∧ Fr wx.heap.size w' (.slice A (nd 32 N) c)) ∧ Below wx.heap.size wx w' := fun wx v h => (rDigits_any v N 1 wx h (by decide)).mono fun _ _ ⟨v', h1, h2, h3⟩ => by obtain ⟨A, c, rfl, _⟩ := h2.1.form; exact ⟨A, c, h1, h2, h3⟩
  have HD := Lib.hid hdg
  have x3 := (B2.out.seven).2.2.2.1
  have hbd : Below W2.heap.size W2 (W2.drew.alloc (.cells #[.int .u64 N] 24)) := ((Below.refl _ _).drew).alloc (Nat.le_refl _) _
  have HBD := Lib.hid hbd
  have hbB := HB.out
  clear hdg q1 q2 q3 e1 e2 t0 hyl a64 hxl hbd
  go_region_held3 (fun w' => w'.cell? ⟨w.heap.size + 1, 3, none⟩ = some (.bool sg))
    (first | exact x3 | exact keep_cell HBD.out x3 | exact keep_cell hb3 (keep_cell HBD.out x3) | exact cell_456 z3)
    ((first | (go_at_call 60; refine (HD.out _ _ hrd1).mono ?_; rintro _ w3 ⟨A3, c3, rfl, hr3, hb3⟩; have bx3 := ((B2.out.below HBD.out).below hb3); have xf : ∀ j, w3.frozen? ⟨w.heap.size + 1, j, none⟩ = false := fun j => bx3.free j; obtain ⟨z0, z1, z2, z3, z4, z5, z6⟩ := bx3.seven)))
  have hb4 := hb3
  have by3 := (B1.out.below HBD.out).below hb3
  have hB3 := keep_belowB (keep_belowB hbB HBD.out (Nat.le_refl _)) hb3 (Nat.le_refl _)
  have hlt : w.heap.size + 1 < W2.heap.size := B2.out.lt
  have hfr3 := hr3.2
  have hsz3 : (W2.drew.alloc (.cells #[.int .u64 N] 24)).heap.size = W2.heap.size + 1 := by simp
  rw [hsz3] at hfr3
  have hr4 := Rd.set456 hr3.1 (hfr3.mono (B' := w.heap.size + 2) (by omega)) (.bool sg) (.slice A3 (nd 32 N) c3) (.int .i64 E)
  have bx4 := bx3.set456 (.bool sg) (.slice A3 (nd 32 N) c3) (.int .i64 E)
  have by4 := ((by3.other (p := ⟨w.heap.size + 1, 4, none⟩) (by show w.heap.size + 1 ≠ w.heap.size; omega) (.bool sg)).other (p := ⟨w.heap.size + 1, 5, none⟩) (by show w.heap.size + 1 ≠ w.heap.size; omega) (.slice A3 (nd 32 N) c3)).other (p := ⟨w.heap.size + 1, 6, none⟩) (by show w.heap.size + 1 ≠ w.heap.size; omega) (.int .i64 E)
  have hB4 := ((hB3.setCell (p := ⟨w.heap.size + 1, 4, none⟩) (Nat.le_succ _) (.bool sg)).setCell (p := ⟨w.heap.size + 1, 5, none⟩) (Nat.le_succ _) (.slice A3 (nd 32 N) c3)).setCell (p := ⟨w.heap.size + 1, 6, none⟩) (Nat.le_succ _) (.int .i64 E)
  clear z0 z1 z2 z3 z4 z5 z6 hb3 hb4 bx3 by3 xf x3 hr3 hfr3 hsz3 hB3 HBD hrd1 HD HB hbB
  generalize ((w3.setCell ⟨w.heap.size + 1, 4, none⟩ (.bool sg)).setCell ⟨w.heap.size + 1, 5, none⟩ (.slice A3 (nd 32 N) c3)).setCell ⟨w.heap.size + 1, 6, none⟩ (.int .i64 E) = W4 at *
  have B3 := Lib.hid bx4
  have B4 := Lib.hid by4
  have HR4 := Lib.hid hr4
  have HB4 := Lib.hid hB4
  clear bx4 by4 hr4 hB4 B1 B2
  obtain ⟨x0, x1, x2, x3, x4, x5, x6⟩ := B3.out.seven
  obtain ⟨y0, y1, y2, y3, y4, y5, y6⟩ := B4.out.seven
  have yf : ∀ j, W4.frozen? ⟨w.heap.size, j, none⟩ = false := fun j => B4.out.free j
  go_wp2_with fail
  obtain ⟨r0, r1, r2, r3, r4, r5, r6⟩ := (B4.out.set7 (.bool false) (.bool false) (.bool false) (.bool sg) (.bool sg) (.slice A3 (nd 32 N) c3) (.int .i64 E)).seven
  refine bodyPost_ret (v := .agg #[.bool false, .bool false, .bool false, .bool sg, .bool sg, .slice A3 (nd 32 N) c3, .int .i64 E]) (by simp [results, Try.results50, go_sem, r0, r1, r2, r3, r4, r5, r6]) rfl ?_
  obtain ⟨v1, v2, v3', v4, v5⟩ := HV.out
  refine ⟨_, rfl, .slice A3 (nd 32 N) c3, ?_, ?_, below_set7 HB4.out (Nat.le_refl _) _ _ _ _ _ _ _⟩
  · rw [v1, v2, v3', v4, ← v5]
  · rw [v1]; exact Rd.set7 HR4.out.1 (HR4.out.2.mono (Nat.le_succ _)) _ _ _ _ _ _ _

set_option maxRecDepth 100000 in
set_option maxHeartbeats 8000000 in
theorem open_3_norm (a : Nat) (w : World) (ha : a < 2 ^ (fm 3).w) (hx0 : (fm 3).fx a ≠ 0) (hx : (fm 3).fx a ≠ 2047) :
    Calls Try.prog 50 #[.int .i64 3, .int .u64 a] w fun e w' => ∃ v, e = .returned v ∧ OpenV (fm 3) a w w' v := by
  have ok := fm_ok 3
  have a64 : a < 18446744073709551616 := Nat.lt_of_lt_of_le ha (show 2 ^ 64 ≤ 18446744073709551616 by decide)
  have q1 : bits .and .u64 ((a : Int) / 9223372036854775808) 1 = ((a / 9223372036854775808 % 2 : Nat) : Int) := by
    have := and_u64 (a / 9223372036854775808) 1 (Nat.lt_of_le_of_lt (Nat.div_le_self _ _) a64) 1 (by decide) (by decide)
    rw [← show ((a / 9223372036854775808 : Nat) : Int) = (a : Int) / 9223372036854775808 by simp, this]
  have q2 : bits .and .u64 (a : Int) 4503599627370495 = ((fm 3).fy a : Int) := by
    have := and_u64 a 52 a64 4503599627370495 (by decide) (by decide)
    rw [this, ← fy_eq ok a]; rfl
  have q3 : bits .and .u64 ((a : Int) / 4503599627370496) 2047 = ((fm 3).fx a : Int) := by
    have := and_u64 (a / 4503599627370496) 11 (Nat.lt_of_le_of_lt (Nat.div_le_self _ _) a64) 2047 (by decide) (by decide)
    rw [← show ((a / 4503599627370496 : Nat) : Int) = (a : Int) / 4503599627370496 by simp, this, ← fx_eq ok a]; rfl
  have e1 : (((a / 9223372036854775808 % 2 : Nat) : Int) == 1) = (fm 3).neg a := neg_eq ok ha
  obtain ⟨s0, hs0⟩ : ∃ s, s = a / 9223372036854775808 % 2 := ⟨_, rfl⟩
  rw [← hs0] at q1 e1
  have hyl : (fm 3).fy a < 4503599627370496 := fy_lt a
  have hxl : (fm 3).fx a < 2048 := fx_lt ok a
  obtain ⟨hmag, hex⟩ := mag_ex (F := fm 3) a
  have hfin := fin_iff ok a
  have hni := isNan_iff ok a
  have hii := isInf_iff ok a
  have hsi := isSig_iff ok a
  rw [show (2 ^ ((fm 3).w - (fm 3).p) - 1) = 2047 from rfl] at hfin hni hii
  rw [show (2 ^ ((fm 3).p - 2)) = 2251799813685248 from rfl] at hsi
  rw [show (2 ^ ((fm 3).p - 1)) = 4503599627370496 from rfl] at hmag
  rw [show (fm 3).emin - ((fm 3).p : Int) + 1 = -1074 from rfl] at hex
  obtain ⟨x, hxx⟩ : ∃ x, x = (fm 3).fx a := ⟨_, rfl⟩
  obtain ⟨y, hyy⟩ : ∃ y, y = (fm 3).fy a := ⟨_, rfl⟩
  rw [← hyy] at q2 hyl hmag hni hii hsi
  rw [← hxx] at q3 hxl hmag hex hfin hni hii
  obtain ⟨sg, hsg⟩ : ∃ s, s = (fm 3).neg a := ⟨_, rfl⟩
  rw [← hsg] at e1
  have hpar := fun wx => rparams_ok 3 wx (by decide)
  rw [show (fm 3).w = 64 from rfl, show (fm 3).p = 53 from rfl, show (fm 3).emin = -1022 from rfl] at hpar
  have Hpar := Lib.hid hpar
  rw [← hxx] at hx hx0
  have hop : opD (fm 3) a = ⟨sg, y + 4503599627370496, -1074 + ((x : Int) - 1)⟩ := by
    unfold opD
    rw [if_pos (hfin.2 hx), ← hsg, hmag, hex, if_neg hx0, if_neg hx0, Nat.add_comm]
    congr 1
    omega
  have hn' : (fm 3).isNan a = false := by rw [hni, decide_eq_false hx]; rfl
  have hi' : (fm 3).isInf a = false := by rw [hii, decide_eq_false hx]; rfl
  have t0 : ((x : Int) == 2047) = false := by rw [beq_eq_false_iff_ne]; omega
  have t1 : decide ((x : Int) > 0) = true := by rw [decide_eq_true_eq]; omega
  have hx1 : 1 ≤ x := by omega
  have hs' : (fm 3).isSig a = false := by rw [hsi, hn']; rfl
  obtain ⟨E, hE⟩ : ∃ E : Int, E = -1074 + ((x : Int) - 1) := ⟨_, rfl⟩
  rw [← hE] at hop
  obtain ⟨N, hN⟩ : ∃ N, N = (y + 4503599627370496) := ⟨_, rfl⟩
  rw [← hN] at hop
  have hNl : N < 18446744073709551616 := by omega
  have e2 : ((y : Int) == 0) = decide (y = 0) := by
    by_cases c : y = 0 <;> simp [c]
  obtain ⟨i0, hi0⟩ : ∃ b, b = decide (y = 0) := ⟨_, rfl⟩
  rw [← hi0] at e2
  have HV := Lib.hid (And.intro hop (And.intro hi' (And.intro hn' (And.intro hs' hsg))))
  have HN := Lib.hid (And.intro hN hE)
  have hNk : (N : Int) = (y : Int) + 4503599627370496 := by omega
  have HNk := Lib.hid hNk
  clear hii hni hsi hfin hmag hex ha hs0 hxx hyy hsg hop hi' hn' hs' hi0 ok hN hE hNk hx hx0
  have hb1 := below1 w (.cells #[.bool false, .bool false, .bool false, .bool false, .bool false, .slice none 0 0, .int .i64 0] 78)
  have b1 := Bx.new w #[.bool false, .bool false, .bool false, .bool false, .bool false, .slice none 0 0, .int .i64 0] 78
  obtain ⟨W1, hW1⟩ : ∃ W1, W1 = w.alloc (.cells #[.bool false, .bool false, .bool false, .bool false, .bool false, .slice none 0 0, .int .i64 0] 78) := ⟨_, rfl⟩
  rw [← hW1] at hb1 b1
  have hsz : W1.heap.size = w.heap.size + 1 := by rw [hW1]; simp
  have hb2 := below1 W1 (.cells #[.bool false, .bool false, .bool false, .bool sg, .bool false, .slice none 0 0, .int .i64 0] 78)
  have b2 := Bx.new W1 #[.bool false, .bool false, .bool false, .bool sg, .bool false, .slice none 0 0, .int .i64 0] 78
  obtain ⟨W2, hW2⟩ : ∃ W2, W2 = W1.alloc (.cells #[.bool false, .bool false, .bool false, .bool sg, .bool false, .slice none 0 0, .int .i64 0] 78) := ⟨_, rfl⟩
  rw [← hW2] at hb2 b2
  rw [hsz] at b2
  have HB := Lib.hid (keep_belowB hb1 hb2 (Nat.le_refl _))
  have B1 := Lib.hid (b1.below hb2)
  have B2 := Lib.hid b2
  have HW := Lib.hid (And.intro hW1 hW2)
  clear hb1 b1 hb2 b2 hsz hW1 hW2 hpar
  go_enter Try.func50, Try.ntmps50
  go_wp2_with fail
  refine (Hpar.out _).mono ?_
  rintro _ _ ⟨rfl, rfl⟩
  go_upto_region 14 with (fail)
  rw [← HW.out.1, ← HW.out.2]
  clear HW
  rw [← HNk.out, ← HN.out.2]
  have hrd1 : Rd 64 (W2.drew.alloc (.cells #[.int .u64 N] 24)) (.slice (some ⟨W2.drew.heap.size, 0, none⟩) 1 1) N 1 := Rd.one64 W2.drew N hNl 24
  have hdg : ∀ wx v, Rd 64 wx v N 1 → Calls Try.prog 60 #[v] wx fun e' w' => ∃ A c, e' = .returned (.slice A (nd 32 N) c) ∧ (Rd 32 w' (.slice A (nd 32 N) c) N (nd 32 N) ∧ Fr wx.heap.size w' (.slice A (nd 32 N) c)) ∧ Below wx.heap.size wx w' := fun wx v h => (rDigits_any v N 1 wx h (by decide)).mono fun _ _ ⟨v', h1, h2, h3⟩ => by obtain ⟨A, c, rfl, _⟩ := h2.1.form; exact ⟨A, c, h1, h2, h3⟩
  have HD := Lib.hid hdg
  have x3 := (B2.out.seven).2.2.2.1
  have hbd : Below W2.heap.size W2 (W2.drew.alloc (.cells #[.int .u64 N] 24)) := ((Below.refl _ _).drew).alloc (Nat.le_refl _) _
  have HBD := Lib.hid hbd
  have hbB := HB.out
  clear hdg q1 q2 q3 e1 e2 t0 hyl a64 hxl hbd t1 hx1
  go_region_held3 (fun w' => w'.cell? ⟨w.heap.size + 1, 3, none⟩ = some (.bool sg))
    (first | exact x3 | exact keep_cell HBD.out x3 | exact keep_cell hb3 (keep_cell HBD.out x3) | exact cell_456 z3)
    ((first | (go_at_call 60; refine (HD.out _ _ hrd1).mono ?_; rintro _ w3 ⟨A3, c3, rfl, hr3, hb3⟩; have bx3 := ((B2.out.below HBD.out).below hb3); have xf : ∀ j, w3.frozen? ⟨w.heap.size + 1, j, none⟩ = false := fun j => bx3.free j; obtain ⟨z0, z1, z2, z3, z4, z5, z6⟩ := bx3.seven)))
  have hb4 := hb3
  have by3 := (B1.out.below HBD.out).below hb3
  have hB3 := keep_belowB (keep_belowB hbB HBD.out (Nat.le_refl _)) hb3 (Nat.le_refl _)
  have hlt : w.heap.size + 1 < W2.heap.size := B2.out.lt
  have hfr3 := hr3.2
  have hsz3 : (W2.drew.alloc (.cells #[.int .u64 N] 24)).heap.size = W2.heap.size + 1 := by simp
  rw [hsz3] at hfr3
  have hr4 := Rd.set456 hr3.1 (hfr3.mono (B' := w.heap.size + 2) (by omega)) (.bool sg) (.slice A3 (nd 32 N) c3) (.int .i64 E)
  have bx4 := bx3.set456 (.bool sg) (.slice A3 (nd 32 N) c3) (.int .i64 E)
  have by4 := ((by3.other (p := ⟨w.heap.size + 1, 4, none⟩) (by show w.heap.size + 1 ≠ w.heap.size; omega) (.bool sg)).other (p := ⟨w.heap.size + 1, 5, none⟩) (by show w.heap.size + 1 ≠ w.heap.size; omega) (.slice A3 (nd 32 N) c3)).other (p := ⟨w.heap.size + 1, 6, none⟩) (by show w.heap.size + 1 ≠ w.heap.size; omega) (.int .i64 E)
  have hB4 := ((hB3.setCell (p := ⟨w.heap.size + 1, 4, none⟩) (Nat.le_succ _) (.bool sg)).setCell (p := ⟨w.heap.size + 1, 5, none⟩) (Nat.le_succ _) (.slice A3 (nd 32 N) c3)).setCell (p := ⟨w.heap.size + 1, 6, none⟩) (Nat.le_succ _) (.int .i64 E)
  clear z0 z1 z2 z3 z4 z5 z6 hb3 hb4 bx3 by3 xf x3 hr3 hfr3 hsz3 hB3 HBD hrd1 HD HB hbB
  generalize ((w3.setCell ⟨w.heap.size + 1, 4, none⟩ (.bool sg)).setCell ⟨w.heap.size + 1, 5, none⟩ (.slice A3 (nd 32 N) c3)).setCell ⟨w.heap.size + 1, 6, none⟩ (.int .i64 E) = W4 at *
  have B3 := Lib.hid bx4
  have B4 := Lib.hid by4
  have HR4 := Lib.hid hr4
  have HB4 := Lib.hid hB4
  clear bx4 by4 hr4 hB4 B1 B2
  obtain ⟨x0, x1, x2, x3, x4, x5, x6⟩ := B3.out.seven
  obtain ⟨y0, y1, y2, y3, y4, y5, y6⟩ := B4.out.seven
  have yf : ∀ j, W4.frozen? ⟨w.heap.size, j, none⟩ = false := fun j => B4.out.free j
  go_wp2_with fail
  obtain ⟨r0, r1, r2, r3, r4, r5, r6⟩ := (B4.out.set7 (.bool false) (.bool false) (.bool false) (.bool sg) (.bool sg) (.slice A3 (nd 32 N) c3) (.int .i64 E)).seven
  refine bodyPost_ret (v := .agg #[.bool false, .bool false, .bool false, .bool sg, .bool sg, .slice A3 (nd 32 N) c3, .int .i64 E]) (by simp [results, Try.results50, go_sem, r0, r1, r2, r3, r4, r5, r6]) rfl ?_
  obtain ⟨v1, v2, v3', v4, v5⟩ := HV.out
  refine ⟨_, rfl, .slice A3 (nd 32 N) c3, ?_, ?_, below_set7 HB4.out (Nat.le_refl _) _ _ _ _ _ _ _⟩
  · rw [v1, v2, v3', v4, ← v5]
  · rw [v1]; exact Rd.set7 HR4.out.1 (HR4.out.2.mono (Nat.le_succ _)) _ _ _ _ _ _ _

theorem ropen_ok (n a : Nat) (w : World) (hn : n < 4) (ha : a < 2 ^ (fm n).w) :
    Calls Try.prog 50 #[.int .i64 n, .int .u64 a] w fun e w' => ∃ v, e = .returned v ∧ OpenV (fm n) a w w' v := by
  have h4 : n = 0 ∨ n = 1 ∨ n = 2 ∨ n = 3 := by omega
  rcases h4 with rfl | rfl | rfl | rfl
  · by_cases h0 : (fm 0).fx a = 0
    · exact open_0_sub a w ha h0
    · by_cases h1 : (fm 0).fx a = 31
      · exact open_0_spec a w ha h1
      · exact open_0_norm a w ha h0 h1
  · by_cases h0 : (fm 1).fx a = 0
    · exact open_1_sub a w ha h0
    · by_cases h1 : (fm 1).fx a = 255
      · exact open_1_spec a w ha h1
      · exact open_1_norm a w ha h0 h1
  · by_cases h0 : (fm 2).fx a = 0
    · exact open_2_sub a w ha h0
    · by_cases h1 : (fm 2).fx a = 255
      · exact open_2_spec a w ha h1
      · exact open_2_norm a w ha h0 h1
  · by_cases h0 : (fm 3).fx a = 0
    · exact open_3_sub a w ha h0
    · by_cases h1 : (fm 3).fx a = 2047
      · exact open_3_spec a w ha h1
      · exact open_3_norm a w ha h0 h1

end Go.Proofs.Ytebmogdojpcmfaa
