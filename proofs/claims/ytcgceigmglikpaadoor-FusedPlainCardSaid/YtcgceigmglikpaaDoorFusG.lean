/- The walk of (Four).right: what is brought into range. -/
import Derived.Test.YtcgceigmglikpaaDoorFusF
namespace Go.Proofs.YtcgceigmglikpaaDoor
set_option linter.unusedVariables false
open Go.RowKit

def fourA (f m : Int) (a b c d : Nat) : Array Value := #[.int .i64 f, .int .i64 m, .int .u64 a, .int .u64 b, .int .u64 c, .int .u64 d]

theorem Bx.put {w : World} {g : Nat} {arr : Array Value} (h : Bx w g arr) (i : Nat) (v : Value) (arr' : Array Value) (e : arr.setIfInBounds i v = arr') : Bx (w.setCell ⟨g, i, none⟩ v) g arr' := by
  obtain ⟨t, h⟩ := h
  refine ⟨t, ?_⟩
  subst e
  simp [World.setCell, Array.getElem?_modify, h]

theorem Bx.six {w : World} {g : Nat} {a0 a1 a2 a3 a4 a5 : Value} (h : Bx w g #[a0, a1, a2, a3, a4, a5]) :
    w.cell? ⟨g, 0, none⟩ = some a0 ∧ w.cell? ⟨g, 1, none⟩ = some a1 ∧ w.cell? ⟨g, 2, none⟩ = some a2 ∧ w.cell? ⟨g, 3, none⟩ = some a3 ∧ w.cell? ⟨g, 4, none⟩ = some a4 ∧ w.cell? ⟨g, 5, none⟩ = some a5 :=
  ⟨h.cell 0 rfl, h.cell 1 rfl, h.cell 2 rfl, h.cell 3 rfl, h.cell 4 rfl, h.cell 5 rfl⟩

theorem Bx.set6 {w : World} {g : Nat} {a0 a1 a2 a3 a4 a5 : Value} (h : Bx w g #[a0, a1, a2, a3, a4, a5]) (x0 x1 x2 x3 x4 x5 : Value) :
    Bx ((((((w.setCell ⟨g, 0, none⟩ x0).setCell ⟨g, 1, none⟩ x1).setCell ⟨g, 2, none⟩ x2).setCell ⟨g, 3, none⟩ x3).setCell ⟨g, 4, none⟩ x4).setCell ⟨g, 5, none⟩ x5) g #[x0, x1, x2, x3, x4, x5] := by
  obtain ⟨t, h⟩ := h
  refine ⟨t, ?_⟩
  simp [World.setCell, Array.getElem?_modify, h]

theorem below_set6 {w w1 : World} {g : Nat} (h : Below w.heap.size w w1) (hg : w.heap.size ≤ g) (x0 x1 x2 x3 x4 x5 : Value) :
    Below w.heap.size w ((((((w1.setCell ⟨g, 0, none⟩ x0).setCell ⟨g, 1, none⟩ x1).setCell ⟨g, 2, none⟩ x2).setCell ⟨g, 3, none⟩ x3).setCell ⟨g, 4, none⟩ x4).setCell ⟨g, 5, none⟩ x5) :=
  (((((h.setCell (p := ⟨g, 0, none⟩) hg x0).setCell (p := ⟨g, 1, none⟩) hg x1).setCell (p := ⟨g, 2, none⟩) hg x2).setCell (p := ⟨g, 3, none⟩) hg x3).setCell (p := ⟨g, 4, none⟩) hg x4).setCell (p := ⟨g, 5, none⟩) hg x5

theorem wrap_u64_mod (a : Nat) : IntKind.u64.wrap (a : Int) = ((a % 18446744073709551616 : Nat) : Int) := by
  unfold IntKind.wrap
  simp [IntKind.bits, IntKind.signed]

theorem shl_shr_16 (a : Nat) : IntKind.u64.wrap ((a : Int) * 281474976710656) / 281474976710656 = ((a % 65536 : Nat) : Int) := by
  have e : (a : Int) * 281474976710656 = ((a * 281474976710656 : Nat) : Int) := by simp
  rw [e, wrap_u64_mod]
  omega

theorem shl_shr_32 (a : Nat) : IntKind.u64.wrap ((a : Int) * 4294967296) / 4294967296 = ((a % 4294967296 : Nat) : Int) := by
  have e : (a : Int) * 4294967296 = ((a * 4294967296 : Nat) : Int) := by simp
  rw [e, wrap_u64_mod]
  omega

set_option maxRecDepth 100000 in
set_option maxHeartbeats 8000000 in
theorem four_right (f m : Int) (a b c d : Nat) (w : World) (hf : -9223372036854775808 ≤ f ∧ f ≤ 9223372036854775807) (hm : -9223372036854775808 ≤ m ∧ m ≤ 9223372036854775807) (ha : a < 18446744073709551616) (hb : b < 18446744073709551616) (hc : c < 18446744073709551616) (hd : d < 18446744073709551616) :
    Calls Tryd.prog 36 #[.agg (fourA f m a b c d)] w fun e w' => ∃ n k : Nat, n < 4 ∧ k ≤ 5 ∧ e = .returned (.agg (fourA n k (a % 2 ^ (fm n).w) (b % 2 ^ (fm n).w) (c % 2 ^ (fm n).w) (d % 2 ^ (fm n).w))) ∧ Below w.heap.size w w' := by
  obtain ⟨n, hn⟩ : ∃ n : Nat, f % ((4 : Nat) : Int) = n := Int.eq_ofNat_of_zero_le (by omega)
  obtain ⟨k, hk⟩ : ∃ n : Nat, m % ((6 : Nat) : Int) = n := Int.eq_ofNat_of_zero_le (by omega)
  have hi1 := fun wx => finto_any f 4 wx (Or.inl rfl) hf
  have hi2 := fun wx => finto_any m 6 wx (Or.inr rfl) hm
  rw [hn] at hi1
  rw [hk] at hi2
  have hn4 : n < 4 := by omega
  have hk5 : k ≤ 5 := by omega
  have hpr := fun wx => rparams_ok n wx hn4
  have HI1 := Lib.hid hi1
  have HI2 := Lib.hid hi2
  have HP := Lib.hid hpr
  have Hn := Lib.hid (And.intro hn4 hk5)
  have hb1 := below1 w (.cells #[.int .i64 f, .int .i64 m, .int .u64 a, .int .u64 b, .int .u64 c, .int .u64 d] 68)
  have b1 := Bx.new w #[.int .i64 f, .int .i64 m, .int .u64 a, .int .u64 b, .int .u64 c, .int .u64 d] 68
  obtain ⟨W1, hW1⟩ : ∃ W1, W1 = w.alloc (.cells #[.int .i64 f, .int .i64 m, .int .u64 a, .int .u64 b, .int .u64 c, .int .u64 d] 68) := ⟨_, rfl⟩
  rw [← hW1] at hb1 b1
  have hb2 := below1 W1 (.cells #[.int .i64 0, .int .i64 0, .int .u64 0, .int .u64 0, .int .u64 0, .int .u64 0] 68)
  have b2 := Bx.new W1 #[.int .i64 0, .int .i64 0, .int .u64 0, .int .u64 0, .int .u64 0, .int .u64 0] 68
  have hsz : W1.heap.size = w.heap.size + 1 := by rw [hW1]; simp
  obtain ⟨W2, hW2⟩ : ∃ W2, W2 = W1.alloc (.cells #[.int .i64 0, .int .i64 0, .int .u64 0, .int .u64 0, .int .u64 0, .int .u64 0] 68) := ⟨_, rfl⟩
  rw [← hW2] at hb2 b2
  rw [hsz] at b2
  have HB := Lib.hid (keep_belowB hb1 hb2 (Nat.le_refl _))
  have B1 := Lib.hid (b1.below hb2)
  have B2 := Lib.hid b2
  have HW := Lib.hid (And.intro hW1 hW2)
  unfold fourA
  clear hf hm ha hb hc hd hn hk hi1 hi2 hn4 hk5 hpr hb1 hb2 b1 b2 hsz hW1 hW2
  go_enter Tryd.func36, Tryd.ntmps36
  go_upto_region 1 with (fail)
  rw [← HW.out.1, ← HW.out.2]
  clear HW
  obtain ⟨x0, x1, x2, x3, x4, x5⟩ := B1.out.six
  have xf : ∀ j, W2.frozen? ⟨w.heap.size, j, none⟩ = false := fun j => B1.out.free j
  go_wp2_with fail
  refine (HI1.out W2).mono ?_
  rintro _ _ ⟨rfl, rfl⟩
  go_upto_region 2 with (fail)
  clear x0 x1 x2 x3 x4 x5 xf HI1
  replace B1 := Lib.hid (B1.out.put 0 (.int .i64 n) #[.int .i64 n, .int .i64 m, .int .u64 a, .int .u64 b, .int .u64 c, .int .u64 d] rfl)
  replace B2 := Lib.hid (B2.out.other (p := ⟨w.heap.size, 0, none⟩) (by show w.heap.size ≠ w.heap.size + 1; omega) (.int .i64 n))
  replace HB := Lib.hid (HB.out.setCell (p := ⟨w.heap.size, 0, none⟩) (Nat.le_refl _) (.int .i64 n))
  generalize W2.setCell ⟨w.heap.size, 0, none⟩ (.int .i64 n) = W3 at *
  obtain ⟨x0, x1, x2, x3, x4, x5⟩ := B1.out.six
  have xf : ∀ j, W3.frozen? ⟨w.heap.size, j, none⟩ = false := fun j => B1.out.free j
  go_wp2_with fail
  refine (HI2.out W3).mono ?_
  rintro _ _ ⟨rfl, rfl⟩
  go_upto_region 3 with (fail)
  clear x0 x1 x2 x3 x4 x5 xf HI2
  replace B1 := Lib.hid (B1.out.put 1 (.int .i64 k) #[.int .i64 n, .int .i64 k, .int .u64 a, .int .u64 b, .int .u64 c, .int .u64 d] rfl)
  replace B2 := Lib.hid (B2.out.other (p := ⟨w.heap.size, 1, none⟩) (by show w.heap.size ≠ w.heap.size + 1; omega) (.int .i64 k))
  replace HB := Lib.hid (HB.out.setCell (p := ⟨w.heap.size, 1, none⟩) (Nat.le_refl _) (.int .i64 k))
  generalize W3.setCell ⟨w.heap.size, 1, none⟩ (.int .i64 k) = W4 at *
  obtain ⟨x0, x1, x2, x3, x4, x5⟩ := B1.out.six
  have xf : ∀ j, W4.frozen? ⟨w.heap.size, j, none⟩ = false := fun j => B1.out.free j
  go_wp2_with fail
  refine (HP.out W4).mono ?_
  rintro _ _ ⟨rfl, rfl⟩
  have hn := Hn.out.1
  have h4 : n = 0 ∨ n = 1 ∨ n = 2 ∨ n = 3 := by omega
  clear hn
  rcases h4 with rfl | rfl | rfl | rfl
  · rw [show (fm 0).w = 16 from rfl, show (fm 0).p = 11 from rfl, show (fm 0).emin = -14 from rfl]
    have sa : IntKind.u64.wrap ((a : Int) * 281474976710656) / 281474976710656 = ((a % 65536 : Nat) : Int) := shl_shr_16 a
    obtain ⟨a', ha'⟩ : ∃ y, y = a % 65536 := ⟨_, rfl⟩
    rw [← ha'] at sa
    have Ha := Lib.hid ha'
    clear ha'
    have sb : IntKind.u64.wrap ((b : Int) * 281474976710656) / 281474976710656 = ((b % 65536 : Nat) : Int) := shl_shr_16 b
    obtain ⟨b', hb'⟩ : ∃ y, y = b % 65536 := ⟨_, rfl⟩
    rw [← hb'] at sb
    have Hb := Lib.hid hb'
    clear hb'
    have sc : IntKind.u64.wrap ((c : Int) * 281474976710656) / 281474976710656 = ((c % 65536 : Nat) : Int) := shl_shr_16 c
    obtain ⟨c', hc'⟩ : ∃ y, y = c % 65536 := ⟨_, rfl⟩
    rw [← hc'] at sc
    have Hc := Lib.hid hc'
    clear hc'
    have sd : IntKind.u64.wrap ((d : Int) * 281474976710656) / 281474976710656 = ((d % 65536 : Nat) : Int) := shl_shr_16 d
    obtain ⟨d', hd'⟩ : ∃ y, y = d % 65536 := ⟨_, rfl⟩
    rw [← hd'] at sd
    have Hd := Lib.hid hd'
    clear hd'
    go_upto_region 6 with (fail)
    clear x0 x1 x2 x3 x4 x5 xf
    replace B1 := Lib.hid (B1.out.put 2 (.int .u64 a') #[.int .i64 0, .int .i64 k, .int .u64 a', .int .u64 b, .int .u64 c, .int .u64 d] rfl)
    replace B2 := Lib.hid (B2.out.other (p := ⟨w.heap.size, 2, none⟩) (by show w.heap.size ≠ w.heap.size + 1; omega) (.int .u64 a'))
    replace HB := Lib.hid (HB.out.setCell (p := ⟨w.heap.size, 2, none⟩) (Nat.le_refl _) (.int .u64 a'))
    generalize W4.setCell ⟨w.heap.size, 2, none⟩ (.int .u64 a') = W5 at *
    obtain ⟨x0, x1, x2, x3, x4, x5⟩ := B1.out.six
    have xf : ∀ j, W5.frozen? ⟨w.heap.size, j, none⟩ = false := fun j => B1.out.free j
    go_upto_region 7 with (fail)
    clear x0 x1 x2 x3 x4 x5 xf
    replace B1 := Lib.hid (B1.out.put 3 (.int .u64 b') #[.int .i64 0, .int .i64 k, .int .u64 a', .int .u64 b', .int .u64 c, .int .u64 d] rfl)
    replace B2 := Lib.hid (B2.out.other (p := ⟨w.heap.size, 3, none⟩) (by show w.heap.size ≠ w.heap.size + 1; omega) (.int .u64 b'))
    replace HB := Lib.hid (HB.out.setCell (p := ⟨w.heap.size, 3, none⟩) (Nat.le_refl _) (.int .u64 b'))
    generalize W5.setCell ⟨w.heap.size, 3, none⟩ (.int .u64 b') = W6 at *
    obtain ⟨x0, x1, x2, x3, x4, x5⟩ := B1.out.six
    have xf : ∀ j, W6.frozen? ⟨w.heap.size, j, none⟩ = false := fun j => B1.out.free j
    go_upto_region 8 with (fail)
    clear x0 x1 x2 x3 x4 x5 xf
    replace B1 := Lib.hid (B1.out.put 4 (.int .u64 c') #[.int .i64 0, .int .i64 k, .int .u64 a', .int .u64 b', .int .u64 c', .int .u64 d] rfl)
    replace B2 := Lib.hid (B2.out.other (p := ⟨w.heap.size, 4, none⟩) (by show w.heap.size ≠ w.heap.size + 1; omega) (.int .u64 c'))
    replace HB := Lib.hid (HB.out.setCell (p := ⟨w.heap.size, 4, none⟩) (Nat.le_refl _) (.int .u64 c'))
    generalize W6.setCell ⟨w.heap.size, 4, none⟩ (.int .u64 c') = W7 at *
    obtain ⟨x0, x1, x2, x3, x4, x5⟩ := B1.out.six
    have xf : ∀ j, W7.frozen? ⟨w.heap.size, j, none⟩ = false := fun j => B1.out.free j
    go_upto_region 9 with (fail)
    clear x0 x1 x2 x3 x4 x5 xf
    replace B1 := Lib.hid (B1.out.put 5 (.int .u64 d') #[.int .i64 0, .int .i64 k, .int .u64 a', .int .u64 b', .int .u64 c', .int .u64 d'] rfl)
    replace B2 := Lib.hid (B2.out.other (p := ⟨w.heap.size, 5, none⟩) (by show w.heap.size ≠ w.heap.size + 1; omega) (.int .u64 d'))
    replace HB := Lib.hid (HB.out.setCell (p := ⟨w.heap.size, 5, none⟩) (Nat.le_refl _) (.int .u64 d'))
    generalize W7.setCell ⟨w.heap.size, 5, none⟩ (.int .u64 d') = W8 at *
    obtain ⟨x0, x1, x2, x3, x4, x5⟩ := B1.out.six
    have xf : ∀ j, W8.frozen? ⟨w.heap.size, j, none⟩ = false := fun j => B1.out.free j
    obtain ⟨y0, y1, y2, y3, y4, y5⟩ := B2.out.six
    have yf : ∀ j, W8.frozen? ⟨w.heap.size + 1, j, none⟩ = false := fun j => B2.out.free j
    clear sa sb sc sd
    go_wp2_with fail
    obtain ⟨r0, r1, r2, r3, r4, r5⟩ := (B2.out.set6 (.int .i64 0) (.int .i64 k) (.int .u64 a') (.int .u64 b') (.int .u64 c') (.int .u64 d')).six
    refine bodyPost_ret (v := .agg #[.int .i64 0, .int .i64 k, .int .u64 a', .int .u64 b', .int .u64 c', .int .u64 d']) (by simp [results, Tryd.results36, go_sem, r0, r1, r2, r3, r4, r5]) rfl ?_
    exact ⟨0, k, by decide, Hn.out.2, by rw [Ha.out, Hb.out, Hc.out, Hd.out]; rfl, below_set6 HB.out (Nat.le_succ _) _ _ _ _ _ _⟩
  · rw [show (fm 1).w = 16 from rfl, show (fm 1).p = 8 from rfl, show (fm 1).emin = -126 from rfl]
    have sa : IntKind.u64.wrap ((a : Int) * 281474976710656) / 281474976710656 = ((a % 65536 : Nat) : Int) := shl_shr_16 a
    obtain ⟨a', ha'⟩ : ∃ y, y = a % 65536 := ⟨_, rfl⟩
    rw [← ha'] at sa
    have Ha := Lib.hid ha'
    clear ha'
    have sb : IntKind.u64.wrap ((b : Int) * 281474976710656) / 281474976710656 = ((b % 65536 : Nat) : Int) := shl_shr_16 b
    obtain ⟨b', hb'⟩ : ∃ y, y = b % 65536 := ⟨_, rfl⟩
    rw [← hb'] at sb
    have Hb := Lib.hid hb'
    clear hb'
    have sc : IntKind.u64.wrap ((c : Int) * 281474976710656) / 281474976710656 = ((c % 65536 : Nat) : Int) := shl_shr_16 c
    obtain ⟨c', hc'⟩ : ∃ y, y = c % 65536 := ⟨_, rfl⟩
    rw [← hc'] at sc
    have Hc := Lib.hid hc'
    clear hc'
    have sd : IntKind.u64.wrap ((d : Int) * 281474976710656) / 281474976710656 = ((d % 65536 : Nat) : Int) := shl_shr_16 d
    obtain ⟨d', hd'⟩ : ∃ y, y = d % 65536 := ⟨_, rfl⟩
    rw [← hd'] at sd
    have Hd := Lib.hid hd'
    clear hd'
    go_upto_region 6 with (fail)
    clear x0 x1 x2 x3 x4 x5 xf
    replace B1 := Lib.hid (B1.out.put 2 (.int .u64 a') #[.int .i64 1, .int .i64 k, .int .u64 a', .int .u64 b, .int .u64 c, .int .u64 d] rfl)
    replace B2 := Lib.hid (B2.out.other (p := ⟨w.heap.size, 2, none⟩) (by show w.heap.size ≠ w.heap.size + 1; omega) (.int .u64 a'))
    replace HB := Lib.hid (HB.out.setCell (p := ⟨w.heap.size, 2, none⟩) (Nat.le_refl _) (.int .u64 a'))
    generalize W4.setCell ⟨w.heap.size, 2, none⟩ (.int .u64 a') = W5 at *
    obtain ⟨x0, x1, x2, x3, x4, x5⟩ := B1.out.six
    have xf : ∀ j, W5.frozen? ⟨w.heap.size, j, none⟩ = false := fun j => B1.out.free j
    go_upto_region 7 with (fail)
    clear x0 x1 x2 x3 x4 x5 xf
    replace B1 := Lib.hid (B1.out.put 3 (.int .u64 b') #[.int .i64 1, .int .i64 k, .int .u64 a', .int .u64 b', .int .u64 c, .int .u64 d] rfl)
    replace B2 := Lib.hid (B2.out.other (p := ⟨w.heap.size, 3, none⟩) (by show w.heap.size ≠ w.heap.size + 1; omega) (.int .u64 b'))
    replace HB := Lib.hid (HB.out.setCell (p := ⟨w.heap.size, 3, none⟩) (Nat.le_refl _) (.int .u64 b'))
    generalize W5.setCell ⟨w.heap.size, 3, none⟩ (.int .u64 b') = W6 at *
    obtain ⟨x0, x1, x2, x3, x4, x5⟩ := B1.out.six
    have xf : ∀ j, W6.frozen? ⟨w.heap.size, j, none⟩ = false := fun j => B1.out.free j
    go_upto_region 8 with (fail)
    clear x0 x1 x2 x3 x4 x5 xf
    replace B1 := Lib.hid (B1.out.put 4 (.int .u64 c') #[.int .i64 1, .int .i64 k, .int .u64 a', .int .u64 b', .int .u64 c', .int .u64 d] rfl)
    replace B2 := Lib.hid (B2.out.other (p := ⟨w.heap.size, 4, none⟩) (by show w.heap.size ≠ w.heap.size + 1; omega) (.int .u64 c'))
    replace HB := Lib.hid (HB.out.setCell (p := ⟨w.heap.size, 4, none⟩) (Nat.le_refl _) (.int .u64 c'))
    generalize W6.setCell ⟨w.heap.size, 4, none⟩ (.int .u64 c') = W7 at *
    obtain ⟨x0, x1, x2, x3, x4, x5⟩ := B1.out.six
    have xf : ∀ j, W7.frozen? ⟨w.heap.size, j, none⟩ = false := fun j => B1.out.free j
    go_upto_region 9 with (fail)
    clear x0 x1 x2 x3 x4 x5 xf
    replace B1 := Lib.hid (B1.out.put 5 (.int .u64 d') #[.int .i64 1, .int .i64 k, .int .u64 a', .int .u64 b', .int .u64 c', .int .u64 d'] rfl)
    replace B2 := Lib.hid (B2.out.other (p := ⟨w.heap.size, 5, none⟩) (by show w.heap.size ≠ w.heap.size + 1; omega) (.int .u64 d'))
    replace HB := Lib.hid (HB.out.setCell (p := ⟨w.heap.size, 5, none⟩) (Nat.le_refl _) (.int .u64 d'))
    generalize W7.setCell ⟨w.heap.size, 5, none⟩ (.int .u64 d') = W8 at *
    obtain ⟨x0, x1, x2, x3, x4, x5⟩ := B1.out.six
    have xf : ∀ j, W8.frozen? ⟨w.heap.size, j, none⟩ = false := fun j => B1.out.free j
    obtain ⟨y0, y1, y2, y3, y4, y5⟩ := B2.out.six
    have yf : ∀ j, W8.frozen? ⟨w.heap.size + 1, j, none⟩ = false := fun j => B2.out.free j
    clear sa sb sc sd
    go_wp2_with fail
    obtain ⟨r0, r1, r2, r3, r4, r5⟩ := (B2.out.set6 (.int .i64 1) (.int .i64 k) (.int .u64 a') (.int .u64 b') (.int .u64 c') (.int .u64 d')).six
    refine bodyPost_ret (v := .agg #[.int .i64 1, .int .i64 k, .int .u64 a', .int .u64 b', .int .u64 c', .int .u64 d']) (by simp [results, Tryd.results36, go_sem, r0, r1, r2, r3, r4, r5]) rfl ?_
    exact ⟨1, k, by decide, Hn.out.2, by rw [Ha.out, Hb.out, Hc.out, Hd.out]; rfl, below_set6 HB.out (Nat.le_succ _) _ _ _ _ _ _⟩
  · rw [show (fm 2).w = 32 from rfl, show (fm 2).p = 24 from rfl, show (fm 2).emin = -126 from rfl]
    have sa : IntKind.u64.wrap ((a : Int) * 4294967296) / 4294967296 = ((a % 4294967296 : Nat) : Int) := shl_shr_32 a
    obtain ⟨a', ha'⟩ : ∃ y, y = a % 4294967296 := ⟨_, rfl⟩
    rw [← ha'] at sa
    have Ha := Lib.hid ha'
    clear ha'
    have sb : IntKind.u64.wrap ((b : Int) * 4294967296) / 4294967296 = ((b % 4294967296 : Nat) : Int) := shl_shr_32 b
    obtain ⟨b', hb'⟩ : ∃ y, y = b % 4294967296 := ⟨_, rfl⟩
    rw [← hb'] at sb
    have Hb := Lib.hid hb'
    clear hb'
    have sc : IntKind.u64.wrap ((c : Int) * 4294967296) / 4294967296 = ((c % 4294967296 : Nat) : Int) := shl_shr_32 c
    obtain ⟨c', hc'⟩ : ∃ y, y = c % 4294967296 := ⟨_, rfl⟩
    rw [← hc'] at sc
    have Hc := Lib.hid hc'
    clear hc'
    have sd : IntKind.u64.wrap ((d : Int) * 4294967296) / 4294967296 = ((d % 4294967296 : Nat) : Int) := shl_shr_32 d
    obtain ⟨d', hd'⟩ : ∃ y, y = d % 4294967296 := ⟨_, rfl⟩
    rw [← hd'] at sd
    have Hd := Lib.hid hd'
    clear hd'
    go_upto_region 6 with (fail)
    clear x0 x1 x2 x3 x4 x5 xf
    replace B1 := Lib.hid (B1.out.put 2 (.int .u64 a') #[.int .i64 2, .int .i64 k, .int .u64 a', .int .u64 b, .int .u64 c, .int .u64 d] rfl)
    replace B2 := Lib.hid (B2.out.other (p := ⟨w.heap.size, 2, none⟩) (by show w.heap.size ≠ w.heap.size + 1; omega) (.int .u64 a'))
    replace HB := Lib.hid (HB.out.setCell (p := ⟨w.heap.size, 2, none⟩) (Nat.le_refl _) (.int .u64 a'))
    generalize W4.setCell ⟨w.heap.size, 2, none⟩ (.int .u64 a') = W5 at *
    obtain ⟨x0, x1, x2, x3, x4, x5⟩ := B1.out.six
    have xf : ∀ j, W5.frozen? ⟨w.heap.size, j, none⟩ = false := fun j => B1.out.free j
    go_upto_region 7 with (fail)
    clear x0 x1 x2 x3 x4 x5 xf
    replace B1 := Lib.hid (B1.out.put 3 (.int .u64 b') #[.int .i64 2, .int .i64 k, .int .u64 a', .int .u64 b', .int .u64 c, .int .u64 d] rfl)
    replace B2 := Lib.hid (B2.out.other (p := ⟨w.heap.size, 3, none⟩) (by show w.heap.size ≠ w.heap.size + 1; omega) (.int .u64 b'))
    replace HB := Lib.hid (HB.out.setCell (p := ⟨w.heap.size, 3, none⟩) (Nat.le_refl _) (.int .u64 b'))
    generalize W5.setCell ⟨w.heap.size, 3, none⟩ (.int .u64 b') = W6 at *
    obtain ⟨x0, x1, x2, x3, x4, x5⟩ := B1.out.six
    have xf : ∀ j, W6.frozen? ⟨w.heap.size, j, none⟩ = false := fun j => B1.out.free j
    go_upto_region 8 with (fail)
    clear x0 x1 x2 x3 x4 x5 xf
    replace B1 := Lib.hid (B1.out.put 4 (.int .u64 c') #[.int .i64 2, .int .i64 k, .int .u64 a', .int .u64 b', .int .u64 c', .int .u64 d] rfl)
    replace B2 := Lib.hid (B2.out.other (p := ⟨w.heap.size, 4, none⟩) (by show w.heap.size ≠ w.heap.size + 1; omega) (.int .u64 c'))
    replace HB := Lib.hid (HB.out.setCell (p := ⟨w.heap.size, 4, none⟩) (Nat.le_refl _) (.int .u64 c'))
    generalize W6.setCell ⟨w.heap.size, 4, none⟩ (.int .u64 c') = W7 at *
    obtain ⟨x0, x1, x2, x3, x4, x5⟩ := B1.out.six
    have xf : ∀ j, W7.frozen? ⟨w.heap.size, j, none⟩ = false := fun j => B1.out.free j
    go_upto_region 9 with (fail)
    clear x0 x1 x2 x3 x4 x5 xf
    replace B1 := Lib.hid (B1.out.put 5 (.int .u64 d') #[.int .i64 2, .int .i64 k, .int .u64 a', .int .u64 b', .int .u64 c', .int .u64 d'] rfl)
    replace B2 := Lib.hid (B2.out.other (p := ⟨w.heap.size, 5, none⟩) (by show w.heap.size ≠ w.heap.size + 1; omega) (.int .u64 d'))
    replace HB := Lib.hid (HB.out.setCell (p := ⟨w.heap.size, 5, none⟩) (Nat.le_refl _) (.int .u64 d'))
    generalize W7.setCell ⟨w.heap.size, 5, none⟩ (.int .u64 d') = W8 at *
    obtain ⟨x0, x1, x2, x3, x4, x5⟩ := B1.out.six
    have xf : ∀ j, W8.frozen? ⟨w.heap.size, j, none⟩ = false := fun j => B1.out.free j
    obtain ⟨y0, y1, y2, y3, y4, y5⟩ := B2.out.six
    have yf : ∀ j, W8.frozen? ⟨w.heap.size + 1, j, none⟩ = false := fun j => B2.out.free j
    clear sa sb sc sd
    go_wp2_with fail
    obtain ⟨r0, r1, r2, r3, r4, r5⟩ := (B2.out.set6 (.int .i64 2) (.int .i64 k) (.int .u64 a') (.int .u64 b') (.int .u64 c') (.int .u64 d')).six
    refine bodyPost_ret (v := .agg #[.int .i64 2, .int .i64 k, .int .u64 a', .int .u64 b', .int .u64 c', .int .u64 d']) (by simp [results, Tryd.results36, go_sem, r0, r1, r2, r3, r4, r5]) rfl ?_
    exact ⟨2, k, by decide, Hn.out.2, by rw [Ha.out, Hb.out, Hc.out, Hd.out]; rfl, below_set6 HB.out (Nat.le_succ _) _ _ _ _ _ _⟩
  · rw [show (fm 3).w = 64 from rfl, show (fm 3).p = 53 from rfl, show (fm 3).emin = -1022 from rfl]
    have sa : IntKind.u64.wrap (a : Int) = ((a % 18446744073709551616 : Nat) : Int) := wrap_u64_mod a
    obtain ⟨a', ha'⟩ : ∃ y, y = a % 18446744073709551616 := ⟨_, rfl⟩
    rw [← ha'] at sa
    have Ha := Lib.hid ha'
    clear ha'
    have sb : IntKind.u64.wrap (b : Int) = ((b % 18446744073709551616 : Nat) : Int) := wrap_u64_mod b
    obtain ⟨b', hb'⟩ : ∃ y, y = b % 18446744073709551616 := ⟨_, rfl⟩
    rw [← hb'] at sb
    have Hb := Lib.hid hb'
    clear hb'
    have sc : IntKind.u64.wrap (c : Int) = ((c % 18446744073709551616 : Nat) : Int) := wrap_u64_mod c
    obtain ⟨c', hc'⟩ : ∃ y, y = c % 18446744073709551616 := ⟨_, rfl⟩
    rw [← hc'] at sc
    have Hc := Lib.hid hc'
    clear hc'
    have sd : IntKind.u64.wrap (d : Int) = ((d % 18446744073709551616 : Nat) : Int) := wrap_u64_mod d
    obtain ⟨d', hd'⟩ : ∃ y, y = d % 18446744073709551616 := ⟨_, rfl⟩
    rw [← hd'] at sd
    have Hd := Lib.hid hd'
    clear hd'
    go_upto_region 6 with (fail)
    clear x0 x1 x2 x3 x4 x5 xf
    replace B1 := Lib.hid (B1.out.put 2 (.int .u64 a') #[.int .i64 3, .int .i64 k, .int .u64 a', .int .u64 b, .int .u64 c, .int .u64 d] rfl)
    replace B2 := Lib.hid (B2.out.other (p := ⟨w.heap.size, 2, none⟩) (by show w.heap.size ≠ w.heap.size + 1; omega) (.int .u64 a'))
    replace HB := Lib.hid (HB.out.setCell (p := ⟨w.heap.size, 2, none⟩) (Nat.le_refl _) (.int .u64 a'))
    generalize W4.setCell ⟨w.heap.size, 2, none⟩ (.int .u64 a') = W5 at *
    obtain ⟨x0, x1, x2, x3, x4, x5⟩ := B1.out.six
    have xf : ∀ j, W5.frozen? ⟨w.heap.size, j, none⟩ = false := fun j => B1.out.free j
    go_upto_region 7 with (fail)
    clear x0 x1 x2 x3 x4 x5 xf
    replace B1 := Lib.hid (B1.out.put 3 (.int .u64 b') #[.int .i64 3, .int .i64 k, .int .u64 a', .int .u64 b', .int .u64 c, .int .u64 d] rfl)
    replace B2 := Lib.hid (B2.out.other (p := ⟨w.heap.size, 3, none⟩) (by show w.heap.size ≠ w.heap.size + 1; omega) (.int .u64 b'))
    replace HB := Lib.hid (HB.out.setCell (p := ⟨w.heap.size, 3, none⟩) (Nat.le_refl _) (.int .u64 b'))
    generalize W5.setCell ⟨w.heap.size, 3, none⟩ (.int .u64 b') = W6 at *
    obtain ⟨x0, x1, x2, x3, x4, x5⟩ := B1.out.six
    have xf : ∀ j, W6.frozen? ⟨w.heap.size, j, none⟩ = false := fun j => B1.out.free j
    go_upto_region 8 with (fail)
    clear x0 x1 x2 x3 x4 x5 xf
    replace B1 := Lib.hid (B1.out.put 4 (.int .u64 c') #[.int .i64 3, .int .i64 k, .int .u64 a', .int .u64 b', .int .u64 c', .int .u64 d] rfl)
    replace B2 := Lib.hid (B2.out.other (p := ⟨w.heap.size, 4, none⟩) (by show w.heap.size ≠ w.heap.size + 1; omega) (.int .u64 c'))
    replace HB := Lib.hid (HB.out.setCell (p := ⟨w.heap.size, 4, none⟩) (Nat.le_refl _) (.int .u64 c'))
    generalize W6.setCell ⟨w.heap.size, 4, none⟩ (.int .u64 c') = W7 at *
    obtain ⟨x0, x1, x2, x3, x4, x5⟩ := B1.out.six
    have xf : ∀ j, W7.frozen? ⟨w.heap.size, j, none⟩ = false := fun j => B1.out.free j
    go_upto_region 9 with (fail)
    clear x0 x1 x2 x3 x4 x5 xf
    replace B1 := Lib.hid (B1.out.put 5 (.int .u64 d') #[.int .i64 3, .int .i64 k, .int .u64 a', .int .u64 b', .int .u64 c', .int .u64 d'] rfl)
    replace B2 := Lib.hid (B2.out.other (p := ⟨w.heap.size, 5, none⟩) (by show w.heap.size ≠ w.heap.size + 1; omega) (.int .u64 d'))
    replace HB := Lib.hid (HB.out.setCell (p := ⟨w.heap.size, 5, none⟩) (Nat.le_refl _) (.int .u64 d'))
    generalize W7.setCell ⟨w.heap.size, 5, none⟩ (.int .u64 d') = W8 at *
    obtain ⟨x0, x1, x2, x3, x4, x5⟩ := B1.out.six
    have xf : ∀ j, W8.frozen? ⟨w.heap.size, j, none⟩ = false := fun j => B1.out.free j
    obtain ⟨y0, y1, y2, y3, y4, y5⟩ := B2.out.six
    have yf : ∀ j, W8.frozen? ⟨w.heap.size + 1, j, none⟩ = false := fun j => B2.out.free j
    clear sa sb sc sd
    go_wp2_with fail
    obtain ⟨r0, r1, r2, r3, r4, r5⟩ := (B2.out.set6 (.int .i64 3) (.int .i64 k) (.int .u64 a') (.int .u64 b') (.int .u64 c') (.int .u64 d')).six
    refine bodyPost_ret (v := .agg #[.int .i64 3, .int .i64 k, .int .u64 a', .int .u64 b', .int .u64 c', .int .u64 d']) (by simp [results, Tryd.results36, go_sem, r0, r1, r2, r3, r4, r5]) rfl ?_
    exact ⟨3, k, by decide, Hn.out.2, by rw [Ha.out, Hb.out, Hc.out, Hd.out]; rfl, below_set6 HB.out (Nat.le_succ _) _ _ _ _ _ _⟩

end Go.Proofs.YtcgceigmglikpaaDoor
