/- The walk of MulTurns. -/
import Derived.Deep.RegionHeld3
import Derived.Test.YtcgceigmglikpaaDoorPackM
import Derived.Test.YtcgceigmglikpaaDoorTwo
namespace Go.Proofs.YtcgceigmglikpaaDoor
set_option linter.unusedVariables false
open Go.RowKit

theorem mulA_fixed : mulA 0 0 16896 13653 = (15360, 16, 0) := by decide +kernel

theorem fixed_any (w : World) (hG : Gl w) (hR : GlR w) : Calls Tryd.prog 17 #[] w fun e w' => e = .returned (.bool true) ∧ Below w.heap.size w w' := by
  have h := Mul_any' 0 0 16896 13653 w (by decide) (by decide) hG hR
  rw [mulA_fixed] at h
  have H := Lib.hid h
  clear h hG hR
  go_enter Tryd.func17, Tryd.ntmps17
  go_wp2_with fail
  refine H.out.mono ?_
  rintro _ w1 ⟨rfl, hb1⟩
  clear H
  go_wp2
  go_ret
  exact ⟨rfl, hb1⟩

theorem errS_comm (f m : Int) (a b : Nat) : errS f m a b = errS f m b a := by
  unfold errS
  by_cases h : rfS f m = 0
  · have hf : ¬ (f < 0 ∨ 4 ≤ f) := by
      intro h1; unfold rfS at h; rw [if_pos h1] at h; omega
    have key : ∀ x, chkS f x = 0 ∨ chkS f x = 4 := by
      intro x; unfold chkS; rw [if_neg hf]; split
      · right; rfl
      · left; rfl
    rcases key a with h1 | h1 <;> rcases key b with h2 | h2 <;> simp [h, h1, h2]
  · rw [if_pos h, if_pos h]

theorem mulA_comm (f m : Int) (a b : Nat) : mulA f m a b = mulA f m b a := by
  unfold mulA; rw [errS_comm f m b a, mul_comm_S _ b a]

def mirI (m : Int) : Int := if m = 3 then 4 else if m = 4 then 3 else m

theorem mirrored_any (m : Int) (w : World) : Calls Tryd.prog 24 #[.int .i64 m] w fun e w' => e = .returned (.int .i64 (mirI m)) ∧ w = w' := by
  obtain ⟨R, hR⟩ : ∃ R, R = mirI m := ⟨_, rfl⟩
  rw [← hR]
  unfold mirI at hR
  by_cases h3 : m = 3
  · have E : Hid (R = 4) := by show _ = _; rw [hR, if_pos h3]
    have t1 : (m == 3) = true := by simp [h3]
    clear hR h3
    go_enter Tryd.func24, Tryd.ntmps24
    go_wp2
    go_ret
    exact ⟨by rw [E.out]; rfl, rfl⟩
  · have t1 : (m == 3) = false := by simp [h3]
    by_cases h4 : m = 4
    · have E : Hid (R = 3) := by show _ = _; rw [hR, if_neg h3, if_pos h4]
      have t2 : (m == 4) = true := by simp [h4]
      clear hR h3 h4
      go_enter Tryd.func24, Tryd.ntmps24
      go_wp2
      go_ret
      exact ⟨by rw [E.out]; rfl, rfl⟩
    · have E : Hid (R = m) := by show _ = _; rw [hR, if_neg h3, if_neg h4]
      have t2 : (m == 4) = false := by simp [h4]
      clear hR h3 h4
      go_enter Tryd.func24, Tryd.ntmps24
      go_wp2
      go_ret
      exact ⟨by rw [E.out]; rfl, rfl⟩

theorem mulS_lt {F : Fm} (ok : F.Ok) (m a b : Nat) : (mulS F m a b).1 < 2 ^ F.w := by
  have hp : 1 ≤ F.p := by have := ok.p8; omega
  have hw := w_two ok
  have h1 := nan_lt ok
  have h2 := inf_lt ok
  have key : ∀ x s, x < 2 ^ (F.w - 1) → x + F.sg s < 2 ^ F.w := by
    intro x s hx; have := sg_lt ok s; omega
  unfold mulS
  split
  · show F.nan < _; omega
  · split
    · show F.nan < _; omega
    · split
      · exact key _ _ h2
      · split
        · have := key 0 (F.neg a != F.neg b) (pow_pos2 _)
          simpa using this
        · rename_i h4
          simp only [Bool.or_eq_true, not_or, Bool.not_eq_true] at h4
          obtain ⟨h5, h6⟩ := cut_lt ok m (F.neg a != F.neg b) (F.mag a * F.mag b) (F.ex a + F.ex b) false (Nat.mul_ne_zero (mag_ne hp h4.1) (mag_ne hp h4.2))
          rw [h5]; exact key _ _ h6

theorem cls_le1 {F : Fm} (ok : F.Ok) (a : Nat) : decide (clsF F a ≤ 1) = F.isNan a := by
  rw [cls_nan ok]
  have : 0 ≤ clsF F a := by
    unfold clsF; repeat' split
    all_goals omega
  congr 1
  apply propext
  omega

theorem u64_of (F : Fm) (ok : F.Ok) {a : Nat} (h : a < 2 ^ F.w) : a < 18446744073709551616 :=
  Nat.lt_of_lt_of_le h (Nat.pow_le_pow_right (show 0 < 2 by decide) ok.w64)

set_option maxRecDepth 100000 in
set_option maxHeartbeats 8000000 in
theorem turns_any (f m : Int) (a b : Nat) (w : World) (ha : a < 18446744073709551616) (hb : b < 18446744073709551616) (hG : Gl w) (hR : GlR w) :
    Calls Tryd.prog 6 #[.agg (twoA f m a b)] w fun e w' => e = .returned (.bool true) ∧ Below w.heap.size w w' := by
  have hb0 := below1 w (.cells (twoA f m a b) 40)
  have hx := Bx.new w (twoA f m a b) 40
  obtain ⟨W, hW⟩ : ∃ W, W = w.alloc (.cells (twoA f m a b) 40) := ⟨_, rfl⟩
  rw [← hW] at hb0 hx
  have HB := Lib.hid hb0
  have BX := Lib.hid hx
  have HG := Lib.hid (hG.below hb0)
  have HR := Lib.hid (hR.below hb0)
  obtain ⟨k0, k1, k2, k3⟩ := hx.two
  have hab := fun wx h1 h2 => Mul_any' f m a b wx ha hb h1 h2
  have hba := fun wx h1 h2 => Mul_any' f m b a wx hb ha h1 h2
  have haa := fun wx h1 h2 => Mul_any' f m a a wx ha ha h1 h2
  have hsq := fun wx h1 h2 => Square_any f m a wx ha h1 h2
  rw [mulA_comm f m b a] at hba
  obtain ⟨q, hq⟩ : ∃ q, q = mulA f m a b := ⟨_, rfl⟩
  rw [← hq] at hab hba
  generalize mulA f m a a = r at *
  have Hab := Lib.hid hab
  have Hba := Lib.hid hba
  have Haa := Lib.hid haa
  have Hsq := Lib.hid hsq
  have Hq := Lib.hid hq
  clear hb0 hx hG hR hab hba haa hsq hq
  unfold twoA at hW
  unfold twoA
  go_enter Tryd.func6, Tryd.ntmps6
  go_upto_region 1 with (fail)
  rw [← hW]
  clear hW
  go_quiet (fail)
  have HB' := Lib.hid (below_drewN HB.out nq)
  have HR' := Lib.hid (show GlR (W.drewN nq) from HR.out)
  have HG' := Lib.hid (show Gl (W.drewN nq) from HG.out)
  have BX' := Lib.hid (show Bx (W.drewN nq) w.heap.size (twoA f m a b) from BX.out)
  clear HB HR HG BX k0 k1 k2 k3
  generalize W.drewN nq = W2 at *
  go_wp2_with fail
  refine (fixed_any W2 HG'.out HR'.out).mono ?_
  rintro _ w1 ⟨rfl, hb1⟩
  have HB := Lib.hid (HB'.out.trans (hb1.mono HB'.out.size))
  have HG := Lib.hid (HG'.out.below hb1)
  have HR := Lib.hid (HR'.out.below hb1)
  have BX := Lib.hid (BX'.out.below hb1)
  clear hb1 HB' HG' HR' BX'
  obtain ⟨k0, k1, k2, k3⟩ := BX.out.two
  go_wp2_with fail
  refine (Hab.out w1 HG.out HR.out).mono ?_
  rintro _ w2 ⟨rfl, hb2⟩
  replace HB := Lib.hid (HB.out.trans (hb2.mono HB.out.size))
  replace HG := Lib.hid (HG.out.below hb2)
  replace HR := Lib.hid (HR.out.below hb2)
  replace BX := Lib.hid (BX.out.below hb2)
  clear hb2 k0 k1 k2 k3
  obtain ⟨k0, k1, k2, k3⟩ := BX.out.two
  go_wp2_with fail
  refine (Hba.out w2 HG.out HR.out).mono ?_
  rintro _ w3 ⟨rfl, hb3⟩
  replace HB := Lib.hid (HB.out.trans (hb3.mono HB.out.size))
  replace HG := Lib.hid (HG.out.below hb3)
  replace HR := Lib.hid (HR.out.below hb3)
  replace BX := Lib.hid (BX.out.below hb3)
  clear hb3 k0 k1 k2 k3
  obtain ⟨k0, k1, k2, k3⟩ := BX.out.two
  go_wp2_with fail
  refine (Hsq.out w3 HG.out HR.out).mono ?_
  rintro _ w4 ⟨rfl, hb4⟩
  replace HB := Lib.hid (HB.out.trans (hb4.mono HB.out.size))
  replace HG := Lib.hid (HG.out.below hb4)
  replace HR := Lib.hid (HR.out.below hb4)
  replace BX := Lib.hid (BX.out.below hb4)
  clear hb4 k0 k1 k2 k3
  obtain ⟨k0, k1, k2, k3⟩ := BX.out.two
  go_wp2_with fail
  refine (Haa.out w4 HG.out HR.out).mono ?_
  rintro _ w5 ⟨rfl, hb5⟩
  replace HB := Lib.hid (HB.out.trans (hb5.mono HB.out.size))
  replace HG := Lib.hid (HG.out.below hb5)
  replace HR := Lib.hid (HR.out.below hb5)
  replace BX := Lib.hid (BX.out.below hb5)
  clear hb5 k0 k1 k2 k3 Hab Hba Haa Hsq
  obtain ⟨k0, k1, k2, k3⟩ := BX.out.two
  unfold mulA at Hq
  by_cases he : errS f m a b = 0
  rotate_left
  · have t1 : (errS f m a b != 0) = true := by simpa using he
    have e1 : q = (0, 0, errS f m a b) := by rw [Hq.out, if_neg he]
    generalize errS f m a b = c at *
    clear Hq he
    subst e1
    go_wp2_with fail
    go_ret
    exact ⟨rfl, HB.out⟩
  obtain ⟨n, k, rfl, hn, rfl, hk, ha', hb'⟩ := errS_ok he
  have ok := fm_ok n
  have e1 : q = ((mulS (fm n) k a b).1, (mulS (fm n) k a b).2, 0) := by rw [Hq.out, if_pos he]; rfl
  obtain ⟨x1, hx1⟩ : ∃ x, x = (mulS (fm n) k a b).1 := ⟨_, rfl⟩
  obtain ⟨x2, hx2⟩ : ∃ x, x = (mulS (fm n) k a b).2 := ⟨_, rfl⟩
  obtain ⟨mm, hmm⟩ := mul_mir (F := fm n) ok k a b
  have hxl : x1 < 2 ^ (fm n).w := by rw [hx1]; exact mulS_lt ok k a b
  rw [← hx1, ← hx2] at e1
  rw [← hx1] at hmm
  rw [← hx2] at mm
  have hk5 : mir k ≤ 5 := by unfold mir; split; omega; split <;> omega
  have hmi : mirI (k : Int) = (mir k : Int) := by
    unfold mirI mir
    by_cases h3 : k = 3
    · subst h3; rfl
    · by_cases h4 : k = 4
      · subst h4; rfl
      · rw [if_neg (by omega), if_neg (by omega), if_neg h3, if_neg h4]
  have hng := fun wx hx => FNeg_ok n b wx hn hb' hx
  have hfl := flip_lt ok b
  have hml := fun wx h1 h2 => Mul_ok n (mir k) a ((fm n).flip b) wx hn hk5 ha' hfl h1 h2
  have hcl := fun wx hx => Class_ok n x1 wx hn hxl hx
  have hnx := fun wx hx => FNeg_ok n x1 wx hn hxl hx
  have hmd := fun wx => mirrored_any (k : Int) wx
  rw [hmi] at hmd
  rw [mm] at hml
  have hc1 := cls_le1 ok x1
  obtain ⟨y1, hy1⟩ : ∃ y, y = (mulS (fm n) (mir k) a ((fm n).flip b)).1 := ⟨_, rfl⟩
  rw [← hy1] at hml hmm
  obtain ⟨fb, hfb⟩ : ∃ y, y = (fm n).flip b := ⟨_, rfl⟩
  obtain ⟨fx, hfx⟩ : ∃ y, y = (fm n).flip x1 := ⟨_, rfl⟩
  rw [← hfb] at hng hml
  rw [← hfx] at hnx hmm
  obtain ⟨cc, hcc⟩ : ∃ y, y = clsF (fm n) x1 := ⟨_, rfl⟩
  rw [← hcc] at hcl hc1
  obtain ⟨nn, hnn⟩ : ∃ y, y = (fm n).isNan x1 := ⟨_, rfl⟩
  rw [← hnn] at hc1 hmm
  have Hng := Lib.hid hng
  have Hml := Lib.hid hml
  have Hcl := Lib.hid hcl
  have Hnx := Lib.hid hnx
  have Hmd := Lib.hid hmd
  clear hng hml hcl hnx hmd hy1 hfb hfx hcc hnn hx1 hx2 mm Hq he hmi hfl hxl ha' hb' ok ha hb
  subst e1
  generalize mir k = km at *
  go_wp2_with fail
  refine (Hng.out w5 HR.out).mono ?_
  rintro _ w6 ⟨rfl, hb6⟩
  replace HB := Lib.hid (HB.out.trans (hb6.mono HB.out.size))
  replace HG := Lib.hid (HG.out.below hb6)
  replace HR := Lib.hid (HR.out.below hb6)
  replace BX := Lib.hid (BX.out.below hb6)
  clear hb6 k0 k1 k2 k3 Hng
  obtain ⟨k0, k1, k2, k3⟩ := BX.out.two
  have hGw := HG.out
  have hRw := HR.out
  go_upto_region 13 with (fail)
  go_region_held3 (fun w' => w'.cell? ⟨w.heap.size, 2, none⟩ = some (.int .u64 a) ∧ Below w6.heap.size w6 w')
    (first | exact ⟨k2, (Below.refl _ _).drew⟩ | exact ⟨keep_cell hb1 k2, keep_below (Below.refl _ _).drew hb1⟩ | ((try go_split_ands); (try dsimp only); refine ⟨keep_cell hb2 ?_, keep_below ?_ hb2⟩ <;> assumption))
    ((first | (go_at_call 24; refine (Hmd.out _).mono ?_; rintro _ w1 ⟨rfl, rfl⟩; have hb1 := Below.refl W.heap.size W) | (go_at_call 15; refine (Hml.out _ (show Gl w6.drew from hGw) (show GlR w6.drew from hRw)).mono ?_; rintro _ w2 ⟨rfl, hb2⟩)))
  rename_i hHold
  have HB' := Lib.hid (HB.out.trans (hHold.2.mono HB.out.size))
  have HR' := Lib.hid (hRw.below hHold.2)
  clear hHold hb1 hb2 hGw hRw k0 k1 k2 k3 HB HG HR BX Hml Hmd
  go_wp2_with fail
  refine (Hcl.out w2 HR'.out).mono ?_
  rintro _ w3 ⟨rfl, hb3⟩
  replace HB' := Lib.hid (HB'.out.trans (hb3.mono HB'.out.size))
  replace HR' := Lib.hid (HR'.out.below hb3)
  clear hb3 Hcl
  rcases hmm with ⟨rfl, rfl⟩ | ⟨rfl, rfl⟩
  · clear Hnx
    have eA : (decide (cc ≤ 1)) = true := hc1
    go_wp2_with fail
    go_ret
    exact ⟨by simp, HB'.out⟩
  · have eA : (decide (cc ≤ 1)) = false := hc1
    go_wp2_with fail
    refine (Hnx.out w3 HR'.out).mono ?_
    rintro _ w4 ⟨rfl, hb4⟩
    replace HB' := Lib.hid (HB'.out.trans (hb4.mono HB'.out.size))
    clear hb4 Hnx
    go_wp2_with fail
    go_ret
    exact ⟨by simp, HB'.out⟩

end Go.Proofs.YtcgceigmglikpaaDoor
