/- The walk of EftMirror. Printed by gen/eftmir.py. -/
import Derived.Test.YtlfailbibcpahaaDoorEDoc
namespace Go.Proofs.YtlfailbibcpahaaDoor
set_option linter.unusedVariables false
set_option linter.unusedSimpArgs false
open Go.RowKit

theorem lt_64 {n x : Nat} (h : x < 2 ^ (fm n).w) : x < 18446744073709551616 := Nat.lt_of_lt_of_le h (Nat.pow_le_pow_right (show 0 < 2 by decide) (fm_ok n).w64)

theorem TwoSum_n (n a b : Nat) (w : World) (hn : n = 2 ∨ n = 3) (ha : a < 18446744073709551616) (hb : b < 18446744073709551616) :
    Calls Tryd.prog 9 #[.int .i64 n, .int .u64 a, .int .u64 b] w fun e w' => e = .returned (tupE (sumE n a b)) ∧ Below w.heap.size w w' := by
  rcases hn with rfl | rfl
  · exact TwoSum_c2 a b w
  · exact TwoSum_c3 a b w ha hb
theorem Split_n (n a : Nat) (w : World) (hn : n = 2 ∨ n = 3) (ha : a < 18446744073709551616) :
    Calls Tryd.prog 11 #[.int .i64 n, .int .u64 a] w fun e w' => e = .returned (tupE (splitE n a)) ∧ Below w.heap.size w w' := by
  rcases hn with rfl | rfl
  · exact Split_c2 a w
  · exact Split_c3 a w ha
theorem TwoProd_n (n a b : Nat) (w : World) (hn : n = 2 ∨ n = 3) (ha : a < 18446744073709551616) (hb : b < 18446744073709551616) :
    Calls Tryd.prog 12 #[.int .i64 n, .int .u64 a, .int .u64 b] w fun e w' => e = .returned (tupE (prodE n a b)) ∧ Below w.heap.size w w' := by
  rcases hn with rfl | rfl
  · exact TwoProd_c2 a b w
  · exact TwoProd_c3 a b w ha hb

theorem sumE_lt {n a b : Nat} (la : a < 2 ^ (fm n).w) (lb : b < 2 ^ (fm n).w) : (sumE n a b).1 < 2 ^ (fm n).w ∧ (sumE n a b).2.1 < 2 ^ (fm n).w := by
  have ok := fm_ok n
  have hp := pow_pos2 (fm n).w
  unfold sumE
  split
  · exact ⟨hp, hp⟩
  split
  · have h1 := addR_lt ok la lb
    have h2 : sT (fm n) a b < 2 ^ (fm n).w := subR_lt ok h1 la
    have h3 : sU (fm n) a b < 2 ^ (fm n).w := subR_lt ok h1 h2
    exact ⟨h1, addR_lt ok (subR_lt ok la h3) (subR_lt ok lb h2)⟩
  · exact ⟨hp, hp⟩
theorem half_lt {n q a : Nat} (lq : q < 2 ^ (fm n).w) (la : a < 2 ^ (fm n).w) : hH (fm n) q a < 2 ^ (fm n).w ∧ hL (fm n) q a < 2 ^ (fm n).w := by
  have ok := fm_ok n
  have h1 : hC (fm n) q a < 2 ^ (fm n).w := mulR_lt ok lq la
  have h2 : hD (fm n) q a < 2 ^ (fm n).w := subR_lt ok h1 la
  have h3 : hH (fm n) q a < 2 ^ (fm n).w := subR_lt ok h1 h2
  exact ⟨h3, subR_lt ok la h3⟩
theorem splitE_lt {n a : Nat} (hn : n = 2 ∨ n = 3) (la : a < 2 ^ (fm n).w) : (splitE n a).1 < 2 ^ (fm n).w ∧ (splitE n a).2.1 < 2 ^ (fm n).w := by
  have hp := pow_pos2 (fm n).w
  unfold splitE
  split
  · exact ⟨hp, hp⟩
  split
  · exact half_lt (kq_lt n hn) la
  · exact ⟨hp, hp⟩
theorem prodE_lt {n a b : Nat} (hn : n = 2 ∨ n = 3) (la : a < 2 ^ (fm n).w) (lb : b < 2 ^ (fm n).w) : (prodE n a b).1 < 2 ^ (fm n).w ∧ (prodE n a b).2.1 < 2 ^ (fm n).w := by
  have ok := fm_ok n
  have hp := pow_pos2 (fm n).w
  unfold prodE
  split
  · exact ⟨hp, hp⟩
  split
  · have h1 := mulR_lt ok la lb
    obtain ⟨h2, h3⟩ := half_lt (kq_lt n hn) la
    obtain ⟨h4, h5⟩ := half_lt (kq_lt n hn) lb
    exact ⟨h1, addR_lt ok (addR_lt ok (addR_lt ok (subR_lt ok (mulR_lt ok h2 h4) h1) (mulR_lt ok h2 h5)) (mulR_lt ok h3 h4)) (mulR_lt ok h3 h5)⟩
  · exact ⟨hp, hp⟩

/-- a pair of answers and what the law asks of it -/
theorem mir_pack {n : Nat} {x y : Nat × Nat × Int} (hn : n < 4) (hm : MirE n x y) (hx : x.1 < 2 ^ (fm n).w ∧ x.2.1 < 2 ^ (fm n).w) (hy : y.1 < 2 ^ (fm n).w ∧ y.2.1 < 2 ^ (fm n).w) :
    ∃ (s r t q : Nat) (e : Int), tupE x = .tuple #[.int .u64 (s : Int), .int .u64 (r : Int), .int .i64 e] ∧ tupE y = .tuple #[.int .u64 (t : Int), .int .u64 (q : Int), .int .i64 e] ∧
      (e = 0 → (∀ w, Gl w → GlR w → Calls Tryd.prog 10 #[.int .i64 n, .int .u64 s, .int .u64 t] w fun e w' => e = .returned (.bool true) ∧ Below w.heap.size w w') ∧
        (∀ w, Gl w → GlR w → Calls Tryd.prog 10 #[.int .i64 n, .int .u64 r, .int .u64 q] w fun e w' => e = .returned (.bool true) ∧ Below w.heap.size w w')) := by
  obtain ⟨h1, h2⟩ := hm
  refine ⟨x.1, x.2.1, y.1, y.2.1, x.2.2, rfl, by rw [h1]; rfl, fun h => ?_⟩
  obtain ⟨⟨t1, t2⟩, ⟨f1, f2⟩, -⟩ := h2 h
  exact ⟨fun w hG hR => opposite18 n _ _ w hn hx.1 hy.1 t1 f1 hG hR, fun w hG hR => opposite18 n _ _ w hn hx.2 hy.2 t2 f2 hG hR⟩

set_option maxRecDepth 100000 in
set_option maxHeartbeats 8000000 in
theorem mirror_any (f : Int) (a0 b0 : Nat) (w : World) (ha0 : a0 < 18446744073709551616) (hb0 : b0 < 18446744073709551616) (hG : Gl w) (hR : GlR w) :
    Calls Tryd.prog 3 #[.int .i64 f, .int .u64 a0, .int .u64 b0] w fun e w' => e = .returned (.bool true) ∧ Below w.heap.size w w' := by
  have HA := Lib.hid (awakeE_any w)
  have HT := Lib.hid (fun wx => two18_any f wx)
  have hn := twoF_ok f
  generalize twoF f = n at *
  have hn4 : n < 4 := by omega
  have la := rightF_lt hn ha0
  have lb := rightF_lt hn hb0
  have HRa := Lib.hid (fun wx => right18_any n a0 wx hn ha0)
  have HRb := Lib.hid (fun wx => right18_any n b0 wx hn hb0)
  generalize rightF n a0 = a at *
  generalize rightF n b0 = b at *
  have lna := flip_lt (fm_ok n) a
  have lnb := flip_lt (fm_ok n) b
  obtain ⟨s1, r1, t1, q1, e1, x1, y1, o1⟩ := mir_pack hn4 (sum_mir la lb) (sumE_lt la lb) (sumE_lt lna lnb)
  obtain ⟨s2, r2, t2, q2, e2, x2, y2, o2⟩ := mir_pack hn4 (split_mir hn la) (splitE_lt hn la) (splitE_lt hn lna)
  obtain ⟨s3, r3, t3, q3, e3, x3, y3, o3⟩ := mir_pack hn4 (prod_mir hn la lb) (prodE_lt hn la lb) (prodE_lt hn la lnb)
  have HOa := Lib.hid (fun wx => ropposite_ok n a wx hn4 la)
  have HOb := Lib.hid (fun wx => ropposite_ok n b wx hn4 lb)
  have c1 := fun wx => TwoSum_n n a b wx hn (lt_64 la) (lt_64 lb)
  have d1 := fun wx => TwoSum_n n ((fm n).flip a) ((fm n).flip b) wx hn (lt_64 lna) (lt_64 lnb)
  have c2 := fun wx => Split_n n a wx hn (lt_64 la)
  have d2 := fun wx => Split_n n ((fm n).flip a) wx hn (lt_64 lna)
  have c3 := fun wx => TwoProd_n n a b wx hn (lt_64 la) (lt_64 lb)
  have d3 := fun wx => TwoProd_n n a ((fm n).flip b) wx hn (lt_64 la) (lt_64 lnb)
  rw [x1] at c1
  rw [y1] at d1
  rw [x2] at c2
  rw [y2] at d2
  rw [x3] at c3
  rw [y3] at d3
  generalize (fm n).flip a = na at *
  generalize (fm n).flip b = nb at *
  have C1 := Lib.hid c1
  have C2 := Lib.hid c2
  have C3 := Lib.hid c3
  have D1 := Lib.hid d1
  have D2 := Lib.hid d2
  have D3 := Lib.hid d3
  have O1 := Lib.hid o1
  have O2 := Lib.hid o2
  have O3 := Lib.hid o3
  have HG := Lib.hid hG
  have HR := Lib.hid hR
  clear c1 c2 c3 d1 d2 d3 o1 o2 o3 hG hR x1 x2 x3 y1 y2 y3 la lb lna lnb hn hn4 ha0 hb0
  go_enter Tryd.func3, Tryd.ntmps3
  go_wp2_with fail
  refine HA.out.mono ?_
  rintro _ w1 ⟨rfl, hb⟩
  have HB := Lib.hid hb
  clear hb HA
  go_wp2_with fail
  refine (HT.out _).mono ?_
  rintro _ _ ⟨rfl, rfl⟩
  clear HT
  go_wp2_with fail
  refine (HRa.out _).mono ?_
  rintro _ _ ⟨rfl, rfl⟩
  clear HRa
  go_wp2_with fail
  refine (HRb.out _).mono ?_
  rintro _ _ ⟨rfl, rfl⟩
  clear HRb
  go_wp2_with fail
  refine (HOa.out _).mono ?_
  rintro _ _ ⟨rfl, rfl⟩
  clear HOa
  go_wp2_with fail
  refine (HOb.out _).mono ?_
  rintro _ _ ⟨rfl, rfl⟩
  clear HOb
  go_wp2_with fail
  refine (C1.out _).mono ?_
  rintro _ w1 ⟨rfl, hb⟩
  replace HB := Lib.hid (HB.out.trans (hb.mono HB.out.size))
  clear hb C1
  go_wp2_with fail
  refine (D1.out _).mono ?_
  rintro _ w1 ⟨rfl, hb⟩
  replace HB := Lib.hid (HB.out.trans (hb.mono HB.out.size))
  clear hb D1
  by_cases h1 : e1 = 0
  · subst h1
    obtain ⟨p1, q1'⟩ := O1.out rfl
    have P1 := Lib.hid p1
    have Q1 := Lib.hid q1'
    clear p1 q1' O1
    go_wp2_with fail
    refine (P1.out _ (HG.out.below HB.out) (HR.out.below HB.out)).mono ?_
    rintro _ w1 ⟨rfl, hb⟩
    replace HB := Lib.hid (HB.out.trans (hb.mono HB.out.size))
    clear hb P1
    go_wp2_with fail
    refine (Q1.out _ (HG.out.below HB.out) (HR.out.below HB.out)).mono ?_
    rintro _ w1 ⟨rfl, hb⟩
    replace HB := Lib.hid (HB.out.trans (hb.mono HB.out.size))
    clear hb Q1
    go_wp2_with fail
    refine (C2.out _).mono ?_
    rintro _ w1 ⟨rfl, hb⟩
    replace HB := Lib.hid (HB.out.trans (hb.mono HB.out.size))
    clear hb C2
    go_wp2_with fail
    refine (D2.out _).mono ?_
    rintro _ w1 ⟨rfl, hb⟩
    replace HB := Lib.hid (HB.out.trans (hb.mono HB.out.size))
    clear hb D2
    by_cases h2 : e2 = 0
    · subst h2
      obtain ⟨p2, q2'⟩ := O2.out rfl
      have P2 := Lib.hid p2
      have Q2 := Lib.hid q2'
      clear p2 q2' O2
      go_wp2_with fail
      refine (P2.out _ (HG.out.below HB.out) (HR.out.below HB.out)).mono ?_
      rintro _ w1 ⟨rfl, hb⟩
      replace HB := Lib.hid (HB.out.trans (hb.mono HB.out.size))
      clear hb P2
      go_wp2_with fail
      refine (Q2.out _ (HG.out.below HB.out) (HR.out.below HB.out)).mono ?_
      rintro _ w1 ⟨rfl, hb⟩
      replace HB := Lib.hid (HB.out.trans (hb.mono HB.out.size))
      clear hb Q2
      go_wp2_with fail
      refine (C3.out _).mono ?_
      rintro _ w1 ⟨rfl, hb⟩
      replace HB := Lib.hid (HB.out.trans (hb.mono HB.out.size))
      clear hb C3
      go_wp2_with fail
      refine (D3.out _).mono ?_
      rintro _ w1 ⟨rfl, hb⟩
      replace HB := Lib.hid (HB.out.trans (hb.mono HB.out.size))
      clear hb D3
      by_cases h3 : e3 = 0
      · subst h3
        obtain ⟨p3, q3'⟩ := O3.out rfl
        have P3 := Lib.hid p3
        have Q3 := Lib.hid q3'
        clear p3 q3' O3
        go_wp2_with fail
        refine (P3.out _ (HG.out.below HB.out) (HR.out.below HB.out)).mono ?_
        rintro _ w1 ⟨rfl, hb⟩
        replace HB := Lib.hid (HB.out.trans (hb.mono HB.out.size))
        clear hb P3
        go_wp2_with fail
        refine (Q3.out _ (HG.out.below HB.out) (HR.out.below HB.out)).mono ?_
        rintro _ w1 ⟨rfl, hb⟩
        replace HB := Lib.hid (HB.out.trans (hb.mono HB.out.size))
        clear hb Q3
        go_wp2_with fail
        go_ret
        exact ⟨rfl, HB.out⟩
      · have t3' : (e3 == 0) = false := by simpa using h3
        have u3' : (e3 != 0) = true := by simpa using h3
        clear h3 O3
        go_wp2_with fail
        go_ret
        exact ⟨rfl, HB.out⟩
    · have t2' : (e2 == 0) = false := by simpa using h2
      have u2' : (e2 != 0) = true := by simpa using h2
      clear h2 O2
      go_wp2_with fail
      refine (C3.out _).mono ?_
      rintro _ w1 ⟨rfl, hb⟩
      replace HB := Lib.hid (HB.out.trans (hb.mono HB.out.size))
      clear hb C3
      go_wp2_with fail
      refine (D3.out _).mono ?_
      rintro _ w1 ⟨rfl, hb⟩
      replace HB := Lib.hid (HB.out.trans (hb.mono HB.out.size))
      clear hb D3
      by_cases h3 : e3 = 0
      · subst h3
        obtain ⟨p3, q3'⟩ := O3.out rfl
        have P3 := Lib.hid p3
        have Q3 := Lib.hid q3'
        clear p3 q3' O3
        go_wp2_with fail
        refine (P3.out _ (HG.out.below HB.out) (HR.out.below HB.out)).mono ?_
        rintro _ w1 ⟨rfl, hb⟩
        replace HB := Lib.hid (HB.out.trans (hb.mono HB.out.size))
        clear hb P3
        go_wp2_with fail
        refine (Q3.out _ (HG.out.below HB.out) (HR.out.below HB.out)).mono ?_
        rintro _ w1 ⟨rfl, hb⟩
        replace HB := Lib.hid (HB.out.trans (hb.mono HB.out.size))
        clear hb Q3
        go_wp2_with fail
        go_ret
        exact ⟨rfl, HB.out⟩
      · have t3' : (e3 == 0) = false := by simpa using h3
        have u3' : (e3 != 0) = true := by simpa using h3
        clear h3 O3
        go_wp2_with fail
        go_ret
        exact ⟨rfl, HB.out⟩
  · have t1' : (e1 == 0) = false := by simpa using h1
    have u1' : (e1 != 0) = true := by simpa using h1
    clear h1 O1
    go_wp2_with fail
    refine (C2.out _).mono ?_
    rintro _ w1 ⟨rfl, hb⟩
    replace HB := Lib.hid (HB.out.trans (hb.mono HB.out.size))
    clear hb C2
    go_wp2_with fail
    refine (D2.out _).mono ?_
    rintro _ w1 ⟨rfl, hb⟩
    replace HB := Lib.hid (HB.out.trans (hb.mono HB.out.size))
    clear hb D2
    by_cases h2 : e2 = 0
    · subst h2
      obtain ⟨p2, q2'⟩ := O2.out rfl
      have P2 := Lib.hid p2
      have Q2 := Lib.hid q2'
      clear p2 q2' O2
      go_wp2_with fail
      refine (P2.out _ (HG.out.below HB.out) (HR.out.below HB.out)).mono ?_
      rintro _ w1 ⟨rfl, hb⟩
      replace HB := Lib.hid (HB.out.trans (hb.mono HB.out.size))
      clear hb P2
      go_wp2_with fail
      refine (Q2.out _ (HG.out.below HB.out) (HR.out.below HB.out)).mono ?_
      rintro _ w1 ⟨rfl, hb⟩
      replace HB := Lib.hid (HB.out.trans (hb.mono HB.out.size))
      clear hb Q2
      go_wp2_with fail
      refine (C3.out _).mono ?_
      rintro _ w1 ⟨rfl, hb⟩
      replace HB := Lib.hid (HB.out.trans (hb.mono HB.out.size))
      clear hb C3
      go_wp2_with fail
      refine (D3.out _).mono ?_
      rintro _ w1 ⟨rfl, hb⟩
      replace HB := Lib.hid (HB.out.trans (hb.mono HB.out.size))
      clear hb D3
      by_cases h3 : e3 = 0
      · subst h3
        obtain ⟨p3, q3'⟩ := O3.out rfl
        have P3 := Lib.hid p3
        have Q3 := Lib.hid q3'
        clear p3 q3' O3
        go_wp2_with fail
        refine (P3.out _ (HG.out.below HB.out) (HR.out.below HB.out)).mono ?_
        rintro _ w1 ⟨rfl, hb⟩
        replace HB := Lib.hid (HB.out.trans (hb.mono HB.out.size))
        clear hb P3
        go_wp2_with fail
        refine (Q3.out _ (HG.out.below HB.out) (HR.out.below HB.out)).mono ?_
        rintro _ w1 ⟨rfl, hb⟩
        replace HB := Lib.hid (HB.out.trans (hb.mono HB.out.size))
        clear hb Q3
        go_wp2_with fail
        go_ret
        exact ⟨rfl, HB.out⟩
      · have t3' : (e3 == 0) = false := by simpa using h3
        have u3' : (e3 != 0) = true := by simpa using h3
        clear h3 O3
        go_wp2_with fail
        go_ret
        exact ⟨rfl, HB.out⟩
    · have t2' : (e2 == 0) = false := by simpa using h2
      have u2' : (e2 != 0) = true := by simpa using h2
      clear h2 O2
      go_wp2_with fail
      refine (C3.out _).mono ?_
      rintro _ w1 ⟨rfl, hb⟩
      replace HB := Lib.hid (HB.out.trans (hb.mono HB.out.size))
      clear hb C3
      go_wp2_with fail
      refine (D3.out _).mono ?_
      rintro _ w1 ⟨rfl, hb⟩
      replace HB := Lib.hid (HB.out.trans (hb.mono HB.out.size))
      clear hb D3
      by_cases h3 : e3 = 0
      · subst h3
        obtain ⟨p3, q3'⟩ := O3.out rfl
        have P3 := Lib.hid p3
        have Q3 := Lib.hid q3'
        clear p3 q3' O3
        go_wp2_with fail
        refine (P3.out _ (HG.out.below HB.out) (HR.out.below HB.out)).mono ?_
        rintro _ w1 ⟨rfl, hb⟩
        replace HB := Lib.hid (HB.out.trans (hb.mono HB.out.size))
        clear hb P3
        go_wp2_with fail
        refine (Q3.out _ (HG.out.below HB.out) (HR.out.below HB.out)).mono ?_
        rintro _ w1 ⟨rfl, hb⟩
        replace HB := Lib.hid (HB.out.trans (hb.mono HB.out.size))
        clear hb Q3
        go_wp2_with fail
        go_ret
        exact ⟨rfl, HB.out⟩
      · have t3' : (e3 == 0) = false := by simpa using h3
        have u3' : (e3 != 0) = true := by simpa using h3
        clear h3 O3
        go_wp2_with fail
        go_ret
        exact ⟨rfl, HB.out⟩

end Go.Proofs.YtlfailbibcpahaaDoor
