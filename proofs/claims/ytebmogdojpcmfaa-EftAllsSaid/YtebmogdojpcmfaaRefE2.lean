/- Walks of vernierref18: Times, Finite, all, known, constant, Size, small. Printed by gen/eftref2.py. -/
import Derived.Test.YtebmogdojpcmfaaEftM
import Derived.Test.YtebmogdojpcmfaaRefE
import Derived.Test.YtebmogdojpcmfaaRefY
import Derived.Test.YtebmogdojpcmfaaEftL
import Derived.Test.YtebmogdojpcmfaaFltE
namespace Go.Proofs.Ytebmogdojpcmfaa
set_option linter.unusedVariables false
set_option linter.unusedSimpArgs false
open Go.RowKit

/-- vernierref18.Times of what is opened -/
def timesFl (F : Fm) (x y : Fl) : Nat := if (prodT x y).wrong || (prodT x y).nan then F.nan else if (prodT x y).inf then F.inf + F.sg (prodT x y).neg else (finR F 0 (prodT x y).d (prodT x y).neg).1

theorem fl_fin {F : Fm} {a : Nat} (h : F.isNan a = false) (h2 : F.isInf a = false) : opD F a = ⟨F.neg a, F.mag a, F.ex a⟩ := by
  unfold opD; rw [if_pos (fin_of h h2)]

theorem timesFl_eq {F : Fm} (ok : F.Ok) (a b : Nat) : timesFl F (openF F a) (openF F b) = mulR F a b := by
  have hz : ∀ x, F.isNan x = false → F.isInf x = false → ((opD F x).n = 0 ↔ F.isZero x = true) := by
    intro x h1 h2
    rw [fl_fin h1 h2]
    show F.mag x = 0 ↔ _
    constructor
    · intro h
      cases hx : F.isZero x
      · exact absurd h (mag_ne (by have := ok.p8; omega) hx)
      · rfl
    · intro h
      have h3 : F.abs x = 0 := by simpa [Fm.isZero] using h
      unfold Fm.mag Fm.sig
      rw [h3]; simp
  unfold timesFl mulR mulS prodT
  rw [openF_zero ok a, openF_zero ok b]
  simp only [openF]
  have za := hz a
  have zb := hz b
  by_cases c1 : (F.isInf a && F.isZero b || F.isZero a && F.isInf b) = true
  · simp only [c1, if_true, Bool.true_or]
    split <;> rfl
  simp only [c1, if_false, Bool.false_eq_true]
  by_cases c2 : (F.isNan a || F.isNan b) = true
  · simp only [c2, if_true, Bool.or_true]
  simp only [c2, if_false, Bool.false_eq_true]
  simp only [Bool.or_eq_true, not_or, Bool.not_eq_true] at c2
  by_cases c3 : (F.isInf a || F.isInf b) = true
  · simp only [c3, if_true, c2.1, c2.2, Bool.or_self, Bool.false_eq_true, if_false]
  simp only [c3, if_false, Bool.false_eq_true, c2.1, c2.2, Bool.or_self]
  simp only [Bool.or_eq_true, not_or, Bool.not_eq_true] at c3
  have za := za c2.1 c3.1
  have zb := zb c2.2 c3.2
  unfold finR
  by_cases c4 : (F.isZero a || F.isZero b) = true
  · rw [if_pos c4]
    have : (opD F a).n * (opD F b).n = 0 := by
      simp only [Bool.or_eq_true] at c4
      rcases c4 with h | h
      · rw [za.2 h, Nat.zero_mul]
      · rw [zb.2 h, Nat.mul_zero]
    rw [if_pos this]
  · rw [if_neg c4]
    simp only [Bool.or_eq_true, not_or] at c4
    have : ¬ (opD F a).n * (opD F b).n = 0 := fun h => by
      rcases Nat.mul_eq_zero.1 h with h | h
      · exact c4.1 (za.1 h)
      · exact c4.2 (zb.1 h)
    rw [if_neg this, fl_fin c2.1 c3.1, fl_fin c2.2 c3.2]

theorem prod_bd {x y : Fl} (x1 : x.d.n < 2 ^ 53) (x2 : -2500 ≤ x.d.e ∧ x.d.e ≤ 1100) (y1 : y.d.n < 2 ^ 53) (y2 : -2500 ≤ y.d.e ∧ y.d.e ≤ 1100) : nd 32 (prodT x y).d.n ≤ 1000 ∧ -20000 ≤ (prodT x y).d.e ∧ (prodT x y).d.e ≤ 20000 := by
  have h0 : nd 32 0 ≤ 1000 := by decide
  unfold prodT
  split
  · exact ⟨h0, by show (-20000 : Int) ≤ 0; decide, by show (0 : Int) ≤ 20000; decide⟩
  split
  · exact ⟨h0, by show (-20000 : Int) ≤ 0; decide, by show (0 : Int) ≤ 20000; decide⟩
  split
  · exact ⟨h0, by show (-20000 : Int) ≤ 0; decide, by show (0 : Int) ≤ 20000; decide⟩
  refine ⟨?_, ?_, ?_⟩
  · refine Nat.le_trans (nd_le 32 _ 4 (by decide) ?_) (by decide)
    exact Nat.lt_of_le_of_lt (Nat.mul_le_mul (Nat.le_of_lt x1) (Nat.le_of_lt y1)) (by decide)
  · show -20000 ≤ x.d.e + y.d.e; omega
  · show x.d.e + y.d.e ≤ 20000; omega

set_option maxRecDepth 100000 in
set_option maxHeartbeats 4000000 in
theorem rTimes18 (n a b : Nat) (w : World) (hn : n < 4) (la : a < 2 ^ (fm n).w) (lb : b < 2 ^ (fm n).w) :
    Calls Try.prog 33 #[.int .i64 n, .int .u64 a, .int .u64 b] w fun e w' => e = .returned (.int .u64 (mulR (fm n) a b : Int)) ∧ Below w.heap.size w w' := by
  have hOa := eopen_fl n a w hn la
  have HOb := Lib.hid (fun wx => eopen_fl n b wx hn lb)
  rw [← timesFl_eq (fm_ok n)]
  obtain ⟨x1, x2, x3⟩ := fl_bd n a
  obtain ⟨y1, y2, y3⟩ := fl_bd n b
  obtain ⟨pb1, pb2⟩ := prod_bd x1 ⟨x2, x3⟩ y1 ⟨y2, y3⟩
  have HPd := Lib.hid (fun wx v u hv hu => tprod_any v u (openF (fm n) a) (openF (fm n) b) wx hv hu (Nat.lt_of_lt_of_le x1 (by decide)) (Nat.lt_of_lt_of_le y1 (by decide)) ⟨by omega, by omega⟩ ⟨by omega, by omega⟩)
  have HQ := Lib.hid (fun wx => rquiet_ok n wx hn)
  have HI := Lib.hid (fun s wx => rinf_ok n s wx hn)
  have HF := Lib.hid (fun z neg wx hz => rFinal_any n 0 z (prodT (openF (fm n) a) (openF (fm n) b)).d neg wx hn (by decide) hz pb1 pb2)
  generalize openF (fm n) a = x at *
  generalize openF (fm n) b = y at *
  generalize fm n = F at *
  obtain ⟨r, hr⟩ : ∃ r, r = timesFl F x y := ⟨_, rfl⟩
  rw [← hr]
  unfold timesFl at hr
  generalize prodT x y = t at *
  have HRR := Lib.hid hr
  clear x1 x2 x3 y1 y2 y3 pb1 pb2 hr la lb hn
  go_enter Try.func33, Try.ntmps33
  go_wp2_with fail
  refine hOa.mono ?_
  rintro _ w1 ⟨A, c, rfl, r1, hb1⟩
  clear hOa
  go_wp2_with fail
  refine (HOb.out _).mono ?_
  rintro _ w2 ⟨A', c', rfl, r2, hb2⟩
  clear HOb
  have r1' := r1.belowB hb2 (Nat.le_refl _)
  have hb12 : Below w.heap.size w w2 := hb1.trans (hb2.mono hb1.size)
  clear r1 hb1 hb2
  have HP := Lib.hid (HPd.out w2 (.agg (flA x A c)) (.agg (flA y A' c')) ⟨A, c, rfl, r1'⟩ ⟨A', c', rfl, r2⟩)
  clear HPd r1' r2
  go_wp2_with fail
  refine HP.out.mono ?_
  rintro _ w3 ⟨v', rfl, ⟨A3, c3, rfl, r3⟩, hb3⟩
  have hb13 : Below w.heap.size w w3 := hb12.trans (hb3.mono hb12.size)
  clear HP hb12 hb3
  have B1 := Bx.new w3 (tmA t A3 c3) 75
  have HB : Hid (Below w.heap.size w (w3.alloc (.cells (tmA t A3 c3) 75))) := hb13.alloc hb13.size _
  have R3 := Lib.hid (r3.belowB (below1 w3 (.cells (tmA t A3 c3) 75)) (Nat.le_refl _))
  obtain ⟨W, hW⟩ : ∃ W, W = w3.alloc (.cells (tmA t A3 c3) 75) := ⟨_, rfl⟩
  rw [← hW] at HB B1 R3
  clear r3 hb13
  generalize hg : w3.heap.size = g at *
  unfold tmA at hW B1
  unfold tmA
  obtain ⟨k0, k1, k2, k3, k4, k5, k6, k7⟩ := B1.eight
  have HFn := Lib.hid (HF.out (.agg #[.bool t.d.s, .slice A3 (nd 32 t.d.n) c3, .int .i64 t.d.e]) t.neg W ⟨_, rfl, R3.out⟩)
  clear B1 HF R3
  go_upto_region 2 with (fail)
  rw [← hW]
  clear hW hg
  generalize t.wrong = tw at *
  generalize t.nan = tn at *
  generalize t.inf = ti at *
  generalize t.neg = tg at *
  cases tw
  rotate_left
  · skip
    have e := Lib.hid (show r = F.nan from HRR.out)
    clear HRR HI HFn
    go_wp2_with fail
    refine (HQ.out _).mono ?_
    rintro _ _ ⟨rfl, rfl⟩
    go_wp2_with fail
    go_ret
    exact ⟨by rw [e.out]; rfl, HB.out⟩
  cases tn
  rotate_left
  · skip
    have e := Lib.hid (show r = F.nan from HRR.out)
    clear HRR HI HFn
    go_wp2_with fail
    refine (HQ.out _).mono ?_
    rintro _ _ ⟨rfl, rfl⟩
    go_wp2_with fail
    go_ret
    exact ⟨by rw [e.out]; rfl, HB.out⟩
  cases ti
  rotate_left
  · have e := Lib.hid (show r = F.inf + F.sg tg from HRR.out)
    clear HRR HQ HFn
    go_wp2_with fail
    refine (HI.out tg _).mono ?_
    rintro _ _ ⟨rfl, rfl⟩
    go_wp2_with fail
    go_ret
    exact ⟨by rw [e.out]; rfl, HB.out⟩
  · have e := Lib.hid (show r = (finR F 0 t.d tg).1 from HRR.out)
    clear HRR HQ HI
    generalize finR F 0 t.d tg = q at *
    go_wp2_with fail
    refine HFn.out.mono ?_
    rintro _ w9 ⟨rfl, hb⟩
    replace HB := Lib.hid (keep_belowB HB.out hb (by have := HB.out.size; omega))
    clear hb HFn
    go_wp2_with fail
    go_ret
    exact ⟨by rw [e.out]; rfl, HB.out⟩

theorem wrap_e (y : Int) (h1 : -9223372036854775808 ≤ y) (h2 : y < 9223372036854775808) : wrap64 y = y := by unfold wrap64; omega

theorem finP_fl (F : Fm) (a : Nat) : finP F a = (!(openF F a).nan && !(openF F a).inf) := by
  show decide (F.abs a < F.inf) = (!decide (F.inf < F.abs a) && !decide (F.abs a = F.inf))
  by_cases h : F.abs a < F.inf
  · rw [decide_eq_true h, decide_eq_false (by omega), decide_eq_false (by omega)]; rfl
  · rw [decide_eq_false h]
    by_cases h2 : F.inf < F.abs a
    · rw [decide_eq_true h2]; rfl
    · rw [decide_eq_false h2, decide_eq_true (by omega)]; rfl

set_option maxRecDepth 100000 in
set_option maxHeartbeats 4000000 in
theorem rFinite18 (n a : Nat) (w : World) (hn : n < 4) (la : a < 2 ^ (fm n).w) :
    Calls Try.prog 42 #[.int .i64 n, .int .u64 a] w fun e w' => e = .returned (.bool (finP (fm n) a)) ∧ Below w.heap.size w w' := by
  have hO := eopen_fl n a w hn la
  rw [finP_fl]
  generalize openF (fm n) a = x at *
  obtain ⟨R, hR⟩ : ∃ R, R = (!x.nan && !x.inf) := ⟨_, rfl⟩
  rw [← hR]
  have HR := Lib.hid hR
  clear hn la hR
  go_enter Try.func42, Try.ntmps42
  go_wp2_with fail
  refine hO.mono ?_
  rintro _ w1 ⟨A, c, rfl, -, hb1⟩
  clear hO
  have B1 := Bx.new w1 (flA x A c) 78
  have HB : Hid (Below w.heap.size w (w1.alloc (.cells (flA x A c) 78))) := hb1.alloc hb1.size _
  obtain ⟨W, hW⟩ : ∃ W, W = w1.alloc (.cells (flA x A c) 78) := ⟨_, rfl⟩
  rw [← hW] at HB B1
  generalize hg : w1.heap.size = g at *
  clear hb1
  unfold flA at hW B1
  unfold flA
  obtain ⟨k0, k1, k2, k3, k4, k5, k6⟩ := B1.seven
  clear B1
  go_upto_region 2 with (fail)
  rw [← hW]
  clear hW hg
  generalize x.nan = xn at *
  generalize x.inf = xi at *
  cases xn
  · go_wp2_with fail
    go_ret
    exact ⟨by rw [HR.out]; rfl, HB.out⟩
  · go_wp2_with fail
    go_ret
    exact ⟨by rw [HR.out]; rfl, HB.out⟩

set_option maxRecDepth 100000 in
set_option maxHeartbeats 4000000 in
theorem all18 (n b : Nat) (xs : List Nat) (w : World) (hn : n < 4) (hxs : ∀ x ∈ xs, x < 2 ^ (fm n).w) (hlen : xs.length ≤ 100) (hb : b < w.heap.size) (hp : RdU w b xs) :
    Calls Try.prog 23 #[.int .i64 n, .slice (some ⟨b, 0, none⟩) xs.length xs.length] w fun e w' => e = .returned (.bool (xs.all (finP (fm n)))) ∧ Below w.heap.size w w' := by
  have hck := fun (j : Nat) (hj : j < xs.length) wx => rFinite18 n (xs.getD j 0) wx hn (hxs _ (getD_mem xs j hj))
  have hp' := hp
  unfold RdU at hp'
  obtain ⟨N, hnl⟩ : ∃ N, N = xs.length := ⟨_, rfl⟩
  obtain ⟨E, hE⟩ : ∃ E, E = xs.all (finP (fm n)) := ⟨_, rfl⟩
  rw [← hE]
  rw [← hnl] at hlen hp' hck ⊢
  have Hnl := Lib.hid hnl
  have HE := Lib.hid hE
  have Hck := Lib.hid hck
  have Hp := Lib.hid hp'
  have Hb := Lib.hid hb
  generalize fm n = F at *
  clear hnl hE hck hp hp' hxs hn hb
  go_enter Try.func23, Try.ntmps23
  go_wp2
  go_loopw [5] (fun v wr => ∃ i : Nat, i ≤ N ∧ v = .int .i64 i ∧ Hid (∀ k, k < i → finP F (xs.getD k 0) = true) ∧ Below w.heap.size w wr) (fun v _ => N - (intOf v).toNat)
  case atStart => exact ⟨0, Nat.zero_le _, rfl, fun k hk => absurd hk (Nat.not_lt_zero _), Below.refl _ _⟩
  case round =>
    obtain ⟨i, hi, rfl, hall, hB⟩ := hrel
    have HB := Lib.hid hB
    by_cases hin : i < N
    · have hc := (hB.cell (p := ⟨b, i, none⟩) Hb.out).trans (Hp.out i hin)
      have hcall := Hck.out i hin wr
      obtain ⟨x, hx⟩ : ∃ x, x = xs.getD i 0 := ⟨_, rfl⟩
      rw [← hx] at hc hcall
      have Hx := Lib.hid hx
      have hin' : (i : Int) < N := by omega
      obtain ⟨ok, hok⟩ : ∃ ok, finP F x = ok := ⟨_, rfl⟩
      rw [hok] at hcall
      have Hcall := Lib.hid hcall
      have Hok := Lib.hid hok
      clear hx hcall hB hok
      go_wp2_with fail
      refine Hcall.out.mono ?_
      rintro _ w3 ⟨rfl, hb3⟩
      replace HB := Lib.hid (keep_belowB HB.out hb3 (by have := HB.out.size; omega))
      clear Hcall hb3 hc
      cases ok
      · have H : Hid (xs.all (finP F) = false) := all_not _ xs i (by rw [← Hnl.out]; exact hin) (by rw [← Hx.out]; exact Hok.out)
        go_wp2_with fail
        go_ret
        exact ⟨by rw [HE.out, H.out]; rfl, HB.out⟩
      · have H := Lib.hid (next_all hall.out Hx.out Hok.out)
        go_wp2_with fail
        go_roundw
        case rel => exact ⟨i + 1, by omega, by go_num, H, HB.out⟩
        case measure => simp [intOf]; omega
    · obtain rfl : i = N := by omega
      have H : Hid (xs.all (finP F) = true) := all_take _ xs (fun k hk => hall.out k (by rw [Hnl.out]; exact hk))
      clear hall
      go_wp2_with fail
      go_ret
      exact ⟨by rw [HE.out, H.out]; rfl, HB.out⟩


theorem known_bad (f : Int) (s : Value) (w : World) (h2 : f ≠ 2) (h3 : f ≠ 3) :
    Calls Try.prog 20 #[.int .i64 f, s] w fun e w' => e = .returned (.int .i64 2) ∧ Below w.heap.size w w' := by
  have t2 : (f != 2) = true := by simpa using h2
  have t3 : (f != 3) = true := by simpa using h3
  clear h2 h3
  go_enter Try.func20, Try.ntmps20
  go_wp2_with fail
  go_ret
  exact ⟨rfl, Below.refl _ _⟩


set_option maxRecDepth 100000 in
set_option maxHeartbeats 4000000 in
theorem known_2 (b : Nat) (xs : List Nat) (w : World) (hxs : ∀ x ∈ xs, x < 18446744073709551616) (hlen : xs.length ≤ 100) (hb : b < w.heap.size) (hp : RdU w b xs) :
    Calls Try.prog 20 #[.int .i64 2, .slice (some ⟨b, 0, none⟩) xs.length xs.length] w fun e w' => e = .returned (.int .i64 (knownE 2 xs)) ∧ Below w.heap.size w w' := by
  have hfi := fun (j : Nat) (hj : j < xs.length) wx => rfits_ok 2 (xs.getD j 0) wx (by decide) (hxs _ (getD_mem xs j hj))
  have hck := fun (j : Nat) (hj : decide (xs.getD j 0 < 2 ^ (fm 2).w) = true) wx => rFinite18 2 (xs.getD j 0) wx (by decide) (of_decide_eq_true hj)
  have hp' := hp
  unfold RdU at hp'
  obtain ⟨N, hnl⟩ : ∃ N, N = xs.length := ⟨_, rfl⟩
  obtain ⟨E, hE⟩ : ∃ E, E = knownE 2 xs := ⟨_, rfl⟩
  rw [← hE]
  unfold knownE at hE
  rw [← hnl] at hlen hp' hfi ⊢
  have Hnl := Lib.hid hnl
  have HE := Lib.hid hE
  have Hck := Lib.hid hck
  have Hfi := Lib.hid hfi
  have Hp := Lib.hid hp'
  have Hb := Lib.hid hb
  generalize fm 2 = F at *
  clear hnl hE hck hfi hp hp' hxs hb
  go_enter Try.func20, Try.ntmps20
  go_wp2
  go_loopw [5] (fun v wr => ∃ i : Nat, i ≤ N ∧ v = .int .i64 i ∧ Hid (∀ k, k < i → decide (xs.getD k 0 < 2 ^ F.w) = true) ∧ w = wr) (fun v _ => N - (intOf v).toNat)
  case atStart => exact ⟨0, Nat.zero_le _, rfl, fun k hk => absurd hk (Nat.not_lt_zero _), rfl⟩
  case round =>
    obtain ⟨i, hi, rfl, hall, rfl⟩ := hrel
    by_cases hin : i < N
    · have hc := Hp.out i hin
      have hcall := Hfi.out i hin w
      obtain ⟨x, hx⟩ : ∃ x, x = xs.getD i 0 := ⟨_, rfl⟩
      rw [← hx] at hc hcall
      have Hx := Lib.hid hx
      have hin' : (i : Int) < N := by omega
      obtain ⟨ok, hok⟩ : ∃ ok, decide (x < 2 ^ F.w) = ok := ⟨_, rfl⟩
      rw [hok] at hcall
      have Hcall := Lib.hid hcall
      have Hok := Lib.hid hok
      clear hx hcall hok
      go_wp2_with fail
      refine Hcall.out.mono ?_
      rintro _ _ ⟨rfl, rfl⟩
      clear Hcall hc
      cases ok
      · have H : Hid (xs.all (fun a => decide (a < 2 ^ F.w)) = false) := all_not _ xs i (by rw [← Hnl.out]; exact hin) (by rw [← Hx.out]; exact Hok.out)
        go_wp2_with fail
        go_ret
        exact ⟨by rw [HE.out, H.out]; rfl, Below.refl _ _⟩
      · have H := Lib.hid (next_all (f := fun a => decide (a < 2 ^ F.w)) hall.out Hx.out Hok.out)
        go_wp2_with fail
        go_roundw
        case rel => exact ⟨i + 1, by omega, by go_num, H, trivial⟩
        case measure => simp [intOf]; omega
    · obtain rfl : i = N := by omega
      have HA : Hid (xs.all (fun a => decide (a < 2 ^ F.w)) = true) := all_take _ xs (fun k hk => hall.out k (by rw [Hnl.out]; exact hk))
      go_wp2
      go_loopw [6] (fun v wr => ∃ j : Nat, j ≤ i ∧ v = .int .i64 j ∧ Hid (∀ k, k < j → finP F (xs.getD k 0) = true) ∧ Below w.heap.size w wr) (fun v _ => i - (intOf v).toNat)
      case atStart => exact ⟨0, Nat.zero_le _, rfl, fun k hk => absurd hk (Nat.not_lt_zero _), Below.refl _ _⟩
      case round =>
        obtain ⟨j, hj, rfl, hfn, hB⟩ := hrel
        have HB := Lib.hid hB
        by_cases hjn : j < i
        · have hc := (hB.cell (p := ⟨b, j, none⟩) Hb.out).trans (Hp.out j hjn)
          have hcall := Hck.out j (hall.out j hjn) wr
          obtain ⟨x, hx⟩ : ∃ x, x = xs.getD j 0 := ⟨_, rfl⟩
          rw [← hx] at hc hcall
          have Hx := Lib.hid hx
          have hjn' : (j : Int) < i := by omega
          obtain ⟨ok, hok⟩ : ∃ ok, finP F x = ok := ⟨_, rfl⟩
          rw [hok] at hcall
          have Hcall := Lib.hid hcall
          have Hok := Lib.hid hok
          clear hx hcall hB hok
          go_wp2_with fail
          refine Hcall.out.mono ?_
          rintro _ w3 ⟨rfl, hb3⟩
          replace HB := Lib.hid (keep_belowB HB.out hb3 (by have := HB.out.size; omega))
          clear Hcall hb3 hc
          cases ok
          · have H : Hid (xs.all (finP F) = false) := all_not _ xs j (by rw [← Hnl.out]; exact hjn) (by rw [← Hx.out]; exact Hok.out)
            go_wp2_with fail
            go_ret
            exact ⟨by rw [HE.out, HA.out, H.out]; rfl, HB.out⟩
          · have H := Lib.hid (next_all hfn.out Hx.out Hok.out)
            go_wp2_with fail
            go_roundw
            case rel => exact ⟨j + 1, by omega, by go_num, H, HB.out⟩
            case measure => simp [intOf]; omega
        · obtain rfl : j = i := by omega
          have H : Hid (xs.all (finP F) = true) := all_take _ xs (fun k hk => hfn.out k (by rw [Hnl.out]; exact hk))
          go_wp2_with fail
          go_ret
          exact ⟨by rw [HE.out, HA.out, H.out]; rfl, HB.out⟩


set_option maxRecDepth 100000 in
set_option maxHeartbeats 4000000 in
theorem known_3 (b : Nat) (xs : List Nat) (w : World) (hxs : ∀ x ∈ xs, x < 18446744073709551616) (hlen : xs.length ≤ 100) (hb : b < w.heap.size) (hp : RdU w b xs) :
    Calls Try.prog 20 #[.int .i64 3, .slice (some ⟨b, 0, none⟩) xs.length xs.length] w fun e w' => e = .returned (.int .i64 (knownE 3 xs)) ∧ Below w.heap.size w w' := by
  have hfi := fun (j : Nat) (hj : j < xs.length) wx => rfits_ok 3 (xs.getD j 0) wx (by decide) (hxs _ (getD_mem xs j hj))
  have hck := fun (j : Nat) (hj : decide (xs.getD j 0 < 2 ^ (fm 3).w) = true) wx => rFinite18 3 (xs.getD j 0) wx (by decide) (of_decide_eq_true hj)
  have hp' := hp
  unfold RdU at hp'
  obtain ⟨N, hnl⟩ : ∃ N, N = xs.length := ⟨_, rfl⟩
  obtain ⟨E, hE⟩ : ∃ E, E = knownE 3 xs := ⟨_, rfl⟩
  rw [← hE]
  unfold knownE at hE
  rw [← hnl] at hlen hp' hfi ⊢
  have Hnl := Lib.hid hnl
  have HE := Lib.hid hE
  have Hck := Lib.hid hck
  have Hfi := Lib.hid hfi
  have Hp := Lib.hid hp'
  have Hb := Lib.hid hb
  generalize fm 3 = F at *
  clear hnl hE hck hfi hp hp' hxs hb
  go_enter Try.func20, Try.ntmps20
  go_wp2
  go_loopw [5] (fun v wr => ∃ i : Nat, i ≤ N ∧ v = .int .i64 i ∧ Hid (∀ k, k < i → decide (xs.getD k 0 < 2 ^ F.w) = true) ∧ w = wr) (fun v _ => N - (intOf v).toNat)
  case atStart => exact ⟨0, Nat.zero_le _, rfl, fun k hk => absurd hk (Nat.not_lt_zero _), rfl⟩
  case round =>
    obtain ⟨i, hi, rfl, hall, rfl⟩ := hrel
    by_cases hin : i < N
    · have hc := Hp.out i hin
      have hcall := Hfi.out i hin w
      obtain ⟨x, hx⟩ : ∃ x, x = xs.getD i 0 := ⟨_, rfl⟩
      rw [← hx] at hc hcall
      have Hx := Lib.hid hx
      have hin' : (i : Int) < N := by omega
      obtain ⟨ok, hok⟩ : ∃ ok, decide (x < 2 ^ F.w) = ok := ⟨_, rfl⟩
      rw [hok] at hcall
      have Hcall := Lib.hid hcall
      have Hok := Lib.hid hok
      clear hx hcall hok
      go_wp2_with fail
      refine Hcall.out.mono ?_
      rintro _ _ ⟨rfl, rfl⟩
      clear Hcall hc
      cases ok
      · have H : Hid (xs.all (fun a => decide (a < 2 ^ F.w)) = false) := all_not _ xs i (by rw [← Hnl.out]; exact hin) (by rw [← Hx.out]; exact Hok.out)
        go_wp2_with fail
        go_ret
        exact ⟨by rw [HE.out, H.out]; rfl, Below.refl _ _⟩
      · have H := Lib.hid (next_all (f := fun a => decide (a < 2 ^ F.w)) hall.out Hx.out Hok.out)
        go_wp2_with fail
        go_roundw
        case rel => exact ⟨i + 1, by omega, by go_num, H, trivial⟩
        case measure => simp [intOf]; omega
    · obtain rfl : i = N := by omega
      have HA : Hid (xs.all (fun a => decide (a < 2 ^ F.w)) = true) := all_take _ xs (fun k hk => hall.out k (by rw [Hnl.out]; exact hk))
      go_wp2
      go_loopw [6] (fun v wr => ∃ j : Nat, j ≤ i ∧ v = .int .i64 j ∧ Hid (∀ k, k < j → finP F (xs.getD k 0) = true) ∧ Below w.heap.size w wr) (fun v _ => i - (intOf v).toNat)
      case atStart => exact ⟨0, Nat.zero_le _, rfl, fun k hk => absurd hk (Nat.not_lt_zero _), Below.refl _ _⟩
      case round =>
        obtain ⟨j, hj, rfl, hfn, hB⟩ := hrel
        have HB := Lib.hid hB
        by_cases hjn : j < i
        · have hc := (hB.cell (p := ⟨b, j, none⟩) Hb.out).trans (Hp.out j hjn)
          have hcall := Hck.out j (hall.out j hjn) wr
          obtain ⟨x, hx⟩ : ∃ x, x = xs.getD j 0 := ⟨_, rfl⟩
          rw [← hx] at hc hcall
          have Hx := Lib.hid hx
          have hjn' : (j : Int) < i := by omega
          obtain ⟨ok, hok⟩ : ∃ ok, finP F x = ok := ⟨_, rfl⟩
          rw [hok] at hcall
          have Hcall := Lib.hid hcall
          have Hok := Lib.hid hok
          clear hx hcall hB hok
          go_wp2_with fail
          refine Hcall.out.mono ?_
          rintro _ w3 ⟨rfl, hb3⟩
          replace HB := Lib.hid (keep_belowB HB.out hb3 (by have := HB.out.size; omega))
          clear Hcall hb3 hc
          cases ok
          · have H : Hid (xs.all (finP F) = false) := all_not _ xs j (by rw [← Hnl.out]; exact hjn) (by rw [← Hx.out]; exact Hok.out)
            go_wp2_with fail
            go_ret
            exact ⟨by rw [HE.out, HA.out, H.out]; rfl, HB.out⟩
          · have H := Lib.hid (next_all hfn.out Hx.out Hok.out)
            go_wp2_with fail
            go_roundw
            case rel => exact ⟨j + 1, by omega, by go_num, H, HB.out⟩
            case measure => simp [intOf]; omega
        · obtain rfl : j = i := by omega
          have H : Hid (xs.all (finP F) = true) := all_take _ xs (fun k hk => hfn.out k (by rw [Hnl.out]; exact hk))
          go_wp2_with fail
          go_ret
          exact ⟨by rw [HE.out, HA.out, H.out]; rfl, HB.out⟩


set_option maxRecDepth 100000 in
theorem const_2 (w : World) : Calls Try.prog 48 #[.int .i64 2] w fun e w' => e = .returned (.int .u64 1166018560) ∧ Below w.heap.size w w' := by
  have hD := rDigits_any (.slice (some ⟨w.heap.size, 0, none⟩) 1 1) 4097 1 (w.alloc (.cells #[.int .u64 4097] 24)) (Rd.one64 w 4097 (by decide) 24) (by decide)
  have hR := fun z wx hz => rRound_any 2 0 z ⟨false, 4097, 0⟩ wx (by decide) (by decide) hz (by show (4097 : Nat) ≠ 0; decide) (by decide) ⟨by decide, by decide⟩
  rw [show intoS (fm 2) 0 (D.mk false 4097 0).s (D.mk false 4097 0).n (D.mk false 4097 0).e false = (1166018560, 0) from by decide +kernel] at hR
  have HD := Lib.hid hD
  have HR := Lib.hid hR
  clear hD hR
  go_enter Try.func48, Try.ntmps48
  go_wp2_with fail
  refine HD.out.mono ?_
  rintro _ w1 ⟨v, rfl, ⟨hv, -⟩, hb1⟩
  obtain ⟨A, c, rfl, -, -⟩ := hv.form
  have HB : Hid (Below w.heap.size w w1) := (below1 w _).trans (hb1.mono (by simp))
  have HR2 := Lib.hid (HR.out (.agg #[.bool false, .slice A _ c, .int .i64 0]) w1 ⟨_, rfl, hv⟩)
  clear HD HR hb1 hv
  go_wp2_with fail
  refine HR2.out.mono ?_
  rintro _ w2 ⟨rfl, hb2⟩
  replace HB := Lib.hid (keep_belowB HB.out hb2 (by have := HB.out.size; omega))
  clear hb2 HR2
  go_wp2_with fail
  go_ret
  exact ⟨rfl, HB.out⟩

theorem size_2 (a : Nat) (w : World) (ha : a < 18446744073709551616) : Calls Try.prog 26 #[.int .i64 2, .int .u64 a] w fun e w' => e = .returned (.int .u64 ((fm 2).abs a : Nat)) ∧ w = w' := by
  have hP : Calls Try.prog 47 #[.int .i64 2] w fun e w' => e = .returned (.tuple #[.int .i64 32, .int .i64 24, .int .i64 (-126)]) ∧ w = w' := rparams_ok 2 w (by decide)
  have e1 : ((fm 2).abs a : Int) = (a : Int).tmod 2147483648 := by
    rw [Int.tmod_eq_emod_of_nonneg (by omega)]
    show ((a % 2 ^ (32 - 1) : Nat) : Int) = _
    omega
  have e2 : (a : Int).tmod 2147483648 = ((a % 2147483648 : Nat) : Int) := by rw [Int.tmod_eq_emod_of_nonneg (by omega)]; omega
  rw [e1, e2]
  have hm : a % 2147483648 < 18446744073709551616 := by omega
  clear e1
  go_enter Try.func26, Try.ntmps26
  go_wp2_with fail
  refine hP.mono ?_
  rintro _ _ ⟨rfl, rfl⟩
  go_wp2_with fail
  go_ret
  exact ⟨by go_num, rfl⟩


set_option maxRecDepth 100000 in
theorem const_3 (w : World) : Calls Try.prog 48 #[.int .i64 3] w fun e w' => e = .returned (.int .u64 4728779608772575232) ∧ Below w.heap.size w w' := by
  have hD := rDigits_any (.slice (some ⟨w.heap.size, 0, none⟩) 1 1) 134217729 1 (w.alloc (.cells #[.int .u64 134217729] 24)) (Rd.one64 w 134217729 (by decide) 24) (by decide)
  have hR := fun z wx hz => rRound_any 3 0 z ⟨false, 134217729, 0⟩ wx (by decide) (by decide) hz (by show (134217729 : Nat) ≠ 0; decide) (by decide) ⟨by decide, by decide⟩
  rw [show intoS (fm 3) 0 (D.mk false 134217729 0).s (D.mk false 134217729 0).n (D.mk false 134217729 0).e false = (4728779608772575232, 0) from by decide +kernel] at hR
  have HD := Lib.hid hD
  have HR := Lib.hid hR
  clear hD hR
  go_enter Try.func48, Try.ntmps48
  go_wp2_with fail
  refine HD.out.mono ?_
  rintro _ w1 ⟨v, rfl, ⟨hv, -⟩, hb1⟩
  obtain ⟨A, c, rfl, -, -⟩ := hv.form
  have HB : Hid (Below w.heap.size w w1) := (below1 w _).trans (hb1.mono (by simp))
  have HR2 := Lib.hid (HR.out (.agg #[.bool false, .slice A _ c, .int .i64 0]) w1 ⟨_, rfl, hv⟩)
  clear HD HR hb1 hv
  go_wp2_with fail
  refine HR2.out.mono ?_
  rintro _ w2 ⟨rfl, hb2⟩
  replace HB := Lib.hid (keep_belowB HB.out hb2 (by have := HB.out.size; omega))
  clear hb2 HR2
  go_wp2_with fail
  go_ret
  exact ⟨rfl, HB.out⟩

theorem size_3 (a : Nat) (w : World) (ha : a < 18446744073709551616) : Calls Try.prog 26 #[.int .i64 3, .int .u64 a] w fun e w' => e = .returned (.int .u64 ((fm 3).abs a : Nat)) ∧ w = w' := by
  have hP : Calls Try.prog 47 #[.int .i64 3] w fun e w' => e = .returned (.tuple #[.int .i64 64, .int .i64 53, .int .i64 (-1022)]) ∧ w = w' := rparams_ok 3 w (by decide)
  have e1 : ((fm 3).abs a : Int) = (a : Int).tmod 9223372036854775808 := by
    rw [Int.tmod_eq_emod_of_nonneg (by omega)]
    show ((a % 2 ^ (64 - 1) : Nat) : Int) = _
    omega
  have e2 : (a : Int).tmod 9223372036854775808 = ((a % 9223372036854775808 : Nat) : Int) := by rw [Int.tmod_eq_emod_of_nonneg (by omega)]; omega
  rw [e1, e2]
  have hm : a % 9223372036854775808 < 18446744073709551616 := by omega
  clear e1
  go_enter Try.func26, Try.ntmps26
  go_wp2_with fail
  refine hP.mono ?_
  rintro _ _ ⟨rfl, rfl⟩
  go_wp2_with fail
  go_ret
  exact ⟨by go_num, rfl⟩


set_option maxRecDepth 100000 in
set_option maxHeartbeats 4000000 in
theorem small_2 (a : Nat) (w : World) (la : a < 2 ^ (fm 2).w) (fa : finP (fm 2) a = true) : Calls Try.prog 34 #[.int .i64 2, .int .u64 a] w fun e w' => e = .returned (.bool (smallP (fm 2) a)) ∧ Below w.heap.size w w' := by
  have hO := eopen_fl 2 a w (by decide) la
  have hP : ∀ wx, Calls Try.prog 47 #[.int .i64 2] wx fun e w' => e = .returned (.tuple #[.int .i64 32, .int .i64 24, .int .i64 (-126)]) ∧ wx = w' := fun wx => rparams_ok 2 wx (by decide)
  obtain ⟨b1, b2, b3⟩ := fl_bd 2 a
  have hz := openF_zero (fm_ok 2) a
  have hd : (openF (fm 2) a).d = ⟨(fm 2).neg a, (fm 2).mag a, (fm 2).ex a⟩ := opD_fin (of_decide_eq_true fa)
  have hs : smallP (fm 2) a = ((openF (fm 2) a).zero || decide ((openF (fm 2) a).d.e + bl (openF (fm 2) a).d.n - 1 < -101)) := by
    rw [hz, hd]; rfl
  rw [hs]
  have hbl : bl (openF (fm 2) a).d.n ≤ 53 := bl_le _ 53 b1
  have hnd : nd 32 (openF (fm 2) a).d.n ≤ 1000000 := Nat.le_trans (fl_nd b1) (by decide)
  clear hz hd hs la fa b1
  generalize openF (fm 2) a = x at *
  obtain ⟨R, hR⟩ : ∃ R, R = (x.zero || decide (x.d.e + bl x.d.n - 1 < -101)) := ⟨_, rfl⟩
  rw [← hR]
  have HR := Lib.hid hR
  clear hR
  go_enter Try.func34, Try.ntmps34
  go_wp2_with fail
  refine hO.mono ?_
  rintro _ w1 ⟨A, c, rfl, r1, hb1⟩
  clear hO
  have B1 := Bx.new w1 (flA x A c) 78
  have HB : Hid (Below w.heap.size w (w1.alloc (.cells (flA x A c) 78))) := hb1.alloc hb1.size _
  have R1 := Lib.hid (r1.belowB (below1 w1 (.cells (flA x A c) 78)) (Nat.le_refl _))
  obtain ⟨W, hW⟩ : ∃ W, W = w1.alloc (.cells (flA x A c) 78) := ⟨_, rfl⟩
  rw [← hW] at HB B1 R1
  generalize hg : w1.heap.size = g at *
  have HZ := Lib.hid (fun wx => fzero_any x A c wx)
  clear hb1 r1
  unfold flA at hW HZ B1
  unfold flA
  obtain ⟨k0, k1, k2, k3, k4, k5, k6⟩ := B1.seven
  have HB1 := Lib.hid B1
  clear B1
  go_upto_region 2 with (fail)
  rw [← hW]
  clear hW hg
  go_wp2_with fail
  refine (HZ.out _).mono ?_
  rintro _ w2 ⟨rfl, hb2⟩
  replace HB := Lib.hid (keep_belowB HB.out hb2 (by have := HB.out.size; omega))
  replace HB1 := Lib.hid (HB1.out.below hb2)
  replace R1 := Lib.hid (R1.out.belowB hb2 (Nat.le_refl _))
  clear HZ hb2 k0 k1 k2 k3 k4 k5 k6
  generalize x.zero = zx at *
  cases zx
  rotate_left
  · clear hP hbl
    go_wp2_with fail
    go_ret
    exact ⟨by rw [HR.out]; rfl, HB.out⟩
  go_wp2_with fail
  refine (hP _).mono ?_
  rintro _ _ ⟨rfl, rfl⟩
  clear hP
  have k5 := HB1.out.cell 5 rfl
  have k6 := HB1.out.cell 6 rfl
  have HQ := Lib.hid (fun wx (hh : Rd 32 wx (.slice A (nd 32 x.d.n) c) x.d.n (nd 32 x.d.n)) => rBits_any (.slice A (nd 32 x.d.n) c) x.d.n (nd 32 x.d.n) wx hh hnd)
  obtain ⟨B, hB⟩ : ∃ B, B = bl x.d.n := ⟨_, rfl⟩
  rw [← hB] at hbl HQ HR
  obtain ⟨e, he⟩ : ∃ e, e = x.d.e := ⟨_, rfl⟩
  rw [← he] at k6 b2 b3 HR
  have w1' : wrap64 (e + B) = e + B := wrap_e _ (by omega) (by omega)
  have w2' : wrap64 (e + B - 1) = e + B - 1 := wrap_e _ (by omega) (by omega)
  obtain ⟨T, hT⟩ : ∃ T, decide (e + (B : Int) - 1 < -101) = T := ⟨_, rfl⟩
  rw [hT] at HR
  clear HB1 hB he b2 b3 hbl hnd
  go_upto_region 5 with (fail)
  go_quiet ((go_at_call 55; exact quiet_eq (HQ.out _ R1.out)))
  go_wp2_with fail
  go_ret
  exact ⟨by rw [HR.out]; rfl, below_drewN HB.out _⟩


set_option maxRecDepth 100000 in
set_option maxHeartbeats 4000000 in
theorem small_3 (a : Nat) (w : World) (la : a < 2 ^ (fm 3).w) (fa : finP (fm 3) a = true) : Calls Try.prog 34 #[.int .i64 3, .int .u64 a] w fun e w' => e = .returned (.bool (smallP (fm 3) a)) ∧ Below w.heap.size w w' := by
  have hO := eopen_fl 3 a w (by decide) la
  have hP : ∀ wx, Calls Try.prog 47 #[.int .i64 3] wx fun e w' => e = .returned (.tuple #[.int .i64 64, .int .i64 53, .int .i64 (-1022)]) ∧ wx = w' := fun wx => rparams_ok 3 wx (by decide)
  obtain ⟨b1, b2, b3⟩ := fl_bd 3 a
  have hz := openF_zero (fm_ok 3) a
  have hd : (openF (fm 3) a).d = ⟨(fm 3).neg a, (fm 3).mag a, (fm 3).ex a⟩ := opD_fin (of_decide_eq_true fa)
  have hs : smallP (fm 3) a = ((openF (fm 3) a).zero || decide ((openF (fm 3) a).d.e + bl (openF (fm 3) a).d.n - 1 < -968)) := by
    rw [hz, hd]; rfl
  rw [hs]
  have hbl : bl (openF (fm 3) a).d.n ≤ 53 := bl_le _ 53 b1
  have hnd : nd 32 (openF (fm 3) a).d.n ≤ 1000000 := Nat.le_trans (fl_nd b1) (by decide)
  clear hz hd hs la fa b1
  generalize openF (fm 3) a = x at *
  obtain ⟨R, hR⟩ : ∃ R, R = (x.zero || decide (x.d.e + bl x.d.n - 1 < -968)) := ⟨_, rfl⟩
  rw [← hR]
  have HR := Lib.hid hR
  clear hR
  go_enter Try.func34, Try.ntmps34
  go_wp2_with fail
  refine hO.mono ?_
  rintro _ w1 ⟨A, c, rfl, r1, hb1⟩
  clear hO
  have B1 := Bx.new w1 (flA x A c) 78
  have HB : Hid (Below w.heap.size w (w1.alloc (.cells (flA x A c) 78))) := hb1.alloc hb1.size _
  have R1 := Lib.hid (r1.belowB (below1 w1 (.cells (flA x A c) 78)) (Nat.le_refl _))
  obtain ⟨W, hW⟩ : ∃ W, W = w1.alloc (.cells (flA x A c) 78) := ⟨_, rfl⟩
  rw [← hW] at HB B1 R1
  generalize hg : w1.heap.size = g at *
  have HZ := Lib.hid (fun wx => fzero_any x A c wx)
  clear hb1 r1
  unfold flA at hW HZ B1
  unfold flA
  obtain ⟨k0, k1, k2, k3, k4, k5, k6⟩ := B1.seven
  have HB1 := Lib.hid B1
  clear B1
  go_upto_region 2 with (fail)
  rw [← hW]
  clear hW hg
  go_wp2_with fail
  refine (HZ.out _).mono ?_
  rintro _ w2 ⟨rfl, hb2⟩
  replace HB := Lib.hid (keep_belowB HB.out hb2 (by have := HB.out.size; omega))
  replace HB1 := Lib.hid (HB1.out.below hb2)
  replace R1 := Lib.hid (R1.out.belowB hb2 (Nat.le_refl _))
  clear HZ hb2 k0 k1 k2 k3 k4 k5 k6
  generalize x.zero = zx at *
  cases zx
  rotate_left
  · clear hP hbl
    go_wp2_with fail
    go_ret
    exact ⟨by rw [HR.out]; rfl, HB.out⟩
  go_wp2_with fail
  refine (hP _).mono ?_
  rintro _ _ ⟨rfl, rfl⟩
  clear hP
  have k5 := HB1.out.cell 5 rfl
  have k6 := HB1.out.cell 6 rfl
  have HQ := Lib.hid (fun wx (hh : Rd 32 wx (.slice A (nd 32 x.d.n) c) x.d.n (nd 32 x.d.n)) => rBits_any (.slice A (nd 32 x.d.n) c) x.d.n (nd 32 x.d.n) wx hh hnd)
  obtain ⟨B, hB⟩ : ∃ B, B = bl x.d.n := ⟨_, rfl⟩
  rw [← hB] at hbl HQ HR
  obtain ⟨e, he⟩ : ∃ e, e = x.d.e := ⟨_, rfl⟩
  rw [← he] at k6 b2 b3 HR
  have w1' : wrap64 (e + B) = e + B := wrap_e _ (by omega) (by omega)
  have w2' : wrap64 (e + B - 1) = e + B - 1 := wrap_e _ (by omega) (by omega)
  obtain ⟨T, hT⟩ : ∃ T, decide (e + (B : Int) - 1 < -968) = T := ⟨_, rfl⟩
  rw [hT] at HR
  clear HB1 hB he b2 b3 hbl hnd
  go_upto_region 5 with (fail)
  go_quiet ((go_at_call 55; exact quiet_eq (HQ.out _ R1.out)))
  go_wp2_with fail
  go_ret
  exact ⟨by rw [HR.out]; rfl, below_drewN HB.out _⟩


end Go.Proofs.Ytebmogdojpcmfaa
