/- Walks of vernierref18: TwoSum, FastTwoSum, split, Split, TwoProd. Printed by gen/eftref3.py. -/
import Derived.Test.YtebmogdojpcmfaaRefE2
import Derived.Test.YtebmogdojpcmfaaFltG
namespace Go.Proofs.Ytebmogdojpcmfaa
set_option linter.unusedVariables false
set_option linter.unusedSimpArgs false
open Go.RowKit



set_option maxRecDepth 100000 in
set_option maxHeartbeats 8000000 in
theorem TwoSum18_any (n a b : Nat) (w : World) (hn : n = 2 ∨ n = 3) (ha : a < 18446744073709551616) (hb : b < 18446744073709551616) (hK : ∀ (b : Nat) (xs : List Nat) (wx : World), (∀ x ∈ xs, x < 18446744073709551616) → xs.length ≤ 100 → b < wx.heap.size → RdU wx b xs → Calls Try.prog 20 #[.int .i64 n, .slice (some ⟨b, 0, none⟩) xs.length xs.length] wx fun e w' => e = .returned (.int .i64 (knownE n xs)) ∧ Below wx.heap.size wx w') :
    Calls Try.prog 6 #[.int .i64 n, .int .u64 a, .int .u64 b] w fun e w' => e = .returned (tupE (sumE n a b)) ∧ Below w.heap.size w w' := by
  have hn4 : n < 4 := by omega
  have hk := hK w.heap.size [a, b] (w.alloc (.cells #[.int .u64 a, .int .u64 b] 24)) (by intro x hx; simp at hx; rcases hx with rfl | rfl <;> assumption) (by simp) (by simp) (RdU.new w [a, b] 24)
  have HB0 := Lib.hid (below_a w (.cells #[.int .u64 a, .int .u64 b] 24))
  obtain ⟨E, hE⟩ : ∃ E, E = sumE n a b := ⟨_, rfl⟩
  rw [← hE]
  unfold sumE at hE
  by_cases he : knownE n [a, b] ≠ 0
  · rw [if_pos he] at hE
    have te : (knownE n [a, b] != 0) = true := by simpa using he
    generalize knownE n [a, b] = e0 at *
    have HK := Lib.hid hk
    have HE := Lib.hid hE
    clear hk hE he hK ha hb hn hn4
    go_enter Try.func6, Try.ntmps6
    go_wp2_with fail
    refine HK.out.mono ?_
    rintro _ w1 ⟨rfl, hb1⟩
    have HB : Hid (Below w.heap.size w w1) := HB0.out.trans (hb1.mono HB0.out.size)
    clear hb1
    go_wp2_with fail
    refine bodyPost_ret (v := .tuple #[.int .u64 0, .int .u64 0, .int .i64 e0]) (by simp [results, Try.results6, go_sem]) rfl ?_
    exact ⟨by rw [HE.out]; rfl, HB.out⟩
  rw [if_neg he] at hE
  have he0 : knownE n [a, b] = 0 := by omega
  have hall := knownE_ok he0
  rw [he0] at hk
  have HK := Lib.hid hk
  obtain ⟨l_a, f_a⟩ := hall a (by simp)
  obtain ⟨l_b, f_b⟩ := hall b (by simp)
  have ok := fm_ok n
  have HPl : ∀ (x y : Nat) (wx : World), x < 2 ^ (fm n).w → y < 2 ^ (fm n).w → Calls Try.prog 21 #[.int .i64 n, .int .u64 x, .int .u64 y] wx fun e w' => e = .returned (.int .u64 (addR (fm n) x y : Nat)) ∧ Below wx.heap.size wx w' := by
    intro x y wx lx ly
    unfold addR
    exact rPlus18 n x y wx hn4 lx ly
  have HMi : ∀ (x y : Nat) (wx : World), x < 2 ^ (fm n).w → y < 2 ^ (fm n).w → Calls Try.prog 22 #[.int .i64 n, .int .u64 x, .int .u64 y] wx fun e w' => e = .returned (.int .u64 (subR (fm n) x y : Nat)) ∧ Below wx.heap.size wx w' := by
    intro x y wx lx ly
    unfold subR
    exact rMinus18 n x y wx hn4 lx ly
  have HTi : ∀ (x y : Nat) (wx : World), x < 2 ^ (fm n).w → y < 2 ^ (fm n).w → Calls Try.prog 33 #[.int .i64 n, .int .u64 x, .int .u64 y] wx fun e w' => e = .returned (.int .u64 (mulR (fm n) x y : Nat)) ∧ Below wx.heap.size wx w' := fun x y wx lx ly => rTimes18 n x y wx hn4 lx ly
  obtain ⟨s, q_s⟩ : ∃ q0, q0 = addR (fm n) a b := ⟨_, rfl⟩
  have l_s : s < 2 ^ (fm n).w := by rw [q_s]; exact addR_lt ok l_a l_b
  have c_s := fun wx => HPl a b wx l_a l_b
  rw [← q_s] at c_s
  have C_s := Lib.hid c_s
  have e_s : s = addR (fm n) a b := q_s.trans (by rfl)
  obtain ⟨t, q_t⟩ : ∃ q0, q0 = subR (fm n) s a := ⟨_, rfl⟩
  have l_t : t < 2 ^ (fm n).w := by rw [q_t]; exact subR_lt ok l_s l_a
  have c_t := fun wx => HMi s a wx l_s l_a
  rw [← q_t] at c_t
  have C_t := Lib.hid c_t
  have e_t : t = sT (fm n) a b := q_t.trans (by rw [e_s]; exact rfl)
  obtain ⟨u, q_u⟩ : ∃ q0, q0 = subR (fm n) s t := ⟨_, rfl⟩
  have l_u : u < 2 ^ (fm n).w := by rw [q_u]; exact subR_lt ok l_s l_t
  have c_u := fun wx => HMi s t wx l_s l_t
  rw [← q_u] at c_u
  have C_u := Lib.hid c_u
  have e_u : u = sU (fm n) a b := q_u.trans (by rw [e_s, e_t]; exact rfl)
  obtain ⟨v, q_v⟩ : ∃ q0, q0 = subR (fm n) b t := ⟨_, rfl⟩
  have l_v : v < 2 ^ (fm n).w := by rw [q_v]; exact subR_lt ok l_b l_t
  have c_v := fun wx => HMi b t wx l_b l_t
  rw [← q_v] at c_v
  have C_v := Lib.hid c_v
  have e_v : v = sV (fm n) a b := q_v.trans (by rw [e_t]; exact rfl)
  obtain ⟨z, q_z⟩ : ∃ q0, q0 = subR (fm n) a u := ⟨_, rfl⟩
  have l_z : z < 2 ^ (fm n).w := by rw [q_z]; exact subR_lt ok l_a l_u
  have c_z := fun wx => HMi a u wx l_a l_u
  rw [← q_z] at c_z
  have C_z := Lib.hid c_z
  have e_z : z = sW (fm n) a b := q_z.trans (by rw [e_u]; exact rfl)
  obtain ⟨r, q_r⟩ : ∃ q0, q0 = addR (fm n) z v := ⟨_, rfl⟩
  have l_r : r < 2 ^ (fm n).w := by rw [q_r]; exact addR_lt ok l_z l_v
  have c_r := fun wx => HPl z v wx l_z l_v
  rw [← q_r] at c_r
  have C_r := Lib.hid c_r
  have e_r : r = sR (fm n) a b := q_r.trans (by rw [e_z, e_v]; exact rfl)
  obtain ⟨ok1, q_ok⟩ : ∃ q0, q0 = [s, t, u, v, z, r].all (finP (fm n)) := ⟨_, rfl⟩
  have e_ok : (sumL (fm n) a b).all (finP (fm n)) = ok1 := by rw [q_ok]; unfold sumL; rw [← e_s, ← e_t, ← e_u, ← e_v, ← e_z, ← e_r]
  have c_ok := fun (wx : World) => all18 n wx.heap.size [s, t, u, v, z, r] (wx.alloc (.cells #[.int .u64 s, .int .u64 t, .int .u64 u, .int .u64 v, .int .u64 z, .int .u64 r] 24)) hn4 (by intro x hx; simp at hx; rcases hx with rfl | rfl | rfl | rfl | rfl | rfl <;> assumption) (by simp) (by simp) (RdU.new wx [s, t, u, v, z, r] 24)
  rw [← q_ok] at c_ok
  have C_ok := Lib.hid c_ok
  rw [e_ok, ← e_s, ← e_r] at hE
  have HE := Lib.hid hE
  clear hE hk he he0 hall hK HPl HMi HTi ok hn hn4 ha hb l_a f_a l_b f_b q_ok e_ok c_ok q_s l_s c_s e_s q_t l_t c_t e_t q_u l_u c_u e_u q_v l_v c_v e_v q_z l_z c_z e_z q_r l_r c_r e_r
  go_enter Try.func6, Try.ntmps6
  go_wp2_with fail
  refine HK.out.mono ?_
  rintro _ W_0 ⟨rfl, hb1⟩
  have HB : Hid (Below w.heap.size w W_0) := HB0.out.trans (hb1.mono HB0.out.size)
  clear hb1 HK HB0
  go_wp2_with fail
  refine (C_s.out _).mono ?_
  rintro _ W_s ⟨rfl, hb⟩
  replace HB := Lib.hid (keep_belowB HB.out hb (by have := HB.out.size; omega))
  clear hb C_s
  go_wp2_with fail
  refine (C_t.out _).mono ?_
  rintro _ W_t ⟨rfl, hb⟩
  replace HB := Lib.hid (keep_belowB HB.out hb (by have := HB.out.size; omega))
  clear hb C_t
  go_wp2_with fail
  refine (C_u.out _).mono ?_
  rintro _ W_u ⟨rfl, hb⟩
  replace HB := Lib.hid (keep_belowB HB.out hb (by have := HB.out.size; omega))
  clear hb C_u
  go_wp2_with fail
  refine (C_v.out _).mono ?_
  rintro _ W_v ⟨rfl, hb⟩
  replace HB := Lib.hid (keep_belowB HB.out hb (by have := HB.out.size; omega))
  clear hb C_v
  go_wp2_with fail
  refine (C_z.out _).mono ?_
  rintro _ W_z ⟨rfl, hb⟩
  replace HB := Lib.hid (keep_belowB HB.out hb (by have := HB.out.size; omega))
  clear hb C_z
  go_wp2_with fail
  refine (C_r.out _).mono ?_
  rintro _ W_r ⟨rfl, hb⟩
  replace HB := Lib.hid (keep_belowB HB.out hb (by have := HB.out.size; omega))
  clear hb C_r
  go_wp2_with fail
  refine (C_ok.out _).mono ?_
  rintro _ W_ok ⟨rfl, hb⟩
  replace HB := Lib.hid (keep_belowB (HB.out.alloc HB.out.size _) hb (by have := HB.out.size; simp <;> omega))
  clear hb C_ok
  cases ok1
  · skip
    go_wp2_with fail
    refine bodyPost_ret (v := .tuple #[.int .u64 0, .int .u64 0, .int .i64 7]) (by simp [results, Try.results6, go_sem]) rfl ?_
    exact ⟨by rw [HE.out]; rfl, HB.out⟩
  · skip
    go_wp2_with fail
    refine bodyPost_ret (v := .tuple #[.int .u64 s, .int .u64 r, .int .i64 0]) (by simp [results, Try.results6, go_sem]) rfl ?_
    exact ⟨by rw [HE.out]; rfl, HB.out⟩

set_option maxRecDepth 100000 in
set_option maxHeartbeats 8000000 in
theorem FastTwoSum18_any (n a b : Nat) (w : World) (hn : n = 2 ∨ n = 3) (ha : a < 18446744073709551616) (hb : b < 18446744073709551616) (hK : ∀ (b : Nat) (xs : List Nat) (wx : World), (∀ x ∈ xs, x < 18446744073709551616) → xs.length ≤ 100 → b < wx.heap.size → RdU wx b xs → Calls Try.prog 20 #[.int .i64 n, .slice (some ⟨b, 0, none⟩) xs.length xs.length] wx fun e w' => e = .returned (.int .i64 (knownE n xs)) ∧ Below wx.heap.size wx w') (hS : ∀ (x : Nat) (wx : World), x < 18446744073709551616 → Calls Try.prog 26 #[.int .i64 n, .int .u64 x] wx fun e w' => e = .returned (.int .u64 ((fm n).abs x : Nat)) ∧ wx = w') :
    Calls Try.prog 8 #[.int .i64 n, .int .u64 a, .int .u64 b] w fun e w' => e = .returned (tupE (fastE n a b)) ∧ Below w.heap.size w w' := by
  have hn4 : n < 4 := by omega
  have hk := hK w.heap.size [a, b] (w.alloc (.cells #[.int .u64 a, .int .u64 b] 24)) (by intro x hx; simp at hx; rcases hx with rfl | rfl <;> assumption) (by simp) (by simp) (RdU.new w [a, b] 24)
  have HB0 := Lib.hid (below_a w (.cells #[.int .u64 a, .int .u64 b] 24))
  obtain ⟨E, hE⟩ : ∃ E, E = fastE n a b := ⟨_, rfl⟩
  rw [← hE]
  unfold fastE at hE
  by_cases he : knownE n [a, b] ≠ 0
  · rw [if_pos he] at hE
    have te : (knownE n [a, b] != 0) = true := by simpa using he
    generalize knownE n [a, b] = e0 at *
    have HK := Lib.hid hk
    have HE := Lib.hid hE
    clear hk hE he hK ha hb hS hn hn4
    go_enter Try.func8, Try.ntmps8
    go_wp2_with fail
    refine HK.out.mono ?_
    rintro _ w1 ⟨rfl, hb1⟩
    have HB : Hid (Below w.heap.size w w1) := HB0.out.trans (hb1.mono HB0.out.size)
    clear hb1
    go_wp2_with fail
    refine bodyPost_ret (v := .tuple #[.int .u64 0, .int .u64 0, .int .i64 e0]) (by simp [results, Try.results8, go_sem]) rfl ?_
    exact ⟨by rw [HE.out]; rfl, HB.out⟩
  rw [if_neg he] at hE
  have he0 : knownE n [a, b] = 0 := by omega
  have hall := knownE_ok he0
  rw [he0] at hk
  have HK := Lib.hid hk
  obtain ⟨l_a, f_a⟩ := hall a (by simp)
  obtain ⟨l_b, f_b⟩ := hall b (by simp)
  have ok := fm_ok n
  have HPl : ∀ (x y : Nat) (wx : World), x < 2 ^ (fm n).w → y < 2 ^ (fm n).w → Calls Try.prog 21 #[.int .i64 n, .int .u64 x, .int .u64 y] wx fun e w' => e = .returned (.int .u64 (addR (fm n) x y : Nat)) ∧ Below wx.heap.size wx w' := by
    intro x y wx lx ly
    unfold addR
    exact rPlus18 n x y wx hn4 lx ly
  have HMi : ∀ (x y : Nat) (wx : World), x < 2 ^ (fm n).w → y < 2 ^ (fm n).w → Calls Try.prog 22 #[.int .i64 n, .int .u64 x, .int .u64 y] wx fun e w' => e = .returned (.int .u64 (subR (fm n) x y : Nat)) ∧ Below wx.heap.size wx w' := by
    intro x y wx lx ly
    unfold subR
    exact rMinus18 n x y wx hn4 lx ly
  have HTi : ∀ (x y : Nat) (wx : World), x < 2 ^ (fm n).w → y < 2 ^ (fm n).w → Calls Try.prog 33 #[.int .i64 n, .int .u64 x, .int .u64 y] wx fun e w' => e = .returned (.int .u64 (mulR (fm n) x y : Nat)) ∧ Below wx.heap.size wx w' := fun x y wx lx ly => rTimes18 n x y wx hn4 lx ly
  obtain ⟨s, q_s⟩ : ∃ q0, q0 = addR (fm n) a b := ⟨_, rfl⟩
  have l_s : s < 2 ^ (fm n).w := by rw [q_s]; exact addR_lt ok l_a l_b
  have c_s := fun wx => HPl a b wx l_a l_b
  rw [← q_s] at c_s
  have C_s := Lib.hid c_s
  have e_s : s = addR (fm n) a b := q_s.trans (by rfl)
  obtain ⟨t, q_t⟩ : ∃ q0, q0 = subR (fm n) s a := ⟨_, rfl⟩
  have l_t : t < 2 ^ (fm n).w := by rw [q_t]; exact subR_lt ok l_s l_a
  have c_t := fun wx => HMi s a wx l_s l_a
  rw [← q_t] at c_t
  have C_t := Lib.hid c_t
  have e_t : t = sT (fm n) a b := q_t.trans (by rw [e_s]; exact rfl)
  obtain ⟨r, q_r⟩ : ∃ q0, q0 = subR (fm n) b t := ⟨_, rfl⟩
  have l_r : r < 2 ^ (fm n).w := by rw [q_r]; exact subR_lt ok l_b l_t
  have c_r := fun wx => HMi b t wx l_b l_t
  rw [← q_r] at c_r
  have C_r := Lib.hid c_r
  have e_r : r = qR (fm n) a b := q_r.trans (by rw [e_t]; exact rfl)
  obtain ⟨ok1, q_ok⟩ : ∃ q0, q0 = [s, t, r].all (finP (fm n)) := ⟨_, rfl⟩
  have e_ok : (fastL (fm n) a b).all (finP (fm n)) = ok1 := by rw [q_ok]; unfold fastL; rw [← e_s, ← e_t, ← e_r]
  have c_ok := fun (wx : World) => all18 n wx.heap.size [s, t, r] (wx.alloc (.cells #[.int .u64 s, .int .u64 t, .int .u64 r] 24)) hn4 (by intro x hx; simp at hx; rcases hx with rfl | rfl | rfl <;> assumption) (by simp) (by simp) (RdU.new wx [s, t, r] 24)
  rw [← q_ok] at c_ok
  have C_ok := Lib.hid c_ok
  rw [e_ok, ← e_s, ← e_r] at hE
  have HSa := Lib.hid (fun wx => hS a wx ha)
  have HSb := Lib.hid (fun wx => hS b wx hb)
  generalize (fm n).abs a = xa at *
  generalize (fm n).abs b = xb at *
  obtain ⟨lt, hlt⟩ : ∃ q0, decide (xa < xb) = q0 := ⟨_, rfl⟩
  have hE2 : E = if lt = true then (0, 0, 7) else if ok1 = true then (s, r, 0) else (0, 0, 7) := by
    rw [hE, ← hlt]
    congr 1
    simp
  have HE := Lib.hid hE2
  clear hE hE2 hk he he0 hall hK hS HPl HMi HTi ok hn hn4 ha hb l_a f_a l_b f_b q_ok e_ok c_ok q_s l_s c_s e_s q_t l_t c_t e_t q_r l_r c_r e_r
  go_enter Try.func8, Try.ntmps8
  go_wp2_with fail
  refine HK.out.mono ?_
  rintro _ W_0 ⟨rfl, hb1⟩
  have HB : Hid (Below w.heap.size w W_0) := HB0.out.trans (hb1.mono HB0.out.size)
  clear hb1 HK HB0
  go_wp2_with fail
  refine (HSa.out _).mono ?_
  rintro _ _ ⟨rfl, rfl⟩
  go_wp2_with fail
  refine (HSb.out _).mono ?_
  rintro _ _ ⟨rfl, rfl⟩
  clear HSa HSb
  cases lt
  rotate_left
  · skip
    go_wp2_with fail
    refine bodyPost_ret (v := .tuple #[.int .u64 0, .int .u64 0, .int .i64 7]) (by simp [results, Try.results8, go_sem]) rfl ?_
    exact ⟨by rw [HE.out]; rfl, HB.out⟩
  go_wp2_with fail
  refine (C_s.out _).mono ?_
  rintro _ W_s ⟨rfl, hb⟩
  replace HB := Lib.hid (keep_belowB HB.out hb (by have := HB.out.size; omega))
  clear hb C_s
  go_wp2_with fail
  refine (C_t.out _).mono ?_
  rintro _ W_t ⟨rfl, hb⟩
  replace HB := Lib.hid (keep_belowB HB.out hb (by have := HB.out.size; omega))
  clear hb C_t
  go_wp2_with fail
  refine (C_r.out _).mono ?_
  rintro _ W_r ⟨rfl, hb⟩
  replace HB := Lib.hid (keep_belowB HB.out hb (by have := HB.out.size; omega))
  clear hb C_r
  go_wp2_with fail
  refine (C_ok.out _).mono ?_
  rintro _ W_ok ⟨rfl, hb⟩
  replace HB := Lib.hid (keep_belowB (HB.out.alloc HB.out.size _) hb (by have := HB.out.size; simp <;> omega))
  clear hb C_ok
  cases ok1
  · skip
    go_wp2_with fail
    refine bodyPost_ret (v := .tuple #[.int .u64 0, .int .u64 0, .int .i64 7]) (by simp [results, Try.results8, go_sem]) rfl ?_
    exact ⟨by rw [HE.out]; rfl, HB.out⟩
  · skip
    go_wp2_with fail
    refine bodyPost_ret (v := .tuple #[.int .u64 s, .int .u64 r, .int .i64 0]) (by simp [results, Try.results8, go_sem]) rfl ?_
    exact ⟨by rw [HE.out]; rfl, HB.out⟩

set_option maxRecDepth 100000 in
set_option maxHeartbeats 8000000 in
theorem split18_any (n a : Nat) (w : World) (hn : n = 2 ∨ n = 3) (l_a : a < 2 ^ (fm n).w) (hCn : ∀ (wx : World), Calls Try.prog 48 #[.int .i64 n] wx fun e w' => e = .returned (.int .u64 (kq n : Nat)) ∧ Below wx.heap.size wx w') :
    Calls Try.prog 29 #[.int .i64 n, .int .u64 a] w fun e w' => e = .returned (.tuple #[.int .u64 (hH (fm n) (kq n) a : Nat), .int .u64 (hL (fm n) (kq n) a : Nat), .bool ((halfL (fm n) (kq n) a).all (finP (fm n)))]) ∧ Below w.heap.size w w' := by
  have hn4 : n < 4 := by omega
  obtain ⟨K, q_K⟩ : ∃ K, K = kq n := ⟨_, rfl⟩
  have l_K : K < 2 ^ (fm n).w := by rw [q_K]; exact kq_lt n hn
  have e_K : K = kq n := q_K
  rw [← q_K] at hCn
  have ok := fm_ok n
  have HPl : ∀ (x y : Nat) (wx : World), x < 2 ^ (fm n).w → y < 2 ^ (fm n).w → Calls Try.prog 21 #[.int .i64 n, .int .u64 x, .int .u64 y] wx fun e w' => e = .returned (.int .u64 (addR (fm n) x y : Nat)) ∧ Below wx.heap.size wx w' := by
    intro x y wx lx ly
    unfold addR
    exact rPlus18 n x y wx hn4 lx ly
  have HMi : ∀ (x y : Nat) (wx : World), x < 2 ^ (fm n).w → y < 2 ^ (fm n).w → Calls Try.prog 22 #[.int .i64 n, .int .u64 x, .int .u64 y] wx fun e w' => e = .returned (.int .u64 (subR (fm n) x y : Nat)) ∧ Below wx.heap.size wx w' := by
    intro x y wx lx ly
    unfold subR
    exact rMinus18 n x y wx hn4 lx ly
  have HTi : ∀ (x y : Nat) (wx : World), x < 2 ^ (fm n).w → y < 2 ^ (fm n).w → Calls Try.prog 33 #[.int .i64 n, .int .u64 x, .int .u64 y] wx fun e w' => e = .returned (.int .u64 (mulR (fm n) x y : Nat)) ∧ Below wx.heap.size wx w' := fun x y wx lx ly => rTimes18 n x y wx hn4 lx ly
  obtain ⟨c, q_c⟩ : ∃ q0, q0 = mulR (fm n) K a := ⟨_, rfl⟩
  have l_c : c < 2 ^ (fm n).w := by rw [q_c]; exact mulR_lt ok l_K l_a
  have c_c := fun wx => HTi K a wx l_K l_a
  rw [← q_c] at c_c
  have C_c := Lib.hid c_c
  have e_c : c = hC (fm n) K a := q_c.trans (by rfl)
  obtain ⟨d, q_d⟩ : ∃ q0, q0 = subR (fm n) c a := ⟨_, rfl⟩
  have l_d : d < 2 ^ (fm n).w := by rw [q_d]; exact subR_lt ok l_c l_a
  have c_d := fun wx => HMi c a wx l_c l_a
  rw [← q_d] at c_d
  have C_d := Lib.hid c_d
  have e_d : d = hD (fm n) K a := q_d.trans (by rw [e_c]; exact rfl)
  obtain ⟨h, q_h⟩ : ∃ q0, q0 = subR (fm n) c d := ⟨_, rfl⟩
  have l_h : h < 2 ^ (fm n).w := by rw [q_h]; exact subR_lt ok l_c l_d
  have c_h := fun wx => HMi c d wx l_c l_d
  rw [← q_h] at c_h
  have C_h := Lib.hid c_h
  have e_h : h = hH (fm n) K a := q_h.trans (by rw [e_c, e_d]; exact rfl)
  obtain ⟨l, q_l⟩ : ∃ q0, q0 = subR (fm n) a h := ⟨_, rfl⟩
  have l_l : l < 2 ^ (fm n).w := by rw [q_l]; exact subR_lt ok l_a l_h
  have c_l := fun wx => HMi a h wx l_a l_h
  rw [← q_l] at c_l
  have C_l := Lib.hid c_l
  have e_l : l = hL (fm n) K a := q_l.trans (by rw [e_h]; exact rfl)
  obtain ⟨ok1, q_ok⟩ : ∃ q0, q0 = [c, d, h, l].all (finP (fm n)) := ⟨_, rfl⟩
  have e_ok : (halfL (fm n) K a).all (finP (fm n)) = ok1 := by rw [q_ok]; unfold halfL; rw [← e_c, ← e_d, ← e_h, ← e_l]
  have c_ok := fun (wx : World) => all18 n wx.heap.size [c, d, h, l] (wx.alloc (.cells #[.int .u64 c, .int .u64 d, .int .u64 h, .int .u64 l] 24)) hn4 (by intro x hx; simp at hx; rcases hx with rfl | rfl | rfl | rfl <;> assumption) (by simp) (by simp) (RdU.new wx [c, d, h, l] 24)
  rw [← q_ok] at c_ok
  have C_ok := Lib.hid c_ok
  rw [← e_K, e_ok, ← e_h, ← e_l]
  have HC := Lib.hid hCn
  have HB := Lib.hid (Below.refl w.heap.size w)
  clear HPl HMi HTi ok hn hn4 l_a q_ok e_ok c_ok hCn q_K l_K e_K q_c l_c c_c e_c q_d l_d c_d e_d q_h l_h c_h e_h q_l l_l c_l e_l
  go_enter Try.func29, Try.ntmps29
  go_wp2_with fail
  refine (HC.out _).mono ?_
  rintro _ W_K ⟨rfl, hb⟩
  replace HB := Lib.hid (keep_belowB HB.out hb (by have := HB.out.size; omega))
  clear hb HC
  go_wp2_with fail
  refine (C_c.out _).mono ?_
  rintro _ W_c ⟨rfl, hb⟩
  replace HB := Lib.hid (keep_belowB HB.out hb (by have := HB.out.size; omega))
  clear hb C_c
  go_wp2_with fail
  refine (C_d.out _).mono ?_
  rintro _ W_d ⟨rfl, hb⟩
  replace HB := Lib.hid (keep_belowB HB.out hb (by have := HB.out.size; omega))
  clear hb C_d
  go_wp2_with fail
  refine (C_h.out _).mono ?_
  rintro _ W_h ⟨rfl, hb⟩
  replace HB := Lib.hid (keep_belowB HB.out hb (by have := HB.out.size; omega))
  clear hb C_h
  go_wp2_with fail
  refine (C_l.out _).mono ?_
  rintro _ W_l ⟨rfl, hb⟩
  replace HB := Lib.hid (keep_belowB HB.out hb (by have := HB.out.size; omega))
  clear hb C_l
  go_wp2_with fail
  refine (C_ok.out _).mono ?_
  rintro _ W_ok ⟨rfl, hb⟩
  replace HB := Lib.hid (keep_belowB (HB.out.alloc HB.out.size _) hb (by have := HB.out.size; simp <;> omega))
  clear hb C_ok
  go_wp2_with fail
  refine bodyPost_ret (v := .tuple #[.int .u64 h, .int .u64 l, .bool ok1]) (by simp [results, Try.results29, go_sem]) rfl ?_
  exact ⟨rfl, HB.out⟩

set_option maxRecDepth 100000 in
set_option maxHeartbeats 8000000 in
theorem Split18_any (n a : Nat) (w : World) (hn : n = 2 ∨ n = 3) (ha : a < 18446744073709551616) (hK : ∀ (b : Nat) (xs : List Nat) (wx : World), (∀ x ∈ xs, x < 18446744073709551616) → xs.length ≤ 100 → b < wx.heap.size → RdU wx b xs → Calls Try.prog 20 #[.int .i64 n, .slice (some ⟨b, 0, none⟩) xs.length xs.length] wx fun e w' => e = .returned (.int .i64 (knownE n xs)) ∧ Below wx.heap.size wx w') (hSp : ∀ (x : Nat) (wx : World), x < 2 ^ (fm n).w → Calls Try.prog 29 #[.int .i64 n, .int .u64 x] wx fun e w' => e = .returned (.tuple #[.int .u64 (hH (fm n) (kq n) x : Nat), .int .u64 (hL (fm n) (kq n) x : Nat), .bool ((halfL (fm n) (kq n) x).all (finP (fm n)))]) ∧ Below wx.heap.size wx w') :
    Calls Try.prog 10 #[.int .i64 n, .int .u64 a] w fun e w' => e = .returned (tupE (splitE n a)) ∧ Below w.heap.size w w' := by
  have hn4 : n < 4 := by omega
  have hk := hK w.heap.size [a] (w.alloc (.cells #[.int .u64 a] 24)) (by intro x hx; simp at hx; rcases hx with rfl <;> assumption) (by simp) (by simp) (RdU.new w [a] 24)
  have HB0 := Lib.hid (below_a w (.cells #[.int .u64 a] 24))
  obtain ⟨E, hE⟩ : ∃ E, E = splitE n a := ⟨_, rfl⟩
  rw [← hE]
  unfold splitE at hE
  by_cases he : knownE n [a] ≠ 0
  · rw [if_pos he] at hE
    have te : (knownE n [a] != 0) = true := by simpa using he
    generalize knownE n [a] = e0 at *
    have HK := Lib.hid hk
    have HE := Lib.hid hE
    clear hk hE he hK ha hSp hn hn4
    go_enter Try.func10, Try.ntmps10
    go_wp2_with fail
    refine HK.out.mono ?_
    rintro _ w1 ⟨rfl, hb1⟩
    have HB : Hid (Below w.heap.size w w1) := HB0.out.trans (hb1.mono HB0.out.size)
    clear hb1
    go_wp2_with fail
    refine bodyPost_ret (v := .tuple #[.int .u64 0, .int .u64 0, .int .i64 e0]) (by simp [results, Try.results10, go_sem]) rfl ?_
    exact ⟨by rw [HE.out]; rfl, HB.out⟩
  rw [if_neg he] at hE
  have he0 : knownE n [a] = 0 := by omega
  have hall := knownE_ok he0
  rw [he0] at hk
  have HK := Lib.hid hk
  obtain ⟨l_a, f_a⟩ := hall a (by simp)
  have CS := Lib.hid (fun wx => hSp a wx l_a)
  generalize hH (fm n) (kq n) a = h at *
  generalize hL (fm n) (kq n) a = l at *
  generalize (halfL (fm n) (kq n) a).all (finP (fm n)) = ok1 at *
  have HE := Lib.hid hE
  clear hE hk he he0 hall hK hSp hn hn4 ha l_a f_a
  go_enter Try.func10, Try.ntmps10
  go_wp2_with fail
  refine HK.out.mono ?_
  rintro _ W_0 ⟨rfl, hb1⟩
  have HB : Hid (Below w.heap.size w W_0) := HB0.out.trans (hb1.mono HB0.out.size)
  clear hb1 HK HB0
  go_wp2_with fail
  refine (CS.out _).mono ?_
  rintro _ W_s ⟨rfl, hb⟩
  replace HB := Lib.hid (keep_belowB HB.out hb (by have := HB.out.size; omega))
  clear hb CS
  cases ok1
  · skip
    go_wp2_with fail
    refine bodyPost_ret (v := .tuple #[.int .u64 0, .int .u64 0, .int .i64 7]) (by simp [results, Try.results10, go_sem]) rfl ?_
    exact ⟨by rw [HE.out]; rfl, HB.out⟩
  · skip
    go_wp2_with fail
    refine bodyPost_ret (v := .tuple #[.int .u64 h, .int .u64 l, .int .i64 0]) (by simp [results, Try.results10, go_sem]) rfl ?_
    exact ⟨by rw [HE.out]; rfl, HB.out⟩

set_option maxRecDepth 100000 in
set_option maxHeartbeats 8000000 in
theorem TwoProd18_any (n a b : Nat) (w : World) (hn : n = 2 ∨ n = 3) (ha : a < 18446744073709551616) (hb : b < 18446744073709551616) (hK : ∀ (b : Nat) (xs : List Nat) (wx : World), (∀ x ∈ xs, x < 18446744073709551616) → xs.length ≤ 100 → b < wx.heap.size → RdU wx b xs → Calls Try.prog 20 #[.int .i64 n, .slice (some ⟨b, 0, none⟩) xs.length xs.length] wx fun e w' => e = .returned (.int .i64 (knownE n xs)) ∧ Below wx.heap.size wx w') (hSp : ∀ (x : Nat) (wx : World), x < 2 ^ (fm n).w → Calls Try.prog 29 #[.int .i64 n, .int .u64 x] wx fun e w' => e = .returned (.tuple #[.int .u64 (hH (fm n) (kq n) x : Nat), .int .u64 (hL (fm n) (kq n) x : Nat), .bool ((halfL (fm n) (kq n) x).all (finP (fm n)))]) ∧ Below wx.heap.size wx w') (hS : ∀ (x : Nat) (wx : World), x < 18446744073709551616 → Calls Try.prog 26 #[.int .i64 n, .int .u64 x] wx fun e w' => e = .returned (.int .u64 ((fm n).abs x : Nat)) ∧ wx = w')
    (hM : ∀ (x : Nat) (wx : World), x < 2 ^ (fm n).w → finP (fm n) x = true → Calls Try.prog 34 #[.int .i64 n, .int .u64 x] wx fun e w' => e = .returned (.bool (smallP (fm n) x)) ∧ Below wx.heap.size wx w') :
    Calls Try.prog 12 #[.int .i64 n, .int .u64 a, .int .u64 b] w fun e w' => e = .returned (tupE (prodE n a b)) ∧ Below w.heap.size w w' := by
  have hn4 : n < 4 := by omega
  have hk := hK w.heap.size [a, b] (w.alloc (.cells #[.int .u64 a, .int .u64 b] 24)) (by intro x hx; simp at hx; rcases hx with rfl | rfl <;> assumption) (by simp) (by simp) (RdU.new w [a, b] 24)
  have HB0 := Lib.hid (below_a w (.cells #[.int .u64 a, .int .u64 b] 24))
  obtain ⟨E, hE⟩ : ∃ E, E = prodE n a b := ⟨_, rfl⟩
  rw [← hE]
  unfold prodE at hE
  by_cases he : knownE n [a, b] ≠ 0
  · rw [if_pos he] at hE
    have te : (knownE n [a, b] != 0) = true := by simpa using he
    generalize knownE n [a, b] = e0 at *
    have HK := Lib.hid hk
    have HE := Lib.hid hE
    clear hk hE he hK ha hb hSp hS hM hn hn4
    go_enter Try.func12, Try.ntmps12
    go_wp2_with fail
    refine HK.out.mono ?_
    rintro _ w1 ⟨rfl, hb1⟩
    have HB : Hid (Below w.heap.size w w1) := HB0.out.trans (hb1.mono HB0.out.size)
    clear hb1
    go_wp2_with fail
    refine bodyPost_ret (v := .tuple #[.int .u64 0, .int .u64 0, .int .i64 e0]) (by simp [results, Try.results12, go_sem]) rfl ?_
    exact ⟨by rw [HE.out]; rfl, HB.out⟩
  rw [if_neg he] at hE
  have he0 : knownE n [a, b] = 0 := by omega
  have hall := knownE_ok he0
  rw [he0] at hk
  have HK := Lib.hid hk
  obtain ⟨l_a, f_a⟩ := hall a (by simp)
  obtain ⟨l_b, f_b⟩ := hall b (by simp)
  have ok := fm_ok n
  have HPl : ∀ (x y : Nat) (wx : World), x < 2 ^ (fm n).w → y < 2 ^ (fm n).w → Calls Try.prog 21 #[.int .i64 n, .int .u64 x, .int .u64 y] wx fun e w' => e = .returned (.int .u64 (addR (fm n) x y : Nat)) ∧ Below wx.heap.size wx w' := by
    intro x y wx lx ly
    unfold addR
    exact rPlus18 n x y wx hn4 lx ly
  have HMi : ∀ (x y : Nat) (wx : World), x < 2 ^ (fm n).w → y < 2 ^ (fm n).w → Calls Try.prog 22 #[.int .i64 n, .int .u64 x, .int .u64 y] wx fun e w' => e = .returned (.int .u64 (subR (fm n) x y : Nat)) ∧ Below wx.heap.size wx w' := by
    intro x y wx lx ly
    unfold subR
    exact rMinus18 n x y wx hn4 lx ly
  have HTi : ∀ (x y : Nat) (wx : World), x < 2 ^ (fm n).w → y < 2 ^ (fm n).w → Calls Try.prog 33 #[.int .i64 n, .int .u64 x, .int .u64 y] wx fun e w' => e = .returned (.int .u64 (mulR (fm n) x y : Nat)) ∧ Below wx.heap.size wx w' := fun x y wx lx ly => rTimes18 n x y wx hn4 lx ly
  obtain ⟨p, q_p⟩ : ∃ q0, q0 = mulR (fm n) a b := ⟨_, rfl⟩
  have l_p : p < 2 ^ (fm n).w := by rw [q_p]; exact mulR_lt ok l_a l_b
  have c_p := fun wx => HTi a b wx l_a l_b
  rw [← q_p] at c_p
  have C_p := Lib.hid c_p
  have e_p : p = mulR (fm n) a b := q_p.trans (by rfl)
  have c_sa := fun wx => hSp a wx l_a
  have c_sb := fun wx => hSp b wx l_b
  have l_kq := kq_lt n hn
  have l_c0 : hC (fm n) (kq n) a < 2 ^ (fm n).w := mulR_lt ok l_kq l_a
  have l_c1 : hC (fm n) (kq n) b < 2 ^ (fm n).w := mulR_lt ok l_kq l_b
  have l_h0 : hH (fm n) (kq n) a < 2 ^ (fm n).w := subR_lt ok l_c0 (subR_lt ok l_c0 l_a)
  have l_h1 : hH (fm n) (kq n) b < 2 ^ (fm n).w := subR_lt ok l_c1 (subR_lt ok l_c1 l_b)
  have l_l0 : hL (fm n) (kq n) a < 2 ^ (fm n).w := subR_lt ok l_a l_h0
  have l_l1 : hL (fm n) (kq n) b < 2 ^ (fm n).w := subR_lt ok l_b l_h1
  obtain ⟨h, e_h⟩ : ∃ q0, q0 = hH (fm n) (kq n) a := ⟨_, rfl⟩
  obtain ⟨l, e_l⟩ : ∃ q0, q0 = hL (fm n) (kq n) a := ⟨_, rfl⟩
  obtain ⟨i, e_i⟩ : ∃ q0, q0 = hH (fm n) (kq n) b := ⟨_, rfl⟩
  obtain ⟨j, e_j⟩ : ∃ q0, q0 = hL (fm n) (kq n) b := ⟨_, rfl⟩
  obtain ⟨oa, e_oa⟩ : ∃ q0, q0 = (halfL (fm n) (kq n) a).all (finP (fm n)) := ⟨_, rfl⟩
  obtain ⟨ob, e_ob⟩ : ∃ q0, q0 = (halfL (fm n) (kq n) b).all (finP (fm n)) := ⟨_, rfl⟩
  rw [← e_h, ← e_l, ← e_oa] at c_sa
  rw [← e_i, ← e_j, ← e_ob] at c_sb
  have l_h : h < 2 ^ (fm n).w := by rw [e_h]; exact l_h0
  have l_l : l < 2 ^ (fm n).w := by rw [e_l]; exact l_l0
  have l_i : i < 2 ^ (fm n).w := by rw [e_i]; exact l_h1
  have l_j : j < 2 ^ (fm n).w := by rw [e_j]; exact l_l1
  have C_sa := Lib.hid c_sa
  have C_sb := Lib.hid c_sb
  obtain ⟨g, q_g⟩ : ∃ q0, q0 = mulR (fm n) h i := ⟨_, rfl⟩
  have l_g : g < 2 ^ (fm n).w := by rw [q_g]; exact mulR_lt ok l_h l_i
  have c_g := fun wx => HTi h i wx l_h l_i
  rw [← q_g] at c_g
  have C_g := Lib.hid c_g
  have e_g : g = pG (fm n) (kq n) a b := q_g.trans (by rw [e_h, e_i]; exact rfl)
  obtain ⟨wv, q_wv⟩ : ∃ q0, q0 = subR (fm n) g p := ⟨_, rfl⟩
  have l_wv : wv < 2 ^ (fm n).w := by rw [q_wv]; exact subR_lt ok l_g l_p
  have c_wv := fun wx => HMi g p wx l_g l_p
  rw [← q_wv] at c_wv
  have C_wv := Lib.hid c_wv
  have e_wv : wv = pW (fm n) (kq n) a b := q_wv.trans (by rw [e_g, e_p]; exact rfl)
  obtain ⟨hj, q_hj⟩ : ∃ q0, q0 = mulR (fm n) h j := ⟨_, rfl⟩
  have l_hj : hj < 2 ^ (fm n).w := by rw [q_hj]; exact mulR_lt ok l_h l_j
  have c_hj := fun wx => HTi h j wx l_h l_j
  rw [← q_hj] at c_hj
  have C_hj := Lib.hid c_hj
  have e_hj : hj = pHJ (fm n) (kq n) a b := q_hj.trans (by rw [e_h, e_j]; exact rfl)
  obtain ⟨x, q_x⟩ : ∃ q0, q0 = addR (fm n) wv hj := ⟨_, rfl⟩
  have l_x : x < 2 ^ (fm n).w := by rw [q_x]; exact addR_lt ok l_wv l_hj
  have c_x := fun wx => HPl wv hj wx l_wv l_hj
  rw [← q_x] at c_x
  have C_x := Lib.hid c_x
  have e_x : x = pX (fm n) (kq n) a b := q_x.trans (by rw [e_wv, e_hj]; exact rfl)
  obtain ⟨li, q_li⟩ : ∃ q0, q0 = mulR (fm n) l i := ⟨_, rfl⟩
  have l_li : li < 2 ^ (fm n).w := by rw [q_li]; exact mulR_lt ok l_l l_i
  have c_li := fun wx => HTi l i wx l_l l_i
  rw [← q_li] at c_li
  have C_li := Lib.hid c_li
  have e_li : li = pLI (fm n) (kq n) a b := q_li.trans (by rw [e_l, e_i]; exact rfl)
  obtain ⟨y, q_y⟩ : ∃ q0, q0 = addR (fm n) x li := ⟨_, rfl⟩
  have l_y : y < 2 ^ (fm n).w := by rw [q_y]; exact addR_lt ok l_x l_li
  have c_y := fun wx => HPl x li wx l_x l_li
  rw [← q_y] at c_y
  have C_y := Lib.hid c_y
  have e_y : y = pY (fm n) (kq n) a b := q_y.trans (by rw [e_x, e_li]; exact rfl)
  obtain ⟨lj, q_lj⟩ : ∃ q0, q0 = mulR (fm n) l j := ⟨_, rfl⟩
  have l_lj : lj < 2 ^ (fm n).w := by rw [q_lj]; exact mulR_lt ok l_l l_j
  have c_lj := fun wx => HTi l j wx l_l l_j
  rw [← q_lj] at c_lj
  have C_lj := Lib.hid c_lj
  have e_lj : lj = pLJ (fm n) (kq n) a b := q_lj.trans (by rw [e_l, e_j]; exact rfl)
  obtain ⟨r, q_r⟩ : ∃ q0, q0 = addR (fm n) y lj := ⟨_, rfl⟩
  have l_r : r < 2 ^ (fm n).w := by rw [q_r]; exact addR_lt ok l_y l_lj
  have c_r := fun wx => HPl y lj wx l_y l_lj
  rw [← q_r] at c_r
  have C_r := Lib.hid c_r
  have e_r : r = pR (fm n) (kq n) a b := q_r.trans (by rw [e_y, e_lj]; exact rfl)
  obtain ⟨ok1, q_ok⟩ : ∃ q0, q0 = [p, g, wv, hj, x, li, y, lj, r].all (finP (fm n)) := ⟨_, rfl⟩
  have e_ok : (prodL (fm n) (kq n) a b).all (finP (fm n)) = ok1 := by rw [q_ok]; unfold prodL; rw [← e_p, ← e_g, ← e_wv, ← e_hj, ← e_x, ← e_li, ← e_y, ← e_lj, ← e_r]
  have c_ok := fun (wx : World) => all18 n wx.heap.size [p, g, wv, hj, x, li, y, lj, r] (wx.alloc (.cells #[.int .u64 p, .int .u64 g, .int .u64 wv, .int .u64 hj, .int .u64 x, .int .u64 li, .int .u64 y, .int .u64 lj, .int .u64 r] 24)) hn4 (by intro x hx; simp at hx; rcases hx with rfl | rfl | rfl | rfl | rfl | rfl | rfl | rfl | rfl <;> assumption) (by simp) (by simp) (RdU.new wx [p, g, wv, hj, x, li, y, lj, r] 24)
  rw [← q_ok] at c_ok
  have C_ok := Lib.hid c_ok
  have hpf : ok1 = true → finP (fm n) p = true := by
    intro h; rw [q_ok] at h; exact List.all_eq_true.1 h p (by simp)
  have c_sm := fun (h : ok1 = true) wx => hM p wx l_p (hpf h)
  have HSa := Lib.hid (fun wx => hS a wx ha)
  have HSb := Lib.hid (fun wx => hS b wx hb)
  unfold prodOk at hE
  rw [← e_oa, ← e_ob, e_ok, ← e_p, ← e_r, isZero_abs, isZero_abs] at hE
  generalize (fm n).abs a = xa at *
  generalize (fm n).abs b = xb at *
  generalize smallP (fm n) p = sm at *
  have C_sm := Lib.hid c_sm
  obtain ⟨na, hna⟩ : ∃ q0, ((xa : Int) != 0) = q0 := ⟨_, rfl⟩
  obtain ⟨nb, hnb⟩ : ∃ q0, ((xb : Int) != 0) = q0 := ⟨_, rfl⟩
  have ea : (!decide (xa = 0)) = na := by rw [← hna]; by_cases h : xa = 0 <;> simp [h]
  have eb : (!decide (xb = 0)) = nb := by rw [← hnb]; by_cases h : xb = 0 <;> simp [h]
  rw [ea, eb] at hE
  have HE := Lib.hid hE
  clear hE hk he he0 hall hK hS hSp hM HPl HMi HTi ok hn hn4 ha hb l_a f_a l_b f_b q_ok e_ok c_ok hpf c_sm c_sa c_sb ea eb l_kq l_c0 l_c1 l_h0 l_h1 l_l0 l_l1 e_h e_l e_i e_j e_oa e_ob l_h l_l l_i l_j q_p l_p c_p e_p q_g l_g c_g e_g q_wv l_wv c_wv e_wv q_hj l_hj c_hj e_hj q_x l_x c_x e_x q_li l_li c_li e_li q_y l_y c_y e_y q_lj l_lj c_lj e_lj q_r l_r c_r e_r
  go_enter Try.func12, Try.ntmps12
  go_wp2_with fail
  refine HK.out.mono ?_
  rintro _ W_0 ⟨rfl, hb1⟩
  have HB : Hid (Below w.heap.size w W_0) := HB0.out.trans (hb1.mono HB0.out.size)
  clear hb1 HK HB0
  go_wp2_with fail
  refine (C_p.out _).mono ?_
  rintro _ W_p ⟨rfl, hb⟩
  replace HB := Lib.hid (keep_belowB HB.out hb (by have := HB.out.size; omega))
  clear hb C_p
  go_wp2_with fail
  refine (C_sa.out _).mono ?_
  rintro _ W_sa ⟨rfl, hb⟩
  replace HB := Lib.hid (keep_belowB HB.out hb (by have := HB.out.size; omega))
  clear hb C_sa
  go_wp2_with fail
  refine (C_sb.out _).mono ?_
  rintro _ W_sb ⟨rfl, hb⟩
  replace HB := Lib.hid (keep_belowB HB.out hb (by have := HB.out.size; omega))
  clear hb C_sb
  go_wp2_with fail
  refine (C_g.out _).mono ?_
  rintro _ W_g ⟨rfl, hb⟩
  replace HB := Lib.hid (keep_belowB HB.out hb (by have := HB.out.size; omega))
  clear hb C_g
  go_wp2_with fail
  refine (C_wv.out _).mono ?_
  rintro _ W_wv ⟨rfl, hb⟩
  replace HB := Lib.hid (keep_belowB HB.out hb (by have := HB.out.size; omega))
  clear hb C_wv
  go_wp2_with fail
  refine (C_hj.out _).mono ?_
  rintro _ W_hj ⟨rfl, hb⟩
  replace HB := Lib.hid (keep_belowB HB.out hb (by have := HB.out.size; omega))
  clear hb C_hj
  go_wp2_with fail
  refine (C_x.out _).mono ?_
  rintro _ W_x ⟨rfl, hb⟩
  replace HB := Lib.hid (keep_belowB HB.out hb (by have := HB.out.size; omega))
  clear hb C_x
  go_wp2_with fail
  refine (C_li.out _).mono ?_
  rintro _ W_li ⟨rfl, hb⟩
  replace HB := Lib.hid (keep_belowB HB.out hb (by have := HB.out.size; omega))
  clear hb C_li
  go_wp2_with fail
  refine (C_y.out _).mono ?_
  rintro _ W_y ⟨rfl, hb⟩
  replace HB := Lib.hid (keep_belowB HB.out hb (by have := HB.out.size; omega))
  clear hb C_y
  go_wp2_with fail
  refine (C_lj.out _).mono ?_
  rintro _ W_lj ⟨rfl, hb⟩
  replace HB := Lib.hid (keep_belowB HB.out hb (by have := HB.out.size; omega))
  clear hb C_lj
  go_wp2_with fail
  refine (C_r.out _).mono ?_
  rintro _ W_r ⟨rfl, hb⟩
  replace HB := Lib.hid (keep_belowB HB.out hb (by have := HB.out.size; omega))
  clear hb C_r
  cases oa
  · skip
    go_wp2_with fail
    refine bodyPost_ret (v := .tuple #[.int .u64 0, .int .u64 0, .int .i64 7]) (by simp [results, Try.results12, go_sem]) rfl ?_
    exact ⟨by rw [HE.out]; rfl, HB.out⟩
  cases ob
  · skip
    go_wp2_with fail
    refine bodyPost_ret (v := .tuple #[.int .u64 0, .int .u64 0, .int .i64 7]) (by simp [results, Try.results12, go_sem]) rfl ?_
    exact ⟨by rw [HE.out]; rfl, HB.out⟩
  go_wp2_with fail
  refine (C_ok.out _).mono ?_
  rintro _ W_ok ⟨rfl, hb⟩
  replace HB := Lib.hid (keep_belowB (HB.out.alloc HB.out.size _) hb (by have := HB.out.size; simp <;> omega))
  clear hb C_ok
  cases ok1
  · skip
    go_wp2_with fail
    refine bodyPost_ret (v := .tuple #[.int .u64 0, .int .u64 0, .int .i64 7]) (by simp [results, Try.results12, go_sem]) rfl ?_
    exact ⟨by rw [HE.out]; rfl, HB.out⟩
  go_wp2_with fail
  refine (HSa.out _).mono ?_
  rintro _ _ ⟨rfl, rfl⟩
  clear HSa
  cases na
  · skip
    go_wp2_with fail
    refine bodyPost_ret (v := .tuple #[.int .u64 p, .int .u64 r, .int .i64 0]) (by simp [results, Try.results12, go_sem]) rfl ?_
    exact ⟨by rw [HE.out]; rfl, HB.out⟩
  go_wp2_with fail
  refine (HSb.out _).mono ?_
  rintro _ _ ⟨rfl, rfl⟩
  clear HSb
  cases nb
  · skip
    go_wp2_with fail
    refine bodyPost_ret (v := .tuple #[.int .u64 p, .int .u64 r, .int .i64 0]) (by simp [results, Try.results12, go_sem]) rfl ?_
    exact ⟨by rw [HE.out]; rfl, HB.out⟩
  go_wp2_with fail
  refine (C_sm.out (by simp) _).mono ?_
  rintro _ W_sm ⟨rfl, hb⟩
  replace HB := Lib.hid (keep_belowB HB.out hb (by have := HB.out.size; omega))
  clear hb C_sm
  cases sm
  · skip
    go_wp2_with fail
    refine bodyPost_ret (v := .tuple #[.int .u64 p, .int .u64 r, .int .i64 0]) (by simp [results, Try.results12, go_sem]) rfl ?_
    exact ⟨by rw [HE.out]; rfl, HB.out⟩
  · skip
    go_wp2_with fail
    refine bodyPost_ret (v := .tuple #[.int .u64 0, .int .u64 0, .int .i64 7]) (by simp [results, Try.results12, go_sem]) rfl ?_
    exact ⟨by rw [HE.out]; rfl, HB.out⟩

theorem const'_2 (wx : World) : Calls Try.prog 48 #[.int .i64 (2 : Nat)] wx fun e w' => e = .returned (.int .u64 (kq 2 : Nat)) ∧ Below wx.heap.size wx w' := const_2 wx
theorem split'_2 (x : Nat) (wx : World) (hx : x < 2 ^ (fm 2).w) : Calls Try.prog 29 #[.int .i64 (2 : Nat), .int .u64 x] wx fun e w' => e = .returned (.tuple #[.int .u64 (hH (fm 2) (kq 2) x : Nat), .int .u64 (hL (fm 2) (kq 2) x : Nat), .bool ((halfL (fm 2) (kq 2) x).all (finP (fm 2)))]) ∧ Below wx.heap.size wx w' := split18_any 2 x wx (by decide) hx const'_2
theorem TwoSum18_2 (a b : Nat) (w : World) (ha : a < 18446744073709551616) (hb : b < 18446744073709551616) : Calls Try.prog 6 #[.int .i64 (2 : Nat), .int .u64 a, .int .u64 b] w fun e w' => e = .returned (tupE (sumE 2 a b)) ∧ Below w.heap.size w w' := TwoSum18_any 2 a b w (by decide) ha hb known_2
theorem FastTwoSum18_2 (a b : Nat) (w : World) (ha : a < 18446744073709551616) (hb : b < 18446744073709551616) : Calls Try.prog 8 #[.int .i64 (2 : Nat), .int .u64 a, .int .u64 b] w fun e w' => e = .returned (tupE (fastE 2 a b)) ∧ Below w.heap.size w w' := FastTwoSum18_any 2 a b w (by decide) ha hb known_2 (fun x wx hx => size_2 x wx hx)
theorem Split18_2 (a : Nat) (w : World) (ha : a < 18446744073709551616) : Calls Try.prog 10 #[.int .i64 (2 : Nat), .int .u64 a] w fun e w' => e = .returned (tupE (splitE 2 a)) ∧ Below w.heap.size w w' := Split18_any 2 a w (by decide) ha known_2 split'_2
theorem TwoProd18_2 (a b : Nat) (w : World) (ha : a < 18446744073709551616) (hb : b < 18446744073709551616) : Calls Try.prog 12 #[.int .i64 (2 : Nat), .int .u64 a, .int .u64 b] w fun e w' => e = .returned (tupE (prodE 2 a b)) ∧ Below w.heap.size w w' := TwoProd18_any 2 a b w (by decide) ha hb known_2 split'_2 (fun x wx hx => size_2 x wx hx) (fun x wx hx hf => small_2 x wx hx hf)


theorem const'_3 (wx : World) : Calls Try.prog 48 #[.int .i64 (3 : Nat)] wx fun e w' => e = .returned (.int .u64 (kq 3 : Nat)) ∧ Below wx.heap.size wx w' := const_3 wx
theorem split'_3 (x : Nat) (wx : World) (hx : x < 2 ^ (fm 3).w) : Calls Try.prog 29 #[.int .i64 (3 : Nat), .int .u64 x] wx fun e w' => e = .returned (.tuple #[.int .u64 (hH (fm 3) (kq 3) x : Nat), .int .u64 (hL (fm 3) (kq 3) x : Nat), .bool ((halfL (fm 3) (kq 3) x).all (finP (fm 3)))]) ∧ Below wx.heap.size wx w' := split18_any 3 x wx (by decide) hx const'_3
theorem TwoSum18_3 (a b : Nat) (w : World) (ha : a < 18446744073709551616) (hb : b < 18446744073709551616) : Calls Try.prog 6 #[.int .i64 (3 : Nat), .int .u64 a, .int .u64 b] w fun e w' => e = .returned (tupE (sumE 3 a b)) ∧ Below w.heap.size w w' := TwoSum18_any 3 a b w (by decide) ha hb known_3
theorem FastTwoSum18_3 (a b : Nat) (w : World) (ha : a < 18446744073709551616) (hb : b < 18446744073709551616) : Calls Try.prog 8 #[.int .i64 (3 : Nat), .int .u64 a, .int .u64 b] w fun e w' => e = .returned (tupE (fastE 3 a b)) ∧ Below w.heap.size w w' := FastTwoSum18_any 3 a b w (by decide) ha hb known_3 (fun x wx hx => size_3 x wx hx)
theorem Split18_3 (a : Nat) (w : World) (ha : a < 18446744073709551616) : Calls Try.prog 10 #[.int .i64 (3 : Nat), .int .u64 a] w fun e w' => e = .returned (tupE (splitE 3 a)) ∧ Below w.heap.size w w' := Split18_any 3 a w (by decide) ha known_3 split'_3
theorem TwoProd18_3 (a b : Nat) (w : World) (ha : a < 18446744073709551616) (hb : b < 18446744073709551616) : Calls Try.prog 12 #[.int .i64 (3 : Nat), .int .u64 a, .int .u64 b] w fun e w' => e = .returned (tupE (prodE 3 a b)) ∧ Below w.heap.size w w' := TwoProd18_any 3 a b w (by decide) ha hb known_3 split'_3 (fun x wx hx => size_3 x wx hx) (fun x wx hx hf => small_3 x wx hx hf)


theorem known_any_bad (f : Int) (xs : List Nat) (h2 : f ≠ 2) (h3 : f ≠ 3) : knownR f xs = 2 := by unfold knownR; rw [if_neg (by omega)]


theorem TwoSum18_bad (f : Int) (a b : Nat) (w : World) (h2 : f ≠ 2) (h3 : f ≠ 3) :
    Calls Try.prog 6 #[.int .i64 f, .int .u64 a, .int .u64 b] w fun e w' => e = .returned (.tuple #[.int .u64 0, .int .u64 0, .int .i64 2]) ∧ Below w.heap.size w w' := by
  have HK := Lib.hid (fun s wx => known_bad f s wx h2 h3)
  have HB0 := Lib.hid (below_a w (.cells #[.int .u64 a, .int .u64 b] 24))
  clear h2 h3
  go_enter Try.func6, Try.ntmps6
  go_wp2_with fail
  refine (HK.out _ _).mono ?_
  rintro _ w1 ⟨rfl, hb1⟩
  have HB : Hid (Below w.heap.size w w1) := HB0.out.trans (hb1.mono HB0.out.size)
  clear hb1 HK
  go_wp2_with fail
  refine bodyPost_ret (v := .tuple #[.int .u64 0, .int .u64 0, .int .i64 2]) (by simp [results, Try.results6, go_sem]) rfl ?_
  exact ⟨rfl, HB.out⟩


theorem FastTwoSum18_bad (f : Int) (a b : Nat) (w : World) (h2 : f ≠ 2) (h3 : f ≠ 3) :
    Calls Try.prog 8 #[.int .i64 f, .int .u64 a, .int .u64 b] w fun e w' => e = .returned (.tuple #[.int .u64 0, .int .u64 0, .int .i64 2]) ∧ Below w.heap.size w w' := by
  have HK := Lib.hid (fun s wx => known_bad f s wx h2 h3)
  have HB0 := Lib.hid (below_a w (.cells #[.int .u64 a, .int .u64 b] 24))
  clear h2 h3
  go_enter Try.func8, Try.ntmps8
  go_wp2_with fail
  refine (HK.out _ _).mono ?_
  rintro _ w1 ⟨rfl, hb1⟩
  have HB : Hid (Below w.heap.size w w1) := HB0.out.trans (hb1.mono HB0.out.size)
  clear hb1 HK
  go_wp2_with fail
  refine bodyPost_ret (v := .tuple #[.int .u64 0, .int .u64 0, .int .i64 2]) (by simp [results, Try.results8, go_sem]) rfl ?_
  exact ⟨rfl, HB.out⟩


theorem Split18_bad (f : Int) (a : Nat) (w : World) (h2 : f ≠ 2) (h3 : f ≠ 3) :
    Calls Try.prog 10 #[.int .i64 f, .int .u64 a] w fun e w' => e = .returned (.tuple #[.int .u64 0, .int .u64 0, .int .i64 2]) ∧ Below w.heap.size w w' := by
  have HK := Lib.hid (fun s wx => known_bad f s wx h2 h3)
  have HB0 := Lib.hid (below_a w (.cells #[.int .u64 a] 24))
  clear h2 h3
  go_enter Try.func10, Try.ntmps10
  go_wp2_with fail
  refine (HK.out _ _).mono ?_
  rintro _ w1 ⟨rfl, hb1⟩
  have HB : Hid (Below w.heap.size w w1) := HB0.out.trans (hb1.mono HB0.out.size)
  clear hb1 HK
  go_wp2_with fail
  refine bodyPost_ret (v := .tuple #[.int .u64 0, .int .u64 0, .int .i64 2]) (by simp [results, Try.results10, go_sem]) rfl ?_
  exact ⟨rfl, HB.out⟩


theorem TwoProd18_bad (f : Int) (a b : Nat) (w : World) (h2 : f ≠ 2) (h3 : f ≠ 3) :
    Calls Try.prog 12 #[.int .i64 f, .int .u64 a, .int .u64 b] w fun e w' => e = .returned (.tuple #[.int .u64 0, .int .u64 0, .int .i64 2]) ∧ Below w.heap.size w w' := by
  have HK := Lib.hid (fun s wx => known_bad f s wx h2 h3)
  have HB0 := Lib.hid (below_a w (.cells #[.int .u64 a, .int .u64 b] 24))
  clear h2 h3
  go_enter Try.func12, Try.ntmps12
  go_wp2_with fail
  refine (HK.out _ _).mono ?_
  rintro _ w1 ⟨rfl, hb1⟩
  have HB : Hid (Below w.heap.size w w1) := HB0.out.trans (hb1.mono HB0.out.size)
  clear hb1 HK
  go_wp2_with fail
  refine bodyPost_ret (v := .tuple #[.int .u64 0, .int .u64 0, .int .i64 2]) (by simp [results, Try.results12, go_sem]) rfl ?_
  exact ⟨rfl, HB.out⟩


end Go.Proofs.Ytebmogdojpcmfaa
