/- Walks of layer 20: awake, PairNames. -/
import Derived.Test.YtlommmipaagcjaaPairF
namespace Go.Proofs.Ytlommmipaagcjaa
set_option linter.unusedVariables false
open Go.RowKit

theorem aw_c {x y : Nat} (h : ProdP 4613937818241073152 4599676419421066581 x y) : x = 4607182418800017408 ∧ y = 13587360075776786432 := by
  obtain ⟨e, x', y', h, rfl, rfl⟩ := h
  have he : err3 4613937818241073152 4599676419421066581 = 0 := by decide +kernel
  rcases h with ⟨h1, h2⟩ | ⟨_, p, r, ok, ⟨fp, c, d, h, l, ⟨f1, f2, f3, f4⟩, hR⟩, h3⟩
  · rw [he] at h2
    exact absurd h2 h1
  · have e_p : p = 4607182418800017408 := fp.some (by decide +kernel)
    subst e_p
    have e_c : c = 4735535008230408192 := f1.some (by decide +kernel)
    subst e_c
    have e_d : d = 4735535008180076544 := f2.some (by decide +kernel)
    subst e_d
    have e_h : h = 4613937818241073152 := f3.some (by decide +kernel)
    subst e_h
    have e_l : l = 0 := f4.some (by decide +kernel)
    subst e_l
    rcases hR with ⟨hb, _⟩ | ⟨_, c', d', i, j, ⟨g1, g2, g3, g4⟩, hR⟩
    · exact absurd hb (by decide +kernel)
    have e_c_ : c' = 4721273609404809216 := g1.some (by decide +kernel)
    subst e_c_
    have e_d_ : d' = 4721273609360069973 := g2.some (by decide +kernel)
    subst e_d_
    have e_i : i = 4599676419465805824 := g3.some (by decide +kernel)
    subst e_i
    have e_j : j = 13701451266381578240 := g4.some (by decide +kernel)
    subst e_j
    rcases hR with ⟨hb, _⟩ | ⟨_, g, hj, li, lj, v, x', y', ⟨k1, k2, k3, k4, k5, k6, k7, k8⟩, hok⟩
    · exact absurd hb (by decide +kernel)
    have e_g : g = 4607182418833571840 := k1.some (by decide +kernel)
    subst e_g
    have e_hj : hj = 13708957265749344256 := k2.some (by decide +kernel)
    subst e_hj
    have e_li : li = 0 := k3.some (by decide +kernel)
    subst e_li
    have e_lj : lj = 9223372036854775808 := k4.some (by decide +kernel)
    subst e_lj
    have e_v : v = 4485585228861014016 := k5.some (by decide +kernel)
    subst e_v
    have e_x_ : x' = 13587360075776786432 := k6.some (by decide +kernel)
    subst e_x_
    have e_y_ : y' = 13587360075776786432 := k7.some (by decide +kernel)
    subst e_y_
    have e_r : r = 13587360075776786432 := k8.some (by decide +kernel)
    subst e_r
    have hok' : ok = true := by rw [hok]; decide +kernel
    rcases h3 with ⟨_, rfl, rfl, rfl⟩ | ⟨h4, _⟩
    · exact ⟨rfl, rfl⟩
    · rw [hok'] at h4; cases h4

theorem aw_v {x y : Nat} (h : SumP 4607182418800017408 0 x y) : x = 4607182418800017408 ∧ y = 0 := by
  obtain ⟨e, x', y', h, rfl, rfl⟩ := h
  have he : err3 4607182418800017408 0 = 0 := by decide +kernel
  rcases h with ⟨h1, h2⟩ | ⟨_, s, t, u, v, z, r, ⟨f1, f2, f3, f4, f5, f6⟩, h3⟩
  · rw [he] at h2
    exact absurd h2 h1
  · have e1 : s = 4607182418800017408 := f1.some (by decide +kernel)
    subst e1
    have e2 : t = 0 := f2.some (by decide +kernel)
    subst e2
    have e3 : u = 4607182418800017408 := f3.some (by decide +kernel)
    subst e3
    have e4 : v = 0 := f4.some (by decide +kernel)
    subst e4
    have e5 : z = 0 := f5.some (by decide +kernel)
    subst e5
    have e6 : r = 0 := f6.some (by decide +kernel)
    subst e6
    rcases h3 with ⟨_, rfl, rfl, rfl⟩ | ⟨h4, _⟩
    · exact ⟨rfl, rfl⟩
    · exact absurd h4 (by decide +kernel)

theorem aw_z {x y : Nat} (h : SumP 4607182418800017408 13587360075776786432 x y) : x = 4607182418800017408 ∧ y = 13587360075776786432 := by
  obtain ⟨e, x', y', h, rfl, rfl⟩ := h
  have he : err3 4607182418800017408 13587360075776786432 = 0 := by decide +kernel
  rcases h with ⟨h1, h2⟩ | ⟨_, s, t, u, v, z, r, ⟨f1, f2, f3, f4, f5, f6⟩, h3⟩
  · rw [he] at h2
    exact absurd h2 h1
  · have e1 : s = 4607182418800017408 := f1.some (by decide +kernel)
    subst e1
    have e2 : t = 0 := f2.some (by decide +kernel)
    subst e2
    have e3 : u = 4607182418800017408 := f3.some (by decide +kernel)
    subst e3
    have e4 : v = 13587360075776786432 := f4.some (by decide +kernel)
    subst e4
    have e5 : z = 0 := f5.some (by decide +kernel)
    subst e5
    have e6 : r = 13587360075776786432 := f6.some (by decide +kernel)
    subst e6
    rcases h3 with ⟨_, rfl, rfl, rfl⟩ | ⟨h4, _⟩
    · exact ⟨rfl, rfl⟩
    · exact absurd h4 (by decide +kernel)

theorem aw_m {x y : Nat} (h : SumP 4599676419421066581 4356482039543059797 x y) : x = 4599676419421066581 ∧ y = 4356482039543059797 := by
  obtain ⟨e, x', y', h, rfl, rfl⟩ := h
  have he : err3 4599676419421066581 4356482039543059797 = 0 := by decide +kernel
  rcases h with ⟨h1, h2⟩ | ⟨_, s, t, u, v, z, r, ⟨f1, f2, f3, f4, f5, f6⟩, h3⟩
  · rw [he] at h2
    exact absurd h2 h1
  · have e1 : s = 4599676419421066581 := f1.some (by decide +kernel)
    subst e1
    have e2 : t = 0 := f2.some (by decide +kernel)
    subst e2
    have e3 : u = 4599676419421066581 := f3.some (by decide +kernel)
    subst e3
    have e4 : v = 4356482039543059797 := f4.some (by decide +kernel)
    subst e4
    have e5 : z = 0 := f5.some (by decide +kernel)
    subst e5
    have e6 : r = 4356482039543059797 := f6.some (by decide +kernel)
    subst e6
    rcases h3 with ⟨_, rfl, rfl, rfl⟩ | ⟨h4, _⟩
    · exact ⟨rfl, rfl⟩
    · exact absurd h4 (by decide +kernel)

theorem div_awake {r : Value} (h : DivAns (4607182418800017408, 0) (4613937818241073152, 0) r) : r = .tuple #[.agg #[.int .u64 4599676419421066581, .int .u64 4356482039543059797], .int .i64 0] := by
  rcases h with ⟨h1, _⟩ | ⟨_, h1, _⟩ | ⟨_, _, t, c1, c2, k, v1, v2, s, z1, z2, a, b, d, f, m, n, ft, hc, fk, hv, fs, hz, fa, fb, fd, ff, hm, rfl⟩
  · exact absurd (by decide +kernel) h1
  · exact absurd h1 (by decide +kernel)
  · obtain rfl : t = 4599676419421066581 := ft.some (by decide +kernel)
    obtain ⟨rfl, rfl⟩ := aw_c hc
    obtain rfl : k = 0 := fk.some (by decide +kernel)
    obtain ⟨rfl, rfl⟩ := aw_v hv
    obtain rfl : s = 13587360075776786432 := fs.some (by decide +kernel)
    obtain ⟨rfl, rfl⟩ := aw_z hz
    obtain rfl : a = 0 := fa.some (by decide +kernel)
    obtain rfl : b = 4363988038922010624 := fb.some (by decide +kernel)
    obtain rfl : d = 4363988038922010624 := fd.some (by decide +kernel)
    obtain rfl : f = 4356482039543059797 := ff.some (by decide +kernel)
    obtain ⟨rfl, rfl⟩ := aw_m hm
    have hb : boundB 4599676419421066581 = true := by decide +kernel
    have b1 : bitsF 4599676419421066581 = 4599676419421066581 := by decide +kernel
    have b2 : bitsF 4356482039543059797 = 4356482039543059797 := by decide +kernel
    unfold ansP
    rw [if_pos hb, b1, b2]
    rfl

theorem aw_k {x y : Nat} (h : SumP 4607182418800017408 4336966441157787648 x y) : x = 4607182418800017408 ∧ y = 4336966441157787648 := by
  obtain ⟨e, x', y', h, rfl, rfl⟩ := h
  have he : err3 4607182418800017408 4336966441157787648 = 0 := by decide +kernel
  rcases h with ⟨h1, h2⟩ | ⟨_, s, t, u, v, z, r, ⟨f1, f2, f3, f4, f5, f6⟩, h3⟩
  · rw [he] at h2
    exact absurd h2 h1
  · have e1 : s = 4607182418800017408 := f1.some (by decide +kernel)
    subst e1
    have e2 : t = 0 := f2.some (by decide +kernel)
    subst e2
    have e3 : u = 4607182418800017408 := f3.some (by decide +kernel)
    subst e3
    have e4 : v = 4336966441157787648 := f4.some (by decide +kernel)
    subst e4
    have e5 : z = 0 := f5.some (by decide +kernel)
    subst e5
    have e6 : r = 4336966441157787648 := f6.some (by decide +kernel)
    subst e6
    rcases h3 with ⟨_, rfl, rfl, rfl⟩ | ⟨h4, _⟩
    · exact ⟨rfl, rfl⟩
    · exact absurd h4 (by decide +kernel)

theorem make_awake {r : Value} (h : MakeAns 4607182418800017408 4336966441157787648 r) : r = .tuple #[.agg #[.int .u64 4607182418800017408, .int .u64 4336966441157787648], .int .i64 0] := by
  rcases h with ⟨h1, _⟩ | ⟨_, h1, _⟩ | ⟨_, _, e, x, y, hS, rfl⟩
  · exact absurd h1 (by decide +kernel)
  · exact absurd h1 (by decide +kernel)
  · obtain ⟨h1, h2⟩ := aw_k ⟨e, x, y, hS, rfl, rfl⟩
    rw [h1, h2]
    have hb : boundB 4607182418800017408 = true := by decide +kernel
    have b1 : bitsF 4607182418800017408 = 4607182418800017408 := by decide +kernel
    have b2 : bitsF 4336966441157787648 = 4336966441157787648 := by decide +kernel
    unfold ansP
    rw [if_pos hb, b1, b2]
    rfl

theorem awake_any (w : World) : Calls Try.prog 6 #[] w fun e' w' => e' = .returned (.bool true) ∧ Below w.heap.size w w' := by
  obtain ⟨W1, hW1⟩ : ∃ W1, W1 = w.alloc (Obj.cells #[.int .u64 4607182418800017408, .int .u64 0] 26) := ⟨_, rfl⟩
  obtain ⟨W2, hW2⟩ : ∃ W2, W2 = W1.alloc (Obj.cells #[.int .u64 4613937818241073152, .int .u64 0] 26) := ⟨_, rfl⟩
  have s1 : W1.heap.size = w.heap.size + 1 := by rw [hW1]; simp
  have b1 : Below w.heap.size w W1 := by rw [hW1]; exact below_a ..
  have b2 : Below w.heap.size w W2 := by rw [hW2]; exact b1.alloc b1.size _
  have x0 : Box2 W2 w.heap.size (.int .u64 4607182418800017408) (.int .u64 0) := by
    have h1 : Box2 W1 w.heap.size (.int .u64 4607182418800017408) (.int .u64 0) := by rw [hW1]; exact Box2.new ..
    have h2 : Below W1.heap.size W1 W2 := by rw [hW2]; exact below_a ..
    exact h1.below h2
  have x1 : Box2 W2 (w.heap.size + 1) (.int .u64 4613937818241073152) (.int .u64 0) := by
    rw [← s1, hW2]; exact Box2.new ..
  obtain ⟨k0, k1, _, _⟩ := x0.cells
  obtain ⟨m0, m1, _, _⟩ := x1.cells
  have HB := Lib.hid b2
  have HW : Hid (W2 = (w.alloc (Obj.cells #[.int .u64 4607182418800017408, .int .u64 0] 26)).alloc (Obj.cells #[.int .u64 4613937818241073152, .int .u64 0] 26)) := by show _ = _; rw [hW2, hW1]
  rw [hW2, hW1] at k0 k1 m0 m1
  clear b1 b2 x0 x1 s1 hW1 hW2
  go_enter Try.func6, Try.ntmps6
  go_wp2_with fail
  have hW := HW.out
  rw [← hW]
  refine (div_any 4607182418800017408 0 4613937818241073152 0 W2).mono ?_
  rintro _ w3 ⟨r, rfl, hD, hb⟩
  obtain rfl := div_awake hD
  replace HB := Lib.hid (HB.out.trans (hb.mono HB.out.size))
  clear hD hb k0 k1 m0 m1 hW HW
  obtain ⟨W4, hW4⟩ : ∃ W4, W4 = w3.alloc (Obj.cells #[.int .u64 4599676419421066581, .int .u64 4356482039543059797] 26) := ⟨_, rfl⟩
  have b4 : Below w3.heap.size w3 W4 := by rw [hW4]; exact below_a ..
  have hx : Box2 W4 w3.heap.size (.int .u64 4599676419421066581) (.int .u64 4356482039543059797) := by rw [hW4]; exact Box2.new ..
  obtain ⟨g, hg⟩ : ∃ g, g = w3.heap.size := ⟨_, rfl⟩
  rw [← hg] at hx
  go_wp2_with fail
  rw [← hg, ← hW4]
  refine (make_any 4607182418800017408 4336966441157787648 W4).mono ?_
  rintro _ w5 ⟨r, rfl, hD, hb⟩
  obtain rfl := make_awake hD
  have hx5 := hx.below hb
  replace HB := Lib.hid ((HB.out.trans (b4.mono HB.out.size)).trans (hb.mono (HB.out.trans (b4.mono HB.out.size)).size))
  clear hD hb hg hW4 b4 hx
  obtain ⟨W6, hW6⟩ : ∃ W6, W6 = w5.alloc (Obj.cells #[.int .u64 4607182418800017408, .int .u64 4336966441157787648] 26) := ⟨_, rfl⟩
  have b6 : Below w5.heap.size w5 W6 := by rw [hW6]; exact below_a ..
  have hx6 : Box2 W6 w5.heap.size (.int .u64 4607182418800017408) (.int .u64 4336966441157787648) := by rw [hW6]; exact Box2.new ..
  have hy6 := hx5.below b6
  obtain ⟨k0, k1, _, _⟩ := hy6.cells
  obtain ⟨m0, m1, _, _⟩ := hx6.cells
  replace HB := Lib.hid (HB.out.trans (b6.mono HB.out.size))
  rw [hW6] at k0 k1 m0 m1 HB
  clear hx5 b6 hx6 hy6 hW6
  go_wp2
  go_ret
  exact ⟨rfl, HB.out⟩

theorem check_k {x y : Int} {E : Int} (a b : Nat) (hx : x = (a : Int)) (hy : y = (b : Int)) (hE : openE [(a, b)] = E) (w : World) : Calls Try.prog 5 #[.agg #[.int .u64 x, .int .u64 y]] w fun e' w' => e' = .returned (.int .i64 E) ∧ Below w.heap.size w w' := by
  subst hx hy hE
  exact check_any a b w

set_option maxHeartbeats 2000000 in
set_option maxRecDepth 20000 in
theorem names_any (w : World) : Calls Try.prog 3 #[] w fun e' w' => e' = .returned (.bool true) ∧ Below w.heap.size w w' := by
  have o1 := Lib.hid (show openE [(5958262307011166208, 0)] = 0 by decide +kernel)
  have o2 := Lib.hid (show openE [(3256102530588868608, 0)] = 0 by decide +kernel)
  have o3 := Lib.hid (show openE [(5958262307011166209, 0)] = 7 by decide +kernel)
  have o4 := Lib.hid (show openE [(3256102530588868607, 0)] = 7 by decide +kernel)
  have o5 := Lib.hid (show openE [(9218868437227405312, 0)] = 40 by decide +kernel)
  have o6 := Lib.hid (show openE [(0, 1)] = 7 by decide +kernel)
  have o7 := Lib.hid (show openE [(9223372036854775808, 9223372036854775808)] = 0 by decide +kernel)
  go_enter Try.func3, Try.ntmps3
  go_wp2_with fail
  refine (check_k 5958262307011166208 0 (by decide) (by decide) o1.out w).mono ?_
  rintro _ w1 ⟨rfl, b1⟩
  have HB := Lib.hid b1
  clear b1
  go_wp2_with fail
  refine (check_k 3256102530588868608 0 (by decide) (by decide) o2.out w1).mono ?_
  rintro _ w2 ⟨rfl, b2⟩
  replace HB := Lib.hid (HB.out.trans (b2.mono HB.out.size))
  clear b2
  go_wp2_with fail
  refine (check_k 5958262307011166209 0 (by decide) (by decide) o3.out w2).mono ?_
  rintro _ w3 ⟨rfl, b3⟩
  replace HB := Lib.hid (HB.out.trans (b3.mono HB.out.size))
  clear b3
  go_wp2_with fail
  refine (check_k 3256102530588868607 0 (by decide) (by decide) o4.out w3).mono ?_
  rintro _ w4 ⟨rfl, b4⟩
  replace HB := Lib.hid (HB.out.trans (b4.mono HB.out.size))
  clear b4
  go_wp2_with fail
  refine (check_k 9218868437227405312 0 (by decide) (by decide) o5.out w4).mono ?_
  rintro _ w5 ⟨rfl, b5⟩
  replace HB := Lib.hid (HB.out.trans (b5.mono HB.out.size))
  clear b5
  go_wp2_with fail
  refine (check_k 0 1 (by decide) (by decide) o6.out w5).mono ?_
  rintro _ w6 ⟨rfl, b6⟩
  replace HB := Lib.hid (HB.out.trans (b6.mono HB.out.size))
  clear b6
  go_wp2_with fail
  refine (check_k 9223372036854775808 9223372036854775808 (by decide) (by decide) o7.out w6).mono ?_
  rintro _ w7 ⟨rfl, b7⟩
  replace HB := Lib.hid (HB.out.trans (b7.mono HB.out.size))
  clear b7
  go_wp2_with fail
  refine (awake_any w7).mono ?_
  rintro _ w8 ⟨rfl, b8⟩
  replace HB := Lib.hid (HB.out.trans (b8.mono HB.out.size))
  clear b8
  go_wp2
  go_ret
  exact ⟨rfl, HB.out⟩

end Go.Proofs.Ytlommmipaagcjaa

