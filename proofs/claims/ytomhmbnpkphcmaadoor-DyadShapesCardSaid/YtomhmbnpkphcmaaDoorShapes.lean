/- The walk of DyadShapes. -/
import Derived.Outline
import Derived.Deep.CutBlock
import Derived.Deep.RegionHeld3
import Derived.Test.YtomhmbnpkphcmaaDoorLawQ
import Derived.Test.YtomhmbnpkphcmaaDoorLawC
import Derived.Test.YtomhmbnpkphcmaaDoorShape
namespace Go.Proofs.YtomhmbnpkphcmaaDoor
set_option linter.unusedVariables false
open Go.RowKit

theorem rem_nat (x y : Int) (hy : 0 < y) : ∃ k : Nat, (x.tmod y + y).tmod y = (k : Int) ∧ (k : Int) < y := by
  have h1 := Int.lt_tmod_of_pos x hy
  have h2 : 0 ≤ x.tmod y + y := by omega
  have h3 := Int.emod_lt_of_pos (x.tmod y + y) hy
  have h4 := Int.emod_nonneg (x.tmod y + y) (show y ≠ 0 by omega)
  exact ⟨((x.tmod y + y) % y).toNat, by rw [Int.tmod_eq_emod_of_nonneg h2]; omega, by omega⟩

theorem oddD_shl (s : Bool) (N k : Nat) (e : Int) : oddD ⟨s, N * 2 ^ k, e - k⟩ = oddD ⟨s, N, e⟩ := by
  have hl1 := oddD_low ⟨s, N * 2 ^ k, e - k⟩ (min (e - k) 0) (by show min (e - k) 0 ≤ e - k; omega) (by omega)
  have hl2 := oddD_low ⟨s, N, e⟩ (min (e - k) 0) (by show min (e - k) 0 ≤ e; omega) (by omega)
  refine can_inj (oddD_can _) (oddD_can _) hl1 hl2 ?_
  rw [i_odd _ _ (by show min (e - k) 0 ≤ e - k; omega), i_odd _ _ (by show min (e - k) 0 ≤ e; omega)]
  have h := i_shift s N e (e - k) (min (e - k) 0) (by omega) (by omega)
  rw [show (e - (e - (k : Int))).toNat = k from by omega] at h
  exact h

theorem bl_shl (N k : Nat) (h : N ≠ 0) : bl (N * 2 ^ k) = bl N + k := by
  have hp := pow_pos2 k
  have h2 : N * 2 ^ k ≠ 0 := Nat.mul_ne_zero h (by omega)
  unfold bl
  rw [if_neg h, if_neg h2]
  have : (N * 2 ^ k).log2 = N.log2 + k := by
    rw [Nat.log2_eq_iff h2]
    have g1 := Nat.log2_self_le h
    have g2 := @Nat.lt_log2_self N
    refine ⟨by rw [Nat.pow_add]; exact Nat.mul_le_mul_right _ g1, ?_⟩
    rw [show N.log2 + k + 1 = N.log2 + 1 + k from by omega, Nat.pow_add _ (N.log2 + 1) k]
    exact (Nat.mul_lt_mul_right hp).2 g2
  rw [this]; omega

theorem shapes_law (n z k : Nat) (s : Bool) (N : Nat) (e : Int) (hn : n ≤ 1000) (h1 : -39000 ≤ e) (h2 : e ≤ 39000) (hk : k < 64) (hz : z < 5) :
    canonD (n + 1 + z) ⟨s, N * 2 ^ k, e - k⟩ = canonD n ⟨s, N, e⟩ ∧ floorD (n + 1 + z) ⟨s, N * 2 ^ k, e - k⟩ = floorD n ⟨s, N, e⟩ ∧ topD (n + 1 + z) ⟨s, N * 2 ^ k, e - k⟩ = topD n ⟨s, N, e⟩ ∧
    cmpD n ⟨s, N, e⟩ (n + 1 + z) ⟨s, N * 2 ^ k, e - k⟩ = (0, 0) ∧ sgD s (N * 2 ^ k) = sgD s N ∧
    ((canonD n ⟨s, N, e⟩).2 = 0 → (canonD n ⟨s, N, e⟩).1.can ∧ canonD (nd 64 (canonD n ⟨s, N, e⟩).1.n) (canonD n ⟨s, N, e⟩).1 = ((canonD n ⟨s, N, e⟩).1, 0)) := by
  have r1 : refD n e = 0 := by unfold refD; rw [if_neg (by omega), if_neg (by omega)]
  have r2 : refD (n + 1 + z) (e - k) = 0 := by unfold refD; rw [if_neg (by omega), if_neg (by omega)]
  have ho := oddD_shl s N k e
  refine ⟨?_, ?_, ?_, ?_, ?_, ?_⟩
  · unfold canonD ansD
    simp only [r1, r2, if_true, ho]
  · unfold floorD
    simp only [r1, r2, if_true, ho]
  · unfold topD
    simp only [r1, r2, if_true]
    by_cases hN : N = 0
    · subst hN; simp
    · rw [if_neg hN, if_neg (Nat.mul_ne_zero hN (by have := pow_pos2 k; omega)), bl_shl N k hN]
      congr 1
      omega
  · rw [cmpD_val n (n + 1 + z) ⟨s, N, e⟩ ⟨s, N * 2 ^ k, e - k⟩ (-1000000) (by omega) r1 r2]
    have h := i_shift s N e (e - k) (-1000000) (by omega) (by omega)
    rw [show (e - (e - (k : Int))).toNat = k from by omega] at h
    rw [h, Int.sub_self]
    rfl
  · unfold sgD
    by_cases hN : N = 0
    · subst hN; simp
    · rw [if_neg hN, if_neg (Nat.mul_ne_zero hN (by have := pow_pos2 k; omega))]
  · intro h0
    have hr := canonD_res n ⟨s, N, e⟩ (-1000000) (by omega) h0
    refine ⟨hr.1, ?_⟩
    generalize (canonD n ⟨s, N, e⟩).1 = d at *
    obtain ⟨hc, hn', he1, he2, _⟩ := hr
    unfold canonD ansD
    rw [can_odd d hc]
    unfold refD
    rw [if_neg (by omega : ¬ 1024 < nd 64 d.n), if_neg (by omega : ¬ (d.e < -40000 ∨ 40000 < d.e)), if_pos rfl, if_neg (by omega : ¬ 1024 < nd 64 d.n), if_neg (by omega : ¬ (d.e < -40000 ∨ 40000 < d.e))]

set_option maxRecDepth 100000 in
set_option maxHeartbeats 4000000 in
theorem shapes_any (s : Bool) (A : Option Addr) (N n c : Nat) (e bt wd : Int) (w : World) (hv : Rd 64 w (.slice A n c) N n) (hG : Gl w)
    (hbt : -9223372036854775808 ≤ bt ∧ bt ≤ 9223372036854775807) (hwd : -9223372036854775808 ≤ wd ∧ wd ≤ 9223372036854775807) :
    Calls Tryd.prog 5 #[.agg #[.bool s, .slice A n c, .int .i64 e, .int .i64 bt, .int .i64 wd]] w fun e' w' => e' = .returned (.bool true) ∧ Below w.heap.size w w' := by
  obtain ⟨W1, hW1⟩ : ∃ W1, W1 = w.alloc (Obj.cells #[.bool s, .slice A n c, .int .i64 e, .int .i64 bt, .int .i64 wd] 43) := ⟨_, rfl⟩
  have HB : Hid (Below w.heap.size w W1) := by show Below w.heap.size w W1; rw [hW1]; exact below1 ..
  have Hs : Hid (Box5 W1 w.heap.size (.bool s) (.slice A n c) (.int .i64 e) (.int .i64 bt) (.int .i64 wd)) := by show Box5 W1 _ _ _ _ _ _; rw [hW1]; exact Box5.new ..
  have H1 := Lib.hid hv
  have HG := Lib.hid hG
  clear hv hG
  go_enter Tryd.func5, Tryd.ntmps5
  go_wp2_with fail
  rw [← hW1]
  refine (awake_any W1 (HG.out.below HB.out)).mono ?_
  rintro _ x0 ⟨rfl, hb0⟩
  clear hW1
  replace HB := Lib.hid (keep_belowB HB.out hb0 (Nat.le_refl _))
  replace Hs := Lib.hid (Hs.out.below hb0)
  clear hb0
  obtain ⟨k0, k1, k2, k3, k4, _⟩ := Hs.out.cells
  by_cases g1 : 1000 < n
  · go_wp2_with fail
    go_ret
    exact ⟨rfl, HB.out⟩
  have g1' : n ≤ 1000 := by omega
  clear g1
  by_cases g2 : 39000 < e
  · go_wp2_with fail
    go_ret
    exact ⟨rfl, HB.out⟩
  have g2' : e ≤ 39000 := by omega
  clear g2
  by_cases g3 : e < -39000
  · go_wp2_with fail
    go_ret
    exact ⟨rfl, HB.out⟩
  have g3' : -39000 ≤ e := by omega
  clear g3
  obtain ⟨k, hk, hk64'⟩ := rem_nat bt 64 (by decide)
  obtain ⟨z, hz, hz5'⟩ := rem_nat wd 5 (by decide)
  have hk64 : k < 64 := by omega
  have hz5 : z < 5 := by omega
  clear hk64' hz5'
  obtain ⟨l1, l2, l3, l4, l5, l6⟩ := shapes_law n z k s N e g1' g3' g2' hk64 hz5
  have L1 := Lib.hid l1
  have L2 := Lib.hid l2
  have L3 := Lib.hid l3
  have L4 := Lib.hid l4
  have L5 := Lib.hid l5
  have L6 := Lib.hid l6
  clear l1 l2 l3 l4 l5 l6
  go_wp2_with fail
  refine (other_any s A N n c e bt wd k z x0 (H1.out.below HB.out) g1' ⟨g3', g2'⟩ hbt hwd hk hz hk64 hz5).mono ?_
  rintro _ z1 ⟨B1, cB, rfl, hR1, hb1⟩
  obtain ⟨Z1, hZ1⟩ : ∃ Z1, Z1 = z1.alloc (Obj.cells #[Value.bool s, Value.slice B1 (n + 1 + z) cB, Value.int IntKind.i64 (e - k)] 26) := ⟨_, rfl⟩
  have ha1 : Below z1.heap.size z1 Z1 := by rw [hZ1]; exact below1 ..
  have Ho : Hid (BoxD Z1 z1.heap.size (.bool s) (.slice B1 (n + 1 + z) cB) (.int .i64 (e - k))) := by show BoxD Z1 _ _ _ _; rw [hZ1]; exact BoxD.new ..
  have HRo := Lib.hid ((hR1.rd (by omega)).below ha1)
  replace HB := Lib.hid (keep_belowB HB.out hb1 (Nat.le_refl _))
  replace Hs := Lib.hid (Hs.out.below hb1)
  replace HB := Lib.hid (keep_belowB HB.out ha1 (Nat.le_refl _))
  replace Hs := Lib.hid (Hs.out.below ha1)
  clear hR1 hb1 ha1 k0 k1 k2 k3 k4 hk hz hbt hwd
  obtain ⟨m, hm⟩ : ∃ m, m = n + 1 + z := ⟨_, rfl⟩
  obtain ⟨M, hM⟩ : ∃ M, M = N * 2 ^ k := ⟨_, rfl⟩
  obtain ⟨f, hf⟩ : ∃ f, f = e - (k : Int) := ⟨_, rfl⟩
  simp only [← hm, ← hM, ← hf] at HRo Ho L1 L2 L3 L4 L5
  have hm1024 : m ≤ 1024 := by omega
  go_upto_region 6 with (fail)
  rw [← hZ1]
  clear hZ1
  try rw [← hm]
  try rw [← hf]
  have Hm := Lib.hid hm
  clear hm hM hf g1' g2' g3' hk64 hz5
  obtain ⟨k0, k1, k2, k3, k4, _⟩ := Hs.out.cells
  go_wp2_with fail
  refine (Canon_any s A N n c e Z1 (H1.out.below HB.out) (HG.out.below HB.out)).mono ?_
  rintro _ x1 ⟨y1, rfl, hV1, hb1⟩
  obtain ⟨r, hr⟩ : ∃ r, r = canonD n ⟨s, N, e⟩ := ⟨_, rfl⟩
  rw [← hr] at hV1 ⊢
  have Hr := Lib.hid hr
  clear hr
  obtain ⟨A1, c1, rfl, -⟩ := id hV1
  obtain ⟨X1, hX1⟩ : ∃ X1, X1 = x1.alloc (Obj.cells #[Value.bool r.1.s, Value.slice A1 (nd 64 r.1.n) c1, Value.int IntKind.i64 r.1.e] 26) := ⟨_, rfl⟩
  have ha1 : Below x1.heap.size x1 X1 := by rw [hX1]; exact below1 ..
  have Ha : Hid (DVB 0 x1.heap.size r.1 X1) := by show DVB 0 x1.heap.size r.1 X1; rw [hX1]; exact (DVB.new hV1).mono (Nat.zero_le _)
  replace HB := Lib.hid (keep_belowB HB.out hb1 (Nat.le_refl _))
  replace Hs := Lib.hid (Hs.out.below hb1)
  replace Ho := Lib.hid (Ho.out.below hb1)
  replace HRo := Lib.hid (HRo.out.below hb1)
  replace HB := Lib.hid (keep_belowB HB.out ha1 (Nat.le_refl _))
  replace Hs := Lib.hid (Hs.out.below ha1)
  replace Ho := Lib.hid (Ho.out.below ha1)
  replace HRo := Lib.hid (HRo.out.below ha1)
  clear hV1 hb1 ha1 k0 k1 k2 k3 k4
  go_upto_region 7 with (fail)
  rw [← hX1]
  clear hX1
  obtain ⟨o0, o1, o2, o3, _⟩ := Ho.out.box3.cells
  go_wp2_with fail
  refine (Canon_any s B1 M m cB f X1 HRo.out (HG.out.below HB.out)).mono ?_
  rintro _ x2 ⟨y2, rfl, hV2, hb2⟩
  rw [L1.out, ← Hr.out] at hV2 ⊢
  obtain ⟨A2, c2, rfl, -⟩ := id hV2
  obtain ⟨X2, hX2⟩ : ∃ X2, X2 = x2.alloc (Obj.cells #[Value.bool r.1.s, Value.slice A2 (nd 64 r.1.n) c2, Value.int IntKind.i64 r.1.e] 26) := ⟨_, rfl⟩
  have ha2 : Below x2.heap.size x2 X2 := by rw [hX2]; exact below1 ..
  have Hb : Hid (DVB 0 x2.heap.size r.1 X2) := by show DVB 0 x2.heap.size r.1 X2; rw [hX2]; exact (DVB.new hV2).mono (Nat.zero_le _)
  replace HB := Lib.hid (keep_belowB HB.out hb2 (Nat.le_refl _))
  replace Hs := Lib.hid (Hs.out.below hb2)
  replace Ho := Lib.hid (Ho.out.below hb2)
  replace HRo := Lib.hid (HRo.out.below hb2)
  replace Ha := Lib.hid (Ha.out.below hb2)
  have hne : x1.heap.size < x2.heap.size := Ha.out.lt
  have Hlt : Hid (w.heap.size ≤ x2.heap.size) := HB.out.size
  replace HB := Lib.hid (keep_belowB HB.out ha2 (Nat.le_refl _))
  replace Hs := Lib.hid (Hs.out.below ha2)
  replace Ho := Lib.hid (Ho.out.below ha2)
  replace HRo := Lib.hid (HRo.out.below ha2)
  replace Ha := Lib.hid (Ha.out.below ha2)
  clear hV2 hb2 ha2 o0 o1 o2 o3
  go_upto_region 8 with (fail)
  rw [← hX2]
  clear hX2
  obtain ⟨Aa, ca, ⟨a0, a1, a2, a3⟩, ra⟩ := Ha.out.open
  have Ra := Lib.hid ra
  clear ra
  obtain ⟨Ab, cb, ⟨b0, b1, b2, b3⟩, rb⟩ := Hb.out.open
  have Rb := Lib.hid rb
  clear rb
  obtain ⟨o0, o1, o2, o3, _⟩ := Ho.out.box3.cells
  obtain ⟨k0, k1, k2, k3, k4, _⟩ := Hs.out.cells
  have S1 : Hid (sameB r.1.s (nd 64 r.1.n) r.1.n r.1.e r.1.s (nd 64 r.1.n) r.1.n r.1.e = true) := by show _ = _; simp [sameB, sameW]
  have t1 : (r.2 != r.2) = false := by simp
  clear k3 k4 a3 b3 o3
  go_cut [65] from 49 (fun v wx => v = .bool false ∧ Below X2.heap.size X2 wx)
  case first =>
    go_region_held3 (fun w' => w'.cell? ⟨x1.heap.size, 0, none⟩ = some (.bool r.1.s) ∧ w'.cell? ⟨x1.heap.size, 1, none⟩ = some (.slice Aa (nd 64 r.1.n) ca) ∧ w'.cell? ⟨x1.heap.size, 2, none⟩ = some (.int .i64 r.1.e) ∧ w'.cell? ⟨x2.heap.size, 0, none⟩ = some (.bool r.1.s) ∧ w'.cell? ⟨x2.heap.size, 1, none⟩ = some (.slice Ab (nd 64 r.1.n) cb) ∧ w'.cell? ⟨x2.heap.size, 2, none⟩ = some (.int .i64 r.1.e) ∧ w'.cell? ⟨z1.heap.size, 0, none⟩ = some (.bool s) ∧ w'.cell? ⟨z1.heap.size, 1, none⟩ = some (.slice B1 m cB) ∧ w'.cell? ⟨z1.heap.size, 2, none⟩ = some (.int .i64 f) ∧ w'.cell? ⟨w.heap.size, 0, none⟩ = some (.bool s) ∧ w'.cell? ⟨w.heap.size, 1, none⟩ = some (.slice A n c) ∧ w'.cell? ⟨w.heap.size, 2, none⟩ = some (.int .i64 e) ∧ Below X2.heap.size X2 w')
      (first | exact ⟨a0, a1, a2, b0, b1, b2, o0, o1, o2, k0, k1, k2, (Below.refl _ _).drew⟩ | ((try go_split_ands); refine ⟨keep_cell hx3 ?_, keep_cell hx3 ?_, keep_cell hx3 ?_, keep_cell hx3 ?_, keep_cell hx3 ?_, keep_cell hx3 ?_, keep_cell hx3 ?_, keep_cell hx3 ?_, keep_cell hx3 ?_, keep_cell hx3 ?_, keep_cell hx3 ?_, keep_cell hx3 ?_, keep_below ?_ hx3⟩ <;> assumption) | ((try go_split_ands); refine ⟨keep_cell hx2 ?_, keep_cell hx2 ?_, keep_cell hx2 ?_, keep_cell hx2 ?_, keep_cell hx2 ?_, keep_cell hx2 ?_, keep_cell hx2 ?_, keep_cell hx2 ?_, keep_cell hx2 ?_, keep_cell hx2 ?_, keep_cell hx2 ?_, keep_cell hx2 ?_, keep_below ?_ hx2⟩ <;> assumption) | ((try go_split_ands); refine ⟨keep_cell hx1 ?_, keep_cell hx1 ?_, keep_cell hx1 ?_, keep_cell hx1 ?_, keep_cell hx1 ?_, keep_cell hx1 ?_, keep_cell hx1 ?_, keep_cell hx1 ?_, keep_cell hx1 ?_, keep_cell hx1 ?_, keep_cell hx1 ?_, keep_cell hx1 ?_, keep_below ?_ hx1⟩ <;> assumption))
      (first | (go_at_call 16; (try go_split_ands); (with_reducible refine (same_any r.1.s r.1.s Aa Ab r.1.n _ ca r.1.n _ cb r.1.e r.1.e _ ?_ ?_).mono ?_); refine Ra.out.below ?_; assumption; refine Rb.out.below ?_; assumption; rintro e w5 ⟨rfl, hx1⟩; rw [S1.out]) | (go_at_call 20; (try go_split_ands); (with_reducible refine (Sign_any s B1 M m cB f _ ?_).mono ?_); refine HRo.out.below ?_; assumption; rintro e w6 ⟨rfl, hx2⟩; rw [L5.out]) | (go_at_call 20; (try go_split_ands); (with_reducible refine (Sign_any s A N n c e _ ?_).mono ?_); refine (H1.out.below HB.out).below ?_; assumption; rintro e w7 ⟨rfl, hx3⟩))
    all_goals go_wp2_with fail
    all_goals go_meet
    case rel => exact ⟨rfl, by go_split_ands; assumption⟩
  case rest =>
    obtain ⟨rfl, hbc⟩ := hcut
    clear a0 a1 a2 Ra b0 b1 b2 Rb o0 o1 o2 k0 k1 k2 t1
    replace HB := Lib.hid (keep_belowB HB.out hbc (Nat.le_refl _))
    replace Hs := Lib.hid (Hs.out.below hbc)
    replace Ho := Lib.hid (Ho.out.below hbc)
    replace HRo := Lib.hid (HRo.out.below hbc)
    replace Ha := Lib.hid (Ha.out.below hbc)
    replace Hb := Lib.hid (Hb.out.below hbc)
    clear hbc
    clear S1
    obtain ⟨o0, o1, o2, o3, _⟩ := Ho.out.box3.cells
    obtain ⟨k0, k1, k2, k3, k4, _⟩ := Hs.out.cells
    go_wp2_with fail
    refine (DCmp_any s s A B1 N n c M m cB e f wc (H1.out.below HB.out) HRo.out (HG.out.below HB.out)).mono ?_
    rintro _ x3 ⟨rfl, hb3⟩
    rw [L4.out]
    replace HB := Lib.hid (keep_belowB HB.out hb3 (Nat.le_refl _))
    replace Hs := Lib.hid (Hs.out.below hb3)
    replace Ho := Lib.hid (Ho.out.below hb3)
    replace HRo := Lib.hid (HRo.out.below hb3)
    replace Ha := Lib.hid (Ha.out.below hb3)
    replace Hb := Lib.hid (Hb.out.below hb3)
    clear hb3 o0 o1 o2 o3 k0 k1 k2 k3 k4
    obtain ⟨k0, k1, k2, k3, k4, _⟩ := Hs.out.cells
    go_wp2_with fail
    refine (Floor_any s A N n c e x3 (H1.out.below HB.out) (HG.out.below HB.out)).mono ?_
    rintro _ x4 ⟨y4, rfl, hV4, hb4⟩
    obtain ⟨x, hx⟩ : ∃ x, x = floorD n ⟨s, N, e⟩ := ⟨_, rfl⟩
    rw [← hx] at hV4 ⊢
    have Hx := Lib.hid hx
    clear hx
    obtain ⟨A4, c4, rfl, -⟩ := id hV4
    obtain ⟨X4, hX4⟩ : ∃ X4, X4 = x4.alloc (Obj.cells #[Value.bool x.1.s, Value.slice A4 (nd 64 x.1.n) c4, Value.int IntKind.i64 x.1.e] 26) := ⟨_, rfl⟩
    have ha4 : Below x4.heap.size x4 X4 := by rw [hX4]; exact below1 ..
    have Hfx : Hid (DVB 0 x4.heap.size x.1 X4) := by show DVB 0 x4.heap.size x.1 X4; rw [hX4]; exact (DVB.new hV4).mono (Nat.zero_le _)
    replace HB := Lib.hid (keep_belowB HB.out hb4 (Nat.le_refl _))
    replace Hs := Lib.hid (Hs.out.below hb4)
    replace Ho := Lib.hid (Ho.out.below hb4)
    replace HRo := Lib.hid (HRo.out.below hb4)
    replace Ha := Lib.hid (Ha.out.below hb4)
    replace Hb := Lib.hid (Hb.out.below hb4)
    replace HB := Lib.hid (keep_belowB HB.out ha4 (Nat.le_refl _))
    replace Hs := Lib.hid (Hs.out.below ha4)
    replace Ho := Lib.hid (Ho.out.below ha4)
    replace HRo := Lib.hid (HRo.out.below ha4)
    replace Ha := Lib.hid (Ha.out.below ha4)
    replace Hb := Lib.hid (Hb.out.below ha4)
    clear hV4 hb4 ha4 k0 k1 k2 k3 k4
    go_upto_region 14 with (fail)
    rw [← hX4]
    clear hX4
    obtain ⟨o0, o1, o2, o3, _⟩ := Ho.out.box3.cells
    go_wp2_with fail
    refine (Floor_any s B1 M m cB f X4 HRo.out (HG.out.below HB.out)).mono ?_
    rintro _ x5 ⟨y5, rfl, hV5, hb5⟩
    rw [L2.out, ← Hx.out] at hV5 ⊢
    obtain ⟨A5, c5, rfl, -⟩ := id hV5
    obtain ⟨X5, hX5⟩ : ∃ X5, X5 = x5.alloc (Obj.cells #[Value.bool x.1.s, Value.slice A5 (nd 64 x.1.n) c5, Value.int IntKind.i64 x.1.e] 26) := ⟨_, rfl⟩
    have ha5 : Below x5.heap.size x5 X5 := by rw [hX5]; exact below1 ..
    have Hfy : Hid (DVB 0 x5.heap.size x.1 X5) := by show DVB 0 x5.heap.size x.1 X5; rw [hX5]; exact (DVB.new hV5).mono (Nat.zero_le _)
    replace HB := Lib.hid (keep_belowB HB.out hb5 (Nat.le_refl _))
    replace Hs := Lib.hid (Hs.out.below hb5)
    replace Ho := Lib.hid (Ho.out.below hb5)
    replace HRo := Lib.hid (HRo.out.below hb5)
    replace Ha := Lib.hid (Ha.out.below hb5)
    replace Hb := Lib.hid (Hb.out.below hb5)
    replace Hfx := Lib.hid (Hfx.out.below hb5)
    replace HB := Lib.hid (keep_belowB HB.out ha5 (Nat.le_refl _))
    replace Hs := Lib.hid (Hs.out.below ha5)
    replace Ho := Lib.hid (Ho.out.below ha5)
    replace HRo := Lib.hid (HRo.out.below ha5)
    replace Ha := Lib.hid (Ha.out.below ha5)
    replace Hb := Lib.hid (Hb.out.below ha5)
    replace Hfx := Lib.hid (Hfx.out.below ha5)
    clear hV5 hb5 ha5 o0 o1 o2 o3
    go_upto_region 15 with (fail)
    rw [← hX5]
    clear hX5
    obtain ⟨k0, k1, k2, k3, k4, _⟩ := Hs.out.cells
    go_wp2_with fail
    refine (Top_any s A N n c e X5 (H1.out.below HB.out)).mono ?_
    rintro _ x6 ⟨rfl, hb6⟩
    obtain ⟨t, ht⟩ : ∃ t, t = topD n ⟨s, N, e⟩ := ⟨_, rfl⟩
    rw [← ht]
    have Ht := Lib.hid ht
    clear ht
    replace HB := Lib.hid (keep_belowB HB.out hb6 (Nat.le_refl _))
    replace Hs := Lib.hid (Hs.out.below hb6)
    replace Ho := Lib.hid (Ho.out.below hb6)
    replace HRo := Lib.hid (HRo.out.below hb6)
    replace Ha := Lib.hid (Ha.out.below hb6)
    replace Hb := Lib.hid (Hb.out.below hb6)
    replace Hfx := Lib.hid (Hfx.out.below hb6)
    replace Hfy := Lib.hid (Hfy.out.below hb6)
    clear hb6 k0 k1 k2 k3 k4
    obtain ⟨o0, o1, o2, o3, _⟩ := Ho.out.box3.cells
    go_wp2_with fail
    refine (Top_any s B1 M m cB f x6 HRo.out).mono ?_
    rintro _ x7 ⟨rfl, hb7⟩
    rw [L3.out, ← Ht.out]
    replace HB := Lib.hid (keep_belowB HB.out hb7 (Nat.le_refl _))
    replace Hs := Lib.hid (Hs.out.below hb7)
    replace Ho := Lib.hid (Ho.out.below hb7)
    replace HRo := Lib.hid (HRo.out.below hb7)
    replace Ha := Lib.hid (Ha.out.below hb7)
    replace Hb := Lib.hid (Hb.out.below hb7)
    replace Hfx := Lib.hid (Hfx.out.below hb7)
    replace Hfy := Lib.hid (Hfy.out.below hb7)
    clear hb7 o0 o1 o2 o3
    obtain ⟨Ap, cp, ⟨p0, p1, p2, p3⟩, rp⟩ := Hfx.out.open
    have Rp := Lib.hid rp
    clear rp
    obtain ⟨Aq, cq, ⟨q0, q1, q2, q3⟩, rq⟩ := Hfy.out.open
    have Rq := Lib.hid rq
    clear rq
    have S2 : Hid (sameB x.1.s (nd 64 x.1.n) x.1.n x.1.e x.1.s (nd 64 x.1.n) x.1.n x.1.e = true) := by show _ = _; simp [sameB, sameW]
    have t2 : (x.2 != x.2) = false := by simp
    have t3 : (t.1 != t.1) = false := by simp
    have t4 : (t.2 != t.2) = false := by simp
    go_wp2_with fail
    refine (same_any x.1.s x.1.s Ap Aq x.1.n _ cp x.1.n _ cq x.1.e x.1.e x7 Rp.out Rq.out).mono ?_
    rintro _ x8 ⟨rfl, hb8⟩
    rw [S2.out]
    replace HB := Lib.hid (keep_belowB HB.out hb8 (Nat.le_refl _))
    replace Hs := Lib.hid (Hs.out.below hb8)
    replace Ho := Lib.hid (Ho.out.below hb8)
    replace HRo := Lib.hid (HRo.out.below hb8)
    replace Ha := Lib.hid (Ha.out.below hb8)
    replace Hb := Lib.hid (Hb.out.below hb8)
    replace Hfx := Lib.hid (Hfx.out.below hb8)
    replace Hfy := Lib.hid (Hfy.out.below hb8)
    clear hb8 
    clear p0 p1 p2 p3 Rp q0 q1 q2 q3 Rq Hfx Hfy Hx S2 L1 L2 L3 L4 L5
    by_cases hr0 : r.2 ≠ 0
    · have t5 : (r.2 != 0) = true := by simpa using hr0
      go_wp2_with fail
      go_ret
      exact ⟨rfl, HB.out⟩
    have hr0 : r.2 = 0 := by omega
    have t5 : (r.2 != 0) = false := by simpa using hr0
    obtain ⟨hcan, hcr⟩ := L6.out (by rw [← Hr.out]; exact hr0)
    rw [← Hr.out] at hcan hcr
    have Hcan := Lib.hid hcan
    have Hcr := Lib.hid hcr
    clear hcan hcr hr0
    obtain ⟨Aa, ca, ⟨a0, a1, a2, a3⟩, ra⟩ := Ha.out.open
    have Ra := Lib.hid ra
    clear ra
    go_wp2_with fail
    refine (Canon_any r.1.s Aa r.1.n _ ca r.1.e x8 Ra.out (HG.out.below HB.out)).mono ?_
    rintro _ x9 ⟨y9, rfl, hV9, hb9⟩
    rw [Hcr.out] at hV9 ⊢
    obtain ⟨A9, c9, rfl, -⟩ := id hV9
    replace HB := Lib.hid (keep_belowB HB.out hb9 (Nat.le_refl _))
    replace Hs := Lib.hid (Hs.out.below hb9)
    replace Ho := Lib.hid (Ho.out.below hb9)
    replace HRo := Lib.hid (HRo.out.below hb9)
    replace Ha := Lib.hid (Ha.out.below hb9)
    replace Hb := Lib.hid (Hb.out.below hb9)
    clear a0 a1 a2 a3 Ra t5
    obtain ⟨g0, g1, g2, hbx⟩ := Hb.out.box
    obtain ⟨b0, b1, b2, b3, _⟩ := hbx.box3.cells
    obtain ⟨X9, hX9⟩ : ∃ X9, X9 = (((x9.setCell ⟨x2.heap.size, 0, none⟩ (.bool r.1.s)).setCell ⟨x2.heap.size, 1, none⟩ (.slice A9 (nd 64 r.1.n) c9)).setCell ⟨x2.heap.size, 2, none⟩ (.int .i64 r.1.e)) := ⟨_, rfl⟩
    have hlt2 : w.heap.size ≤ x2.heap.size := Hlt.out
    have HB9 : Hid (Below w.heap.size w X9) := by show Below w.heap.size w X9; rw [hX9]; exact below_box HB.out hlt2 _ _ _
    have Ha9 : Hid (DVB 0 x1.heap.size r.1 X9) := by show DVB 0 x1.heap.size r.1 X9; rw [hX9]; exact Ha.out.other hbx (by omega)
    have Hb9 : Hid (DVB 0 x2.heap.size r.1 X9) := by show DVB 0 x2.heap.size r.1 X9; rw [hX9]; exact DVB.set hbx (hV9.mono (Nat.zero_le _))
    clear hV9 hb9 hbx HB Hs Ho HRo Ha Hb
    go_upto_region 22 with (fail)
    rw [← hX9]
    clear hX9 b0 b1 b2 b3
    have HB := HB9
    have Ha := Ha9
    have Hb := Hb9
    clear HB9 Ha9 Hb9
    obtain ⟨Aa, ca, ⟨a0, a1, a2, a3⟩, ra⟩ := Ha.out.open
    have Ra := Lib.hid ra
    clear ra
    obtain ⟨Ab, cb, ⟨b0, b1, b2, b3⟩, rb⟩ := Hb.out.open
    have Rb := Lib.hid rb
    clear rb
    have S1 : Hid (sameB r.1.s (nd 64 r.1.n) r.1.n r.1.e r.1.s (nd 64 r.1.n) r.1.n r.1.e = true) := by show _ = _; simp [sameB, sameW]
    go_wp2_with fail
    refine (same_any r.1.s r.1.s Aa Ab r.1.n _ ca r.1.n _ cb r.1.e r.1.e X9 Ra.out Rb.out).mono ?_
    rintro _ x10 ⟨rfl, hb10⟩
    rw [S1.out]
    replace HB := Lib.hid (keep_belowB HB.out hb10 (Nat.le_refl _))
    replace Ha := Lib.hid (Ha.out.below hb10)
    replace Hb := Lib.hid (Hb.out.below hb10)
    clear hb10 
    clear a0 a1 a2 a3 Ra b0 b1 b2 b3 Rb
    obtain ⟨Aa, ca, ⟨a0, a1, a2, a3⟩, ra⟩ := Ha.out.open
    have Ra := Lib.hid ra
    clear ra
    go_wp2_with fail
    refine (oddL_any r.1 Aa ca x10 Hcan.out Ra.out).mono ?_
    rintro _ x11 ⟨rfl, hb11⟩
    replace HB := Lib.hid (keep_belowB HB.out hb11 (Nat.le_refl _))
    replace Ha := Lib.hid (Ha.out.below hb11)
    replace Hb := Lib.hid (Hb.out.below hb11)
    clear hb11 
    go_wp2_with fail
    go_ret
    exact ⟨rfl, HB.out⟩

end Go.Proofs.YtomhmbnpkphcmaaDoor
