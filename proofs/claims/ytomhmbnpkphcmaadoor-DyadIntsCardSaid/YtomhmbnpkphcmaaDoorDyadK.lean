/- Walks of layer 3: Mul. -/
import Derived.Test.YtomhmbnpkphcmaaDoorDyadJ
import Derived.Test.YtomhmbnpkphcmaaDoorInv
import Derived.Deep.CutBlock
namespace Go.Proofs.YtomhmbnpkphcmaaDoor
set_option linter.unusedVariables false
open Go.RowKit

def mulD (n1 : Nat) (a : D) (n2 : Nat) (b : D) : D × Int :=
  if twoD n1 a.e n2 b.e = 0 then
    (if (mulN (oddD a).n (oddD b).n).2 = 0 then ansD ⟨(oddD a).s != (oddD b).s, (mulN (oddD a).n (oddD b).n).1, (oddD a).e + (oddD b).e⟩ else (D.zero, (mulN (oddD a).n (oddD b).n).2))
  else (D.zero, twoD n1 a.e n2 b.e)

/-- what the statement 'x, y := odd(a), odd(b)' leaves -/
def MulCut (w1 w : World) (o1 o2 : D) (p q : Value) : Prop :=
  ∃ g7 g8 A3 c3 A4 c4, p = .pointer (some ⟨g7, 0, none⟩) ∧ q = .pointer (some ⟨g8, 0, none⟩) ∧ Box3 w g7 (.bool o1.s) (.slice A3 (nd 64 o1.n) c3) (.int .i64 o1.e) ∧ Box3 w g8 (.bool o2.s) (.slice A4 (nd 64 o2.n) c4) (.int .i64 o2.e) ∧
    Rd 64 w (.slice A3 (nd 64 o1.n) c3) o1.n (nd 64 o1.n) ∧ Rd 64 w (.slice A4 (nd 64 o2.n) c4) o2.n (nd 64 o2.n) ∧ w1.heap.size ≤ g7 ∧ w1.heap.size ≤ g8 ∧ Below w1.heap.size w1 w

set_option maxRecDepth 100000 in
set_option maxHeartbeats 2000000 in
theorem DMul_any (s1 s2 : Bool) (A1 A2 : Option Addr) (N n1 c1 M n2 c2 : Nat) (e1 e2 : Int) (w : World) (hv : Rd 64 w (.slice A1 n1 c1) N n1) (hu : Rd 64 w (.slice A2 n2 c2) M n2) (hG : Gl w) :
    Calls Tryd.prog 30 #[.agg #[.bool s1, .slice A1 n1 c1, .int .i64 e1], .agg #[.bool s2, .slice A2 n2 c2, .int .i64 e2]] w fun e' w' =>
      ∃ x, e' = .returned (.tuple #[x, .int .i64 (mulD n1 ⟨s1, N, e1⟩ n2 ⟨s2, M, e2⟩).2]) ∧ DV w.heap.size w' x (mulD n1 ⟨s1, N, e1⟩ n2 ⟨s2, M, e2⟩).1 ∧ Below w.heap.size w w' := by
  have hl1 := hv.len
  have hl2 := hu.len
  obtain ⟨W, hW⟩ : ∃ W, W = (((w.alloc (Obj.cells #[Value.bool s1, Value.slice A1 n1 c1, Value.int IntKind.i64 e1] 26)).alloc (Obj.cells #[Value.bool s2, Value.slice A2 n2 c2, Value.int IntKind.i64 e2] 26)).alloc
    (Obj.cells #[Value.bool false, Value.slice none 0 0, Value.int IntKind.i64 0] 26)) := ⟨_, rfl⟩
  have hB : Below w.heap.size w W := by rw [hW]; exact below3 ..
  have b0 : Box3 W w.heap.size (.bool s1) (.slice A1 n1 c1) (.int .i64 e1) := by rw [hW]; exact ((Box3.new ..).alloc _).alloc _
  have b1 : Box3 W (w.heap.size + 1) (.bool s2) (.slice A2 n2 c2) (.int .i64 e2) := by rw [hW]; exact (Box3.new1 ..).alloc _
  have b2 : Box3 W (w.heap.size + 1 + 1) (.bool false) (.slice none 0 0) (.int .i64 0) := by rw [hW]; exact Box3.new2 ..
  have hWs : W.heap.size = w.heap.size + 3 := by rw [hW]; simp
  by_cases hr : twoD n1 e1 n2 e2 = 0
  · obtain ⟨hr1, hr2⟩ := twoD_zero hr
    have hb1' := refD_zero hr1
    have hb2' := refD_zero hr2
    have ho1 := oddD_arg (s := s1) hv.lt hr1
    have ho2 := oddD_arg (s := s2) hu.lt hr2
    have E : Hid (mulD n1 ⟨s1, N, e1⟩ n2 ⟨s2, M, e2⟩ = if (mulN (oddD ⟨s1, N, e1⟩).n (oddD ⟨s2, M, e2⟩).n).2 = 0 then ansD ⟨(oddD ⟨s1, N, e1⟩).s != (oddD ⟨s2, M, e2⟩).s, (mulN (oddD ⟨s1, N, e1⟩).n (oddD ⟨s2, M, e2⟩).n).1, (oddD ⟨s1, N, e1⟩).e + (oddD ⟨s2, M, e2⟩).e⟩ else (D.zero, (mulN (oddD ⟨s1, N, e1⟩).n (oddD ⟨s2, M, e2⟩).n).2)) := by show _ = _; unfold mulD; rw [if_pos hr]
    go_enter Tryd.func30, Tryd.ntmps30
    go_wp2_with fail
    rw [← hW]
    refine (two_any s1 s2 A1 A2 n1 n2 c1 c2 e1 e2 W hl1 hl2).mono ?_
    rintro e' w1 ⟨rfl, hbw⟩
    rw [hr]
    clear hr hW hr1 hr2
    obtain ⟨k0, k1, k2, f0, _⟩ := (b0.keep hbw).cells
    obtain ⟨k3, k4, k5, f1, _⟩ := (b1.keep hbw).cells
    have hBW1 := keep_belowB hB hbw (Nat.le_refl _)
    have b2w := b2.keep hbw
    have hG1 := hG.below hBW1
    have hv1 := hv.below hBW1
    have hu1 := hu.below hBW1
    have hz1 : w.heap.size + 3 ≤ w1.heap.size := by have := hbw.size; omega
    have hle2 : w.heap.size ≤ w.heap.size + 1 + 1 := by omega
    clear hv hu hG b0 b1 b2 hB hWs hbw
    have he1a : -1000000000000 ≤ e1 := by omega
    have he1b : e1 ≤ 1000000000000 := by omega
    have he2a : -1000000000000 ≤ e2 := by omega
    have he2b : e2 ≤ 1000000000000 := by omega
    obtain ⟨o1, ho1e⟩ : ∃ o, o = oddD ⟨s1, N, e1⟩ := ⟨_, rfl⟩
    obtain ⟨o2, ho2e⟩ : ∃ o, o = oddD ⟨s2, M, e2⟩ := ⟨_, rfl⟩
    rw [← ho1e] at ho1 E
    rw [← ho2e] at ho2 E
    have g1 : -100000000000 ≤ o1.e ∧ o1.e ≤ 100000000000 := by omega
    have g2 : -100000000000 ≤ o2.e ∧ o2.e ≤ 100000000000 := by omega
    have Ho1 := Lib.hid ho1e
    have Ho2 := Lib.hid ho2e
    clear ho1e ho2e hb1' hb2' ho1 ho2 hl1 hl2
    have hsz : w.heap.size ≤ w1.heap.size := by omega
    go_upto_region 4 with (fail)
    go_cut [7, 8] (fun p q wx => MulCut w1 wx o1 o2 p q)
    case first =>
      refine wp_region_J [18, 19, 20, 21, 7, 8] (fun l vs wx => ∃ l0 l1 l2 l3 l4 l5 l6 l7 v18 v19 v20 v21 p7 p8, l = [l0, l1, l2, l3, l4, l5, l6, l7] ∧ vs = [v18, v19, v20, v21, p7, p8] ∧ Below w1.heap.size w1 wx ∧
        (l0 = true → v18 = .agg #[.bool s1, .slice A1 n1 c1, .int .i64 e1]) ∧ (l2 = true → v20 = .agg #[.bool s2, .slice A2 n2 c2, .int .i64 e2]) ∧ SideD w1.heap.size o1 l1 l4 l6 v19 p7 wx ∧ SideD w1.heap.size o2 l3 l5 l7 v21 p8 wx ∧ (l4 = true → l5 = true → p7 ≠ p8)) (by kernel_rfl) ?_ ?_ ?_ ?_ ?_
      · intro vs hvs
        obtain ⟨v0, v1, v2, v3, v4, v5, rfl⟩ : ∃ v0 v1 v2 v3 v4 v5, vs = [v0, v1, v2, v3, v4, v5] := by
          match vs, hvs with
          | [a, b, c, d, e, f], _ => exact ⟨a, b, c, d, e, f, rfl⟩
        exact ⟨false, false, false, false, false, false, false, false, v0, v1, v2, v3, v4, v5, rfl, rfl, (Below.refl _ _).drew, nofun, nofun, SideD.start .., SideD.start .., nofun⟩
      · refine ⟨?_, ?_, ?_, ?_, ?_, ?_, ?_, ?_, trivial⟩
        · rintro _ _ wx ⟨l0, l1, l2, l3, l4, l5, l6, l7, v18, v19, v20, v21, p7, p8, rfl, rfl, hB, h18, h20, hS1, hS2, hne⟩ hl hall K' hK
          have q0 := keep_cell hB k0
          have q1 := keep_cell hB k1
          have q2 := keep_cell hB k2
          clear k0 k1 k2 k3 k4 k5
          simp only [putL, Act.put, List.setIfInBounds_toArray, List.set_cons_zero, List.set_cons_succ]
          go_simp
          have hh := hK.out [.agg #[.bool s1, .slice A1 n1 c1, .int .i64 e1], v19, v20, v21, p7, p8] wx ⟨true, l1, l2, l3, l4, l5, l6, l7, _, v19, v20, v21, p7, p8, rfl, rfl, hB, fun _ => rfl, h20, hS1, hS2, hne⟩
          simp only [putL, Act.put, List.setIfInBounds_toArray, List.set_cons_zero, List.set_cons_succ] at hh
          exact hh
        · rintro _ _ wx ⟨l0, l1, l2, l3, l4, l5, l6, l7, v18, v19, v20, v21, p7, p8, rfl, rfl, hB, h18, h20, hS1, hS2, hne⟩ hl hall K' hK
          obtain rfl : l0 = true := hall ⟨0, .data⟩ (by simp) (by rfl)
          obtain rfl : l1 = false := by simpa using hl
          obtain rfl := h18 rfl
          clear k0 k1 k2 k3 k4 k5
          simp only [putL, Act.put, List.setIfInBounds_toArray, List.set_cons_zero, List.set_cons_succ]
          go_simp
          refine (odd_any s1 (.slice A1 n1 c1) N n1 e1 _ (hv1.below hB) (hG1.below hB) ⟨he1a, he1b⟩).mono ?_
          rintro e w2 ⟨x2, rfl, hV2, hx1⟩
          rw [← Ho1.out] at hV2
          go_simp
          have hh := hK.out [.agg #[.bool s1, .slice A1 n1 c1, .int .i64 e1], x2, v20, v21, p7, p8] w2 ⟨true, true, l2, l3, l4, l5, l6, l7, _, x2, v20, v21, p7, p8, rfl, rfl, keep_below hB hx1, fun _ => rfl, h20, hS1.call hx1 (hV2.mono hB.size), hS2.below hx1, hne⟩
          simp only [putL, Act.put, List.setIfInBounds_toArray, List.set_cons_zero, List.set_cons_succ] at hh
          exact hh
        · rintro _ _ wx ⟨l0, l1, l2, l3, l4, l5, l6, l7, v18, v19, v20, v21, p7, p8, rfl, rfl, hB, h18, h20, hS1, hS2, hne⟩ hl hall K' hK
          have q0 := keep_cell hB k3
          have q1 := keep_cell hB k4
          have q2 := keep_cell hB k5
          clear k0 k1 k2 k3 k4 k5
          simp only [putL, Act.put, List.setIfInBounds_toArray, List.set_cons_zero, List.set_cons_succ]
          go_simp
          have hh := hK.out [v18, v19, .agg #[.bool s2, .slice A2 n2 c2, .int .i64 e2], v21, p7, p8] wx ⟨l0, l1, true, l3, l4, l5, l6, l7, v18, v19, _, v21, p7, p8, rfl, rfl, hB, h18, fun _ => rfl, hS1, hS2, hne⟩
          simp only [putL, Act.put, List.setIfInBounds_toArray, List.set_cons_zero, List.set_cons_succ] at hh
          exact hh
        · rintro _ _ wx ⟨l0, l1, l2, l3, l4, l5, l6, l7, v18, v19, v20, v21, p7, p8, rfl, rfl, hB, h18, h20, hS1, hS2, hne⟩ hl hall K' hK
          obtain rfl : l2 = true := hall ⟨2, .data⟩ (by simp) (by rfl)
          obtain rfl : l3 = false := by simpa using hl
          obtain rfl := h20 rfl
          clear k0 k1 k2 k3 k4 k5
          simp only [putL, Act.put, List.setIfInBounds_toArray, List.set_cons_zero, List.set_cons_succ]
          go_simp
          refine (odd_any s2 (.slice A2 n2 c2) M n2 e2 _ (hu1.below hB) (hG1.below hB) ⟨he2a, he2b⟩).mono ?_
          rintro e w2 ⟨x2, rfl, hV2, hx1⟩
          rw [← Ho2.out] at hV2
          go_simp
          have hh := hK.out [v18, v19, .agg #[.bool s2, .slice A2 n2 c2, .int .i64 e2], x2, p7, p8] w2 ⟨l0, l1, true, true, l4, l5, l6, l7, v18, v19, _, x2, p7, p8, rfl, rfl, keep_below hB hx1, h18, fun _ => rfl, hS1.below hx1, hS2.call hx1 (hV2.mono hB.size), hne⟩
          simp only [putL, Act.put, List.setIfInBounds_toArray, List.set_cons_zero, List.set_cons_succ] at hh
          exact hh
        · rintro _ _ wx ⟨l0, l1, l2, l3, l4, l5, l6, l7, v18, v19, v20, v21, p7, p8, rfl, rfl, hB, h18, h20, hS1, hS2, hne⟩ hl hall K' hK
          obtain rfl : l4 = false := by simpa using hl
          clear k0 k1 k2 k3 k4 k5
          simp only [putL, Act.put, List.setIfInBounds_toArray, List.set_cons_zero, List.set_cons_succ]
          go_simp
          have hh := hK.out [v18, v19, v20, v21, .pointer (some ⟨wx.heap.size, 0, none⟩), p8] (wx.alloc (Obj.cells #[Value.bool false, Value.slice none 0 0, Value.int IntKind.i64 0] 26)) ⟨l0, l1, l2, l3, true, l5, l6, l7, v18, v19, v20, v21, _, p8, rfl, rfl, below_alloc' hB _, h18, h20, hS1.make hB.size _ _ _, hS2.below (below1 _ _), fun _ h => by subst h; obtain ⟨g, _, _, _, rfl, _, hb⟩ := hS2.ptr; have := hb.lt; intro e; injection e with e; injection e with e; injection e with e; omega⟩
          simp only [putL, Act.put, List.setIfInBounds_toArray, List.set_cons_zero, List.set_cons_succ] at hh
          exact hh
        · rintro _ _ wx ⟨l0, l1, l2, l3, l4, l5, l6, l7, v18, v19, v20, v21, p7, p8, rfl, rfl, hB, h18, h20, hS1, hS2, hne⟩ hl hall K' hK
          obtain rfl : l5 = false := by simpa using hl
          clear k0 k1 k2 k3 k4 k5
          simp only [putL, Act.put, List.setIfInBounds_toArray, List.set_cons_zero, List.set_cons_succ]
          go_simp
          have hh := hK.out [v18, v19, v20, v21, p7, .pointer (some ⟨wx.heap.size, 0, none⟩)] (wx.alloc (Obj.cells #[Value.bool false, Value.slice none 0 0, Value.int IntKind.i64 0] 26)) ⟨l0, l1, l2, l3, l4, true, l6, l7, v18, v19, v20, v21, p7, _, rfl, rfl, below_alloc' hB _, h18, h20, hS1.below (below1 _ _), hS2.make hB.size _ _ _, fun h _ => by subst h; obtain ⟨g, _, _, _, rfl, _, hb⟩ := hS1.ptr; have := hb.lt; intro e; injection e with e; injection e with e; injection e with e; omega⟩
          simp only [putL, Act.put, List.setIfInBounds_toArray, List.set_cons_zero, List.set_cons_succ] at hh
          exact hh
        · rintro _ _ wx ⟨l0, l1, l2, l3, l4, l5, l6, l7, v18, v19, v20, v21, p7, p8, rfl, rfl, hB, h18, h20, hS1, hS2, hne⟩ hl hall K' hK
          have h1 : l1 = true := hall ⟨1, .data⟩ (by simp) (by rfl)
          have h4 : l4 = true := hall ⟨4, .data⟩ (by simp) (by rfl)
          clear hall hl
          subst h1 h4
          simp only [putL, Act.put, List.setIfInBounds_toArray, List.set_cons_zero, List.set_cons_succ]
          obtain ⟨A3, c3, rfl⟩ := hS1.val
          obtain ⟨g, a, b, c, rfl, hg, hb⟩ := hS1.ptr
          obtain ⟨r0, r1, r2, r3, _⟩ := hb.box3.cells
          clear k0 k1 k2 k3 k4 k5
          go_simp
          have hh := hK.out [v18, .agg #[.bool o1.s, .slice A3 (nd 64 o1.n) c3, .int .i64 o1.e], v20, v21, .pointer (some ⟨g, 0, none⟩), p8] (((wx.setCell ⟨g, 0, none⟩ (.bool o1.s)).setCell ⟨g, 1, none⟩ (.slice A3 (nd 64 o1.n) c3)).setCell ⟨g, 2, none⟩ (.int .i64 o1.e)) ⟨l0, true, l2, l3, true, l5, true, l7, v18, _, v20, v21, _, p8, rfl, rfl, below_box hB hg _ _ _, h18, h20, hS1.store, hS2.other hb (fun h e => hne rfl h e.symm), hne⟩
          simp only [putL, Act.put, List.setIfInBounds_toArray, List.set_cons_zero, List.set_cons_succ] at hh
          exact hh
        · rintro _ _ wx ⟨l0, l1, l2, l3, l4, l5, l6, l7, v18, v19, v20, v21, p7, p8, rfl, rfl, hB, h18, h20, hS1, hS2, hne⟩ hl hall K' hK
          have h1 : l3 = true := hall ⟨3, .data⟩ (by simp) (by rfl)
          have h4 : l5 = true := hall ⟨5, .data⟩ (by simp) (by rfl)
          clear hall hl
          subst h1 h4
          simp only [putL, Act.put, List.setIfInBounds_toArray, List.set_cons_zero, List.set_cons_succ]
          obtain ⟨A3, c3, rfl⟩ := hS2.val
          obtain ⟨g, a, b, c, rfl, hg, hb⟩ := hS2.ptr
          obtain ⟨r0, r1, r2, r3, _⟩ := hb.box3.cells
          clear k0 k1 k2 k3 k4 k5
          go_simp
          have hh := hK.out [v18, v19, v20, .agg #[.bool o2.s, .slice A3 (nd 64 o2.n) c3, .int .i64 o2.e], p7, .pointer (some ⟨g, 0, none⟩)] (((wx.setCell ⟨g, 0, none⟩ (.bool o2.s)).setCell ⟨g, 1, none⟩ (.slice A3 (nd 64 o2.n) c3)).setCell ⟨g, 2, none⟩ (.int .i64 o2.e)) ⟨l0, l1, l2, true, l4, true, l6, true, v18, v19, v20, _, p7, _, rfl, rfl, below_box hB hg _ _ _, h18, h20, hS1.other hb (fun h e => hne h rfl e), hS2.store, hne⟩
          simp only [putL, Act.put, List.setIfInBounds_toArray, List.set_cons_zero, List.set_cons_succ] at hh
          exact hh
      · rintro vs wx ⟨l0, l1, l2, l3, l4, l5, l6, l7, v18, v19, v20, v21, p7, p8, hl, rfl, hB, h18, h20, hS1, hS2, hne⟩
        obtain ⟨rfl, rfl, rfl, rfl, rfl, rfl, rfl, rfl⟩ : true = l0 ∧ true = l1 ∧ true = l2 ∧ true = l3 ∧ true = l4 ∧ true = l5 ∧ true = l6 ∧ true = l7 := by simpa using hl
        simp only [putL, Act.put, List.setIfInBounds_toArray, List.set_cons_zero, List.set_cons_succ]
        go_wp2_with fail
        go_meet
        case rel =>
          obtain ⟨g7, A3, c3, rfl, hg7, hb7, hr7, _⟩ := hS1.done
          obtain ⟨g8, A4, c4, rfl, hg8, hb8, hr8, _⟩ := hS2.done
          exact ⟨g7, g8, A3, c3, A4, c4, rfl, rfl, hb7, hb8, hr7, hr8, hg7, hg8, hB⟩
      · rintro _ vs wx ⟨l0, l1, l2, l3, l4, l5, l6, l7, v18, v19, v20, v21, p7, p8, rfl, _⟩
        rfl
      · rintro _ vs wx ⟨l0, l1, l2, l3, l4, l5, l6, l7, v18, v19, v20, v21, p7, p8, rfl, -⟩
        revert l0 l1 l2 l3 l4 l5 l6 l7
        decide +kernel
    case rest =>
      obtain ⟨g7, g8, A3, c3, A4, c4, rfl, rfl, hb7, hb8, hR7, hR8, hg7, hg8, hBc⟩ := hcut
      obtain ⟨r0, r1, r2, _, _⟩ := hb7.cells
      obtain ⟨t0, t1, t2, _, _⟩ := hb8.cells
      have b2c := b2w.keep hBc
      have hBWc := keep_belowB hBW1 hBc (Nat.le_refl _)
      have hGc := hG1.below hBc
      clear b2w hBW1 hG1 hv1 hu1 Ho1 Ho2 k0 k1 k2 k3 k4 k5 f0 f1
      have hsc := hBc.size
      go_wp2_with fail
      refine (Mul_any _ _ o1.n _ o2.n _ wc hR7 hR8).mono ?_
      rintro e w5 ⟨v5, rfl, hR5, hF5, hx5⟩
      obtain ⟨r0, r1, r2, _, _⟩ := (hb7.keep hx5).cells
      obtain ⟨t0, t1, t2, _, _⟩ := (hb8.keep hx5).cells
      have b25 := b2c.keep hx5
      have hBW5 := keep_belowB hBWc hx5 (Nat.le_refl _)
      have hG5 := hGc.below hx5
      have hs5 := hx5.size
      clear hb7 hb8 b2c hBWc hGc hBc hx5 hR7 hR8
      have hE0 : (mulN o1.n o2.n).2 = 0 ∨ ((mulN o1.n o2.n).2 != 0) = true := by
        by_cases h : (mulN o1.n o2.n).2 = 0
        · exact Or.inl h
        · exact Or.inr (by simpa using h)
      rcases hE0 with hm | hm
      · have E2 : Hid (mulD n1 ⟨s1, N, e1⟩ n2 ⟨s2, M, e2⟩ = ansD ⟨o1.s != o2.s, (mulN o1.n o2.n).1, o1.e + o2.e⟩) := by show _ = _; rw [E.out, if_pos hm]
        rw [hm]
        generalize (mulN o1.n o2.n).1 = X at *
        have hw : IntKind.i64.wrap (o1.e + o2.e) = o1.e + o2.e := by rw [IntKind.wrap_i64]; omega
        obtain ⟨q1, q2, q3, q4, _⟩ := b25.cells
        clear q1 q2 q3 q4 hF5 E hm
        obtain ⟨A5, c5, rfl, -, -⟩ := hR5.form
        go_wp2_with fail
        refine (answer_any (o1.s != o2.s) (.slice A5 _ c5) X _ (o1.e + o2.e) w5 hR5 hG5 (by omega)).mono ?_
        rintro e w6 ⟨x6, rfl, hV6, hx6⟩
        obtain ⟨A6, c6, rfl, -⟩ := id hV6
        obtain ⟨q1, q2, q3, q4, _⟩ := (b25.keep hx6).cells
        have hBW6 := keep_belowB hBW5 hx6 (Nat.le_refl _)
        have hz5 : w.heap.size + 1 + 1 < w5.heap.size := by omega
        generalize ansD ⟨o1.s != o2.s, X, o1.e + o2.e⟩ = r at *
        clear b25 hBW5 hx6 hR5 hG5 r0 r1 r2 t0 t1 t2
        go_wp2
        refine bodyPost_ret (v := .tuple #[.agg #[.bool r.1.s, .slice A6 (nd 64 r.1.n) c6, .int .i64 r.1.e], .int .i64 r.2]) (by simp [results, Tryd.results30, go_sem, q1, q2, q3]) rfl ?_
        rw [E2.out]
        exact ⟨_, rfl, (hV6.setBox hz5 _ _ _).mono (by omega), below_box hBW6 hle2 _ _ _⟩
      · have E2 : Hid (mulD n1 ⟨s1, N, e1⟩ n2 ⟨s2, M, e2⟩ = (D.zero, (mulN o1.n o2.n).2)) := by show _ = _; rw [E.out, if_neg (by simpa using hm)]
        generalize (mulN o1.n o2.n).2 = rr at *
        obtain ⟨k3, k4, k5, f1, _⟩ := b25.cells
        clear b25 hR5 hG5 r0 r1 r2 t0 t1 t2 hF5 E
        go_wp2
        refine bodyPost_ret (v := .tuple #[.agg #[.bool false, .slice none 0 0, .int .i64 0], .int .i64 rr]) (by simp [results, Tryd.results30, go_sem, k3, k4, k5]) rfl ?_
        rw [E2.out]
        exact ⟨_, rfl, DV.zero, below_box hBW5 hle2 _ _ _⟩
  · have E : Hid (mulD n1 ⟨s1, N, e1⟩ n2 ⟨s2, M, e2⟩ = (D.zero, twoD n1 e1 n2 e2)) := by show _ = _; unfold mulD; rw [if_neg hr]
    have hne : (twoD n1 e1 n2 e2 != 0) = true := by simpa using hr
    go_enter Tryd.func30, Tryd.ntmps30
    go_wp2_with fail
    rw [← hW]
    refine (two_any s1 s2 A1 A2 n1 n2 c1 c2 e1 e2 W hl1 hl2).mono ?_
    rintro e1' w1 ⟨rfl, hbw⟩
    generalize twoD n1 e1 n2 e2 = rr at *
    clear hr hW
    obtain ⟨k3, k4, k5, f1, _⟩ := (b2.keep hbw).cells
    have hBW1 := keep_belowB hB hbw (Nat.le_refl _)
    clear b0 b1 b2 hB hWs hbw
    go_wp2
    refine bodyPost_ret (v := .tuple #[.agg #[.bool false, .slice none 0 0, .int .i64 0], .int .i64 rr]) (by simp [results, Tryd.results30, go_sem, k3, k4, k5]) rfl ?_
    rw [E.out]
    exact ⟨_, rfl, DV.zero, below_box hBW1 (by omega) _ _ _⟩

end Go.Proofs.YtomhmbnpkphcmaaDoor
