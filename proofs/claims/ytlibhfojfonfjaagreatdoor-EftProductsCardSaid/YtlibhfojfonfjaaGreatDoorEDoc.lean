/- Walks of layer 18's law: two, right, value, opposite; vernierref06.Opposite. -/
import Derived.Test.YtlibhfojfonfjaaGreatDoorEMir
import Derived.Test.YtlibhfojfonfjaaGreatDoorEft
import Derived.Test.YtlibhfojfonfjaaGreatDoorPackU
namespace Go.Proofs.YtlibhfojfonfjaaGreatDoor
set_option linter.unusedVariables false
set_option linter.unusedSimpArgs false
open Go.RowKit

theorem rparams18 (f : Nat) (w : World) (hf : f < 4) : Calls Tryz.prog 46 #[.int .i64 f] w fun e w' => e = .returned (.tuple #[.int .i64 (fm f).w, .int .i64 (fm f).p, .int .i64 (fm f).emin]) ∧ w = w' := by
  have h4 : f = 0 ∨ f = 1 ∨ f = 2 ∨ f = 3 := by omega
  rcases h4 with rfl | rfl | rfl | rfl
  all_goals
    go_enter Tryz.func46, Tryz.ntmps46
    go_wp2
  · refine bodyPost_ret (v := .tuple #[.int .i64 16, .int .i64 11, .int .i64 (-14)]) (by simp [results, Tryz.results46, go_sem]) rfl ⟨rfl, rfl⟩
  · refine bodyPost_ret (v := .tuple #[.int .i64 16, .int .i64 8, .int .i64 (-126)]) (by simp [results, Tryz.results46, go_sem]) rfl ⟨rfl, rfl⟩
  · refine bodyPost_ret (v := .tuple #[.int .i64 32, .int .i64 24, .int .i64 (-126)]) (by simp [results, Tryz.results46, go_sem]) rfl ⟨rfl, rfl⟩
  · refine bodyPost_ret (v := .tuple #[.int .i64 64, .int .i64 53, .int .i64 (-1022)]) (by simp [results, Tryz.results46, go_sem]) rfl ⟨rfl, rfl⟩


/-- Single or Double -/
def twoF (f : Int) : Nat := if f.tmod 2 = 0 then 2 else 3
theorem twoF_ok (f : Int) : twoF f = 2 ∨ twoF f = 3 := by unfold twoF; split <;> simp
theorem twoF_lt (f : Int) : twoF f < 4 := by have := twoF_ok f; omega

theorem two18_any (f : Int) (w : World) : Calls Tryz.prog 5 #[.int .i64 f] w fun e w' => e = .returned (.int .i64 (twoF f : Nat)) ∧ w = w' := by
  have h1 : -2 < f.tmod 2 ∧ f.tmod 2 < 2 := ⟨Int.lt_tmod_of_pos f (by decide), Int.tmod_lt_of_pos f (by decide)⟩
  have hw : wrap64 (f.tmod 2) = f.tmod 2 := by unfold wrap64; omega
  by_cases h : f.tmod 2 = 0
  · have ht : (f.tmod 2 == 0) = true := by simpa using h
    have e2 : twoF f = 2 := by unfold twoF; rw [if_pos h]
    rw [e2]
    clear e2 h h1
    go_enter Tryz.func5, Tryz.ntmps5
    go_wp2_with fail
    go_ret
    exact ⟨rfl, rfl⟩
  · have ht : (f.tmod 2 == 0) = false := by simpa using h
    have e2 : twoF f = 3 := by unfold twoF; rw [if_neg h]
    rw [e2]
    clear e2 h h1
    go_enter Tryz.func5, Tryz.ntmps5
    go_wp2_with fail
    go_ret
    exact ⟨rfl, rfl⟩

/-- brought to the format's width -/
def rightF (n a : Nat) : Nat := if n = 2 then a % 4294967296 else a
theorem rightF_lt {n a : Nat} (hn : n = 2 ∨ n = 3) (ha : a < 18446744073709551616) : rightF n a < 2 ^ (fm n).w := by
  unfold rightF
  rcases hn with rfl | rfl
  · rw [if_pos rfl]; show _ < 4294967296; exact Nat.mod_lt _ (by decide)
  · rw [if_neg (by decide)]; exact ha
theorem rightF_64 {n a : Nat} (ha : a < 18446744073709551616) : rightF n a < 18446744073709551616 := by
  unfold rightF; split
  · exact Nat.lt_of_le_of_lt (Nat.mod_le _ _) ha
  · exact ha

theorem right18_any (n a : Nat) (w : World) (hn : n = 2 ∨ n = 3) (ha : a < 18446744073709551616) : Calls Tryz.prog 6 #[.int .i64 n, .int .u64 a] w fun e w' => e = .returned (.int .u64 (rightF n a : Nat)) ∧ w = w' := by
  rcases hn with rfl | rfl
  · rw [show rightF 2 a = a % 4294967296 from rfl]
    go_enter Tryz.func6, Tryz.ntmps6
    go_wp2_with fail
    go_ret
    exact ⟨by simp, rfl⟩
  · rw [show rightF 3 a = a from rfl]
    go_enter Tryz.func6, Tryz.ntmps6
    go_wp2_with fail
    go_ret
    exact ⟨rfl, rfl⟩

theorem rf_set18 {B : Nat} {w : World} {v : Value} {N n : Nat} (h : Rd 64 w v N n ∧ Fr B w v) {p : Addr} (hp : p.block < B) (u : Value) : Rd 64 (w.setCell p u) v N n ∧ Fr B (w.setCell p u) v := ⟨h.1.setCell_fr h.2 hp u, h.2.setCell hp u⟩

theorem Value_vf' (f : Int) (a : Nat) (d : D) (z : Int) (ha : a < 18446744073709551616) (hd : d = valA f a) (hz : z = valE f a) (w : World) (hG : GlR w) (hT : Gl w) :
    Calls Tryz.prog 17 #[.int .i64 f, .int .u64 a] w fun e w' => ∃ A c, e = .returned (.tuple #[.agg #[.bool d.s, .slice A (nd 64 d.n) c, .int .i64 d.e], .int .i64 z]) ∧ (Rd 64 w' (.slice A (nd 64 d.n) c) d.n (nd 64 d.n) ∧ Fr w.heap.size w' (.slice A (nd 64 d.n) c)) ∧ Below w.heap.size w w' := by
  subst hd hz
  refine (Value_any f a w ha hG hT).mono ?_
  rintro e w' ⟨x, rfl, ⟨A, c, rfl, _, _, h, h'⟩, hb⟩
  exact ⟨A, c, rfl, ⟨h, h'⟩, hb⟩

set_option maxRecDepth 100000 in
theorem value18 (n a : Nat) (w : World) (hn : n < 4) (ha : a < 2 ^ (fm n).w) (hG : Gl w) (hR : GlR w) :
    Calls Tryz.prog 7 #[.int .i64 n, .int .u64 a] w fun e w' => ∃ A c, e = .returned (.tuple #[.agg #[.bool (valA n a).s, .slice A (nd 64 (valA n a).n) c, .int .i64 (valA n a).e], .bool (finP (fm n) a)]) ∧ Rd 64 w' (.slice A (nd 64 (valA n a).n) c) (valA n a).n (nd 64 (valA n a).n) ∧ Below w.heap.size w w' := by
  have hv := fun wx h1 h2 => Value_vf' (n : Int) a (valA n a) (valE n a) (Nat.lt_of_lt_of_le ha (Nat.pow_le_pow_right (show 0 < 2 by decide) (fm_ok n).w64)) rfl rfl wx h1 h2
  obtain ⟨d, hd⟩ : ∃ d, d = valA n a := ⟨_, rfl⟩
  obtain ⟨z, hz⟩ : ∃ z, z = valE n a := ⟨_, rfl⟩
  obtain ⟨b, hbz⟩ : ∃ b, (z == 0) = b := ⟨_, rfl⟩
  have hb' : finP (fm n) a = b := by
    rw [← hbz, hz]
    unfold finP
    by_cases h : (fm n).abs a < (fm n).inf
    · rw [valE_fin hn ha h, decide_eq_true h]; rfl
    · rw [valE_inf hn ha h, decide_eq_false h]; rfl
  rw [hb']
  rw [← hd, ← hz] at hv
  rw [← hd]
  have Hv := Lib.hid hv
  have hb0 := below1 w (.cells #[.bool false, .slice none 0 0, .int .i64 0] 28)
  have b4 := Box3.new w (.bool false) (.slice none 0 0) (.int .i64 0) 28
  have HB := Lib.hid hb0
  have B4 := Lib.hid b4
  have HG := Lib.hid (hG.below hb0)
  have HR := Lib.hid (hR.below hb0)
  clear hv hd hn ha hG hR hb0 b4 hz hb'
  go_enter Tryz.func7, Tryz.ntmps7
  go_wp2_with fail
  refine (Hv.out _ HR.out HG.out).mono ?_
  rintro _ w1 ⟨A, c, rfl, hrd, hb1⟩
  replace HB := Lib.hid (keep_belowB HB.out hb1 (Nat.le_refl _))
  replace B4 := Lib.hid (B4.out.keep hb1)
  have hb2 := below1 w1 (.cells #[.bool d.s, .slice A (nd 64 d.n) c, .int .i64 d.e] 28)
  have V5 := Lib.hid (VB.new hrd.1 28)
  replace HB := Lib.hid (keep_belowB HB.out hb2 (Nat.le_refl _))
  replace B4 := Lib.hid (B4.out.keep hb2)
  obtain ⟨x0, x1, x2, -, -⟩ := V5.out.bx.cells
  obtain ⟨c0, c1, c2, cf, -⟩ := B4.out.cells
  have HF := Lib.hid (And.intro V5.out.rd (hrd.2.below hb2))
  clear hb1 hb2 Hv hrd
  go_wp2_with fail
  obtain ⟨r0, r1, r2, -, -⟩ := (B4.out.setAll (.bool d.s) (.slice A (nd 64 d.n) c) (.int .i64 d.e)).cells
  refine bodyPost_ret (v := .tuple #[.agg #[.bool d.s, .slice A (nd 64 d.n) c, .int .i64 d.e], .bool b]) (by simp [results, Tryz.results7, go_sem, r0, r1, r2]) rfl ?_
  refine ⟨A, c, rfl, ?_, below_box HB.out (Nat.le_refl _) _ _ _⟩
  have hB : w.heap.size < (w.alloc (.cells #[.bool false, .slice none 0 0, .int .i64 0] 28)).heap.size := by simp
  exact (rf_set18 (rf_set18 (rf_set18 HF.out (p := ⟨w.heap.size, 0, none⟩) hB _) (p := ⟨w.heap.size, 1, none⟩) hB _) (p := ⟨w.heap.size, 2, none⟩) hB _).1

/-! ### opposite -/
theorem twoD_ok {n1 n2 : Nat} {e1 e2 : Int} (h1 : refD n1 e1 = 0) (h2 : refD n2 e2 = 0) : twoD n1 e1 n2 e2 = 0 := by
  unfold twoD
  rw [if_pos h1, h2]

theorem ansD_nought {d : D} (h : d.n = 0) : ansD d = (D.zero, 0) := by
  obtain ⟨s, N, e⟩ := d
  have h : N = 0 := h
  subst h
  unfold ansD
  rw [oddD_zero]
  rfl

/-- the sum of two opposite values is zero -/
theorem add_opp {n a b : Nat} (hn : n < 4) (la : a < 2 ^ (fm n).w) (lb : b < 2 ^ (fm n).w) (ht : Tw (fm n) true a b) (fa : finP (fm n) a = true) :
    addD (nd 64 (valA n a).n) (valA n a) (nd 64 (valA n b).n) (valA n b) = (D.zero, 0) := by
  have ok := fm_ok n
  have ha := of_decide_eq_true fa
  have hb : (fm n).abs b < (fm n).inf := by rw [ht.1]; exact ha
  rw [valA_fin hn la ha, valA_fin hn lb hb]
  obtain ⟨a1, a2, a3, a4⟩ := valD_facts ok ha
  obtain ⟨b1, b2, b3, b4⟩ := valD_facts ok hb
  obtain ⟨d, hd, -, hi⟩ := addD_ans (-40000) (Int.le_refl _) a1 b1
  rw [hd]
  refine ansD_nought ((i_zero_iff (L := -40000)).1 ?_)
  rw [hi, a3 _ (Int.le_refl _), b3 _ (Int.le_refl _), ht.val ok, if_pos rfl]
  omega

end Go.Proofs.YtlibhfojfonfjaaGreatDoor
