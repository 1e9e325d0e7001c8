/- The walk of DyadSums. -/
import Derived.Outline
import Derived.Deep.LoopGhost
import Derived.Deep.RegionHeld3
import Derived.Test.YtakjbmlkcbedmaaDoorDSumW
import Derived.Test.YtakjbmlkcbedmaaDoorDTot
namespace Go.Proofs.YtakjbmlkcbedmaaDoor
set_option linter.unusedVariables false
set_option linter.unusedSimpArgs false
open Go.RowKit

theorem info_dyad : (Tryd.prog.info? 26).map (fun i => (i.zero, i.size, i.bytes)) = some (some (.agg #[.bool false, .slice none 0 0, .int .i64 0]), 3, 40) := by kernel_rfl

theorem make_dyads (m : Nat) (hm : m * 40 ≤ 140737488355328) (w : World) :
    (Instr.makeSlice 31 (.int .i64 (m : Int)) (.int .i64 (m : Int))).run Tryd.prog w = .ok (.slice (some ⟨w.heap.size, 0, none⟩) m m) (w.alloc (.cells (madeCells #[.bool false, .slice none 0 0, .int .i64 0] (m * 3)) 26)) := by
  obtain ⟨i0, hi, hz0, hz1, hz2⟩ := info_parts info_dyad
  have h := run_make (P := Tryd.prog) w 31 26 i0 (.agg #[.bool false, .slice none 0 0, .int .i64 0]) Tryd.underlying31 hi hz0 .i64 .i64 (m : Int) (m : Int) (by omega) (by omega) (by rw [hz2]; omega) (by omega)
  rw [hz1, Int.toNat_natCast] at h
  exact h

/-- block g is of n exact numbers -/
def LB (w : World) (g n : Nat) : Prop := ∃ arr, w.heap[g]? = some (.cells arr 26 (0, 0)) ∧ arr.size = n * 3

/-- a copy lies at place j of block g -/
def CpAt (w : World) (g j : Nat) (x : Nat × D) : Prop := ∃ A c, w.cell? ⟨g, j * 3, none⟩ = some (.bool x.2.s) ∧ w.cell? ⟨g, j * 3 + 1, none⟩ = some (.slice A x.1 c) ∧ w.cell? ⟨g, j * 3 + 2, none⟩ = some (.int .i64 x.2.e) ∧
  Row 64 0 w (.slice A (x.1 + 3) c) (x.2.n + mk3 * 2 ^ (64 * x.1)) (x.1 + 3) ∧ x.2.n < 2 ^ (64 * x.1)

/-- three stores -/
def st3 (w : World) (g k : Nat) (a b c : Value) : World := ((w.setCell ⟨g, k, none⟩ a).setCell ⟨g, k + 1, none⟩ b).setCell ⟨g, k + 2, none⟩ c

section
variable {w w' : World} {g n j : Nat} {x : Nat × D}
theorem LB.new (w : World) (n : Nat) : LB (w.alloc (.cells (madeCells #[.bool false, .slice none 0 0, .int .i64 0] (n * 3)) 26)) w.heap.size n := ⟨_, heap_alloc_at w _, by rw [size_madeCells]⟩
theorem LB.below (h : LB w g n) (hb : Below w.heap.size w w') : LB w' g n := by
  obtain ⟨arr, h1, h2⟩ := h
  exact ⟨arr, (hb.block g (lt_size_of_some h1)).trans h1, h2⟩
theorem LB.lt (h : LB w g n) : g < w.heap.size := by obtain ⟨arr, h1, _⟩ := h; exact lt_size_of_some h1
theorem LB.set1 (h : LB w g n) (p : Addr) (v : Value) : LB (w.setCell p v) g n := by
  obtain ⟨arr, h1, h2⟩ := h
  by_cases hp : p.block = g
  · by_cases hs : p.spot.isSome = true
    · refine ⟨arr, ?_, h2⟩
      simp [World.setCell, Array.getElem?_modify, h1, hp, hs]
    · refine ⟨arr.set! p.off v, ?_, by simp [h2]⟩
      simp [World.setCell, Array.getElem?_modify, h1, hp, hs]
  · exact ⟨arr, (Below.heap_setCell w p v g (Ne.symm hp)).trans h1, h2⟩
theorem LB.st (h : LB w g n) (g' k : Nat) (a b c : Value) : LB (st3 w g' k a b c) g n := ((h.set1 _ _).set1 _ _).set1 _ _
theorem LB.cells (h : LB w g n) (hj : j < n) : (∃ v, w.cell? ⟨g, j * 3, none⟩ = some v) ∧ (∃ v, w.cell? ⟨g, j * 3 + 1, none⟩ = some v) ∧ (∃ v, w.cell? ⟨g, j * 3 + 2, none⟩ = some v) ∧ ∀ i, w.frozen? ⟨g, i, none⟩ = false := by
  obtain ⟨arr, h1, h2⟩ := h
  have key : ∀ i, i < n * 3 → ∃ v, w.cell? ⟨g, i, none⟩ = some v := fun i hi => by
    unfold World.cell?
    simp only [h1]
    exact ⟨arr[i]'(by omega), Array.getElem?_eq_getElem (by omega)⟩
  refine ⟨key _ (by omega), key _ (by omega), key _ (by omega), fun i => ?_⟩
  unfold World.frozen?
  simp [h1]
theorem LB.wd1 (h : LB w g n) (k : Nat) (v : Value) : Wd w (w.setCell ⟨g, k, none⟩ v) := by
  obtain ⟨arr, h1, h2⟩ := h
  refine ⟨by simp, fun b arr' hb => ?_⟩
  have hne : b ≠ g := by
    rintro rfl
    rw [h1] at hb
    injection hb with hb
    injection hb with a1 a2 a3
    exact absurd a2 (by decide)
  exact Below.heap_setCell _ _ _ b hne
theorem LB.wd3 (h : LB w g n) (k : Nat) (a b c : Value) : Wd w (st3 w g k a b c) := by
  have h1 := h.wd1 k a
  have h2 := (h.set1 ⟨g, k, none⟩ a).wd1 (k + 1) b
  have h3 := ((h.set1 ⟨g, k, none⟩ a).set1 ⟨g, k + 1, none⟩ b).wd1 (k + 2) c
  exact ⟨Nat.le_trans h1.1 (Nat.le_trans h2.1 h3.1), fun q arr hq => by
    have e1 := h1.2 q arr hq
    have e2 := h2.2 q arr (e1.trans hq)
    have e3 := h3.2 q arr (e2.trans (e1.trans hq))
    exact e3.trans (e2.trans e1)⟩
theorem CpAt.below (h : CpAt w g j x) (hb : Below w.heap.size w w') (hl : g < w.heap.size) : CpAt w' g j x := by
  obtain ⟨A, c, h0, h1, h2, h3, h4⟩ := h
  have key := fun i (v : Value) (h : w.cell? ⟨g, i, none⟩ = some v) => (hb.cell (p := ⟨g, i, none⟩) hl).trans h
  exact ⟨A, c, key _ _ h0, key _ _ h1, key _ _ h2, h3.below hb, h4⟩
theorem cell_st3_other {g' k o : Nat} {a b c v : Value} (hne : g' ≠ g ∨ o < k ∨ k + 2 < o) (h : w.cell? ⟨g, o, none⟩ = some v) : (st3 w g' k a b c).cell? ⟨g, o, none⟩ = some v := by
  unfold st3
  rw [World.cell?_setCell_other _ _ _ _ (fun e => by injection e with e1 e2; omega), World.cell?_setCell_other _ _ _ _ (fun e => by injection e with e1 e2; omega), World.cell?_setCell_other _ _ _ _ (fun e => by injection e with e1 e2; omega)]
  exact h
theorem CpAt.st {g' m k : Nat} {a b c : Value} (h : CpAt w g j x) (hl : LB w g' m) (hne : g' ≠ g ∨ k ≠ j) : CpAt (st3 w g' (k * 3) a b c) g j x := by
  obtain ⟨A, c', h0, h1, h2, h3, h4⟩ := h
  exact ⟨A, c', cell_st3_other (by omega) h0, cell_st3_other (by omega) h1, cell_st3_other (by omega) h2, h3.wd (hl.wd3 _ _ _ _), h4⟩
theorem st3_cells (h : LB w g n) (hj : j < n) (a b c : Value) : (st3 w g (j * 3) a b c).cell? ⟨g, j * 3, none⟩ = some a ∧ (st3 w g (j * 3) a b c).cell? ⟨g, j * 3 + 1, none⟩ = some b ∧ (st3 w g (j * 3) a b c).cell? ⟨g, j * 3 + 2, none⟩ = some c := by
  obtain ⟨⟨v0, e0⟩, ⟨v1, e1⟩, ⟨v2, e2⟩, _⟩ := h.cells hj
  unfold st3
  refine ⟨?_, ?_, ?_⟩
  · rw [World.cell?_setCell_other _ _ _ _ (fun e => by injection e with e1 e2; omega), World.cell?_setCell_other _ _ _ _ (fun e => by injection e with e1 e2; omega)]
    exact World.cell?_setCell_same _ _ _ e0
  · rw [World.cell?_setCell_other _ _ _ _ (fun e => by injection e with e1 e2; omega)]
    refine World.cell?_setCell_same (u := v1) _ _ _ ?_
    rw [World.cell?_setCell_other _ _ _ _ (fun e => by injection e with e1 e2; omega)]
    exact e1
  · refine World.cell?_setCell_same (u := v2) _ _ _ ?_
    rw [World.cell?_setCell_other _ _ _ _ (fun e => by injection e with e1 e2; omega), World.cell?_setCell_other _ _ _ _ (fun e => by injection e with e1 e2; omega)]
    exact e2
theorem CpAt.new {B : Nat} {A : Option Addr} {c : Nat} (hl : LB w g n) (hj : j < n) (h : Cpy B w (.agg #[.bool x.2.s, .slice A x.1 c, .int .i64 x.2.e]) x.2.s x.2.n x.1 x.2.e) :
    CpAt (st3 w g (j * 3) (.bool x.2.s) (.slice A x.1 c) (.int .i64 x.2.e)) g j x := by
  obtain ⟨A', c', e, h1, h2⟩ := h
  simp only [Value.agg.injEq, Array.mk.injEq, List.cons.injEq, and_true, Value.slice.injEq, true_and] at e
  obtain ⟨rfl, rfl⟩ := e
  obtain ⟨k0, k1, k2⟩ := st3_cells hl hj (.bool x.2.s) (.slice A x.1 c) (.int .i64 x.2.e)
  exact ⟨A, c, k0, k1, k2, (h1.mono (Nat.zero_le _)).wd (hl.wd3 _ _ _ _), h2⟩
theorem CpAt.open (h : CpAt w g j x) (hn : x.1 + 3 ≤ 17592186044416) : ∃ A c, w.cell? ⟨g, j * 3, none⟩ = some (.bool x.2.s) ∧ w.cell? ⟨g, j * 3 + 1, none⟩ = some (.slice A x.1 c) ∧ w.cell? ⟨g, j * 3 + 2, none⟩ = some (.int .i64 x.2.e) ∧ Rd 64 w (.slice A x.1 c) x.2.n x.1 ∧ Rd 64 w (.slice A (x.1 + 3) c) (x.2.n + mk3 * 2 ^ (64 * x.1)) (x.1 + 3) := by
  obtain ⟨A, c, h0, h1, h2, h3, h4⟩ := h
  have hc : Cpy 0 w (.agg #[.bool x.2.s, .slice A x.1 c, .int .i64 x.2.e]) x.2.s x.2.n x.1 x.2.e := ⟨A, c, rfl, h3, h4⟩
  obtain ⟨A', c', e, r1, r2⟩ := hc.open hn
  simp only [Value.agg.injEq, Array.mk.injEq, List.cons.injEq, and_true, Value.slice.injEq, true_and] at e
  obtain ⟨rfl, rfl⟩ := e
  exact ⟨A, c, h0, h1, h2, r1, r2⟩
theorem lsd_of {f : Nat → Nat × D} (hl : LB w g n) (hn : n ≤ 9223372036854775807) (hh : ∀ j, j < n → CpAt w g j (f j)) (hw : ∀ j, j < n → (f j).1 + 3 ≤ 17592186044416) : LsD w (.slice (some ⟨g, 0, none⟩) n n) n f :=
  ⟨_, n, rfl, hn, fun _ => ⟨g, 0, rfl, hl.lt, fun j hj => by
    obtain ⟨A, c, h0, h1, h2, h3, _⟩ := (hh j hj).open (hw j hj)
    refine ⟨A, c, ?_, ?_, ?_, h3⟩
    · rw [Nat.zero_add]; exact h0
    · rw [Nat.zero_add]; exact h1
    · rw [Nat.zero_add]; exact h2⟩⟩
end

/-- an exact number that came in, at place j of a list -/
def InD (w : World) (b o j : Nat) (x : Nat × D) : Prop := ∃ A c, (w.cell? ⟨b, o + j * 3, none⟩ = some (.bool x.2.s) ∧ w.cell? ⟨b, o + j * 3 + 1, none⟩ = some (.slice A x.1 c) ∧ w.cell? ⟨b, o + j * 3 + 2, none⟩ = some (.int .i64 x.2.e)) ∧ Rd 64 w (.slice A x.1 c) x.2.n x.1 ∧ (A = none → c = 0) ∧ x.1 + 3 ≤ 17592186044416

set_option maxRecDepth 100000 in
set_option maxHeartbeats 16000000 in
theorem dsums_any (A : Option Addr) (n c : Nat) (f : Nat → Nat × D) (w : World) (hn : n * 40 ≤ 140737488355328) (hs : 0 < n → ∃ b o, A = some ⟨b, o, none⟩ ∧ b < w.heap.size ∧ ∀ j, j < n → InD w b o j (f j)) (hG : Gl w) :
    Calls Tryd.prog 4 #[.slice A n c] w fun e w' => e = .returned (.bool true) ∧ Below w.heap.size w w' := by
  have HG := Lib.hid hG
  have HA := Lib.hid (awake_any w hG)
  have HS := Lib.hid hs
  have hmk := fun wx => make_dyads n hn wx
  have Hn := Lib.hid hn
  clear hG hs hn
  go_enter Tryd.func4, Tryd.ntmps4
  go_wp2_with fail
  refine HA.out.mono ?_
  rintro _ w1 ⟨rfl, hb1⟩
  have HB := Lib.hid hb1
  clear HA hb1
  go_upto_region 5 with (fail)
  have hb2 := below2 w1 (.cells (madeCells #[.bool false, .slice none 0 0, .int .i64 0] (n * 3)) 26) (.cells (madeCells #[.bool false, .slice none 0 0, .int .i64 0] (n * 3)) 26)
  have L1 := (LB.new w1 n).below (below1 _ (.cells (madeCells #[.bool false, .slice none 0 0, .int .i64 0] (n * 3)) 26))
  have L2 := LB.new (w1.alloc (.cells (madeCells #[.bool false, .slice none 0 0, .int .i64 0] (n * 3)) 26)) n
  rw [World.size_alloc] at L2
  obtain ⟨W2, hW2⟩ : ∃ W, W = (w1.alloc (.cells (madeCells #[.bool false, .slice none 0 0, .int .i64 0] (n * 3)) 26)).alloc (.cells (madeCells #[.bool false, .slice none 0 0, .int .i64 0] (n * 3)) 26) := ⟨_, rfl⟩
  rw [← hW2] at hb2 L1 L2
  rw [← hW2]
  obtain ⟨gl, hgl⟩ : ∃ g, g = w1.heap.size := ⟨_, rfl⟩
  rw [← hgl] at L1 L2
  rw [← hgl]
  have HB2 := Lib.hid hb2
  have HL1 := Lib.hid L1
  have HL2 := Lib.hid L2
  have Hgl := Lib.hid hgl
  clear hW2 hgl hb2 L1 L2 hmk
  go_wp2_with fail
  go_loopw [5, 6] (fun u v wr => ∃ (i : Nat) (bd : Bool), i ≤ n ∧ u = .bool bd ∧ v = .int .i64 i ∧ Hid (bd = (errF f i != 0)) ∧ Hid (LB wr gl n) ∧ Hid (LB wr (gl + 1) n) ∧ Hid (∀ j, j < i → CpAt wr gl j (f j)) ∧ Hid (∀ j, j < i → CpAt wr (gl + 1) (n - 1 - j) (f j)) ∧ Hid (Below w1.heap.size w1 wr)) (fun _ v _ => n - (intOf v).toNat)
  case atStart => exact ⟨0, false, Nat.zero_le _, rfl, rfl, Lib.hid rfl, HL1, HL2, Lib.hid (by intro j hj; omega), Lib.hid (by intro j hj; omega), HB2⟩
  case round =>
    clear HL1 HL2
    obtain ⟨i, bd, hi, rfl, rfl, HBad, HL1, HL2, HC1, HC2, HBr⟩ := hrel
    have hnb : n ≤ 4000000000000 := by have := Hn.out; omega
    by_cases hin : i < n
    · obtain ⟨b, o, rfl, hb, hall⟩ := HS.out (by omega)
      obtain ⟨Ai, ci, ⟨k0, k1, k2⟩, r, ha, hw3⟩ := hall i hin
      have hbW : Below w.heap.size w wr := keep_belowB HB.out HBr.out (by have := HB.out.size; omega)
      have key := fun (wx : World) (hbx : Below w.heap.size w wx) j (v : Value) (h : w.cell? ⟨b, j, none⟩ = some v) => (hbx.cell (p := ⟨b, j, none⟩) hb).trans h
      have hin' : (i : Int) < n := by omega
      obtain ⟨fi, hfi⟩ : ∃ fi, fi = f i := ⟨_, rfl⟩
      rw [← hfi] at k0 k1 k2 r hw3
      have Hfi := Lib.hid hfi
      have HK := Lib.hid (fun (wx : World) (hbx : Below w.heap.size w wx) => (⟨key wx hbx _ _ k0, key wx hbx _ _ k1, key wx hbx _ _ k2⟩ : wx.cell? ⟨b, o + i * 3, none⟩ = some (.bool fi.2.s) ∧ wx.cell? ⟨b, o + i * 3 + 1, none⟩ = some (.slice Ai fi.1 ci) ∧ wx.cell? ⟨b, o + i * 3 + 2, none⟩ = some (.int .i64 fi.2.e)))
      have HCp := Lib.hid (fun (wx : World) (hbx : Below w.heap.size w wx) => lcopied_any fi.2.s Ai fi.2.n fi.1 ci fi.2.e wx (r.below hbx) ha hw3)
      have HBd := Lib.hid (fun (wx : World) => rBad_any fi.2.s Ai fi.1 ci fi.2.e wx r.len)
      have hglw := Hgl.out
      have hlb1 := HL1.out.lt
      have hlb2 := HL2.out.lt
      obtain ⟨m, hm⟩ : ∃ m, m = n - 1 - i := ⟨_, rfl⟩
      have hmn : m < n := by omega
      have Hm := Lib.hid hm
      have Hb2 := Lib.hid (show gl + 1 < wr.heap.size by omega)
      have Hglw := Lib.hid hglw
      clear key r ha hw3 hfi hb k0 k1 k2 HB2 hall hm
      obtain ⟨k0, k1, k2⟩ := HK.out _ hbW
      clear hglw hlb1 hlb2 Hgl
      go_wp2_with fail
      refine (HCp.out _ hbW).mono ?_
      rintro _ w2 ⟨x2, rfl, hC, hb2⟩
      obtain ⟨A2, c2, rfl, -⟩ := id hC
      have l1 := HL1.out.below hb2
      obtain ⟨⟨v0, z0⟩, ⟨v1, z1⟩, ⟨v2, z2⟩, zf⟩ := l1.cells hin
      obtain ⟨W3, hW3⟩ : ∃ W, W = st3 w2 gl (i * 3) (.bool fi.2.s) (.slice A2 fi.1 c2) (.int .i64 fi.2.e) := ⟨_, rfl⟩
      have hg1 : w1.heap.size ≤ gl := Nat.le_of_eq Hglw.out.symm
      have hb3 : Below w1.heap.size w1 W3 := by rw [hW3]; exact (((keep_below HBr.out hb2).setCell hg1 _).setCell hg1 _).setCell hg1 _
      have hn1 : CpAt W3 gl i fi := by rw [hW3]; exact CpAt.new l1 hin hC
      have hc1 : ∀ j, j < i → CpAt W3 gl j (f j) := fun j hj => by rw [hW3]; exact ((HC1.out j hj).below hb2 (by have := Hb2.out; omega)).st l1 (Or.inr (by omega))
      have hc2 : ∀ j, j < i → CpAt W3 (gl + 1) (n - 1 - j) (f j) := fun j hj => by rw [hW3]; exact ((HC2.out j hj).below hb2 Hb2.out).st l1 (Or.inl (by omega))
      have hl1 : LB W3 gl n := by rw [hW3]; exact l1.st _ _ _ _ _
      have hl2 : LB W3 (gl + 1) n := by rw [hW3]; exact (HL2.out.below hb2).st _ _ _ _ _
      have hs3 : gl + 1 < W3.heap.size := hl2.lt
      have hc1' : ∀ j, j < i + 1 → CpAt W3 gl j (f j) := fun j hj => by
        rcases Nat.lt_or_ge j i with h | h
        · exact hc1 j h
        · obtain rfl : j = i := by omega
          rw [← Hfi.out]; exact hn1
      clear HBr Hb2 HC1 HC2 HL1 HL2
      have HBr := Lib.hid hb3
      have Hb2 := Lib.hid hs3
      have HC1 := Lib.hid hc1'
      have HC2 := Lib.hid hc2
      have HL1 := Lib.hid hl1
      have HL2 := Lib.hid hl2
      have hW3' : W3 = ((w2.setCell ⟨gl, i * 3, none⟩ (.bool fi.2.s)).setCell ⟨gl, i * 3 + 1, none⟩ (.slice A2 fi.1 c2)).setCell ⟨gl, i * 3 + 2, none⟩ (.int .i64 fi.2.e) := hW3
      clear k0 k1 k2 hb2 hC l1 hb3 hn1 hc1 hc2 hl1 hl2 hs3 hc1' hg1 hW3 hbW
      go_upto_region 10 with (fail)
      rw [← hW3']
      clear hW3' z0 z1 z2 zf
      have hbW : Below w.heap.size w W3 := keep_belowB HB.out HBr.out (by have := HB.out.size; omega)
      obtain ⟨k0, k1, k2⟩ := HK.out _ hbW
      have hw1 : IntKind.i64.wrap ((n : Int) - 1) = (n : Int) - 1 := by have := Hn.out; rw [IntKind.wrap_i64]; omega
      have hw2 : IntKind.i64.wrap ((n : Int) - 1 - (i : Int)) = (m : Int) := by have := Hn.out; have := Hm.out; rw [IntKind.wrap_i64]; omega
      have hmn' : (m : Int) < n := by omega
      go_wp2_with fail
      refine (HCp.out _ hbW).mono ?_
      rintro _ w4 ⟨x2, rfl, hC, hb2⟩
      obtain ⟨A4, c4, rfl, -⟩ := id hC
      have l2 := HL2.out.below hb2
      obtain ⟨⟨v0, z0⟩, ⟨v1, z1⟩, ⟨v2, z2⟩, zf⟩ := l2.cells hmn
      obtain ⟨W5, hW5⟩ : ∃ W, W = st3 w4 (gl + 1) (m * 3) (.bool fi.2.s) (.slice A4 fi.1 c4) (.int .i64 fi.2.e) := ⟨_, rfl⟩
      have hg1 : w1.heap.size ≤ gl + 1 := by have := Hglw.out; omega
      have hb3 : Below w1.heap.size w1 W5 := by rw [hW5]; exact (((keep_below HBr.out hb2).setCell hg1 _).setCell hg1 _).setCell hg1 _
      have hn1 : CpAt W5 (gl + 1) m fi := by rw [hW5]; exact CpAt.new l2 hmn hC
      have hc2 : ∀ j, j < i → CpAt W5 (gl + 1) (n - 1 - j) (f j) := fun j hj => by rw [hW5]; exact ((HC2.out j hj).below hb2 Hb2.out).st l2 (Or.inr (by have := Hm.out; omega))
      have hc1 : ∀ j, j < i + 1 → CpAt W5 gl j (f j) := fun j hj => by rw [hW5]; exact ((HC1.out j hj).below hb2 (by have := Hb2.out; omega)).st l2 (Or.inl (by omega))
      have hl2 : LB W5 (gl + 1) n := by rw [hW5]; exact l2.st _ _ _ _ _
      have hl1 : LB W5 gl n := by rw [hW5]; exact (HL1.out.below hb2).st _ _ _ _ _
      have hc2' : ∀ j, j < i + 1 → CpAt W5 (gl + 1) (n - 1 - j) (f j) := fun j hj => by
        rcases Nat.lt_or_ge j i with h | h
        · exact hc2 j h
        · obtain rfl : j = i := by omega
          rw [← Hfi.out, ← Hm.out]; exact hn1
      clear HBr Hb2 HC1 HC2 HL1 HL2
      have HBr := Lib.hid hb3
      have HC1 := Lib.hid hc1
      have HC2 := Lib.hid hc2'
      have HL1 := Lib.hid hl1
      have HL2 := Lib.hid hl2
      have hW5' : W5 = ((w4.setCell ⟨gl + 1, m * 3, none⟩ (.bool fi.2.s)).setCell ⟨gl + 1, m * 3 + 1, none⟩ (.slice A4 fi.1 c4)).setCell ⟨gl + 1, m * 3 + 2, none⟩ (.int .i64 fi.2.e) := hW5
      clear k0 k1 k2 hb2 hC l2 hb3 hn1 hc1 hc2 hl1 hl2 hc2' hg1 hW5 hbW
      go_upto_region 11 with (fail)
      rw [← hW5']
      clear hW5' z0 z1 z2 zf hw1 hw2 hmn' hmn Hm HCp
      have hbW : Below w.heap.size w W5 := keep_belowB HB.out HBr.out (by have := HB.out.size; omega)
      obtain ⟨k0, k1, k2⟩ := HK.out _ hbW
      have HE : Hid (errF f (i + 1) = if errF f i ≠ 0 then errF f i else refD fi.1 fi.2.e) := by show _ = _; rw [Hfi.out]; rfl
      clear HK hbW Hfi
      cases bd with
      | true =>
        have hnz : errF f i ≠ 0 := by have := HBad.out; simpa using this.symm
        have HB3 : Hid (true = (errF f (i + 1) != 0)) := by
          show _ = _
          rw [HE.out, if_pos hnz]; exact (by simpa using hnz : (errF f i != 0) = true).symm
        clear hnz HBad HE HBd k0 k1 k2
        go_wp2_with fail
        go_roundw
        case rel => exact ⟨i + 1, true, by omega, rfl, by go_num, HB3, HL1, HL2, HC1, HC2, HBr⟩
        case measure => simp [intOf]; omega
      | false =>
        have hnz : errF f i = 0 := by have := HBad.out; simpa using this.symm
        have HB3 : Hid ((refD fi.1 fi.2.e != 0) = (errF f (i + 1) != 0)) := by
          show _ = _
          rw [HE.out, if_neg (by simpa using hnz)]
        clear hnz HBad HE
        go_wp2_with fail
        refine (HBd.out _).mono ?_
        rintro _ w6 ⟨rfl, hb2⟩
        have hll := HL2.out.lt
        replace HBr := Lib.hid (keep_below HBr.out hb2)
        replace HC1 := Lib.hid (fun j (hj : j < i + 1) => (HC1.out j hj).below hb2 (by omega))
        replace HC2 := Lib.hid (fun j (hj : j < i + 1) => (HC2.out j hj).below hb2 hll)
        replace HL1 := Lib.hid (HL1.out.below hb2)
        replace HL2 := Lib.hid (HL2.out.below hb2)
        clear hll hb2 HBd k0 k1 k2
        generalize (refD fi.1 fi.2.e) = rr at *
        obtain ⟨bb, hbb⟩ : ∃ bb, bb = (rr != 0) := ⟨_, rfl⟩
        have hbe : (rr == 0) = !bb := by rw [hbb]; cases h : (rr == 0) <;> simp [bne, h]
        have hbn : (rr != 0) = bb := hbb.symm
        have HB4 : Hid (bb = (errF f (i + 1) != 0)) := by show _ = _; rw [hbb]; exact HB3.out
        clear HB3 hbb
        go_wp2_with fail
        go_roundw
        case rel => exact ⟨i + 1, bb, by omega, rfl, by go_num, HB4, HL1, HL2, HC1, HC2, HBr⟩
        case measure => simp [intOf]; omega
    · obtain rfl : i = n := by omega
      have hin : ∀ j, j < i → (f j).1 + 3 ≤ 17592186044416 := fun j hj => by obtain ⟨b, o, _, _, hall⟩ := HS.out (by omega); obtain ⟨_, _, _, _, _, h⟩ := hall j hj; exact h
      have hls : LsD w (.slice A i c) i f := by
        refine ⟨A, c, rfl, by omega, fun h0 => ?_⟩
        obtain ⟨b, o, e, hb, hall⟩ := HS.out h0
        refine ⟨b, o, e, hb, fun j hj => ?_⟩
        obtain ⟨Aj, cj, ⟨k0, k1, k2⟩, r, _, _⟩ := hall j hj
        exact ⟨Aj, cj, k0, k1, k2, r⟩
      have hbW : Below w.heap.size w wr := keep_belowB HB.out HBr.out (by have := HB.out.size; omega)
      have HSl := Lib.hid (fun (wx : World) (hb : Below wr.heap.size wr wx) => Sum_any (.slice (some ⟨gl, 0, none⟩) i i) i f wx ((lsd_of HL1.out (by omega) HC1.out hin).below hb) ((HG.out.below hbW).below hb))
      have HSr := Lib.hid (fun (wx : World) (hb : Below wr.heap.size wr wx) => Sum_any (.slice (some ⟨gl + 1, 0, none⟩) i i) i (fun j => f (i - 1 - j)) wx ((lsd_of HL2.out (by omega) (fun j hj => by
        have h := HC2.out (i - 1 - j) (by omega)
        rwa [show i - 1 - (i - 1 - j) = j by omega] at h) (fun j hj => hin _ (by omega))).below hb) ((HG.out.below hbW).below hb))
      have HSt := Lib.hid (fun (wx : World) (hb : Below wr.heap.size wr wx) => rTotal_any (.slice A i c) i f wx ((hls.below hbW).below hb))
      have hrev : errF f i = 0 → SumLs i (fun j => f (i - 1 - j)) = SumLs i f := sumF_rev
      obtain ⟨S, hS⟩ : ∃ S, S = SumLs i f := ⟨_, rfl⟩
      obtain ⟨S2, hS2⟩ : ∃ S, S = SumLs i (fun j => f (i - 1 - j)) := ⟨_, rfl⟩
      rw [← hS] at HSl HSt hrev
      rw [← hS2] at HSr hrev
      have HRev := Lib.hid hrev
      have Hin := Lib.hid hin
      clear hin hls hrev hS hS2 hbW HB2 Hgl
      go_wp2_with fail
      refine (HSl.out _ (Below.refl _ _)).mono ?_
      rintro _ x1 ⟨y1, rfl, hV1, hb1⟩
      obtain ⟨B1, d1, rfl, -⟩ := id hV1
      obtain ⟨X1, hX1⟩ : ∃ X, X = x1.alloc (Obj.cells #[Value.bool S.1.s, Value.slice B1 (nd 64 S.1.n) d1, Value.int IntKind.i64 S.1.e] 26) := ⟨_, rfl⟩
      obtain ⟨g1, hg1⟩ : ∃ g, g = x1.heap.size := ⟨_, rfl⟩
      have V1 : Hid (DVB 0 g1 S.1 X1) := by show DVB 0 g1 S.1 X1; rw [hX1, hg1]; exact (DVB.new hV1).mono (Nat.zero_le _)
      have HX1 := Lib.hid (show Below wr.heap.size wr X1 by rw [hX1]; exact hb1.trans ((below1 _ _).mono hb1.size))
      clear hV1 hb1 HSl
      go_upto_region 13 with (fail)
      rw [← hg1, ← hX1]
      clear hg1 hX1
      go_wp2_with fail
      refine (HSt.out _ HX1.out).mono ?_
      rintro _ x2 ⟨y2, rfl, hV1, hb1⟩
      obtain ⟨B2, d2, rfl, -⟩ := id hV1
      obtain ⟨X2, hX2⟩ : ∃ X, X = x2.alloc (Obj.cells #[Value.bool S.1.s, Value.slice B2 (nd 64 S.1.n) d2, Value.int IntKind.i64 S.1.e] 26) := ⟨_, rfl⟩
      obtain ⟨g2, hg2⟩ : ∃ g, g = x2.heap.size := ⟨_, rfl⟩
      have hbX : Below X1.heap.size X1 X2 := by rw [hX2]; exact hb1.trans ((below1 _ _).mono hb1.size)
      have V2 : Hid (DVB 0 g2 S.1 X2) := by show DVB 0 g2 S.1 X2; rw [hX2, hg2]; exact (DVB.new hV1).mono (Nat.zero_le _)
      replace V1 := Lib.hid (V1.out.below hbX)
      have HX2 := Lib.hid (keep_below HX1.out hbX)
      clear hV1 hb1 HSt hbX HX1
      go_upto_region 14 with (fail)
      rw [← hg2, ← hX2]
      clear hg2 hX2
      go_wp2_with fail
      refine (HSr.out _ HX2.out).mono ?_
      rintro _ x3 ⟨y3, rfl, hV1, hb1⟩
      obtain ⟨B3, d3, rfl, -⟩ := id hV1
      obtain ⟨X3, hX3⟩ : ∃ X, X = x3.alloc (Obj.cells #[Value.bool S2.1.s, Value.slice B3 (nd 64 S2.1.n) d3, Value.int IntKind.i64 S2.1.e] 26) := ⟨_, rfl⟩
      obtain ⟨g3, hg3⟩ : ∃ g, g = x3.heap.size := ⟨_, rfl⟩
      have hbX : Below X2.heap.size X2 X3 := by rw [hX3]; exact hb1.trans ((below1 _ _).mono hb1.size)
      have V3 : Hid (DVB 0 g3 S2.1 X3) := by show DVB 0 g3 S2.1 X3; rw [hX3, hg3]; exact (DVB.new hV1).mono (Nat.zero_le _)
      replace V1 := Lib.hid (V1.out.below hbX)
      replace V2 := Lib.hid (V2.out.below hbX)
      have HX3 := Lib.hid (keep_below HX2.out hbX)
      clear hV1 hb1 HSr hbX HX2
      go_upto_region 15 with (fail)
      rw [← hg3, ← hX3]
      clear hg3 hX3
      obtain ⟨er, her⟩ : ∃ er, er = S.2 := ⟨_, rfl⟩
      rw [← her]
      obtain ⟨D1, hD1⟩ : ∃ D1, D1 = S.1 := ⟨_, rfl⟩
      rw [← hD1] at V1 V2
      go_cut [5, 95] from 72 (fun v5 v95 wx => v95 = .bool false ∧ Hid (Below X3.heap.size X3 wx))
      case first =>
        clear HC1 HC2 HL1 HL2 HS HG Hin
        obtain ⟨F1, m1, ⟨p0, p1, p2, -⟩, r1⟩ := V1.out.open
        obtain ⟨F2, m2, ⟨q0, q1, q2, -⟩, r2⟩ := V2.out.open
        have HSm := Lib.hid (same_any D1.s D1.s F1 F2 D1.n (nd 64 D1.n) m1 D1.n (nd 64 D1.n) m2 D1.e D1.e _ r1 r2)
        clear r1 r2
        cases bd with
        | true =>
          clear HRev HBad V3 her hD1
          go_wp2_with fail
          refine HSm.out.mono ?_
          rintro _ x4 ⟨rfl, hb⟩
          rw [same_self]
          have HBz := Lib.hid hb
          clear hb HSm p0 p1 p2 q0 q1 q2 V1 V2
          go_wp2_with fail
          go_meet
          case rel => exact ⟨rfl, HBz⟩
        | false =>
          have hz : errF f i = 0 := by have := HBad.out; simpa using this.symm
          have e2 := HRev.out hz
          have e12 : (S2.2 != er) = false := by rw [e2, her]; simp
          have e13 : (S2.2 == er) = true := by rw [e2, her]; simp
          rw [e2, ← hD1] at V3
          clear hz her hD1 HRev HBad e2
          go_wp2_with fail
          refine HSm.out.mono ?_
          rintro _ x4 ⟨rfl, hb⟩
          rw [same_self]
          have HBz := Lib.hid hb
          obtain ⟨F1, m1, ⟨p0, p1, p2, -⟩, r1⟩ := (V1.out.below hb).open
          obtain ⟨F3, m3, ⟨q0, q1, q2, -⟩, r3⟩ := (V3.out.below hb).open
          have HSm := Lib.hid (same_any D1.s D1.s F3 F1 D1.n (nd 64 D1.n) m3 D1.n (nd 64 D1.n) m1 D1.e D1.e _ r3 r1)
          clear r1 r3 hb V1 V2 V3
          go_wp2_with fail
          refine HSm.out.mono ?_
          rintro _ x5 ⟨rfl, hb⟩
          rw [same_self]
          replace HBz := Lib.hid (keep_below HBz.out hb)
          clear hb HSm p0 p1 p2 q0 q1 q2
          go_wp2_with fail
          go_meet
          case rel => exact ⟨rfl, HBz⟩
      case rest =>
        obtain ⟨rfl, HX4⟩ := hcut
        have hbx := keep_below HX3.out HX4.out
        have hg0 := HL2.out.lt
        replace HC1 := Lib.hid (fun j (hj : j < i) => (HC1.out j hj).below hbx (by omega))
        replace HC2 := Lib.hid (fun j (hj : j < i) => (HC2.out j hj).below hbx hg0)
        have HBx := Lib.hid (keep_below HBr.out hbx)
        clear hbx V1 V2 V3 HX3 HX4 HBad HRev HG her hD1 HL1 HL2 HBr hg0
        clear hi hin
        obtain ⟨n, hni⟩ : ∃ n, n = i := ⟨_, rfl⟩
        rw [← hni] at HS HC1 HC2 Hin hnb
        have HNI := Lib.hid hni
        clear Hn hni
        go_wp2_with fail
        go_loopw [13] (fun v wr => ∃ j : Nat, j ≤ n ∧ v = .int .i64 j ∧ Hid (Below wc.heap.size wc wr)) (fun v _ => n - (intOf v).toNat)
        case atStart => exact ⟨0, Nat.zero_le _, rfl, Lib.hid (Below.refl _ _)⟩
        case round =>
          obtain ⟨j, hj, rfl, HBy⟩ := hrel
          have hni := HNI.out
          by_cases hjn : j < n
          · have hji' : (j : Int) < (i : Int) := by omega
            obtain ⟨b, o, rfl, hb, hall⟩ := HS.out (by omega)
            obtain ⟨Ai, ci, ⟨k0, k1, k2⟩, r, ha, hw3⟩ := hall j hjn
            have hbc : Below w.heap.size w wc := keep_belowB HB.out HBx.out (by have := HB.out.size; omega)
            have hbW : Below w.heap.size w wr := keep_belowB hbc HBy.out (by have := HB.out.size; have := HBx.out.size; omega)
            have key := fun j (v : Value) (h : w.cell? ⟨b, j, none⟩ = some v) => (hbW.cell (p := ⟨b, j, none⟩) hb).trans h
            replace k0 := key _ _ k0
            replace k1 := key _ _ k1
            replace k2 := key _ _ k2
            obtain ⟨m, hm⟩ : ∃ m, m = n - 1 - j := ⟨_, rfl⟩
            have c1 := HC1.out j hjn
            have c2 := HC2.out j hjn
            rw [← hm] at c2
            obtain ⟨fi, hfi⟩ : ∃ fi, fi = f j := ⟨_, rfl⟩
            rw [← hfi] at k0 k1 k2 r hw3 c1 c2
            obtain ⟨B1, d1, p0, p1, p2, r1, s1⟩ := c1.open hw3
            obtain ⟨B2, d2, q0, q1, q2, r2, s2⟩ := c2.open hw3
            replace p0 := keep_cell HBy.out p0
            replace p1 := keep_cell HBy.out p1
            replace p2 := keep_cell HBy.out p2
            replace q0 := keep_cell HBy.out q0
            replace q1 := keep_cell HBy.out q1
            replace q2 := keep_cell HBy.out q2
            have HR := Lib.hid (fun (wx : World) (hb : Below wr.heap.size wr wx) => (r.below hbW).below hb)
            have HK1 := Lib.hid (fun (wx : World) (hb : Below wr.heap.size wr wx) => kept_any fi.2.s Ai B1 fi.2.n fi.1 ci d1 fi.2.e wx ((r1.below HBy.out).below hb) ((s1.below HBy.out).below hb) (HR.out wx hb))
            have HK2 := Lib.hid (fun (wx : World) (hb : Below wr.heap.size wr wx) => kept_any fi.2.s Ai B2 fi.2.n fi.1 ci d2 fi.2.e wx ((r2.below HBy.out).below hb) ((s2.below HBy.out).below hb) (HR.out wx hb))
            have hw1 : IntKind.i64.wrap ((i : Int) - 1) = (i : Int) - 1 := by rw [IntKind.wrap_i64]; omega
            have hw2 : IntKind.i64.wrap ((i : Int) - 1 - (j : Int)) = (m : Int) := by rw [IntKind.wrap_i64]; omega
            have hmn' : (m : Int) < (i : Int) := by omega
            have hjw : IntKind.i64.wrap ((j : Int) + 1) = ((j + 1 : Nat) : Int) := by rw [IntKind.wrap_i64]; omega
            have hj0 : (0 : Int) ≤ (j : Int) := by omega
            have hm0 : (0 : Int) ≤ (m : Int) := by omega
            replace k0 : wr.drew.cell? ⟨b, o + j * 3, none⟩ = _ := k0
            replace k1 : wr.drew.cell? ⟨b, o + j * 3 + 1, none⟩ = _ := k1
            replace k2 : wr.drew.cell? ⟨b, o + j * 3 + 2, none⟩ = _ := k2
            replace p0 : wr.drew.cell? ⟨gl, j * 3, none⟩ = _ := p0
            replace p1 : wr.drew.cell? ⟨gl, j * 3 + 1, none⟩ = _ := p1
            replace p2 : wr.drew.cell? ⟨gl, j * 3 + 2, none⟩ = _ := p2
            replace q0 : wr.drew.cell? ⟨gl + 1, m * 3, none⟩ = _ := q0
            replace q1 : wr.drew.cell? ⟨gl + 1, m * 3 + 1, none⟩ = _ := q1
            replace q2 : wr.drew.cell? ⟨gl + 1, m * 3 + 2, none⟩ = _ := q2
            have hBd : Below wr.heap.size wr wr.drew := (Below.refl _ _).drew
            clear hall r ha hw3 hb hbc hbW key hm c1 c2 hfi r1 s1 r2 s2 HR hni
            go_wp2_with fail
            go_region_held3 (fun w' => (w'.cell? ⟨b, o + j * 3, none⟩ = some (.bool fi.2.s) ∧ w'.cell? ⟨b, o + j * 3 + 1, none⟩ = some (.slice Ai fi.1 ci) ∧ w'.cell? ⟨b, o + j * 3 + 2, none⟩ = some (.int .i64 fi.2.e)) ∧ (w'.cell? ⟨gl, j * 3, none⟩ = some (.bool fi.2.s) ∧ w'.cell? ⟨gl, j * 3 + 1, none⟩ = some (.slice B1 fi.1 d1) ∧ w'.cell? ⟨gl, j * 3 + 2, none⟩ = some (.int .i64 fi.2.e)) ∧ (w'.cell? ⟨gl + 1, m * 3, none⟩ = some (.bool fi.2.s) ∧ w'.cell? ⟨gl + 1, m * 3 + 1, none⟩ = some (.slice B2 fi.1 d2) ∧ w'.cell? ⟨gl + 1, m * 3 + 2, none⟩ = some (.int .i64 fi.2.e)) ∧ Below wr.heap.size wr w')
              (first | exact ⟨⟨k0, k1, k2⟩, ⟨p0, p1, p2⟩, ⟨q0, q1, q2⟩, hBd⟩ | exact ⟨⟨keep_cell hx1 k0, keep_cell hx1 k1, keep_cell hx1 k2⟩, ⟨keep_cell hx1 p0, keep_cell hx1 p1, keep_cell hx1 p2⟩, ⟨keep_cell hx1 q0, keep_cell hx1 q1, keep_cell hx1 q2⟩, keep_below hBd hx1⟩ | exact ⟨⟨keep_cell hx2 (keep_cell hx1 k0), keep_cell hx2 (keep_cell hx1 k1), keep_cell hx2 (keep_cell hx1 k2)⟩, ⟨keep_cell hx2 (keep_cell hx1 p0), keep_cell hx2 (keep_cell hx1 p1), keep_cell hx2 (keep_cell hx1 p2)⟩, ⟨keep_cell hx2 (keep_cell hx1 q0), keep_cell hx2 (keep_cell hx1 q1), keep_cell hx2 (keep_cell hx1 q2)⟩, keep_below (keep_below hBd hx1) hx2⟩)
              (first | (go_at_call 12; (with_reducible refine (HK1.out _ hBd).mono ?_); rintro e7 w7 ⟨rfl, hx1⟩) | (go_at_call 12; (with_reducible refine (HK2.out _ (keep_below hBd hx1)).mono ?_); rintro e7 w8 ⟨rfl, hx2⟩))
            have HBz := Lib.hid (keep_below HBy.out (keep_below (keep_below hBd hx1) hx2))
            clear hBd hx1 hx2 k0 k1 k2 p0 p1 p2 q0 q1 q2 HK1 HK2
            go_wp2_with fail
            go_roundw
            case rel => exact ⟨j + 1, by omega, by go_num, HBz⟩
            case measure => have := HNI.out; simp [intOf]; omega
          · obtain rfl : j = n := by omega
            have hjw : ((j : Int) < (i : Int)) = False := by simp; omega
            have hjd : decide ((j : Int) < (i : Int)) = false := by simp; omega
            have HBf := Lib.hid (keep_belowB (keep_belowB HB.out HBx.out (by have := HB.out.size; omega)) HBy.out (by have := HB.out.size; have := HBx.out.size; omega))
            clear HS HB HBx HBy HC1 HC2 Hin hjw
            go_wp2_with fail
            go_ret
            exact ⟨rfl, HBf.out⟩

end Go.Proofs.YtakjbmlkcbedmaaDoor
