/- Walks of the document's answer for layer 3: Digits. -/
import Derived.StillTailTactics
import Derived.Deep.LoopGhost
import Derived.Test.YtakjbmlkcbedmaaDoorRefA
import Derived.Test.YtakjbmlkcbedmaaDoorPackC
import Derived.Test.YtakjbmlkcbedmaaDoorRefJ
namespace Go.Proofs.YtakjbmlkcbedmaaDoor
set_option linter.unusedVariables false
open Go.RowKit

theorem Row.drew {k B : Nat} {w : World} {v : Value} {N n : Nat} (h : Row k B w v N n) : Row k B w.drew v N n := h

theorem wpList_append_words' {ops : Array Oper} {rest : List Oper} {o : Oper} {a : Act} {w : World} {Q : Exit → Act → World → Prop} (hgd : o.guard = none) (s x : Operand) (ho : o.op = .call { callee := .builtin .append, args := #[s, x], argTypes := #[24, 24] })
    {k B : Nat} {v : Value} {N n : Nat} (hs : a.eval s = v) (hown : Row k B w v N n) {A : Option Addr} {m c M : Nat} (hx : a.eval x = .slice A m c) (hsrc : Rd k w (.slice A m c) M m) (hA : A = none → c = 0)
    (hle : n + m ≤ 17592186044416) (hB : B ≤ w.heap.size)
    (h : ∀ v' w', Row k B w' v' (N + M * 2 ^ (k * n)) (n + m) → w.grownBy w' v.ownBlock → wpList Tryd.prog ops Q rest (a.put o.dst v') w') : wpList Tryd.prog ops Q (o :: rest) a w :=
  wpList_plain hgd fun K hK => wp_append_words s x ho hs hown hx hsrc hA hle hB fun v' w' h1 h2 => hK _ _ (h v' w' h1 h2)

/-- two digits of the base 2^32, laid anew -/
theorem Rd.two32 (w : World) (x : Nat) (hx : x < 18446744073709551616) (a b : Int) (ha : a = ((x % 4294967296 : Nat) : Int)) (hb : b = ((x / 4294967296 : Nat) : Int)) (t : TypeId) :
    Rd 32 (w.alloc (.cells #[.int .u64 a, .int .u64 b] t)) (.slice (some ⟨w.heap.size, 0, none⟩) 2 2) x 2 := by
  subst ha hb
  refine ⟨_, 2, rfl, Nat.le_refl _, by omega, by omega, fun _ => ⟨_, 0, rfl, by simp, fun j hj => ?_⟩⟩
  rcases (show j = 0 ∨ j = 1 by omega) with rfl | rfl
  · rw [World.cell?_alloc_at _ _ _ _ rfl]
    have : dg 32 x 0 = x % 4294967296 := by unfold dg; simp
    rw [this]; rfl
  · rw [World.cell?_alloc_at _ _ _ _ rfl]
    have : dg 32 x 1 = x / 4294967296 := by unfold dg; rw [show 2 ^ (32 * 1) = 4294967296 from rfl]; exact Nat.mod_eq_of_lt (by omega)
    rw [this]; rfl

set_option maxHeartbeats 1000000 in
set_option maxRecDepth 100000 in
theorem rDigits_any (v : Value) (N n : Nat) (w : World) (h : Rd 64 w v N n) (hn : n ≤ 1000000) :
    Calls Tryd.prog 59 #[v] w fun e' w' => ∃ v', e' = .returned v' ∧ (Rd 32 w' v' N (nd 32 N) ∧ Fr w.heap.size w' v') ∧ Below w.heap.size w w' := by
  obtain ⟨A, c, rfl, hc, _, hN, hr⟩ := id h
  have HN := Lib.hid hN
  clear h hN
  have hmk : ∀ wx, (Instr.makeSlice 24 (.int .i64 0) (.int .i64 (2 * (n : Int)))).run Tryd.prog wx = .ok (.slice (some ⟨wx.heap.size, 0, none⟩) 0 (2 * n)) (wx.alloc (.cells (madeCells #[.int .u64 0] (2 * n)) 42)) := by
    intro wx
    obtain ⟨i0, hi, hz0, hz1, hz2⟩ := info_parts info_word
    have h := run_make (P := Tryd.prog) wx 24 42 i0 (.int .u64 0) Tryd.underlying24 hi hz0 .i64 .i64 (0 : Int) ((2 * n : Nat) : Int) (by omega) (by omega) (by rw [hz2]; omega) (by omega)
    rw [hz1, Nat.mul_one, Int.toNat_natCast] at h
    rw [show ((2 * n : Nat) : Int) = 2 * (n : Int) from by omega] at h
    exact h
  have hw2 : IntKind.i64.wrap (2 * (n : Int)) = 2 * (n : Int) := by rw [IntKind.wrap_i64]; omega
  obtain ⟨W, hW⟩ : ∃ W, W = w.alloc (.cells (madeCells #[.int .u64 0] (2 * n)) 42) := ⟨_, rfl⟩
  have hB0 : Below w.heap.size w W := by rw [hW]; exact (Below.refl _ _).alloc (Nat.le_refl _) _
  have hrow0 : Row 32 w.heap.size W (.slice (some ⟨w.heap.size, 0, none⟩) 0 (2 * n)) 0 0 := by rw [hW]; exact Row.make0 (Nat.le_refl _) _ (by simp only [maxLen]; omega)
  go_enter Tryd.func59, Tryd.ntmps59
  go_wp2
  rw [← hW]
  clear hW hmk
  go_loopw [3, 4] (fun v3 v4 wr => ∃ j : Nat, j ≤ n ∧ v4 = .int .i64 j ∧ Row 32 w.heap.size wr v3 (N % 2 ^ (64 * j)) (2 * j) ∧ Below w.heap.size w wr) (fun _ v4 _ => n - (intOf v4).toNat)
  case atStart => exact ⟨0, Nat.zero_le _, rfl, by simpa [Nat.mod_one] using hrow0, hB0⟩
  case round =>
    clear hrow0 hB0
    obtain ⟨j, hj, rfl, hrow, hB⟩ := hrel
    by_cases hjn : j < n
    · obtain ⟨b, o, rfl, hb, hcell⟩ := hr (by omega)
      have q0 := (hB.cell (p := ⟨b, o + j, none⟩) hb).trans (hcell j hjn)
      have hxl := dg64_lt N j
      have hmod : Hid (N % 2 ^ (64 * j) + dg 64 N j * 2 ^ (64 * j) = N % 2 ^ (64 * (j + 1))) := (mod_succ 64 N j).symm
      have hjn' : (j : Int) < n := by omega
      have hle1 : 2 * j + 2 ≤ 17592186044416 := by omega
      obtain ⟨x, hx⟩ : ∃ x, x = dg 64 N j := ⟨_, rfl⟩
      rw [← hx] at q0 hxl hmod
      have hc0 := (hcell j hjn)
      rw [← hx] at hc0
      clear hx hcell hr
      have hsz := hB.size
      have hlo : (x : Int).tmod 4294967296 = ((x % 4294967296 : Nat) : Int) := by rw [Int.tmod_eq_emod_of_nonneg (by omega)]; omega
      have hhi : IntKind.u64.wrap ((x : Int) / 4294967296) = ((x / 4294967296 : Nat) : Int) := by rw [show (x : Int) / 4294967296 = ((x / 4294967296 : Nat) : Int) from by omega, wrap_u64_nat]; omega
      have Hlo := Lib.hid hlo
      have Hhi := Lib.hid hhi
      clear hlo hhi
      have q1 : wr.drew.cell? ⟨b, o + j, none⟩ = some (.int .u64 (x : Nat)) := q0
      have hrowd := hrow.drew
      have hBd : Below w.heap.size w wr.drew := hB.drew
      go_upto_region 5 with (fail)
      refine wp_region_J0 [15, 16, 17, 18, 19, 20, 21, 22, 23, 24, 25, 26, 27, 3] (fun l vs wx => ∃ l0 l1 l2 l3 l4 l5 l6 l7 l8 l9 l10 l11 l12 l13 v15 v16 v17 v18 v19 v20 v21 v22 v23 v24 v25 v26 v27 v3, l = [l0, l1, l2, l3, l4, l5, l6, l7, l8, l9, l10, l11, l12, l13] ∧ vs = [v15, v16, v17, v18, v19, v20, v21, v22, v23, v24, v25, v26, v27, v3] ∧ Below w.heap.size w wx ∧ (l12 = false → Row 32 w.heap.size wx u3 (N % 2 ^ (64 * j)) (2 * j)) ∧ (l13 = false → v3 = u3) ∧ (l12 = true → l0 = true) ∧ (l13 = true → l12 = true) ∧ (l0 = true → v15 = u3) ∧ (l1 = true → v16 = Value.slice (some ⟨b, o, none⟩) n c) ∧ (l2 = true → v17 = Value.int .i64 j) ∧ (l3 = true → v18 = Value.pointer (some ⟨b, o + j, none⟩)) ∧ (l4 = true → v19 = Value.int .u64 x) ∧ (l5 = true → v20 = Value.int .u64 ((x % 4294967296 : Nat) : Int)) ∧ (l6 = true → v21 = Value.slice (some ⟨b, o, none⟩) n c) ∧ (l7 = true → v22 = Value.int .i64 j) ∧ (l8 = true → v23 = Value.pointer (some ⟨b, o + j, none⟩)) ∧ (l9 = true → v24 = Value.int .u64 x) ∧ (l10 = true → v25 = Value.int .u64 ((x / 4294967296 : Nat) : Int)) ∧ (l11 = true → l12 = false → ∃ g, v26 = Value.slice (some ⟨g, 0, none⟩) 2 2 ∧ Rd 32 wx (.slice (some ⟨g, 0, none⟩) 2 2) x 2) ∧ (l12 = true → Row 32 w.heap.size wx v27 (N % 2 ^ (64 * j) + x * 2 ^ (32 * (2 * j))) (2 * j + 2)) ∧ (l13 = true → v3 = v27)) (by kernel_rfl) ?_ ?_ ?_ ?_ ?_
      · refine ⟨false, false, false, false, false, false, false, false, false, false, false, false, false, false, _, _, _, _, _, _, _, _, _, _, _, _, _, _, rfl, rfl, hBd, fun _ => hrowd, fun _ => rfl, nofun, nofun, nofun, nofun, nofun, nofun, nofun, nofun, nofun, nofun, nofun, nofun, nofun, nofun, nofun, nofun⟩
      · refine ⟨?_, ?_, ?_, ?_, ?_, ?_, ?_, ?_, ?_, ?_, ?_, ?_, ?_, ?_, trivial⟩
        · rintro _ _ wx ⟨l0, l1, l2, l3, l4, l5, l6, l7, l8, l9, l10, l11, l12, l13, v15, v16, v17, v18, v19, v20, v21, v22, v23, v24, v25, v26, v27, v3, rfl, rfl, hB, hRw, hs3, hi12, hi13, h0, h1, h2, h3, h4, h5, h6, h7, h8, h9, h10, h11, h12, h13⟩ hl hall K' hK
          have e0l : l0 = false := by simpa using hl
          clear hall hl
          subst e0l
          have e12l : l12 = false := by cases l12; rfl; exact absurd (hi12 rfl) (by decide)
          subst e12l
          have e13l : l13 = false := by cases l13; rfl; exact absurd (hi13 rfl) (by decide)
          subst e13l
          simp only [putL, Act.put, List.setIfInBounds_toArray, List.set_cons_zero, List.set_cons_succ]
          have e3s := hs3 rfl
          simp only [e3s]
          go_simp
          have hh := hK.out [u3, v16, v17, v18, v19, v20, v21, v22, v23, v24, v25, v26, v27, v3] wx ⟨true, l1, l2, l3, l4, l5, l6, l7, l8, l9, l10, l11, false, false, u3, v16, v17, v18, v19, v20, v21, v22, v23, v24, v25, v26, v27, v3, rfl, rfl, hB, hRw, hs3, fun _ => rfl, hi13, fun _ => rfl, h1, h2, h3, h4, h5, h6, h7, h8, h9, h10, h11, h12, h13⟩
          simp only [putL, Act.put, List.setIfInBounds_toArray, List.set_cons_zero, List.set_cons_succ] at hh
          simp only [e3s] at hh
          exact hh
        · rintro _ _ wx ⟨l0, l1, l2, l3, l4, l5, l6, l7, l8, l9, l10, l11, l12, l13, v15, v16, v17, v18, v19, v20, v21, v22, v23, v24, v25, v26, v27, v3, rfl, rfl, hB, hRw, hs3, hi12, hi13, h0, h1, h2, h3, h4, h5, h6, h7, h8, h9, h10, h11, h12, h13⟩ hl hall K' hK
          clear hall hl
          simp only [putL, Act.put, List.setIfInBounds_toArray, List.set_cons_zero, List.set_cons_succ]
          go_simp
          have hh := hK.out [v15, .slice (some ⟨b, o, none⟩) n c, v17, v18, v19, v20, v21, v22, v23, v24, v25, v26, v27, v3] wx ⟨l0, true, l2, l3, l4, l5, l6, l7, l8, l9, l10, l11, l12, l13, v15, .slice (some ⟨b, o, none⟩) n c, v17, v18, v19, v20, v21, v22, v23, v24, v25, v26, v27, v3, rfl, rfl, hB, hRw, hs3, hi12, hi13, h0, fun _ => rfl, h2, h3, h4, h5, h6, h7, h8, h9, h10, h11, h12, h13⟩
          simp only [putL, Act.put, List.setIfInBounds_toArray, List.set_cons_zero, List.set_cons_succ] at hh
          exact hh
        · rintro _ _ wx ⟨l0, l1, l2, l3, l4, l5, l6, l7, l8, l9, l10, l11, l12, l13, v15, v16, v17, v18, v19, v20, v21, v22, v23, v24, v25, v26, v27, v3, rfl, rfl, hB, hRw, hs3, hi12, hi13, h0, h1, h2, h3, h4, h5, h6, h7, h8, h9, h10, h11, h12, h13⟩ hl hall K' hK
          clear hall hl
          simp only [putL, Act.put, List.setIfInBounds_toArray, List.set_cons_zero, List.set_cons_succ]
          go_simp
          have hh := hK.out [v15, v16, .int .i64 j, v18, v19, v20, v21, v22, v23, v24, v25, v26, v27, v3] wx ⟨l0, l1, true, l3, l4, l5, l6, l7, l8, l9, l10, l11, l12, l13, v15, v16, .int .i64 j, v18, v19, v20, v21, v22, v23, v24, v25, v26, v27, v3, rfl, rfl, hB, hRw, hs3, hi12, hi13, h0, h1, fun _ => rfl, h3, h4, h5, h6, h7, h8, h9, h10, h11, h12, h13⟩
          simp only [putL, Act.put, List.setIfInBounds_toArray, List.set_cons_zero, List.set_cons_succ] at hh
          exact hh
        · rintro _ _ wx ⟨l0, l1, l2, l3, l4, l5, l6, l7, l8, l9, l10, l11, l12, l13, v15, v16, v17, v18, v19, v20, v21, v22, v23, v24, v25, v26, v27, v3, rfl, rfl, hB, hRw, hs3, hi12, hi13, h0, h1, h2, h3, h4, h5, h6, h7, h8, h9, h10, h11, h12, h13⟩ hl hall K' hK
          have e1l : l1 = true := hall ⟨1, .data⟩ (by simp) (by rfl)
          have e2l : l2 = true := hall ⟨2, .data⟩ (by simp) (by rfl)
          clear hall hl
          subst e1l e2l
          simp only [putL, Act.put, List.setIfInBounds_toArray, List.set_cons_zero, List.set_cons_succ]
          have e1 := h1 rfl
          have e2 := h2 rfl
          simp only [e1, e2]
          go_simp
          have hh := hK.out [v15, v16, v17, .pointer (some ⟨b, o + j, none⟩), v19, v20, v21, v22, v23, v24, v25, v26, v27, v3] wx ⟨l0, true, true, true, l4, l5, l6, l7, l8, l9, l10, l11, l12, l13, v15, v16, v17, .pointer (some ⟨b, o + j, none⟩), v19, v20, v21, v22, v23, v24, v25, v26, v27, v3, rfl, rfl, hB, hRw, hs3, hi12, hi13, h0, h1, h2, fun _ => rfl, h4, h5, h6, h7, h8, h9, h10, h11, h12, h13⟩
          simp only [putL, Act.put, List.setIfInBounds_toArray, List.set_cons_zero, List.set_cons_succ] at hh
          simp only [e1, e2] at hh
          exact hh
        · rintro _ _ wx ⟨l0, l1, l2, l3, l4, l5, l6, l7, l8, l9, l10, l11, l12, l13, v15, v16, v17, v18, v19, v20, v21, v22, v23, v24, v25, v26, v27, v3, rfl, rfl, hB, hRw, hs3, hi12, hi13, h0, h1, h2, h3, h4, h5, h6, h7, h8, h9, h10, h11, h12, h13⟩ hl hall K' hK
          have e3l : l3 = true := hall ⟨3, .data⟩ (by simp) (by rfl)
          clear hall hl
          subst e3l
          simp only [putL, Act.put, List.setIfInBounds_toArray, List.set_cons_zero, List.set_cons_succ]
          have e3 := h3 rfl
          have q0 := (hB.cell (p := ⟨b, o + j, none⟩) hb).trans hc0
          simp only [e3]
          go_simp
          have hh := hK.out [v15, v16, v17, v18, .int .u64 x, v20, v21, v22, v23, v24, v25, v26, v27, v3] wx ⟨l0, l1, l2, true, true, l5, l6, l7, l8, l9, l10, l11, l12, l13, v15, v16, v17, v18, .int .u64 x, v20, v21, v22, v23, v24, v25, v26, v27, v3, rfl, rfl, hB, hRw, hs3, hi12, hi13, h0, h1, h2, h3, fun _ => rfl, h5, h6, h7, h8, h9, h10, h11, h12, h13⟩
          simp only [putL, Act.put, List.setIfInBounds_toArray, List.set_cons_zero, List.set_cons_succ] at hh
          simp only [e3] at hh
          exact hh
        · rintro _ _ wx ⟨l0, l1, l2, l3, l4, l5, l6, l7, l8, l9, l10, l11, l12, l13, v15, v16, v17, v18, v19, v20, v21, v22, v23, v24, v25, v26, v27, v3, rfl, rfl, hB, hRw, hs3, hi12, hi13, h0, h1, h2, h3, h4, h5, h6, h7, h8, h9, h10, h11, h12, h13⟩ hl hall K' hK
          have e4l : l4 = true := hall ⟨4, .data⟩ (by simp) (by rfl)
          clear hall hl
          subst e4l
          simp only [putL, Act.put, List.setIfInBounds_toArray, List.set_cons_zero, List.set_cons_succ]
          have e4 := h4 rfl
          simp only [e4]
          go_simp
          rw [Hlo.out]
          have hh := hK.out [v15, v16, v17, v18, v19, .int .u64 ((x % 4294967296 : Nat) : Int), v21, v22, v23, v24, v25, v26, v27, v3] wx ⟨l0, l1, l2, l3, true, true, l6, l7, l8, l9, l10, l11, l12, l13, v15, v16, v17, v18, v19, .int .u64 ((x % 4294967296 : Nat) : Int), v21, v22, v23, v24, v25, v26, v27, v3, rfl, rfl, hB, hRw, hs3, hi12, hi13, h0, h1, h2, h3, h4, fun _ => rfl, h6, h7, h8, h9, h10, h11, h12, h13⟩
          simp only [putL, Act.put, List.setIfInBounds_toArray, List.set_cons_zero, List.set_cons_succ] at hh
          simp only [e4] at hh
          exact hh
        · rintro _ _ wx ⟨l0, l1, l2, l3, l4, l5, l6, l7, l8, l9, l10, l11, l12, l13, v15, v16, v17, v18, v19, v20, v21, v22, v23, v24, v25, v26, v27, v3, rfl, rfl, hB, hRw, hs3, hi12, hi13, h0, h1, h2, h3, h4, h5, h6, h7, h8, h9, h10, h11, h12, h13⟩ hl hall K' hK
          clear hall hl
          simp only [putL, Act.put, List.setIfInBounds_toArray, List.set_cons_zero, List.set_cons_succ]
          go_simp
          have hh := hK.out [v15, v16, v17, v18, v19, v20, .slice (some ⟨b, o, none⟩) n c, v22, v23, v24, v25, v26, v27, v3] wx ⟨l0, l1, l2, l3, l4, l5, true, l7, l8, l9, l10, l11, l12, l13, v15, v16, v17, v18, v19, v20, .slice (some ⟨b, o, none⟩) n c, v22, v23, v24, v25, v26, v27, v3, rfl, rfl, hB, hRw, hs3, hi12, hi13, h0, h1, h2, h3, h4, h5, fun _ => rfl, h7, h8, h9, h10, h11, h12, h13⟩
          simp only [putL, Act.put, List.setIfInBounds_toArray, List.set_cons_zero, List.set_cons_succ] at hh
          exact hh
        · rintro _ _ wx ⟨l0, l1, l2, l3, l4, l5, l6, l7, l8, l9, l10, l11, l12, l13, v15, v16, v17, v18, v19, v20, v21, v22, v23, v24, v25, v26, v27, v3, rfl, rfl, hB, hRw, hs3, hi12, hi13, h0, h1, h2, h3, h4, h5, h6, h7, h8, h9, h10, h11, h12, h13⟩ hl hall K' hK
          clear hall hl
          simp only [putL, Act.put, List.setIfInBounds_toArray, List.set_cons_zero, List.set_cons_succ]
          go_simp
          have hh := hK.out [v15, v16, v17, v18, v19, v20, v21, .int .i64 j, v23, v24, v25, v26, v27, v3] wx ⟨l0, l1, l2, l3, l4, l5, l6, true, l8, l9, l10, l11, l12, l13, v15, v16, v17, v18, v19, v20, v21, .int .i64 j, v23, v24, v25, v26, v27, v3, rfl, rfl, hB, hRw, hs3, hi12, hi13, h0, h1, h2, h3, h4, h5, h6, fun _ => rfl, h8, h9, h10, h11, h12, h13⟩
          simp only [putL, Act.put, List.setIfInBounds_toArray, List.set_cons_zero, List.set_cons_succ] at hh
          exact hh
        · rintro _ _ wx ⟨l0, l1, l2, l3, l4, l5, l6, l7, l8, l9, l10, l11, l12, l13, v15, v16, v17, v18, v19, v20, v21, v22, v23, v24, v25, v26, v27, v3, rfl, rfl, hB, hRw, hs3, hi12, hi13, h0, h1, h2, h3, h4, h5, h6, h7, h8, h9, h10, h11, h12, h13⟩ hl hall K' hK
          have e6l : l6 = true := hall ⟨6, .data⟩ (by simp) (by rfl)
          have e7l : l7 = true := hall ⟨7, .data⟩ (by simp) (by rfl)
          clear hall hl
          subst e6l e7l
          simp only [putL, Act.put, List.setIfInBounds_toArray, List.set_cons_zero, List.set_cons_succ]
          have e6 := h6 rfl
          have e7 := h7 rfl
          simp only [e6, e7]
          go_simp
          have hh := hK.out [v15, v16, v17, v18, v19, v20, v21, v22, .pointer (some ⟨b, o + j, none⟩), v24, v25, v26, v27, v3] wx ⟨l0, l1, l2, l3, l4, l5, true, true, true, l9, l10, l11, l12, l13, v15, v16, v17, v18, v19, v20, v21, v22, .pointer (some ⟨b, o + j, none⟩), v24, v25, v26, v27, v3, rfl, rfl, hB, hRw, hs3, hi12, hi13, h0, h1, h2, h3, h4, h5, h6, h7, fun _ => rfl, h9, h10, h11, h12, h13⟩
          simp only [putL, Act.put, List.setIfInBounds_toArray, List.set_cons_zero, List.set_cons_succ] at hh
          simp only [e6, e7] at hh
          exact hh
        · rintro _ _ wx ⟨l0, l1, l2, l3, l4, l5, l6, l7, l8, l9, l10, l11, l12, l13, v15, v16, v17, v18, v19, v20, v21, v22, v23, v24, v25, v26, v27, v3, rfl, rfl, hB, hRw, hs3, hi12, hi13, h0, h1, h2, h3, h4, h5, h6, h7, h8, h9, h10, h11, h12, h13⟩ hl hall K' hK
          have e8l : l8 = true := hall ⟨8, .data⟩ (by simp) (by rfl)
          clear hall hl
          subst e8l
          simp only [putL, Act.put, List.setIfInBounds_toArray, List.set_cons_zero, List.set_cons_succ]
          have e8 := h8 rfl
          have q0 := (hB.cell (p := ⟨b, o + j, none⟩) hb).trans hc0
          simp only [e8]
          go_simp
          have hh := hK.out [v15, v16, v17, v18, v19, v20, v21, v22, v23, .int .u64 x, v25, v26, v27, v3] wx ⟨l0, l1, l2, l3, l4, l5, l6, l7, true, true, l10, l11, l12, l13, v15, v16, v17, v18, v19, v20, v21, v22, v23, .int .u64 x, v25, v26, v27, v3, rfl, rfl, hB, hRw, hs3, hi12, hi13, h0, h1, h2, h3, h4, h5, h6, h7, h8, fun _ => rfl, h10, h11, h12, h13⟩
          simp only [putL, Act.put, List.setIfInBounds_toArray, List.set_cons_zero, List.set_cons_succ] at hh
          simp only [e8] at hh
          exact hh
        · rintro _ _ wx ⟨l0, l1, l2, l3, l4, l5, l6, l7, l8, l9, l10, l11, l12, l13, v15, v16, v17, v18, v19, v20, v21, v22, v23, v24, v25, v26, v27, v3, rfl, rfl, hB, hRw, hs3, hi12, hi13, h0, h1, h2, h3, h4, h5, h6, h7, h8, h9, h10, h11, h12, h13⟩ hl hall K' hK
          have e9l : l9 = true := hall ⟨9, .data⟩ (by simp) (by rfl)
          clear hall hl
          subst e9l
          simp only [putL, Act.put, List.setIfInBounds_toArray, List.set_cons_zero, List.set_cons_succ]
          have e9 := h9 rfl
          simp only [e9]
          go_simp
          rw [Hhi.out]
          have hh := hK.out [v15, v16, v17, v18, v19, v20, v21, v22, v23, v24, .int .u64 ((x / 4294967296 : Nat) : Int), v26, v27, v3] wx ⟨l0, l1, l2, l3, l4, l5, l6, l7, l8, true, true, l11, l12, l13, v15, v16, v17, v18, v19, v20, v21, v22, v23, v24, .int .u64 ((x / 4294967296 : Nat) : Int), v26, v27, v3, rfl, rfl, hB, hRw, hs3, hi12, hi13, h0, h1, h2, h3, h4, h5, h6, h7, h8, h9, fun _ => rfl, h11, h12, h13⟩
          simp only [putL, Act.put, List.setIfInBounds_toArray, List.set_cons_zero, List.set_cons_succ] at hh
          simp only [e9] at hh
          exact hh
        · rintro _ _ wx ⟨l0, l1, l2, l3, l4, l5, l6, l7, l8, l9, l10, l11, l12, l13, v15, v16, v17, v18, v19, v20, v21, v22, v23, v24, v25, v26, v27, v3, rfl, rfl, hB, hRw, hs3, hi12, hi13, h0, h1, h2, h3, h4, h5, h6, h7, h8, h9, h10, h11, h12, h13⟩ hl hall K' hK
          have e5l : l5 = true := hall ⟨5, .data⟩ (by simp) (by rfl)
          have e10l : l10 = true := hall ⟨10, .data⟩ (by simp) (by rfl)
          have e11l : l11 = false := by simpa using hl
          clear hall hl
          subst e5l e10l e11l
          simp only [putL, Act.put, List.setIfInBounds_toArray, List.set_cons_zero, List.set_cons_succ]
          have e5 := h5 rfl
          have e10 := h10 rfl
          simp only [e5, e10]
          go_simp
          have hh := hK.out [v15, v16, v17, v18, v19, v20, v21, v22, v23, v24, v25, .slice (some ⟨wx.heap.size, 0, none⟩) 2 2, v27, v3] (wx.alloc (.cells #[.int .u64 ((x % 4294967296 : Nat) : Int), .int .u64 ((x / 4294967296 : Nat) : Int)] 42)) ⟨l0, l1, l2, l3, l4, true, l6, l7, l8, l9, true, true, l12, l13, v15, v16, v17, v18, v19, v20, v21, v22, v23, v24, v25, .slice (some ⟨wx.heap.size, 0, none⟩) 2 2, v27, v3, rfl, rfl, hB.alloc hB.size _, fun h => (hRw h).alloc _, hs3, hi12, hi13, h0, h1, h2, h3, h4, h5, h6, h7, h8, h9, h10, fun _ _ => ⟨_, rfl, Rd.two32 wx x hxl _ _ rfl rfl 42⟩, fun h => (h12 h).alloc _, h13⟩
          simp only [putL, Act.put, List.setIfInBounds_toArray, List.set_cons_zero, List.set_cons_succ] at hh
          simp only [e5, e10] at hh
          exact hh
        · rintro _ _ wx ⟨l0, l1, l2, l3, l4, l5, l6, l7, l8, l9, l10, l11, l12, l13, v15, v16, v17, v18, v19, v20, v21, v22, v23, v24, v25, v26, v27, v3, rfl, rfl, hB, hRw, hs3, hi12, hi13, h0, h1, h2, h3, h4, h5, h6, h7, h8, h9, h10, h11, h12, h13⟩ hl hall K' hK
          have e0l : l0 = true := hall ⟨0, .data⟩ (by simp) (by rfl)
          have e11l : l11 = true := hall ⟨11, .data⟩ (by simp) (by rfl)
          have e12l : l12 = false := by simpa using hl
          clear hall hl
          subst e0l e11l e12l
          have e13l : l13 = false := by cases l13; rfl; exact absurd (hi13 rfl) (by decide)
          subst e13l
          simp only [putL, Act.put, List.setIfInBounds_toArray, List.set_cons_zero, List.set_cons_succ]
          have e0 := h0 rfl
          have e3s := hs3 rfl
          obtain ⟨g, e11, hr11⟩ := h11 rfl rfl
          simp only [e0, e11]
          have hrw := hRw rfl
          refine step_wp rfl ?_
          refine wp_append_words (.tmp 15) (.tmp 26) rfl rfl hrw rfl hr11 nofun hle1 hB.size ?_
          intro v' w' hR' hg'
          have hh := hK.out [v15, v16, v17, v18, v19, v20, v21, v22, v23, v24, v25, v26, v', v3] w' ⟨true, l1, l2, l3, l4, l5, l6, l7, l8, l9, l10, true, true, false, v15, v16, v17, v18, v19, v20, v21, v22, v23, v24, v25, v26, v', v3, rfl, rfl, hrw.grown hg' hB hB.size, nofun, hs3, fun _ => rfl, fun _ => rfl, h0, h1, h2, h3, h4, h5, h6, h7, h8, h9, h10, nofun, fun _ => hR', nofun⟩
          simp only [putL, Act.put, List.setIfInBounds_toArray, List.set_cons_zero, List.set_cons_succ] at hh
          simp only [e0, e11] at hh
          exact hh
        · rintro _ _ wx ⟨l0, l1, l2, l3, l4, l5, l6, l7, l8, l9, l10, l11, l12, l13, v15, v16, v17, v18, v19, v20, v21, v22, v23, v24, v25, v26, v27, v3, rfl, rfl, hB, hRw, hs3, hi12, hi13, h0, h1, h2, h3, h4, h5, h6, h7, h8, h9, h10, h11, h12, h13⟩ hl hall K' hK
          have e12l : l12 = true := hall ⟨12, .data⟩ (by simp) (by rfl)
          have e13l : l13 = false := by simpa using hl
          clear hall hl
          subst e12l e13l
          simp only [putL, Act.put, List.setIfInBounds_toArray, List.set_cons_zero, List.set_cons_succ]
          have Hh0 := Lib.hid h0
          clear h0
          go_simp
          have hh := hK.out [v15, v16, v17, v18, v19, v20, v21, v22, v23, v24, v25, v26, v27, v27] wx ⟨l0, l1, l2, l3, l4, l5, l6, l7, l8, l9, l10, l11, true, true, v15, v16, v17, v18, v19, v20, v21, v22, v23, v24, v25, v26, v27, v27, rfl, rfl, hB, hRw, nofun, hi12, fun _ => rfl, Hh0.out, h1, h2, h3, h4, h5, h6, h7, h8, h9, h10, h11, h12, fun _ => rfl⟩
          simp only [putL, Act.put, List.setIfInBounds_toArray, List.set_cons_zero, List.set_cons_succ] at hh
          exact hh
      · rintro vs wx ⟨l0, l1, l2, l3, l4, l5, l6, l7, l8, l9, l10, l11, l12, l13, v15, v16, v17, v18, v19, v20, v21, v22, v23, v24, v25, v26, v27, v3, hl, rfl, hB, hRw, hs3, hi12, hi13, h0, h1, h2, h3, h4, h5, h6, h7, h8, h9, h10, h11, h12, h13⟩
        obtain ⟨rfl, rfl, rfl, rfl, rfl, rfl, rfl, rfl, rfl, rfl, rfl, rfl, rfl, rfl⟩ : true = l0 ∧ true = l1 ∧ true = l2 ∧ true = l3 ∧ true = l4 ∧ true = l5 ∧ true = l6 ∧ true = l7 ∧ true = l8 ∧ true = l9 ∧ true = l10 ∧ true = l11 ∧ true = l12 ∧ true = l13 := by simpa using hl
        simp only [putL, Act.put, List.setIfInBounds_toArray, List.set_cons_zero, List.set_cons_succ]
        have hR' := Lib.hid (h12 rfl)
        have hB' := Lib.hid hB
        have e3 := h13 rfl
        subst e3
        clear hB hRw hs3 hi12 hi13 h0 h1 h2 h3 h4 h5 h6 h7 h8 h9 h10 h11 h12 h13 hrowd hBd
        go_wp2
        go_roundw
        case rel => exact ⟨j + 1, by omega, by go_num, by have hq := hR'.out; rw [show 32 * (2 * j) = 64 * j from by omega] at hq; rw [← hmod.out, show 2 * (j + 1) = 2 * j + 2 from by omega]; exact hq, hB'.out⟩
        case measure => simp [intOf]; omega
      · rintro _ vs wx ⟨l0, l1, l2, l3, l4, l5, l6, l7, l8, l9, l10, l11, l12, l13, v15, v16, v17, v18, v19, v20, v21, v22, v23, v24, v25, v26, v27, v3, rfl, _⟩
        rfl
      · rintro _ vs wx ⟨l0, l1, l2, l3, l4, l5, l6, l7, l8, l9, l10, l11, l12, l13, v15, v16, v17, v18, v19, v20, v21, v22, v23, v24, v25, v26, v27, v3, rfl, -⟩
        revert l0 l1 l2 l3 l4 l5 l6 l7 l8 l9 l10 l11 l12 l13
        decide +kernel
    · obtain rfl : j = n := by omega
      have hrd := hrow.rd (by omega)
      rw [Nat.mod_eq_of_lt HN.out] at hrd
      have HB := Lib.hid hB
      have hfr := hrow.fr
      clear hrow hB hr
      go_wp2_with fail
      refine (rTrim_fr _ 32 N (2 * j) _ wr (by decide) hrd hfr).mono ?_
      rintro _ w2 ⟨v2, rfl, hv2, rfl⟩
      go_wp2
      go_ret
      exact ⟨_, rfl, hv2, HB.out⟩

end Go.Proofs.YtakjbmlkcbedmaaDoor
