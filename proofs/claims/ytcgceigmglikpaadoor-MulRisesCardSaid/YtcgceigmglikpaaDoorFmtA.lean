/- Walks of layer 4: ones, Params, Check, split, join. -/
import Derived.Outline
import Derived.Test.YtcgceigmglikpaaDoorDyadE
import Derived.Test.YtcgceigmglikpaaDoorMulL
namespace Go.Proofs.YtcgceigmglikpaaDoor
set_option linter.unusedVariables false
open Go.RowKit

/-- a quiet call, in a region that draws its order -/
theorem quiet_eq {P : Program} {f : FuncId} {args : Array Value} {w : World} {n : Nat} {v : Value} (h : Calls P f args (w.drewN n) fun e w' => e = .returned v ∧ w.drewN n = w') : Calls P f args (w.drewN n) fun e w'' => e = .returned v ∧ ∃ m, w'' = w.drewN m :=
  h.mono fun _ _ ⟨he, hm⟩ => ⟨he, n, hm.symm⟩

/-- the table of formats in its variable -/
def GlR (w : World) : Prop := (∀ f : Nat, f < 4 → w.cell? ⟨1, f * 4, none⟩ = some (.int .i64 ((fm f).w : Int)) ∧ w.cell? ⟨1, f * 4 + 1, none⟩ = some (.int .i64 ((fm f).p : Int)) ∧ w.cell? ⟨1, f * 4 + 2, none⟩ = some (.int .i64 (fm f).emin) ∧ w.cell? ⟨1, f * 4 + 3, none⟩ = some (.int .i64 (fm f).emax)) ∧ 1 < w.heap.size

theorem GlR.below {w w' : World} (h : GlR w) (hb : Below w.heap.size w w') : GlR w' := by
  refine ⟨fun f hf => ?_, Nat.lt_of_lt_of_le h.2 hb.size⟩
  obtain ⟨a, b, c, d⟩ := h.1 f hf
  exact ⟨(hb.cell (p := ⟨1, f * 4, none⟩) h.2).trans a, (hb.cell (p := ⟨1, f * 4 + 1, none⟩) h.2).trans b, (hb.cell (p := ⟨1, f * 4 + 2, none⟩) h.2).trans c, (hb.cell (p := ⟨1, f * 4 + 3, none⟩) h.2).trans d⟩

theorem GlR.alloc {w : World} (h : GlR w) (o : Obj) : GlR (w.alloc o) := h.below ((Below.refl _ _).alloc (Nat.le_refl _) o)

/-- the exponent's field, the fraction's -/
def Fm.fx (F : Fm) (a : Nat) : Nat := F.abs a / 2 ^ (F.p - 1)
def Fm.fy (F : Fm) (a : Nat) : Nat := F.abs a % 2 ^ (F.p - 1)

/-- a box that holds a format's row -/
def BxP (F : Fm) (w : World) (g : Nat) : Prop := ∃ t, w.heap[g]? = some (.cells #[.int .i64 F.w, .int .i64 F.p, .int .i64 F.emin, .int .i64 F.emax] t (0, 0))
theorem BxP.new (F : Fm) (w : World) (t : TypeId) : BxP F (w.alloc (.cells #[.int .i64 F.w, .int .i64 F.p, .int .i64 F.emin, .int .i64 F.emax] t)) w.heap.size := ⟨t, heap_alloc_at w _⟩
theorem BxP.below {F : Fm} {w w' : World} {g : Nat} (h : BxP F w g) (hb : Below w.heap.size w w') : BxP F w' g := by
  obtain ⟨t, h⟩ := h; exact ⟨t, (hb.block g (lt_size_of_some h)).trans h⟩
theorem BxP.cells {F : Fm} {w : World} {g : Nat} (h : BxP F w g) : w.cell? ⟨g, 0, none⟩ = some (.int .i64 F.w) ∧ w.cell? ⟨g, 1, none⟩ = some (.int .i64 F.p) ∧ w.cell? ⟨g, 2, none⟩ = some (.int .i64 F.emin) ∧ w.cell? ⟨g, 3, none⟩ = some (.int .i64 F.emax) := by
  obtain ⟨t, h⟩ := h
  unfold World.cell?
  simp only [h]
  exact ⟨rfl, rfl, rfl, rfl⟩

/-- a format's row, as a value -/
def PV (F : Fm) : Value := .agg #[.int .i64 F.w, .int .i64 F.p, .int .i64 F.emin, .int .i64 F.emax]

theorem ones_any (n : Nat) (w : World) (hn : n ≤ 63) : Calls Tryd.prog 77 #[.int .i64 n] w fun e w' => e = .returned (.int .u64 ((2 ^ n - 1 : Nat) : Int)) ∧ w = w' := by
  have h1 : (2 : Nat) ^ n ≤ 2 ^ 63 := Nat.pow_le_pow_right (by decide) hn
  have h0 := pow_pos2 n
  have e0 : (2 : Int) ^ n = ((2 ^ n : Nat) : Int) := by simp
  have e1 : IntKind.u64.wrap ((2 : Int) ^ n) = ((2 ^ n : Nat) : Int) := by rw [e0, IntKind.wrap_u64]; omega
  have e2 : IntKind.u64.wrap (((2 ^ n : Nat) : Int) - 1) = ((2 ^ n - 1 : Nat) : Int) := by rw [IntKind.wrap_u64]; omega
  have E1 := Lib.hid e1
  have E2 := Lib.hid e2
  clear e0 e1 e2
  go_enter Tryd.func77, Tryd.ntmps77
  go_wp2
  rw [E1.out, E2.out]
  go_ret
  exact ⟨rfl, rfl⟩

theorem ones_op (n o : Nat) (w : World) (hn : n ≤ 63) (ho : Hid (o = 2 ^ n - 1)) : Calls Tryd.prog 77 #[.int .i64 n] w fun e w' => e = .returned (.int .u64 (o : Int)) ∧ w = w' := by
  rw [ho.out]; exact ones_any n w hn

set_option maxHeartbeats 400000 in
theorem Params_ok (f : Nat) (w : World) (hf : f < 4) (hG : GlR w) : Calls Tryd.prog 28 #[.int .i64 f] w fun e w' => e = .returned (.tuple #[PV (fm f), .int .i64 0]) ∧ Below w.heap.size w w' := by
  obtain ⟨c0, c1, c2, c3⟩ := hG.1 f hf
  have hgl := hG.2
  have t1 : decide ((4 : Int) ≤ f) = false := by simp; omega
  clear hG
  generalize hF : fm f = F at *
  have HF := Lib.hid hF
  clear hF
  go_enter Tryd.func28, Tryd.ntmps28
  go_wp2
  refine bodyPost_ret (v := .tuple #[PV F, .int .i64 0]) (by simp [results, Tryd.results28, go_sem, PV]) rfl ⟨rfl, (Below.refl _ _).alloc (Nat.le_refl _) _⟩

def PV0 : Value := .agg #[.int .i64 0, .int .i64 0, .int .i64 0, .int .i64 0]

theorem Params_bad (f : Int) (w : World) (hf : f < 0 ∨ 4 ≤ f) : Calls Tryd.prog 28 #[.int .i64 f] w fun e w' => e = .returned (.tuple #[PV0, .int .i64 2]) ∧ Below w.heap.size w w' := by
  by_cases h : f < 0
  · go_enter Tryd.func28, Tryd.ntmps28
    go_wp2
    refine bodyPost_ret (v := .tuple #[PV0, .int .i64 2]) (by simp [results, Tryd.results28, go_sem, PV0]) rfl ⟨rfl, (Below.refl _ _).alloc (Nat.le_refl _) _⟩
  · have h4 : 4 ≤ f := by omega
    have t1 : decide (f < 0) = false := by simpa using h
    clear hf h
    go_enter Tryd.func28, Tryd.ntmps28
    go_wp2
    refine bodyPost_ret (v := .tuple #[PV0, .int .i64 2]) (by simp [results, Tryd.results28, go_sem, PV0]) rfl ⟨rfl, (Below.refl _ _).alloc (Nat.le_refl _) _⟩

theorem shr_zero (a n : Nat) : (((a / 2 ^ n : Nat) : Int) != 0) = decide (2 ^ n ≤ a) := by
  by_cases h : 2 ^ n ≤ a
  · have h1 := Nat.div_pos h (pow_pos2 n)
    rw [decide_eq_true h]
    generalize a / 2 ^ n = q at *
    simp; omega
  · rw [decide_eq_false h, Nat.div_eq_of_lt (by omega)]; rfl

theorem shr_nz (a n : Nat) : ((a : Int) / 2 ^ n != 0) = decide (2 ^ n ≤ a) := by
  have e0 : (2 : Int) ^ n = ((2 ^ n : Nat) : Int) := by simp
  rw [e0]
  by_cases h : 2 ^ n ≤ a
  · have h1 := Nat.div_pos h (pow_pos2 n)
    have : (a : Int) / ((2 ^ n : Nat) : Int) = ((a / 2 ^ n : Nat) : Int) := by simp
    rw [decide_eq_true h, this]
    generalize a / 2 ^ n = q at *
    simp; omega
  · have : (a : Int) / ((2 ^ n : Nat) : Int) = ((a / 2 ^ n : Nat) : Int) := by simp
    rw [decide_eq_false h, this, Nat.div_eq_of_lt (by omega)]; rfl

set_option maxHeartbeats 400000 in
theorem Check_ok (f : Nat) (a : Nat) (w : World) (hf : f < 4) (ha : a < 2 ^ (fm f).w) (hG : GlR w) : Calls Tryd.prog 74 #[.int .i64 f, .int .u64 a] w fun e w' => e = .returned (.int .i64 0) ∧ Below w.heap.size w w' := by
  have hw := (fm_ok f).w64
  go_enter Tryd.func74, Tryd.ntmps74
  go_wp2_with fail
  refine (Params_ok f w hf hG).mono ?_
  rintro _ w1 ⟨rfl, hb⟩
  generalize fm f = F at *
  clear hG
  unfold PV
  have t1 : ((a : Int) / 2 ^ F.w != 0) = false := by rw [shr_nz]; simp; exact ha
  have T1 := Lib.hid t1
  have ha2 : a < 18446744073709551616 := Nat.lt_of_lt_of_le ha (Nat.pow_le_pow_right (show 0 < 2 by decide) hw)
  have HB := Lib.hid hb
  clear t1 ha hb
  by_cases h64 : F.w < 64
  · have t2 := T1.out
    go_wp2
    go_ret
    exact ⟨rfl, HB.out.trans (((Below.refl _ _).alloc (Nat.le_refl _) _).mono HB.out.size)⟩
  · have t2 : decide ((F.w : Int) < 64) = false := by simp; omega
    go_wp2
    go_ret
    exact ⟨rfl, HB.out.trans (((Below.refl _ _).alloc (Nat.le_refl _) _).mono HB.out.size)⟩

set_option maxHeartbeats 400000 in
theorem Check_big (f : Nat) (a : Nat) (w : World) (hf : f < 4) (ha : 2 ^ (fm f).w ≤ a) (ha2 : a < 18446744073709551616) (hG : GlR w) : Calls Tryd.prog 74 #[.int .i64 f, .int .u64 a] w fun e w' => e = .returned (.int .i64 4) ∧ Below w.heap.size w w' := by
  have hw := (fm_ok f).w64
  go_enter Tryd.func74, Tryd.ntmps74
  go_wp2_with fail
  refine (Params_ok f w hf hG).mono ?_
  rintro _ w1 ⟨rfl, hb⟩
  generalize fm f = F at *
  clear hG
  unfold PV
  have t1 : ((a : Int) / 2 ^ F.w != 0) = true := by rw [shr_nz]; simp; exact ha
  have h64 : F.w < 64 := by
    rcases Nat.lt_or_ge F.w 64 with h | h
    · exact h
    · have : F.w = 64 := by omega
      rw [this] at ha; omega
  have HB := Lib.hid hb
  clear ha hb
  go_wp2
  go_ret
  exact ⟨rfl, HB.out.trans (((Below.refl _ _).alloc (Nat.le_refl _) _).mono HB.out.size)⟩

theorem Check_bad (f : Int) (a : Nat) (w : World) (hf : f < 0 ∨ 4 ≤ f) : Calls Tryd.prog 74 #[.int .i64 f, .int .u64 a] w fun e w' => e = .returned (.int .i64 2) ∧ Below w.heap.size w w' := by
  go_enter Tryd.func74, Tryd.ntmps74
  go_wp2_with fail
  refine (Params_bad f w hf).mono ?_
  rintro _ w1 ⟨rfl, hb⟩
  unfold PV0
  have HB := Lib.hid hb
  clear hf hb
  go_wp2
  go_ret
  exact ⟨rfl, HB.out.trans (((Below.refl _ _).alloc (Nat.le_refl _) _).mono HB.out.size)⟩

set_option maxRecDepth 100000 in
set_option maxHeartbeats 400000 in
theorem split_any (F : Fm) (ok : F.Ok) (a : Nat) (w : World) (ha : a < 2 ^ F.w) : Calls Tryd.prog 76 #[PV F, .int .u64 a] w fun e w' => e = .returned (.tuple #[.bool (F.neg a), .int .u64 (F.fx a : Int), .int .u64 (F.fy a : Int)]) ∧ Below w.heap.size w w' := by
  obtain ⟨p8, p53, pw, w64, emx, emn, b16, b1023⟩ := id ok
  clear emx emn
  obtain ⟨n, hn⟩ : ∃ n, n = F.p - 1 := ⟨_, rfl⟩
  obtain ⟨t, ht⟩ : ∃ t, t = F.w - F.p := ⟨_, rfl⟩
  obtain ⟨k, hk⟩ : ∃ k, k = F.w - 1 := ⟨_, rfl⟩
  have e1 : (F.p : Int) - 1 = (n : Int) := by omega
  have ha2 : a < 18446744073709551616 := Nat.lt_of_lt_of_le ha (Nat.pow_le_pow_right (show 0 < 2 by decide) w64)
  have hn63 : n ≤ 63 := by omega
  have ht63 : t ≤ 63 := by omega
  have hk63 : k ≤ 63 := by omega
  have a1 := abs_lt (F := F) a
  have E3 : Hid ((((a / 2 ^ k : Nat) : Int) != 0) = F.neg a) := by show _ = _; rw [shr_zero, hk]; rfl
  have E4 : Hid (a / 2 ^ n % 2 ^ t = F.fx a) := by
    show _ = _
    unfold Fm.fx Fm.abs
    rw [hn, ht, show F.w - 1 = (F.p - 1) + (F.w - F.p) by omega, Nat.pow_add, Nat.mod_mul_right_div_self]
  have E5 : Hid (a % 2 ^ n = F.fy a) := by
    show _ = _
    unfold Fm.fy Fm.abs
    rw [hn, show F.w - 1 = (F.p - 1) + (F.w - F.p) by omega, Nat.pow_add, Nat.mod_mul_right_mod]
  have hq : ((a : Int) / 2 ^ k) = ((a / 2 ^ k : Nat) : Int) := by simp
  have hq2 : ((a : Int) / 2 ^ n) = ((a / 2 ^ n : Nat) : Int) := by simp
  have l2 : a / 2 ^ n < 18446744073709551616 := Nat.lt_of_le_of_lt (Nat.div_le_self _ _) ha2
  have hp2 : ∀ j, j ≤ 63 → 2 ^ j - 1 < 18446744073709551616 := fun j hj => by have : (2 : Nat) ^ j ≤ 2 ^ 63 := Nat.pow_le_pow_right (by decide) hj; omega
  obtain ⟨o1, ho1⟩ : ∃ o, Hid (o = 2 ^ t - 1) := ⟨_, Lib.hid rfl⟩
  obtain ⟨o2, ho2⟩ : ∃ o, Hid (o = 2 ^ n - 1) := ⟨_, Lib.hid rfl⟩
  have hand1 : bits .and .u64 ((a / 2 ^ n : Nat) : Int) (o1 : Int) = ((a / 2 ^ n % 2 ^ t : Nat) : Int) := by
    rw [ho1.out, bits_and_u64_nat _ _ l2 (hp2 t ht63), Nat.and_two_pow_sub_one_eq_mod]
  have hand2 : bits .and .u64 (a : Int) (o2 : Int) = ((a % 2 ^ n : Nat) : Int) := by
    rw [ho2.out, bits_and_u64_nat _ _ ha2 (hp2 n hn63), Nat.and_two_pow_sub_one_eq_mod]
  obtain ⟨r1, hr1⟩ : ∃ r, r = a / 2 ^ n % 2 ^ t := ⟨_, rfl⟩
  obtain ⟨r2, hr2⟩ : ∃ r, r = a % 2 ^ n := ⟨_, rfl⟩
  rw [← hr1] at hand1 E4
  rw [← hr2] at hand2 E5
  have w3 : IntKind.i64.wrap ((F.w : Int) - 1) = (k : Int) := by rw [IntKind.wrap_i64]; omega
  have w2 : IntKind.i64.wrap ((F.w : Int) - F.p) = (t : Int) := by rw [IntKind.wrap_i64]; omega
  unfold PV
  clear hr1 hr2 ha hn ht hk a1 hp2 p8 p53 pw w64 b16 b1023
  generalize a / 2 ^ n = q2 at *
  generalize a / 2 ^ k = q1 at *
  go_enter Tryd.func76, Tryd.ntmps76
  go_wp2
  go_quiet ((go_at_call 77; (first | exact quiet_eq (ones_op t o1 _ ht63 ho1) | exact quiet_eq (ones_op n o2 _ hn63 ho2))))
  clear w2 w3
  go_wp2
  refine bodyPost_ret (v := .tuple #[.bool (((q1 : Nat) : Int) != 0), .int .u64 r1, .int .u64 r2]) (by simp [results, Tryd.results76, go_sem]) rfl ?_
  rw [E3.out, E4.out, E5.out]
  exact ⟨rfl, below_drewN ((Below.refl _ _).alloc (Nat.le_refl _) _) _⟩

end Go.Proofs.YtcgceigmglikpaaDoor
