/- Packed by program: FmtA FmtB FmtC FmtD FmtE FmtF. -/
import Derived.Outline
import Derived.Test.YtlibhfojfonfjaaGreatDoorPackB
import Derived.Test.YtlibhfojfonfjaaGreatDoorPackR
import Derived.Deep.RegionHeld3
import Derived.BigRegion
/- Walks of layer 4: ones, Params, Check, split, join. -/
namespace Go.Proofs.YtlibhfojfonfjaaGreatDoor
set_option linter.unusedVariables false
open Go.RowKit

/-- a quiet call, in a region that draws its order -/
theorem quiet_eq {P : Program} {f : FuncId} {args : Array Value} {w : World} {n : Nat} {v : Value} (h : Calls P f args (w.drewN n) fun e w' => e = .returned v ∧ w.drewN n = w') : Calls P f args (w.drewN n) fun e w'' => e = .returned v ∧ ∃ m, w'' = w.drewN m :=
  h.mono fun _ _ ⟨he, hm⟩ => ⟨he, n, hm.symm⟩

/-- the table of formats in its variable -/
def GlR (w : World) : Prop := (∀ f : Nat, f < 4 → w.cell? ⟨0, f * 4, none⟩ = some (.int .i64 ((fm f).w : Int)) ∧ w.cell? ⟨0, f * 4 + 1, none⟩ = some (.int .i64 ((fm f).p : Int)) ∧ w.cell? ⟨0, f * 4 + 2, none⟩ = some (.int .i64 (fm f).emin) ∧ w.cell? ⟨0, f * 4 + 3, none⟩ = some (.int .i64 (fm f).emax)) ∧ 0 < w.heap.size

theorem GlR.below {w w' : World} (h : GlR w) (hb : Below w.heap.size w w') : GlR w' := by
  refine ⟨fun f hf => ?_, Nat.lt_of_lt_of_le h.2 hb.size⟩
  obtain ⟨a, b, c, d⟩ := h.1 f hf
  exact ⟨(hb.cell (p := ⟨0, f * 4, none⟩) h.2).trans a, (hb.cell (p := ⟨0, f * 4 + 1, none⟩) h.2).trans b, (hb.cell (p := ⟨0, f * 4 + 2, none⟩) h.2).trans c, (hb.cell (p := ⟨0, f * 4 + 3, none⟩) h.2).trans d⟩

theorem GlR.alloc {w : World} (h : GlR w) (o : Obj) : GlR (w.alloc o) := h.below ((Below.refl _ _).alloc (Nat.le_refl _) o)

/-- the exponent's field, the fraction's -/
def Fm.fx (F : Fm) (a : Nat) : Nat := F.abs a / 2 ^ (F.p - 1)
def Fm.fy (F : Fm) (a : Nat) : Nat := F.abs a % 2 ^ (F.p - 1)

/-- a box that holds a format's row -/
def BxP (F : Fm) (w : World) (g : Nat) : Prop := ∃ t, w.heap[g]? = some (.cells #[.int .i64 F.w, .int .i64 F.p, .int .i64 F.emin, .int .i64 F.emax] t (0, 0))
theorem BxP.new (F : Fm) (w : World) (t : TypeId) : BxP F (w.alloc (.cells #[.int .i64 F.w, .int .i64 F.p, .int .i64 F.emin, .int .i64 F.emax] t)) w.heap.size := ⟨t, heap_alloc_at w _⟩
theorem BxP.below {F : Fm} {w w' : World} {g : Nat} (h : BxP F w g) (hb : Below w.heap.size w w') : BxP F w' g := by
  obtain ⟨t, h⟩ := h; exact ⟨t, (hb.block g (lt_size_of_some h)).trans h⟩
theorem BxP.cells {F : Fm} {w : World} {g : Nat} (h : BxP F w g) : w.cell? ⟨g, 0, none⟩ = some (.int .i64 F.w) ∧ w.cell? ⟨g, 1, none⟩ = some (.int .i64 F.p) ∧ w.cell? ⟨g, 2, none⟩ = some (.int .i64 F.emin) ∧ w.cell? ⟨g, 3, none⟩ = some (.int .i64 F.emax) := by
  obtain ⟨t, h⟩ := h
  unfold World.cell?
  simp only [h]
  exact ⟨rfl, rfl, rfl, rfl⟩

/-- a format's row, as a value -/
def PV (F : Fm) : Value := .agg #[.int .i64 F.w, .int .i64 F.p, .int .i64 F.emin, .int .i64 F.emax]

theorem ones_any (n : Nat) (w : World) (hn : n ≤ 63) : Calls Tryz.prog 53 #[.int .i64 n] w fun e w' => e = .returned (.int .u64 ((2 ^ n - 1 : Nat) : Int)) ∧ w = w' := by
  have h1 : (2 : Nat) ^ n ≤ 2 ^ 63 := Nat.pow_le_pow_right (by decide) hn
  have h0 := pow_pos2 n
  have e0 : (2 : Int) ^ n = ((2 ^ n : Nat) : Int) := by simp
  have e1 : IntKind.u64.wrap ((2 : Int) ^ n) = ((2 ^ n : Nat) : Int) := by rw [e0, IntKind.wrap_u64]; omega
  have e2 : IntKind.u64.wrap (((2 ^ n : Nat) : Int) - 1) = ((2 ^ n - 1 : Nat) : Int) := by rw [IntKind.wrap_u64]; omega
  have E1 := Lib.hid e1
  have E2 := Lib.hid e2
  clear e0 e1 e2
  go_enter Tryz.func53, Tryz.ntmps53
  go_wp2
  rw [E1.out, E2.out]
  go_ret
  exact ⟨rfl, rfl⟩

theorem ones_op (n o : Nat) (w : World) (hn : n ≤ 63) (ho : Hid (o = 2 ^ n - 1)) : Calls Tryz.prog 53 #[.int .i64 n] w fun e w' => e = .returned (.int .u64 (o : Int)) ∧ w = w' := by
  rw [ho.out]; exact ones_any n w hn

set_option maxHeartbeats 400000 in
theorem Params_ok (f : Nat) (w : World) (hf : f < 4) (hG : GlR w) : Calls Tryz.prog 30 #[.int .i64 f] w fun e w' => e = .returned (.tuple #[PV (fm f), .int .i64 0]) ∧ Below w.heap.size w w' := by
  obtain ⟨c0, c1, c2, c3⟩ := hG.1 f hf
  have hgl := hG.2
  have t1 : decide ((4 : Int) ≤ f) = false := by simp; omega
  clear hG
  generalize hF : fm f = F at *
  have HF := Lib.hid hF
  clear hF
  go_enter Tryz.func30, Tryz.ntmps30
  go_wp2
  refine bodyPost_ret (v := .tuple #[PV F, .int .i64 0]) (by simp [results, Tryz.results30, go_sem, PV]) rfl ⟨rfl, (Below.refl _ _).alloc (Nat.le_refl _) _⟩

def PV0 : Value := .agg #[.int .i64 0, .int .i64 0, .int .i64 0, .int .i64 0]

theorem Params_bad (f : Int) (w : World) (hf : f < 0 ∨ 4 ≤ f) : Calls Tryz.prog 30 #[.int .i64 f] w fun e w' => e = .returned (.tuple #[PV0, .int .i64 2]) ∧ Below w.heap.size w w' := by
  by_cases h : f < 0
  · go_enter Tryz.func30, Tryz.ntmps30
    go_wp2
    refine bodyPost_ret (v := .tuple #[PV0, .int .i64 2]) (by simp [results, Tryz.results30, go_sem, PV0]) rfl ⟨rfl, (Below.refl _ _).alloc (Nat.le_refl _) _⟩
  · have h4 : 4 ≤ f := by omega
    have t1 : decide (f < 0) = false := by simpa using h
    clear hf h
    go_enter Tryz.func30, Tryz.ntmps30
    go_wp2
    refine bodyPost_ret (v := .tuple #[PV0, .int .i64 2]) (by simp [results, Tryz.results30, go_sem, PV0]) rfl ⟨rfl, (Below.refl _ _).alloc (Nat.le_refl _) _⟩

theorem shr_zero (a n : Nat) : (((a / 2 ^ n : Nat) : Int) != 0) = decide (2 ^ n ≤ a) := by
  by_cases h : 2 ^ n ≤ a
  · have h1 := Nat.div_pos h (pow_pos2 n)
    rw [decide_eq_true h]
    generalize a / 2 ^ n = q at *
    simp; omega
  · rw [decide_eq_false h, Nat.div_eq_of_lt (by omega)]; rfl

theorem shr_nz (a n : Nat) : ((a : Int) / 2 ^ n != 0) = decide (2 ^ n ≤ a) := by
  have e0 : (2 : Int) ^ n = ((2 ^ n : Nat) : Int) := by simp
  rw [e0]
  by_cases h : 2 ^ n ≤ a
  · have h1 := Nat.div_pos h (pow_pos2 n)
    have : (a : Int) / ((2 ^ n : Nat) : Int) = ((a / 2 ^ n : Nat) : Int) := by simp
    rw [decide_eq_true h, this]
    generalize a / 2 ^ n = q at *
    simp; omega
  · have : (a : Int) / ((2 ^ n : Nat) : Int) = ((a / 2 ^ n : Nat) : Int) := by simp
    rw [decide_eq_false h, this, Nat.div_eq_of_lt (by omega)]; rfl

set_option maxHeartbeats 400000 in
theorem Check_ok (f : Nat) (a : Nat) (w : World) (hf : f < 4) (ha : a < 2 ^ (fm f).w) (hG : GlR w) : Calls Tryz.prog 51 #[.int .i64 f, .int .u64 a] w fun e w' => e = .returned (.int .i64 0) ∧ Below w.heap.size w w' := by
  have hw := (fm_ok f).w64
  go_enter Tryz.func51, Tryz.ntmps51
  go_wp2_with fail
  refine (Params_ok f w hf hG).mono ?_
  rintro _ w1 ⟨rfl, hb⟩
  generalize fm f = F at *
  clear hG
  unfold PV
  have t1 : ((a : Int) / 2 ^ F.w != 0) = false := by rw [shr_nz]; simp; exact ha
  have T1 := Lib.hid t1
  have ha2 : a < 18446744073709551616 := Nat.lt_of_lt_of_le ha (Nat.pow_le_pow_right (show 0 < 2 by decide) hw)
  have HB := Lib.hid hb
  clear t1 ha hb
  by_cases h64 : F.w < 64
  · have t2 := T1.out
    go_wp2
    go_ret
    exact ⟨rfl, HB.out.trans (((Below.refl _ _).alloc (Nat.le_refl _) _).mono HB.out.size)⟩
  · have t2 : decide ((F.w : Int) < 64) = false := by simp; omega
    go_wp2
    go_ret
    exact ⟨rfl, HB.out.trans (((Below.refl _ _).alloc (Nat.le_refl _) _).mono HB.out.size)⟩

set_option maxHeartbeats 400000 in
theorem Check_big (f : Nat) (a : Nat) (w : World) (hf : f < 4) (ha : 2 ^ (fm f).w ≤ a) (ha2 : a < 18446744073709551616) (hG : GlR w) : Calls Tryz.prog 51 #[.int .i64 f, .int .u64 a] w fun e w' => e = .returned (.int .i64 4) ∧ Below w.heap.size w w' := by
  have hw := (fm_ok f).w64
  go_enter Tryz.func51, Tryz.ntmps51
  go_wp2_with fail
  refine (Params_ok f w hf hG).mono ?_
  rintro _ w1 ⟨rfl, hb⟩
  generalize fm f = F at *
  clear hG
  unfold PV
  have t1 : ((a : Int) / 2 ^ F.w != 0) = true := by rw [shr_nz]; simp; exact ha
  have h64 : F.w < 64 := by
    rcases Nat.lt_or_ge F.w 64 with h | h
    · exact h
    · have : F.w = 64 := by omega
      rw [this] at ha; omega
  have HB := Lib.hid hb
  clear ha hb
  go_wp2
  go_ret
  exact ⟨rfl, HB.out.trans (((Below.refl _ _).alloc (Nat.le_refl _) _).mono HB.out.size)⟩

theorem Check_bad (f : Int) (a : Nat) (w : World) (hf : f < 0 ∨ 4 ≤ f) : Calls Tryz.prog 51 #[.int .i64 f, .int .u64 a] w fun e w' => e = .returned (.int .i64 2) ∧ Below w.heap.size w w' := by
  go_enter Tryz.func51, Tryz.ntmps51
  go_wp2_with fail
  refine (Params_bad f w hf).mono ?_
  rintro _ w1 ⟨rfl, hb⟩
  unfold PV0
  have HB := Lib.hid hb
  clear hf hb
  go_wp2
  go_ret
  exact ⟨rfl, HB.out.trans (((Below.refl _ _).alloc (Nat.le_refl _) _).mono HB.out.size)⟩

set_option maxRecDepth 100000 in
set_option maxHeartbeats 400000 in
theorem split_any (F : Fm) (ok : F.Ok) (a : Nat) (w : World) (ha : a < 2 ^ F.w) : Calls Tryz.prog 52 #[PV F, .int .u64 a] w fun e w' => e = .returned (.tuple #[.bool (F.neg a), .int .u64 (F.fx a : Int), .int .u64 (F.fy a : Int)]) ∧ Below w.heap.size w w' := by
  obtain ⟨p8, p53, pw, w64, emx, emn, b16, b1023⟩ := id ok
  clear emx emn
  obtain ⟨n, hn⟩ : ∃ n, n = F.p - 1 := ⟨_, rfl⟩
  obtain ⟨t, ht⟩ : ∃ t, t = F.w - F.p := ⟨_, rfl⟩
  obtain ⟨k, hk⟩ : ∃ k, k = F.w - 1 := ⟨_, rfl⟩
  have e1 : (F.p : Int) - 1 = (n : Int) := by omega
  have ha2 : a < 18446744073709551616 := Nat.lt_of_lt_of_le ha (Nat.pow_le_pow_right (show 0 < 2 by decide) w64)
  have hn63 : n ≤ 63 := by omega
  have ht63 : t ≤ 63 := by omega
  have hk63 : k ≤ 63 := by omega
  have a1 := abs_lt (F := F) a
  have E3 : Hid ((((a / 2 ^ k : Nat) : Int) != 0) = F.neg a) := by show _ = _; rw [shr_zero, hk]; rfl
  have E4 : Hid (a / 2 ^ n % 2 ^ t = F.fx a) := by
    show _ = _
    unfold Fm.fx Fm.abs
    rw [hn, ht, show F.w - 1 = (F.p - 1) + (F.w - F.p) by omega, Nat.pow_add, Nat.mod_mul_right_div_self]
  have E5 : Hid (a % 2 ^ n = F.fy a) := by
    show _ = _
    unfold Fm.fy Fm.abs
    rw [hn, show F.w - 1 = (F.p - 1) + (F.w - F.p) by omega, Nat.pow_add, Nat.mod_mul_right_mod]
  have hq : ((a : Int) / 2 ^ k) = ((a / 2 ^ k : Nat) : Int) := by simp
  have hq2 : ((a : Int) / 2 ^ n) = ((a / 2 ^ n : Nat) : Int) := by simp
  have l2 : a / 2 ^ n < 18446744073709551616 := Nat.lt_of_le_of_lt (Nat.div_le_self _ _) ha2
  have hp2 : ∀ j, j ≤ 63 → 2 ^ j - 1 < 18446744073709551616 := fun j hj => by have : (2 : Nat) ^ j ≤ 2 ^ 63 := Nat.pow_le_pow_right (by decide) hj; omega
  obtain ⟨o1, ho1⟩ : ∃ o, Hid (o = 2 ^ t - 1) := ⟨_, Lib.hid rfl⟩
  obtain ⟨o2, ho2⟩ : ∃ o, Hid (o = 2 ^ n - 1) := ⟨_, Lib.hid rfl⟩
  have hand1 : bits .and .u64 ((a / 2 ^ n : Nat) : Int) (o1 : Int) = ((a / 2 ^ n % 2 ^ t : Nat) : Int) := by
    rw [ho1.out, bits_and_u64_nat _ _ l2 (hp2 t ht63), Nat.and_two_pow_sub_one_eq_mod]
  have hand2 : bits .and .u64 (a : Int) (o2 : Int) = ((a % 2 ^ n : Nat) : Int) := by
    rw [ho2.out, bits_and_u64_nat _ _ ha2 (hp2 n hn63), Nat.and_two_pow_sub_one_eq_mod]
  obtain ⟨r1, hr1⟩ : ∃ r, r = a / 2 ^ n % 2 ^ t := ⟨_, rfl⟩
  obtain ⟨r2, hr2⟩ : ∃ r, r = a % 2 ^ n := ⟨_, rfl⟩
  rw [← hr1] at hand1 E4
  rw [← hr2] at hand2 E5
  have w3 : IntKind.i64.wrap ((F.w : Int) - 1) = (k : Int) := by rw [IntKind.wrap_i64]; omega
  have w2 : IntKind.i64.wrap ((F.w : Int) - F.p) = (t : Int) := by rw [IntKind.wrap_i64]; omega
  unfold PV
  clear hr1 hr2 ha hn ht hk a1 hp2 p8 p53 pw w64 b16 b1023
  generalize a / 2 ^ n = q2 at *
  generalize a / 2 ^ k = q1 at *
  go_enter Tryz.func52, Tryz.ntmps52
  go_wp2
  go_quiet ((go_at_call 53; (first | exact quiet_eq (ones_op t o1 _ ht63 ho1) | exact quiet_eq (ones_op n o2 _ hn63 ho2))))
  clear w2 w3
  go_wp2
  refine bodyPost_ret (v := .tuple #[.bool (((q1 : Nat) : Int) != 0), .int .u64 r1, .int .u64 r2]) (by simp [results, Tryz.results52, go_sem]) rfl ?_
  rw [E3.out, E4.out, E5.out]
  exact ⟨rfl, below_drewN ((Below.refl _ _).alloc (Nat.le_refl _) _) _⟩

end Go.Proofs.YtlibhfojfonfjaaGreatDoor

/- Walks of layer 4: join, Class, Fields. -/
namespace Go.Proofs.YtlibhfojfonfjaaGreatDoor
set_option linter.unusedVariables false
open Go.RowKit

section
variable {F : Fm}
theorem abs_parts (a : Nat) : F.abs a = F.fx a * 2 ^ (F.p - 1) + F.fy a := by
  unfold Fm.fx Fm.fy; rw [Nat.mul_comm]; exact (Nat.div_add_mod _ _).symm
theorem fy_lt (a : Nat) : F.fy a < 2 ^ (F.p - 1) := Nat.mod_lt _ (pow_pos2 _)
theorem fx_lt (ok : F.Ok) (a : Nat) : F.fx a < 2 ^ (F.w - F.p) := by
  unfold Fm.fx
  rw [Nat.div_lt_iff_lt_mul (pow_pos2 _), ← Nat.pow_add, show F.w - F.p + (F.p - 1) = F.w - 1 by have := ok.pw; have := ok.p8; omega]
  exact abs_lt a
theorem inf_parts : F.inf = (2 ^ (F.w - F.p) - 1) * 2 ^ (F.p - 1) := rfl

theorem isNan_iff (ok : F.Ok) (a : Nat) : F.isNan a = (decide (F.fx a = 2 ^ (F.w - F.p) - 1) && !decide (F.fy a = 0)) := by
  have h1 := abs_parts (F := F) a
  have h2 := fy_lt (F := F) a
  have h3 := fx_lt ok a
  unfold Fm.isNan
  rw [h1, inf_parts]
  by_cases h : F.fx a = 2 ^ (F.w - F.p) - 1
  · rw [h]
    by_cases h0 : F.fy a = 0
    · simp [h0]
    · simp [h0]; omega
  · have : F.fx a + 1 ≤ 2 ^ (F.w - F.p) - 1 := by omega
    have := Nat.mul_le_mul_right (2 ^ (F.p - 1)) this
    rw [Nat.add_mul] at this
    simp [h]; omega
theorem isInf_iff (ok : F.Ok) (a : Nat) : F.isInf a = (decide (F.fx a = 2 ^ (F.w - F.p) - 1) && decide (F.fy a = 0)) := by
  have h1 := abs_parts (F := F) a
  have h2 := fy_lt (F := F) a
  have h3 := fx_lt ok a
  unfold Fm.isInf
  rw [h1, inf_parts]
  by_cases h : F.fx a = 2 ^ (F.w - F.p) - 1
  · rw [h]; simp
  · have : F.fx a + 1 ≤ 2 ^ (F.w - F.p) - 1 := by omega
    have := Nat.mul_le_mul_right (2 ^ (F.p - 1)) this
    rw [Nat.add_mul] at this
    simp [h]; omega
theorem isSig_iff (ok : F.Ok) (a : Nat) : F.isSig a = (F.isNan a && !decide (2 ^ (F.p - 2) ≤ F.fy a)) := by
  have h1 := abs_parts (F := F) a
  unfold Fm.isSig
  rw [isNan_iff ok]
  by_cases h : F.fx a = 2 ^ (F.w - F.p) - 1
  · rw [h1, inf_parts, h]
    congr 1
    by_cases h0 : 2 ^ (F.p - 2) ≤ F.fy a
    · simp [h0]
    · simp [h0]; omega
  · simp [h]
theorem isZero_iff (a : Nat) : F.isZero a = (decide (F.fx a = 0) && decide (F.fy a = 0)) := by
  have h1 := abs_parts (F := F) a
  have := pow_pos2 (F.p - 1)
  unfold Fm.isZero
  rw [h1]
  by_cases h : F.fx a = 0
  · rw [h]; simp
  · have := Nat.mul_pos (Nat.pos_of_ne_zero h) this
    simp [h]; omega
end

/-- the class of bits -/
def clsF (F : Fm) (a : Nat) : Int :=
  if F.fx a = 2 ^ (F.w - F.p) - 1 then (if F.fy a = 0 then (if F.neg a then 2 else 9) else if 2 ^ (F.p - 2) ≤ F.fy a then 1 else 0)
  else if F.fx a = 0 then (if F.fy a = 0 then (if F.neg a then 5 else 6) else (if F.neg a then 4 else 7)) else (if F.neg a then 3 else 8)

theorem or_add (x y n : Nat) (h : y < 2 ^ n) : x * 2 ^ n ||| y = x * 2 ^ n + y := by
  rw [Nat.mul_comm]; exact (Nat.two_pow_add_eq_or_of_lt h x).symm

set_option maxHeartbeats 400000 in
theorem join_any (F : Fm) (ok : F.Ok) (s : Bool) (x y : Nat) (w : World) (hx : x < 2 ^ (F.w - F.p)) (hy : y < 2 ^ (F.p - 1)) : Calls Tryz.prog 92 #[PV F, .bool s, .int .u64 x, .int .u64 y] w fun e w' => e = .returned (.int .u64 ((x * 2 ^ (F.p - 1) + y + F.sg s : Nat) : Int)) ∧ Below w.heap.size w w' := by
  obtain ⟨p8, p53, pw, w64, emx, emn, b16, b1023⟩ := id ok
  clear emx emn
  obtain ⟨n, hn⟩ : ∃ n, n = F.p - 1 := ⟨_, rfl⟩
  obtain ⟨k, hk⟩ : ∃ k, k = F.w - 1 := ⟨_, rfl⟩
  have e1 : (F.p : Int) - 1 = (n : Int) := by omega
  have e2 : (F.w : Int) - 1 = (k : Int) := by omega
  have hn63 : n ≤ 63 := by omega
  have hk63 : k ≤ 63 := by omega
  have hk1 : 1 ≤ k := by omega
  have hs : x * 2 ^ n + y < 2 ^ k := by
    have := Nat.mul_le_mul_right (2 ^ (F.p - 1)) (show x + 1 ≤ 2 ^ (F.w - F.p) from hx)
    rw [Nat.add_mul, Nat.one_mul, ← Nat.pow_add, show F.w - F.p + (F.p - 1) = k by omega] at this
    rw [hn]; omega
  have hK : 2 ^ k ≤ 2 ^ 63 := Nat.pow_le_pow_right (by decide) hk63
  have hx64 : x < 18446744073709551616 := Nat.lt_of_lt_of_le hx (Nat.le_trans (Nat.pow_le_pow_right (show 0 < 2 by decide) (show F.w - F.p ≤ 63 by omega)) (by decide))
  have hy64 : y < 18446744073709551616 := by rw [← hn] at hy; have : (2 : Nat) ^ n ≤ 2 ^ 63 := Nat.pow_le_pow_right (by decide) hn63; omega
  obtain ⟨s1, hs1⟩ : ∃ s1, s1 = x * 2 ^ n := ⟨_, rfl⟩
  obtain ⟨s2, hs2⟩ : ∃ s2, s2 = x * 2 ^ n + y := ⟨_, rfl⟩
  obtain ⟨s3, hs3⟩ : ∃ s3, s3 = 2 ^ k := ⟨_, rfl⟩
  obtain ⟨s4, hs4⟩ : ∃ s4, s4 = s2 + s3 := ⟨_, rfl⟩
  have h1 : IntKind.u64.wrap ((x : Int) * 2 ^ n) = (s1 : Int) := by rw [wrap_shl_nat, hs1, Nat.mod_eq_of_lt (by omega)]
  have h2 : bits .or .u64 (s1 : Int) (y : Int) = (s2 : Int) := by rw [or_nat _ _ (by omega) hy64, hs1, hs2, or_add _ _ _ (by rw [hn]; exact hy)]
  have h3 : IntKind.u64.wrap ((2 : Int) ^ k) = (s3 : Int) := by
    have e0 : (2 : Int) ^ k = ((2 ^ k : Nat) : Int) := by simp
    rw [e0, hs3, IntKind.wrap_u64]; omega
  have h4 : bits .or .u64 (s2 : Int) (s3 : Int) = (s4 : Int) := by
    rw [or_nat _ _ (by omega) (by omega), hs4, hs3, Nat.or_comm]
    have := or_add 1 s2 k (by omega)
    rw [Nat.one_mul] at this
    rw [this]; omega
  obtain ⟨R, hR⟩ : ∃ R, R = x * 2 ^ (F.p - 1) + y + F.sg s := ⟨_, rfl⟩
  rw [← hR]
  have E : Hid (R = if s then s4 else s2) := by
    show _ = _
    rw [hR]
    unfold Fm.sg
    rw [← hn, ← hk, hs4, hs2, hs3]; cases s <;> simp
  unfold PV
  clear hR hs1 hs2 hs3 hs4 hn hk hs hK hx hy p8 p53 pw w64 b16 b1023
  cases s
  · go_enter Tryz.func92, Tryz.ntmps92
    go_wp2
    go_ret
    exact ⟨by rw [E.out]; rfl, (Below.refl _ _).alloc (Nat.le_refl _) _⟩
  · go_enter Tryz.func92, Tryz.ntmps92
    go_wp2
    go_ret
    exact ⟨by rw [E.out]; rfl, (Below.refl _ _).alloc (Nat.le_refl _) _⟩

set_option maxRecDepth 100000 in
set_option maxHeartbeats 2000000 in
theorem Class_ok (f a : Nat) (w : World) (hf : f < 4) (ha : a < 2 ^ (fm f).w) (hG : GlR w) : Calls Tryz.prog 69 #[.int .i64 f, .int .u64 a] w fun e w' => e = .returned (.tuple #[.int .i64 (clsF (fm f) a), .int .i64 0]) ∧ Below w.heap.size w w' := by
  have ok := fm_ok f
  obtain ⟨p8, p53, pw, w64, emx, emn, b16, b1023⟩ := id ok
  clear emx emn
  obtain ⟨c, hc⟩ : ∃ c, c = clsF (fm f) a := ⟨_, rfl⟩
  rw [← hc]
  unfold clsF at hc
  have HG := Lib.hid hG
  clear hG
  go_enter Tryz.func69, Tryz.ntmps69
  go_wp2_with fail
  refine (Check_ok f a w hf ha HG.out).mono ?_
  rintro _ w1 ⟨rfl, hb1⟩
  have hG1 := HG.out.below hb1
  obtain ⟨c0, c1, c2, c3⟩ := hG1.1 f hf
  have hgl := hG1.2
  have HB := Lib.hid hb1
  clear hG1 hb1 HG
  generalize hF : fm f = F at *
  have HF := Lib.hid hF
  clear hF
  have bx := BxP.new F w1 65
  go_wp2_with fail
  refine (split_any F ok a _ ha).mono ?_
  rintro _ w2 ⟨rfl, hb2⟩
  obtain ⟨q0, q1, -, -⟩ := (bx.below hb2).cells
  replace HB := Lib.hid (keep_belowB (HB.out.trans ((below1 w1 (.cells #[.int .i64 F.w, .int .i64 F.p, .int .i64 F.emin, .int .i64 F.emax] 65)).mono HB.out.size)) hb2 (Nat.le_refl _))
  obtain ⟨t, ht⟩ : ∃ t, t = F.w - F.p := ⟨_, rfl⟩
  obtain ⟨j, hj⟩ : ∃ j, j = F.p - 2 := ⟨_, rfl⟩
  rw [← ht, ← hj] at hc
  have e2 : (F.w : Int) - F.p = (t : Int) := by omega
  have e3 : (F.p : Int) - 2 = (j : Int) := by omega
  have ht63 : t ≤ 63 := by omega
  have hj63 : j ≤ 63 := by omega
  have hyl : F.fy a < 18446744073709551616 := Nat.lt_of_lt_of_le (fy_lt a) (Nat.le_trans (Nat.pow_le_pow_right (show 0 < 2 by decide) (show F.p - 1 ≤ 64 by omega)) (by decide))
  obtain ⟨o1, ho1⟩ : ∃ o, Hid (o = 2 ^ t - 1) := ⟨_, Lib.hid rfl⟩
  rw [← ho1.out] at hc
  clear bx hb2 ha c0 c1 c2 c3 hgl hj ht p8 p53 pw w64 b16 b1023 ok
  generalize F.fx a = x at *
  generalize F.fy a = y at *
  generalize F.neg a = s at *
  have Hc := Lib.hid hc
  clear hc
  by_cases b1 : x = o1
  · have t1 : ((x : Int) == o1) = true := by simp [b1]
    by_cases b2 : y = 0
    · have t2 : ((y : Int) == 0) = true := by simp [b2]
      have E : Hid (c = if s then 2 else 9) := by show c = _; rw [Hc.out, if_pos b1, if_pos b2]
      clear Hc b1 b2
      cases s
      all_goals
        go_wp2_with (go_at_call 53; refine (ones_op t o1 _ ht63 ho1).mono ?_; rintro _ _ ⟨rfl, rfl⟩)
        go_ret2
        exact ⟨by rw [E.out]; rfl, HB.out⟩
    · have t2 : ((y : Int) == 0) = false := by simp [b2]
      by_cases b3 : 2 ^ j ≤ y
      · have t3 : ((y : Int) / 2 ^ j != 0) = true := by rw [shr_nz]; simp [b3]
        have E : Hid (c = 1) := by show c = _; rw [Hc.out, if_pos b1, if_neg b2, if_pos b3]
        clear Hc b1 b2 b3
        go_wp2_with (go_at_call 53; refine (ones_op t o1 _ ht63 ho1).mono ?_; rintro _ _ ⟨rfl, rfl⟩)
        go_ret2
        exact ⟨by rw [E.out]; rfl, HB.out⟩
      · have t3 : ((y : Int) / 2 ^ j != 0) = false := by rw [shr_nz]; simp [b3]
        have E : Hid (c = 0) := by show c = _; rw [Hc.out, if_pos b1, if_neg b2, if_neg b3]
        clear Hc b1 b2 b3
        go_wp2_with (go_at_call 53; refine (ones_op t o1 _ ht63 ho1).mono ?_; rintro _ _ ⟨rfl, rfl⟩)
        go_ret2
        exact ⟨by rw [E.out]; rfl, HB.out⟩
  · have t1 : ((x : Int) == o1) = false := by rw [beq_eq_false_iff_ne]; omega
    by_cases b4 : x = 0
    · have t4 : ((x : Int) == 0) = true := by simp [b4]
      by_cases b2 : y = 0
      · have t2 : ((y : Int) == 0) = true := by simp [b2]
        have E : Hid (c = if s then 5 else 6) := by show c = _; rw [Hc.out, if_neg b1, if_pos b4, if_pos b2]
        clear Hc b1 b2 b4
        cases s
        all_goals
          go_wp2_with (go_at_call 53; refine (ones_op t o1 _ ht63 ho1).mono ?_; rintro _ _ ⟨rfl, rfl⟩)
          go_ret2
          exact ⟨by rw [E.out]; rfl, HB.out⟩
      · have t2 : ((y : Int) == 0) = false := by simp [b2]
        have E : Hid (c = if s then 4 else 7) := by show c = _; rw [Hc.out, if_neg b1, if_pos b4, if_neg b2]
        clear Hc b1 b2 b4
        cases s
        all_goals
          go_wp2_with (go_at_call 53; refine (ones_op t o1 _ ht63 ho1).mono ?_; rintro _ _ ⟨rfl, rfl⟩)
          go_ret2
          exact ⟨by rw [E.out]; rfl, HB.out⟩
    · have t4 : ((x : Int) == 0) = false := by simp [b4]
      have E : Hid (c = if s then 3 else 8) := by show c = _; rw [Hc.out, if_neg b1, if_neg b4]
      clear Hc b1 b4
      cases s
      all_goals
        go_wp2_with (go_at_call 53; refine (ones_op t o1 _ ht63 ho1).mono ?_; rintro _ _ ⟨rfl, rfl⟩)
        go_ret2
        exact ⟨by rw [E.out]; rfl, HB.out⟩

end Go.Proofs.YtlibhfojfonfjaaGreatDoor

/- Walks of layer 4: Fields, sign, Neg, Abs, Pack. -/
namespace Go.Proofs.YtlibhfojfonfjaaGreatDoor
set_option linter.unusedVariables false
open Go.RowKit

set_option maxHeartbeats 1000000 in
theorem Fields_ok (f a : Nat) (w : World) (hf : f < 4) (ha : a < 2 ^ (fm f).w) (hG : GlR w) : Calls Tryz.prog 70 #[.int .i64 f, .int .u64 a] w fun e w' => e = .returned (.tuple #[.bool ((fm f).neg a), .int .u64 ((fm f).fx a : Int), .int .u64 ((fm f).fy a : Int), .int .i64 0]) ∧ Below w.heap.size w w' := by
  have ok := fm_ok f
  have HG := Lib.hid hG
  clear hG
  obtain ⟨s, hs⟩ : ∃ s, s = (fm f).neg a := ⟨_, rfl⟩
  obtain ⟨x, hx⟩ : ∃ x, x = (fm f).fx a := ⟨_, rfl⟩
  obtain ⟨y, hy⟩ : ∃ y, y = (fm f).fy a := ⟨_, rfl⟩
  rw [← hs, ← hx, ← hy]
  have Hs := Lib.hid hs
  have Hx := Lib.hid hx
  have Hy := Lib.hid hy
  clear hs hx hy
  go_enter Tryz.func70, Tryz.ntmps70
  go_wp2_with fail
  refine (Check_ok f a w hf ha HG.out).mono ?_
  rintro _ w1 ⟨rfl, hb1⟩
  have hG1 := HG.out.below hb1
  obtain ⟨c0, c1, c2, c3⟩ := hG1.1 f hf
  have hgl := hG1.2
  have HB := Lib.hid hb1
  clear hG1 hb1 HG
  generalize fm f = F at *
  go_wp2_with fail
  refine (split_any F ok a _ ha).mono ?_
  rintro _ w2 ⟨rfl, hb2⟩
  replace HB := Lib.hid (HB.out.trans (hb2.mono HB.out.size))
  clear hb2 ha c0 c1 c2 c3 hgl ok
  rw [← Hs.out, ← Hx.out, ← Hy.out]
  clear Hs Hx Hy
  go_wp2
  refine bodyPost_ret (v := .tuple #[.bool s, .int .u64 x, .int .u64 y, .int .i64 0]) (by simp [results, Tryz.results70, go_sem]) rfl ?_
  exact ⟨rfl, HB.out⟩

theorem sign_ok (f : Nat) (w : World) (hf : f < 4) (hG : GlR w) : Calls Tryz.prog 79 #[.int .i64 f] w fun e w' => e = .returned (.int .u64 ((2 ^ ((fm f).w - 1) : Nat) : Int)) ∧ w = w' := by
  have ok := fm_ok f
  obtain ⟨c0, c1, c2, c3⟩ := hG.1 f hf
  have hgl := hG.2
  have hw := ok.w64
  have hpw := ok.pw
  clear hG ok
  generalize fm f = F at *
  obtain ⟨k, hk⟩ : ∃ k, k = F.w - 1 := ⟨_, rfl⟩
  have e2 : (F.w : Int) - 1 = (k : Int) := by omega
  have hk63 : k ≤ 63 := by omega
  rw [← hk]
  obtain ⟨s3, hs3⟩ : ∃ s3, s3 = 2 ^ k := ⟨_, rfl⟩
  have hK : 2 ^ k ≤ 2 ^ 63 := Nat.pow_le_pow_right (by decide) hk63
  have h3 : IntKind.u64.wrap ((2 : Int) ^ k) = (s3 : Int) := by
    have e0 : (2 : Int) ^ k = ((2 ^ k : Nat) : Int) := by simp
    rw [e0, hs3, IntKind.wrap_u64]; omega
  rw [← hs3]
  clear hs3 hK hk
  go_enter Tryz.func79, Tryz.ntmps79
  go_wp2
  go_ret
  exact ⟨rfl, rfl⟩

theorem xor_flip (F : Fm) (ok : F.Ok) {a : Nat} (ha : a < 2 ^ F.w) : a ^^^ 2 ^ (F.w - 1) = F.flip a := by
  have hw := w_two ok
  have hl := abs_lt (F := F) a
  have hp := parts_mk ok ha
  obtain ⟨k, hk⟩ : ∃ k, k = F.w - 1 := ⟨_, rfl⟩
  unfold Fm.flip
  conv => lhs; rw [hp]
  rw [← hk] at hl
  unfold Fm.sg
  rw [← hk]
  generalize F.abs a = x at *
  have hx : x.testBit k = false := Nat.testBit_lt_two_pow hl
  have key : x + 2 ^ k = x ^^^ 2 ^ k := by
    have h1 := Nat.two_pow_add_eq_or_of_lt hl 1
    rw [Nat.mul_one] at h1
    rw [Nat.add_comm, h1]
    apply Nat.eq_of_testBit_eq
    intro i
    rw [Nat.testBit_or, Nat.testBit_xor, Nat.testBit_two_pow]
    by_cases hik : k = i
    · subst hik; simp [hx]
    · simp [hik]
  cases F.neg a
  · simp [key]
  · simp [key, Nat.xor_assoc]

theorem andNot_abs (F : Fm) (ok : F.Ok) {a : Nat} (ha : a < 2 ^ F.w) : a &&& (18446744073709551615 - 2 ^ (F.w - 1)) = F.abs a := by
  have h64 := ok.w64
  have hpw := ok.pw
  obtain ⟨k, hk⟩ : ∃ k, k = F.w - 1 := ⟨_, rfl⟩
  have hlt : 2 ^ k < 2 ^ 64 := Nat.pow_lt_pow_right (by decide) (by omega)
  rw [show F.w = k + 1 by omega] at ha
  unfold Fm.abs
  rw [← hk]
  rw [show 18446744073709551615 - 2 ^ k = 2 ^ 64 - (2 ^ k + 1) by omega]
  apply Nat.eq_of_testBit_eq
  intro i
  rw [Nat.testBit_and, Nat.testBit_two_pow_sub_succ hlt, Nat.testBit_two_pow, Nat.testBit_mod_two_pow]
  rcases Nat.lt_or_ge i k with h | h
  · have a1 : i < 64 := by omega
    have a2 : ¬ k = i := by omega
    simp [h, a1, a2]
  · rcases Nat.lt_or_ge k i with h2 | h2
    · have : a.testBit i = false := Nat.testBit_lt_two_pow (Nat.lt_of_lt_of_le ha (Nat.pow_le_pow_right (by decide) h2))
      simp [this]
    · obtain rfl : k = i := by omega
      simp

theorem flip_u64 (F : Fm) (ok : F.Ok) {a : Nat} (ha : a < 2 ^ F.w) : F.flip a < 18446744073709551616 ∧ a < 18446744073709551616 ∧ 2 ^ (F.w - 1) < 18446744073709551616 := by
  have h1 : (2 : Nat) ^ F.w ≤ 2 ^ 64 := Nat.pow_le_pow_right (by decide) ok.w64
  have h2 := flip_lt ok a
  have h3 := w_two ok
  have := pow_pos2 (F.w - 1)
  omega

set_option maxHeartbeats 1000000 in
theorem FNeg_ok (f a : Nat) (w : World) (hf : f < 4) (ha : a < 2 ^ (fm f).w) (hG : GlR w) : Calls Tryz.prog 41 #[.int .i64 f, .int .u64 a] w fun e w' => e = .returned (.tuple #[.int .u64 ((fm f).flip a : Int), .int .i64 0]) ∧ Below w.heap.size w w' := by
  have ok := fm_ok f
  obtain ⟨h1, h2, h3⟩ := flip_u64 (fm f) ok ha
  have hx := bits_xor_u64_nat a (2 ^ ((fm f).w - 1)) h2 h3
  rw [xor_flip (fm f) ok ha] at hx
  obtain ⟨r, hr⟩ : ∃ r, r = (fm f).flip a := ⟨_, rfl⟩
  obtain ⟨s, hs⟩ : ∃ s, Hid (s = 2 ^ ((fm f).w - 1)) := ⟨_, Lib.hid rfl⟩
  rw [← hr, ← hs.out] at hx
  rw [← hr]
  have HG := Lib.hid hG
  clear hG hr h1 h2 h3
  go_enter Tryz.func41, Tryz.ntmps41
  go_wp2_with fail
  refine (Check_ok f a w hf ha HG.out).mono ?_
  rintro _ w1 ⟨rfl, hb1⟩
  have hG1 := HG.out.below hb1
  have HB := Lib.hid hb1
  clear hb1 HG
  go_wp2_with fail
  refine (sign_ok f w1 hf hG1).mono ?_
  rintro _ w2 ⟨rfl, rfl⟩
  rw [← hs.out]
  clear hG1 ha
  go_wp2
  go_ret2
  exact ⟨rfl, HB.out⟩

end Go.Proofs.YtlibhfojfonfjaaGreatDoor

/- Walks of layer 4: the special numbers. -/
namespace Go.Proofs.YtlibhfojfonfjaaGreatDoor
set_option linter.unusedVariables false
open Go.RowKit

theorem none_any (F : Fm) (w : World) : Calls Tryz.prog 72 #[PV F] w fun e w' => e = .returned (.int .u64 ((0 : Nat) : Int)) ∧ Below w.heap.size w w' := by
  unfold PV
  go_enter Tryz.func72, Tryz.ntmps72
  go_wp2
  go_ret
  exact ⟨rfl, (Below.refl _ _).alloc (Nat.le_refl _) _⟩

theorem one_any (F : Fm) (w : World) : Calls Tryz.prog 116 #[PV F] w fun e w' => e = .returned (.int .u64 ((1 : Nat) : Int)) ∧ Below w.heap.size w w' := by
  unfold PV
  go_enter Tryz.func116, Tryz.ntmps116
  go_wp2
  go_ret
  exact ⟨rfl, (Below.refl _ _).alloc (Nat.le_refl _) _⟩

theorem all_any (F : Fm) (ok : F.Ok) (w : World) : Calls Tryz.prog 74 #[PV F] w fun e w' => e = .returned (.int .u64 ((2 ^ (F.w - F.p) - 1 : Nat) : Int)) ∧ Below w.heap.size w w' := by
  obtain ⟨p8, p53, pw, w64, emx, emn, b16, b1023⟩ := id ok
  clear emx emn
  unfold PV
  obtain ⟨t, ht⟩ : ∃ t, t = F.w - F.p := ⟨_, rfl⟩
  rw [← ht]
  have e2 : (F.w : Int) - F.p = (t : Int) := by omega
  have ht63 : t ≤ 63 := by omega
  obtain ⟨o1, ho1⟩ : ∃ o, Hid (o = 2 ^ t - 1) := ⟨_, Lib.hid rfl⟩
  rw [← ho1.out]
  clear ht
  go_enter Tryz.func74, Tryz.ntmps74
  go_wp2_with fail
  refine (ones_op t o1 _ ht63 ho1).mono ?_
  rintro _ _ ⟨rfl, rfl⟩
  go_wp2
  go_ret
  exact ⟨rfl, (Below.refl _ _).alloc (Nat.le_refl _) _⟩

theorem top_any (F : Fm) (ok : F.Ok) (w : World) : Calls Tryz.prog 73 #[PV F] w fun e w' => e = .returned (.int .u64 ((2 ^ (F.p - 2) : Nat) : Int)) ∧ Below w.heap.size w w' := by
  obtain ⟨p8, p53, pw, w64, emx, emn, b16, b1023⟩ := id ok
  clear emx emn
  unfold PV
  obtain ⟨k, hk⟩ : ∃ k, k = F.p - 2 := ⟨_, rfl⟩
  rw [← hk]
  have e2 : (F.p : Int) - 2 = (k : Int) := by omega
  have hk63 : k ≤ 63 := by omega
  obtain ⟨s3, hs3⟩ : ∃ s3, s3 = 2 ^ k := ⟨_, rfl⟩
  have hK : 2 ^ k ≤ 2 ^ 63 := Nat.pow_le_pow_right (by decide) hk63
  have h3 : IntKind.u64.wrap ((2 : Int) ^ k) = (s3 : Int) := by
    have e0 : (2 : Int) ^ k = ((2 ^ k : Nat) : Int) := by simp
    rw [e0, hs3, IntKind.wrap_u64]; omega
  rw [← hs3]
  clear hs3 hK hk
  go_enter Tryz.func73, Tryz.ntmps73
  go_wp2
  go_ret
  exact ⟨rfl, (Below.refl _ _).alloc (Nat.le_refl _) _⟩

theorem fraction_any (F : Fm) (ok : F.Ok) (w : World) : Calls Tryz.prog 117 #[PV F] w fun e w' => e = .returned (.int .u64 ((2 ^ (F.p - 1) - 1 : Nat) : Int)) ∧ Below w.heap.size w w' := by
  obtain ⟨p8, p53, pw, w64, emx, emn, b16, b1023⟩ := id ok
  clear emx emn
  unfold PV
  obtain ⟨t, ht⟩ : ∃ t, t = F.p - 1 := ⟨_, rfl⟩
  rw [← ht]
  have e2 : (F.p : Int) - 1 = (t : Int) := by omega
  have ht63 : t ≤ 63 := by omega
  obtain ⟨o1, ho1⟩ : ∃ o, Hid (o = 2 ^ t - 1) := ⟨_, Lib.hid rfl⟩
  rw [← ho1.out]
  clear ht
  go_enter Tryz.func117, Tryz.ntmps117
  go_wp2_with fail
  refine (ones_op t o1 _ ht63 ho1).mono ?_
  rintro _ _ ⟨rfl, rfl⟩
  go_wp2
  go_ret
  exact ⟨rfl, (Below.refl _ _).alloc (Nat.le_refl _) _⟩

theorem ones_below (n o : Nat) (w : World) (hn : n ≤ 63) (ho : Hid (o = 2 ^ n - 1)) : Calls Tryz.prog 53 #[.int .i64 n] w fun e w' => e = .returned (.int .u64 (o : Int)) ∧ Below w.heap.size w w' :=
  (ones_op n o w hn ho).mono fun e w' ⟨he, hw⟩ => ⟨he, by subst hw; exact Below.refl _ _⟩

set_option maxRecDepth 100000 in
set_option maxHeartbeats 2000000 in
/-- special, with its two functions -/
theorem special_nan (f : Nat) (s : Bool) (w : World) (hf : f < 4) (hG : GlR w) (l y : Nat) (hl : Hid (∀ w, Calls Tryz.prog 72 #[PV (fm f)] w fun e w' => e = .returned (.int .u64 (l : Int)) ∧ Below w.heap.size w w'))
    (hy : Hid (∀ w, Calls Tryz.prog 73 #[PV (fm f)] w fun e w' => e = .returned (.int .u64 (y : Int)) ∧ Below w.heap.size w w'))
    (hl1 : l ≤ 2 ^ ((fm f).w - (fm f).p) - 1) (hy1 : y < 2 ^ ((fm f).p - 1)) :
    Calls Tryz.prog 71 #[.int .i64 f, .bool s, .func (.func 72) #[] #[], .func (.func 73) #[] #[]] w fun e w' => e = .returned (.tuple #[.int .u64 (((2 ^ ((fm f).w - (fm f).p) - 1 - l) * 2 ^ ((fm f).p - 1) + y + (fm f).sg s : Nat) : Int), .int .i64 0]) ∧ Below w.heap.size w w' := by
  have ok := fm_ok f
  obtain ⟨R, hR⟩ : ∃ R, R = (2 ^ ((fm f).w - (fm f).p) - 1 - l) * 2 ^ ((fm f).p - 1) + y + (fm f).sg s := ⟨_, rfl⟩
  rw [← hR]
  go_enter Tryz.func71, Tryz.ntmps71
  go_wp2_with fail
  refine (Params_ok f w hf hG).mono ?_
  rintro _ w1 ⟨rfl, hb1⟩
  generalize fm f = F at *
  obtain ⟨p8, p53, pw, w64, emx, emn, b16, b1023⟩ := id ok
  clear emx emn
  obtain ⟨t, ht⟩ : ∃ t, t = F.w - F.p := ⟨_, rfl⟩
  have w2 : IntKind.i64.wrap ((F.w : Int) - F.p) = (t : Int) := by rw [IntKind.wrap_i64]; omega
  have ht63 : t ≤ 63 := by omega
  obtain ⟨o1, ho1⟩ : ∃ o, Hid (o = 2 ^ t - 1) := ⟨_, Lib.hid rfl⟩
  obtain ⟨x, hx⟩ : ∃ x, x = o1 - l := ⟨_, rfl⟩
  rw [← ht, ← ho1.out] at hl1
  have hx1 : x < 2 ^ (F.w - F.p) := by rw [hx, ← ht, ho1.out]; have := pow_pos2 t; omega
  have ho64 : o1 < 18446744073709551616 := by rw [ho1.out]; have : (2 : Nat) ^ t ≤ 2 ^ 63 := Nat.pow_le_pow_right (by decide) ht63; omega
  have h3 : IntKind.u64.wrap ((o1 : Int) - (l : Int)) = (x : Int) := by rw [IntKind.wrap_u64]; omega
  have hjoin := fun wx => join_any F ok s x y wx hx1 hy1
  rw [show x * 2 ^ (F.p - 1) + y + F.sg s = R by rw [hR, hx, ho1.out, ht]] at hjoin
  have Hj := Lib.hid hjoin
  clear hjoin hR hx hl1 hx1 hy1 ho64 ht p8 p53 pw w64 b16 b1023 hG ok
  obtain ⟨W, hW⟩ : ∃ W, W = w1.alloc (Obj.cells #[.int .i64 F.w, .int .i64 F.p, .int .i64 F.emin, .int .i64 F.emax] 65) := ⟨_, rfl⟩
  have HB : Hid (Below w.heap.size w W) := by show Below _ _ _; rw [hW]; exact hb1.trans ((below1 _ _).mono hb1.size)
  have bx : BxP F W w1.heap.size := by rw [hW]; exact BxP.new ..
  obtain ⟨k0, k1, k2, k3⟩ := bx.cells
  clear bx hb1
  unfold PV
  go_upto_region 4 with (fail)
  rw [← hW]
  clear hW
  go_region_held3 (fun w' => w'.cell? ⟨w1.heap.size, 0, none⟩ = some (.int .i64 F.w) ∧ w'.cell? ⟨w1.heap.size, 1, none⟩ = some (.int .i64 F.p) ∧ w'.cell? ⟨w1.heap.size, 2, none⟩ = some (.int .i64 F.emin) ∧ w'.cell? ⟨w1.heap.size, 3, none⟩ = some (.int .i64 F.emax) ∧ Below W.heap.size W w')
    (first | exact ⟨k0, k1, k2, k3, (Below.refl _ _).drew⟩ | exact ⟨keep_cell hb1 k0, keep_cell hb1 k1, keep_cell hb1 k2, keep_cell hb1 k3, keep_below (Below.refl _ _).drew hb1⟩ | ((try go_split_ands); (try dsimp only); refine ⟨keep_cell hb4 ?_, keep_cell hb4 ?_, keep_cell hb4 ?_, keep_cell hb4 ?_, keep_below ?_ hb4⟩ <;> assumption) | ((try go_split_ands); (try dsimp only); refine ⟨keep_cell hb3 ?_, keep_cell hb3 ?_, keep_cell hb3 ?_, keep_cell hb3 ?_, keep_below ?_ hb3⟩ <;> assumption) | ((try go_split_ands); (try dsimp only); refine ⟨keep_cell hb2 ?_, keep_cell hb2 ?_, keep_cell hb2 ?_, keep_cell hb2 ?_, keep_below ?_ hb2⟩ <;> assumption))
    ((first | (go_at_call 53; refine (ones_below t o1 _ ht63 ho1).mono ?_; rintro _ w1 ⟨rfl, hb1⟩) | (go_at_call 72; refine (hl.out _).mono ?_; rintro _ w2 ⟨rfl, hb2⟩) | (go_at_call 73; refine (hy.out _).mono ?_; rintro _ w3 ⟨rfl, hb3⟩) | (go_at_call 92; refine (Hj.out _).mono ?_; rintro _ w4 ⟨rfl, hb4⟩)))
  replace HB := Lib.hid (HB.out.drew.trans (hb1.mono HB.out.drew.size))
  replace HB := Lib.hid (HB.out.trans (hb2.mono HB.out.size))
  replace HB := Lib.hid (HB.out.trans (hb3.mono HB.out.size))
  replace HB := Lib.hid (HB.out.trans (hb4.mono HB.out.size))
  clear hb1 hb2 hb3 hb4 h3 w2
  go_wp2
  go_ret2
  exact ⟨rfl, HB.out⟩

set_option maxRecDepth 100000 in
set_option maxHeartbeats 2000000 in
/-- special, with its two functions -/
theorem special_inf (f : Nat) (s : Bool) (w : World) (hf : f < 4) (hG : GlR w) (l y : Nat) (hl : Hid (∀ w, Calls Tryz.prog 72 #[PV (fm f)] w fun e w' => e = .returned (.int .u64 (l : Int)) ∧ Below w.heap.size w w'))
    (hy : Hid (∀ w, Calls Tryz.prog 72 #[PV (fm f)] w fun e w' => e = .returned (.int .u64 (y : Int)) ∧ Below w.heap.size w w'))
    (hl1 : l ≤ 2 ^ ((fm f).w - (fm f).p) - 1) (hy1 : y < 2 ^ ((fm f).p - 1)) :
    Calls Tryz.prog 71 #[.int .i64 f, .bool s, .func (.func 72) #[] #[], .func (.func 72) #[] #[]] w fun e w' => e = .returned (.tuple #[.int .u64 (((2 ^ ((fm f).w - (fm f).p) - 1 - l) * 2 ^ ((fm f).p - 1) + y + (fm f).sg s : Nat) : Int), .int .i64 0]) ∧ Below w.heap.size w w' := by
  have ok := fm_ok f
  obtain ⟨R, hR⟩ : ∃ R, R = (2 ^ ((fm f).w - (fm f).p) - 1 - l) * 2 ^ ((fm f).p - 1) + y + (fm f).sg s := ⟨_, rfl⟩
  rw [← hR]
  go_enter Tryz.func71, Tryz.ntmps71
  go_wp2_with fail
  refine (Params_ok f w hf hG).mono ?_
  rintro _ w1 ⟨rfl, hb1⟩
  generalize fm f = F at *
  obtain ⟨p8, p53, pw, w64, emx, emn, b16, b1023⟩ := id ok
  clear emx emn
  obtain ⟨t, ht⟩ : ∃ t, t = F.w - F.p := ⟨_, rfl⟩
  have w2 : IntKind.i64.wrap ((F.w : Int) - F.p) = (t : Int) := by rw [IntKind.wrap_i64]; omega
  have ht63 : t ≤ 63 := by omega
  obtain ⟨o1, ho1⟩ : ∃ o, Hid (o = 2 ^ t - 1) := ⟨_, Lib.hid rfl⟩
  obtain ⟨x, hx⟩ : ∃ x, x = o1 - l := ⟨_, rfl⟩
  rw [← ht, ← ho1.out] at hl1
  have hx1 : x < 2 ^ (F.w - F.p) := by rw [hx, ← ht, ho1.out]; have := pow_pos2 t; omega
  have ho64 : o1 < 18446744073709551616 := by rw [ho1.out]; have : (2 : Nat) ^ t ≤ 2 ^ 63 := Nat.pow_le_pow_right (by decide) ht63; omega
  have h3 : IntKind.u64.wrap ((o1 : Int) - (l : Int)) = (x : Int) := by rw [IntKind.wrap_u64]; omega
  have hjoin := fun wx => join_any F ok s x y wx hx1 hy1
  rw [show x * 2 ^ (F.p - 1) + y + F.sg s = R by rw [hR, hx, ho1.out, ht]] at hjoin
  have Hj := Lib.hid hjoin
  clear hjoin hR hx hl1 hx1 hy1 ho64 ht p8 p53 pw w64 b16 b1023 hG ok
  obtain ⟨W, hW⟩ : ∃ W, W = w1.alloc (Obj.cells #[.int .i64 F.w, .int .i64 F.p, .int .i64 F.emin, .int .i64 F.emax] 65) := ⟨_, rfl⟩
  have HB : Hid (Below w.heap.size w W) := by show Below _ _ _; rw [hW]; exact hb1.trans ((below1 _ _).mono hb1.size)
  have bx : BxP F W w1.heap.size := by rw [hW]; exact BxP.new ..
  obtain ⟨k0, k1, k2, k3⟩ := bx.cells
  clear bx hb1
  unfold PV
  go_upto_region 4 with (fail)
  rw [← hW]
  clear hW
  go_region_held3 (fun w' => w'.cell? ⟨w1.heap.size, 0, none⟩ = some (.int .i64 F.w) ∧ w'.cell? ⟨w1.heap.size, 1, none⟩ = some (.int .i64 F.p) ∧ w'.cell? ⟨w1.heap.size, 2, none⟩ = some (.int .i64 F.emin) ∧ w'.cell? ⟨w1.heap.size, 3, none⟩ = some (.int .i64 F.emax) ∧ Below W.heap.size W w')
    (first | exact ⟨k0, k1, k2, k3, (Below.refl _ _).drew⟩ | exact ⟨keep_cell hb1 k0, keep_cell hb1 k1, keep_cell hb1 k2, keep_cell hb1 k3, keep_below (Below.refl _ _).drew hb1⟩ | ((try go_split_ands); (try dsimp only); refine ⟨keep_cell hb4 ?_, keep_cell hb4 ?_, keep_cell hb4 ?_, keep_cell hb4 ?_, keep_below ?_ hb4⟩ <;> assumption) | ((try go_split_ands); (try dsimp only); refine ⟨keep_cell hb3 ?_, keep_cell hb3 ?_, keep_cell hb3 ?_, keep_cell hb3 ?_, keep_below ?_ hb3⟩ <;> assumption) | ((try go_split_ands); (try dsimp only); refine ⟨keep_cell hb2 ?_, keep_cell hb2 ?_, keep_cell hb2 ?_, keep_cell hb2 ?_, keep_below ?_ hb2⟩ <;> assumption))
    ((first | (go_at_call 53; refine (ones_below t o1 _ ht63 ho1).mono ?_; rintro _ w1 ⟨rfl, hb1⟩) | (go_at_call 72; have hbx := hb2; clear hbx; refine (hy.out _).mono ?_; rintro _ w3 ⟨rfl, hb3⟩) | (go_at_call 72; refine (hl.out _).mono ?_; rintro _ w2 ⟨rfl, hb2⟩) | (go_at_call 92; refine (Hj.out _).mono ?_; rintro _ w4 ⟨rfl, hb4⟩)))
  replace HB := Lib.hid (HB.out.drew.trans (hb1.mono HB.out.drew.size))
  replace HB := Lib.hid (HB.out.trans (hb2.mono HB.out.size))
  replace HB := Lib.hid (HB.out.trans (hb3.mono HB.out.size))
  replace HB := Lib.hid (HB.out.trans (hb4.mono HB.out.size))
  clear hb1 hb2 hb3 hb4 h3 w2
  go_wp2
  go_ret2
  exact ⟨rfl, HB.out⟩

set_option maxRecDepth 100000 in
set_option maxHeartbeats 2000000 in
/-- special, with its two functions -/
theorem special_zero (f : Nat) (s : Bool) (w : World) (hf : f < 4) (hG : GlR w) (l y : Nat) (hl : Hid (∀ w, Calls Tryz.prog 74 #[PV (fm f)] w fun e w' => e = .returned (.int .u64 (l : Int)) ∧ Below w.heap.size w w'))
    (hy : Hid (∀ w, Calls Tryz.prog 72 #[PV (fm f)] w fun e w' => e = .returned (.int .u64 (y : Int)) ∧ Below w.heap.size w w'))
    (hl1 : l ≤ 2 ^ ((fm f).w - (fm f).p) - 1) (hy1 : y < 2 ^ ((fm f).p - 1)) :
    Calls Tryz.prog 71 #[.int .i64 f, .bool s, .func (.func 74) #[] #[], .func (.func 72) #[] #[]] w fun e w' => e = .returned (.tuple #[.int .u64 (((2 ^ ((fm f).w - (fm f).p) - 1 - l) * 2 ^ ((fm f).p - 1) + y + (fm f).sg s : Nat) : Int), .int .i64 0]) ∧ Below w.heap.size w w' := by
  have ok := fm_ok f
  obtain ⟨R, hR⟩ : ∃ R, R = (2 ^ ((fm f).w - (fm f).p) - 1 - l) * 2 ^ ((fm f).p - 1) + y + (fm f).sg s := ⟨_, rfl⟩
  rw [← hR]
  go_enter Tryz.func71, Tryz.ntmps71
  go_wp2_with fail
  refine (Params_ok f w hf hG).mono ?_
  rintro _ w1 ⟨rfl, hb1⟩
  generalize fm f = F at *
  obtain ⟨p8, p53, pw, w64, emx, emn, b16, b1023⟩ := id ok
  clear emx emn
  obtain ⟨t, ht⟩ : ∃ t, t = F.w - F.p := ⟨_, rfl⟩
  have w2 : IntKind.i64.wrap ((F.w : Int) - F.p) = (t : Int) := by rw [IntKind.wrap_i64]; omega
  have ht63 : t ≤ 63 := by omega
  obtain ⟨o1, ho1⟩ : ∃ o, Hid (o = 2 ^ t - 1) := ⟨_, Lib.hid rfl⟩
  obtain ⟨x, hx⟩ : ∃ x, x = o1 - l := ⟨_, rfl⟩
  rw [← ht, ← ho1.out] at hl1
  have hx1 : x < 2 ^ (F.w - F.p) := by rw [hx, ← ht, ho1.out]; have := pow_pos2 t; omega
  have ho64 : o1 < 18446744073709551616 := by rw [ho1.out]; have : (2 : Nat) ^ t ≤ 2 ^ 63 := Nat.pow_le_pow_right (by decide) ht63; omega
  have h3 : IntKind.u64.wrap ((o1 : Int) - (l : Int)) = (x : Int) := by rw [IntKind.wrap_u64]; omega
  have hjoin := fun wx => join_any F ok s x y wx hx1 hy1
  rw [show x * 2 ^ (F.p - 1) + y + F.sg s = R by rw [hR, hx, ho1.out, ht]] at hjoin
  have Hj := Lib.hid hjoin
  clear hjoin hR hx hl1 hx1 hy1 ho64 ht p8 p53 pw w64 b16 b1023 hG ok
  obtain ⟨W, hW⟩ : ∃ W, W = w1.alloc (Obj.cells #[.int .i64 F.w, .int .i64 F.p, .int .i64 F.emin, .int .i64 F.emax] 65) := ⟨_, rfl⟩
  have HB : Hid (Below w.heap.size w W) := by show Below _ _ _; rw [hW]; exact hb1.trans ((below1 _ _).mono hb1.size)
  have bx : BxP F W w1.heap.size := by rw [hW]; exact BxP.new ..
  obtain ⟨k0, k1, k2, k3⟩ := bx.cells
  clear bx hb1
  unfold PV
  go_upto_region 4 with (fail)
  rw [← hW]
  clear hW
  go_region_held3 (fun w' => w'.cell? ⟨w1.heap.size, 0, none⟩ = some (.int .i64 F.w) ∧ w'.cell? ⟨w1.heap.size, 1, none⟩ = some (.int .i64 F.p) ∧ w'.cell? ⟨w1.heap.size, 2, none⟩ = some (.int .i64 F.emin) ∧ w'.cell? ⟨w1.heap.size, 3, none⟩ = some (.int .i64 F.emax) ∧ Below W.heap.size W w')
    (first | exact ⟨k0, k1, k2, k3, (Below.refl _ _).drew⟩ | exact ⟨keep_cell hb1 k0, keep_cell hb1 k1, keep_cell hb1 k2, keep_cell hb1 k3, keep_below (Below.refl _ _).drew hb1⟩ | ((try go_split_ands); (try dsimp only); refine ⟨keep_cell hb4 ?_, keep_cell hb4 ?_, keep_cell hb4 ?_, keep_cell hb4 ?_, keep_below ?_ hb4⟩ <;> assumption) | ((try go_split_ands); (try dsimp only); refine ⟨keep_cell hb3 ?_, keep_cell hb3 ?_, keep_cell hb3 ?_, keep_cell hb3 ?_, keep_below ?_ hb3⟩ <;> assumption) | ((try go_split_ands); (try dsimp only); refine ⟨keep_cell hb2 ?_, keep_cell hb2 ?_, keep_cell hb2 ?_, keep_cell hb2 ?_, keep_below ?_ hb2⟩ <;> assumption))
    ((first | (go_at_call 53; refine (ones_below t o1 _ ht63 ho1).mono ?_; rintro _ w1 ⟨rfl, hb1⟩) | (go_at_call 74; refine (hl.out _).mono ?_; rintro _ w2 ⟨rfl, hb2⟩) | (go_at_call 72; refine (hy.out _).mono ?_; rintro _ w3 ⟨rfl, hb3⟩) | (go_at_call 92; refine (Hj.out _).mono ?_; rintro _ w4 ⟨rfl, hb4⟩)))
  replace HB := Lib.hid (HB.out.drew.trans (hb1.mono HB.out.drew.size))
  replace HB := Lib.hid (HB.out.trans (hb2.mono HB.out.size))
  replace HB := Lib.hid (HB.out.trans (hb3.mono HB.out.size))
  replace HB := Lib.hid (HB.out.trans (hb4.mono HB.out.size))
  clear hb1 hb2 hb3 hb4 h3 w2
  go_wp2
  go_ret2
  exact ⟨rfl, HB.out⟩

set_option maxRecDepth 100000 in
set_option maxHeartbeats 2000000 in
/-- special, with its two functions -/
theorem special_great (f : Nat) (s : Bool) (w : World) (hf : f < 4) (hG : GlR w) (l y : Nat) (hl : Hid (∀ w, Calls Tryz.prog 116 #[PV (fm f)] w fun e w' => e = .returned (.int .u64 (l : Int)) ∧ Below w.heap.size w w'))
    (hy : Hid (∀ w, Calls Tryz.prog 117 #[PV (fm f)] w fun e w' => e = .returned (.int .u64 (y : Int)) ∧ Below w.heap.size w w'))
    (hl1 : l ≤ 2 ^ ((fm f).w - (fm f).p) - 1) (hy1 : y < 2 ^ ((fm f).p - 1)) :
    Calls Tryz.prog 71 #[.int .i64 f, .bool s, .func (.func 116) #[] #[], .func (.func 117) #[] #[]] w fun e w' => e = .returned (.tuple #[.int .u64 (((2 ^ ((fm f).w - (fm f).p) - 1 - l) * 2 ^ ((fm f).p - 1) + y + (fm f).sg s : Nat) : Int), .int .i64 0]) ∧ Below w.heap.size w w' := by
  have ok := fm_ok f
  obtain ⟨R, hR⟩ : ∃ R, R = (2 ^ ((fm f).w - (fm f).p) - 1 - l) * 2 ^ ((fm f).p - 1) + y + (fm f).sg s := ⟨_, rfl⟩
  rw [← hR]
  go_enter Tryz.func71, Tryz.ntmps71
  go_wp2_with fail
  refine (Params_ok f w hf hG).mono ?_
  rintro _ w1 ⟨rfl, hb1⟩
  generalize fm f = F at *
  obtain ⟨p8, p53, pw, w64, emx, emn, b16, b1023⟩ := id ok
  clear emx emn
  obtain ⟨t, ht⟩ : ∃ t, t = F.w - F.p := ⟨_, rfl⟩
  have w2 : IntKind.i64.wrap ((F.w : Int) - F.p) = (t : Int) := by rw [IntKind.wrap_i64]; omega
  have ht63 : t ≤ 63 := by omega
  obtain ⟨o1, ho1⟩ : ∃ o, Hid (o = 2 ^ t - 1) := ⟨_, Lib.hid rfl⟩
  obtain ⟨x, hx⟩ : ∃ x, x = o1 - l := ⟨_, rfl⟩
  rw [← ht, ← ho1.out] at hl1
  have hx1 : x < 2 ^ (F.w - F.p) := by rw [hx, ← ht, ho1.out]; have := pow_pos2 t; omega
  have ho64 : o1 < 18446744073709551616 := by rw [ho1.out]; have : (2 : Nat) ^ t ≤ 2 ^ 63 := Nat.pow_le_pow_right (by decide) ht63; omega
  have h3 : IntKind.u64.wrap ((o1 : Int) - (l : Int)) = (x : Int) := by rw [IntKind.wrap_u64]; omega
  have hjoin := fun wx => join_any F ok s x y wx hx1 hy1
  rw [show x * 2 ^ (F.p - 1) + y + F.sg s = R by rw [hR, hx, ho1.out, ht]] at hjoin
  have Hj := Lib.hid hjoin
  clear hjoin hR hx hl1 hx1 hy1 ho64 ht p8 p53 pw w64 b16 b1023 hG ok
  obtain ⟨W, hW⟩ : ∃ W, W = w1.alloc (Obj.cells #[.int .i64 F.w, .int .i64 F.p, .int .i64 F.emin, .int .i64 F.emax] 65) := ⟨_, rfl⟩
  have HB : Hid (Below w.heap.size w W) := by show Below _ _ _; rw [hW]; exact hb1.trans ((below1 _ _).mono hb1.size)
  have bx : BxP F W w1.heap.size := by rw [hW]; exact BxP.new ..
  obtain ⟨k0, k1, k2, k3⟩ := bx.cells
  clear bx hb1
  unfold PV
  go_upto_region 4 with (fail)
  rw [← hW]
  clear hW
  go_region_held3 (fun w' => w'.cell? ⟨w1.heap.size, 0, none⟩ = some (.int .i64 F.w) ∧ w'.cell? ⟨w1.heap.size, 1, none⟩ = some (.int .i64 F.p) ∧ w'.cell? ⟨w1.heap.size, 2, none⟩ = some (.int .i64 F.emin) ∧ w'.cell? ⟨w1.heap.size, 3, none⟩ = some (.int .i64 F.emax) ∧ Below W.heap.size W w')
    (first | exact ⟨k0, k1, k2, k3, (Below.refl _ _).drew⟩ | exact ⟨keep_cell hb1 k0, keep_cell hb1 k1, keep_cell hb1 k2, keep_cell hb1 k3, keep_below (Below.refl _ _).drew hb1⟩ | ((try go_split_ands); (try dsimp only); refine ⟨keep_cell hb4 ?_, keep_cell hb4 ?_, keep_cell hb4 ?_, keep_cell hb4 ?_, keep_below ?_ hb4⟩ <;> assumption) | ((try go_split_ands); (try dsimp only); refine ⟨keep_cell hb3 ?_, keep_cell hb3 ?_, keep_cell hb3 ?_, keep_cell hb3 ?_, keep_below ?_ hb3⟩ <;> assumption) | ((try go_split_ands); (try dsimp only); refine ⟨keep_cell hb2 ?_, keep_cell hb2 ?_, keep_cell hb2 ?_, keep_cell hb2 ?_, keep_below ?_ hb2⟩ <;> assumption))
    ((first | (go_at_call 53; refine (ones_below t o1 _ ht63 ho1).mono ?_; rintro _ w1 ⟨rfl, hb1⟩) | (go_at_call 116; refine (hl.out _).mono ?_; rintro _ w2 ⟨rfl, hb2⟩) | (go_at_call 117; refine (hy.out _).mono ?_; rintro _ w3 ⟨rfl, hb3⟩) | (go_at_call 92; refine (Hj.out _).mono ?_; rintro _ w4 ⟨rfl, hb4⟩)))
  replace HB := Lib.hid (HB.out.drew.trans (hb1.mono HB.out.drew.size))
  replace HB := Lib.hid (HB.out.trans (hb2.mono HB.out.size))
  replace HB := Lib.hid (HB.out.trans (hb3.mono HB.out.size))
  replace HB := Lib.hid (HB.out.trans (hb4.mono HB.out.size))
  clear hb1 hb2 hb3 hb4 h3 w2
  go_wp2
  go_ret2
  exact ⟨rfl, HB.out⟩

theorem NaN_ok (f : Nat) (w : World) (hf : f < 4) (hG : GlR w) : Calls Tryz.prog 33 #[.int .i64 f] w fun e w' => e = .returned (.tuple #[.int .u64 (((fm f).nan : Nat) : Int), .int .i64 0]) ∧ Below w.heap.size w w' := by
  have ok := fm_ok f
  have h := special_nan f false w hf hG (0) (2 ^ ((fm f).p - 2)) (Lib.hid fun w => none_any (fm f) w) (Lib.hid fun w => top_any (fm f) ok w) (Nat.zero_le _) (Nat.pow_lt_pow_right (by decide) (by have := ok.p8; omega))
  have e : (2 ^ ((fm f).w - (fm f).p) - 1 - (0)) * 2 ^ ((fm f).p - 1) + (2 ^ ((fm f).p - 2)) + (fm f).sg false = (fm f).nan := by
    unfold Fm.nan Fm.sg; rw [Nat.sub_zero, inf_parts]; simp
  rw [e] at h
  have H := Lib.hid h
  clear h hG
  generalize (fm f).nan = R at *
  go_enter Tryz.func33, Tryz.ntmps33
  go_wp2_with fail
  refine H.out.mono ?_
  rintro _ w1 ⟨rfl, hb1⟩
  clear H
  go_wp2
  go_ret2
  exact ⟨rfl, hb1⟩

theorem Inf_ok (f : Nat) (s : Bool) (w : World) (hf : f < 4) (hG : GlR w) : Calls Tryz.prog 36 #[.int .i64 f, .bool s] w fun e w' => e = .returned (.tuple #[.int .u64 (((fm f).inf + (fm f).sg s : Nat) : Int), .int .i64 0]) ∧ Below w.heap.size w w' := by
  have ok := fm_ok f
  have h := special_inf f s w hf hG (0) (0) (Lib.hid fun w => none_any (fm f) w) (Lib.hid fun w => none_any (fm f) w) (Nat.zero_le _) (pow_pos2 _)
  have e : (2 ^ ((fm f).w - (fm f).p) - 1 - (0)) * 2 ^ ((fm f).p - 1) + (0) + (fm f).sg s = (fm f).inf + (fm f).sg s := by
    rw [Nat.sub_zero, Nat.add_zero, inf_parts]
  rw [e] at h
  have H := Lib.hid h
  clear h hG
  generalize (fm f).inf + (fm f).sg s = R at *
  go_enter Tryz.func36, Tryz.ntmps36
  go_wp2_with fail
  refine H.out.mono ?_
  rintro _ w1 ⟨rfl, hb1⟩
  clear H
  go_wp2
  go_ret2
  exact ⟨rfl, hb1⟩

theorem Zero_ok (f : Nat) (s : Bool) (w : World) (hf : f < 4) (hG : GlR w) : Calls Tryz.prog 37 #[.int .i64 f, .bool s] w fun e w' => e = .returned (.tuple #[.int .u64 (((fm f).sg s : Nat) : Int), .int .i64 0]) ∧ Below w.heap.size w w' := by
  have ok := fm_ok f
  have h := special_zero f s w hf hG (2 ^ ((fm f).w - (fm f).p) - 1) (0) (Lib.hid fun w => all_any (fm f) ok w) (Lib.hid fun w => none_any (fm f) w) (Nat.le_refl _) (pow_pos2 _)
  have e : (2 ^ ((fm f).w - (fm f).p) - 1 - (2 ^ ((fm f).w - (fm f).p) - 1)) * 2 ^ ((fm f).p - 1) + (0) + (fm f).sg s = (fm f).sg s := by
    rw [Nat.sub_self, Nat.zero_mul, Nat.add_zero, Nat.zero_add]
  rw [e] at h
  have H := Lib.hid h
  clear h hG
  generalize (fm f).sg s = R at *
  go_enter Tryz.func37, Tryz.ntmps37
  go_wp2_with fail
  refine H.out.mono ?_
  rintro _ w1 ⟨rfl, hb1⟩
  clear H
  go_wp2
  go_ret2
  exact ⟨rfl, hb1⟩

theorem Great_ok (f : Nat) (s : Bool) (w : World) (hf : f < 4) (hG : GlR w) : Calls Tryz.prog 108 #[.int .i64 f, .bool s] w fun e w' => e = .returned (.tuple #[.int .u64 (((fm f).inf - 1 + (fm f).sg s : Nat) : Int), .int .i64 0]) ∧ Below w.heap.size w w' := by
  have ok := fm_ok f
  have h := special_great f s w hf hG (1) (2 ^ ((fm f).p - 1) - 1) (Lib.hid fun w => one_any (fm f) w) (Lib.hid fun w => fraction_any (fm f) ok w) (by have h2 : 2 ^ 1 ≤ 2 ^ ((fm f).w - (fm f).p) := Nat.pow_le_pow_right (by decide) (by have := ok.pw; omega); omega) (by have := pow_pos2 ((fm f).p - 1); omega)
  have e : (2 ^ ((fm f).w - (fm f).p) - 1 - (1)) * 2 ^ ((fm f).p - 1) + (2 ^ ((fm f).p - 1) - 1) + (fm f).sg s = (fm f).inf - 1 + (fm f).sg s := by
    rw [inf_parts]
    have h1 := pow_pos2 ((fm f).p - 1)
    have h2 : 2 ^ 1 ≤ 2 ^ ((fm f).w - (fm f).p) := Nat.pow_le_pow_right (by decide) (by have := ok.pw; omega)
    obtain ⟨z, hz⟩ : ∃ z, 2 ^ ((fm f).w - (fm f).p) = z + 2 := ⟨2 ^ ((fm f).w - (fm f).p) - 2, by omega⟩
    rw [hz, show z + 2 - 1 - 1 = z by omega, show z + 2 - 1 = z + 1 by omega, Nat.add_mul]
    omega
  rw [e] at h
  have H := Lib.hid h
  clear h hG
  generalize (fm f).inf - 1 + (fm f).sg s = R at *
  go_enter Tryz.func108, Tryz.ntmps108
  go_wp2_with fail
  refine H.out.mono ?_
  rintro _ w1 ⟨rfl, hb1⟩
  clear H
  go_wp2
  go_ret2
  exact ⟨rfl, hb1⟩

end Go.Proofs.YtlibhfojfonfjaaGreatDoor

/- Walks of layer 4: Value. -/
namespace Go.Proofs.YtlibhfojfonfjaaGreatDoor
set_option linter.unusedVariables false
open Go.RowKit

/-- a number of one word, laid anew -/
theorem DV.one (w : World) (s : Bool) (v : Nat) (e : Int) (h0 : v ≠ 0) (h : v < 18446744073709551616) : DV w.heap.size (w.alloc (.cells #[.int .u64 v] 22)) (.agg #[.bool s, .slice (some ⟨w.heap.size, 0, none⟩) 1 1, .int .i64 e]) ⟨s, v, e⟩ := by
  have hn : nd 64 (D.mk s v e).n = 1 := nd_word h0 h
  have hr := Rd.one w v h
  refine ⟨some ⟨w.heap.size, 0, none⟩, 1, ?_, ?_, ?_, ?_, ?_⟩
  · rw [hn]
  · rw [hn]; exact Nat.le_refl _
  · rw [hn]; omega
  · rw [hn]; exact hr
  · rw [hn]; exact ⟨_, 1, 1, rfl, Nat.le_refl _, Or.inr ⟨w.heap.size, _, rfl, Nat.le_refl _, heap_alloc_at w _, by simp⟩⟩

theorem tz_tzN {n : Nat} (h : n < 18446744073709551616) (h0 : n ≠ 0) : tz n = tzN n ∧ tz n < 64 := by
  obtain ⟨m, h1, h2⟩ := tz_spec n h h0
  exact ⟨(tzN_unique h1).symm, h2⟩

theorem odd_part_ne {n : Nat} (h0 : n ≠ 0) : n / 2 ^ tzN n ≠ 0 := by
  obtain ⟨m, h1⟩ := tzN_spec n h0
  have : n / 2 ^ tzN n = 2 * m + 1 := by
    conv => lhs; lhs; rw [h1]
    exact Nat.mul_div_cancel_left _ (pow_pos2 _)
  omega

/-- the value of bits -/
def valD (F : Fm) (a : Nat) : D := oddD ⟨F.neg a, F.mag a, F.ex a⟩

set_option maxRecDepth 100000 in
set_option maxHeartbeats 4000000 in
theorem Value_fin (f a : Nat) (w : World) (hf : f < 4) (ha : a < 2 ^ (fm f).w) (hfin : (fm f).abs a < (fm f).inf) (hG : GlR w) (hT : Gl w) :
    Calls Tryz.prog 17 #[.int .i64 f, .int .u64 a] w fun e w' => ∃ x, e = .returned (.tuple #[x, .int .i64 0]) ∧ DV w.heap.size w' x (valD (fm f) a) ∧ Below w.heap.size w w' := by
  have ok := fm_ok f
  obtain ⟨d, hd⟩ : ∃ d, d = valD (fm f) a := ⟨_, rfl⟩
  rw [← hd]
  have Hd := Lib.hid hd
  clear hd
  have HG := Lib.hid hG
  have HT := Lib.hid hT
  clear hG hT
  go_enter Tryz.func17, Tryz.ntmps17
  go_wp2_with fail
  have hb0 := below1 w (Obj.cells #[Value.bool false, Value.slice none 0 0, Value.int IntKind.i64 0] 28)
  have br := Box3.new w (Value.bool false) (Value.slice none 0 0) (Value.int IntKind.i64 0) 28
  refine (Check_ok f a _ hf ha (HG.out.below hb0)).mono ?_
  rintro _ w1 ⟨rfl, hb1⟩
  replace br := br.keep hb1
  have HB := Lib.hid (keep_belowB hb0 hb1 (Nat.le_refl _))
  have hG1 := HG.out.below HB.out
  obtain ⟨c0, c1, c2, c3⟩ := hG1.1 f hf
  have hgl := hG1.2
  have hz1 := hb1.size
  simp at hz1
  clear hG1 hb1 hb0 HG
  generalize hF : fm f = F at *
  clear hF
  have bx := BxP.new F w1 65
  go_wp2_with fail
  refine (split_any F ok a _ ha).mono ?_
  rintro _ w2 ⟨rfl, hb2⟩
  obtain ⟨q0, q1, q2, q3⟩ := (bx.below hb2).cells
  have br2 := (br.alloc (.cells #[.int .i64 F.w, .int .i64 F.p, .int .i64 F.emin, .int .i64 F.emax] 65)).keep hb2
  replace HB := Lib.hid (keep_belowB (HB.out.trans ((below1 w1 (.cells #[.int .i64 F.w, .int .i64 F.p, .int .i64 F.emin, .int .i64 F.emax] 65)).mono HB.out.size)) hb2 (Nat.le_refl _))
  obtain ⟨r0, r1, r2, rf, rz⟩ := br2.cells
  have Bx := Lib.hid (bx.below hb2)
  have Br := Lib.hid br2
  have hz2 := hb2.size
  simp at hz2
  obtain ⟨p8, p53, pw, w64, emx, emn, b16, b1023⟩ := id ok
  obtain ⟨t, ht⟩ : ∃ t, t = F.w - F.p := ⟨_, rfl⟩
  obtain ⟨n1, hn1⟩ : ∃ n1, n1 = F.p - 1 := ⟨_, rfl⟩
  have e2 : (F.w : Int) - F.p = (t : Int) := by omega
  have e1 : (F.p : Int) - 1 = (n1 : Int) := by omega
  have ht63 : t ≤ 63 := by omega
  have hn63 : n1 ≤ 63 := by omega
  obtain ⟨o1, ho1⟩ : ∃ o, Hid (o = 2 ^ t - 1) := ⟨_, Lib.hid rfl⟩
  have hyl := fy_lt (F := F) a
  have hxl := fx_lt ok a
  have hp := abs_parts (F := F) a
  rw [← hn1] at hyl hp
  rw [← ht] at hxl
  have hxo : F.fx a ≠ o1 := by
    intro h
    rw [hp, inf_parts, h, ho1.out, ← ht, ← hn1] at hfin
    omega
  have t1 : ((F.fx a : Int) == (o1 : Int)) = false := by rw [beq_eq_false_iff_ne]; omega
  have hP : (2 : Nat) ^ n1 ≤ 2 ^ 52 := Nat.pow_le_pow_right (by decide) (by omega)
  have hxl2 : F.fx a < 2 ^ 60 := Nat.lt_of_lt_of_le hxl (Nat.pow_le_pow_right (by decide) (by omega))
  have hm : F.mag a = if F.fx a = 0 then F.fy a else 2 ^ n1 + F.fy a := by
    unfold Fm.mag Fm.sig
    rw [← hn1]
    by_cases h : F.fx a = 0
    · have h' : F.abs a / 2 ^ n1 = 0 := by rw [hn1]; exact h
      rw [if_pos h, if_pos h', hp, h]; simp
    · have h' : ¬ F.abs a / 2 ^ n1 = 0 := by rw [hn1]; exact h
      rw [if_neg h, if_neg h']; unfold Fm.fy; rw [← hn1]
  have he : F.ex a = if F.fx a = 0 then F.emin - F.p + 1 else F.emin - F.p + 1 + F.fx a - 1 := by
    unfold Fm.ex Fm.xp Fm.low
    by_cases h : F.fx a = 0
    · have h' : F.abs a / 2 ^ (F.p - 1) = 0 := h
      rw [if_pos h, if_pos h']
    · have h' : ¬ F.abs a / 2 ^ (F.p - 1) = 0 := h
      rw [if_neg h, if_neg h']; rfl
  have hmin : -1022 ≤ F.emin ∧ F.emin ≤ -14 := by omega
  obtain ⟨hmin1, hmin2⟩ := hmin
  have Hm := Lib.hid hm
  have He := Lib.hid he
  clear emx emn ht hn1 b16 b1023 hm he hp hxo hb2 ha hfin c0 c1 c2 c3 hgl bx br br2 hxl
  unfold valD at Hd
  generalize F.neg a = s at *
  generalize F.mag a = N at *
  generalize F.ex a = E at *
  by_cases h0 : F.fx a = 0
  · have t4 : ((F.fx a : Int) == 0) = true := by simp [h0]
    rw [if_pos h0] at Hm He
    generalize F.fx a = x at *
    generalize F.fy a = y at *
    by_cases hy0 : y = 0
    · have t2 : ((y : Int) == 0) = true := by simp [hy0]
      have E1 : Hid (d = D.zero) := by show d = _; rw [Hd.out, Hm.out, hy0]; exact oddD_zero _ _
      clear hy0 h0
      go_wp2_with (go_at_call 53; refine (ones_op t o1 _ ht63 ho1).mono ?_; rintro _ _ ⟨rfl, rfl⟩)
      refine bodyPost_ret (v := .tuple #[.agg #[.bool false, .slice none 0 0, .int .i64 0], .int .i64 0]) (by simp [results, Tryz.results17, go_sem, r0, r1, r2]) rfl ?_
      rw [E1.out]
      exact ⟨_, rfl, DV.zero, below_box HB.out (Nat.le_refl _) _ _ _⟩
    · have t2 : ((y : Int) == 0) = false := by simp [hy0]
      have hy64 : y < 18446744073709551616 := by omega
      have HN := Hm
      obtain ⟨z1, z2⟩ := tz_tzN hy64 hy0
      have E1 : Hid (d = ⟨s, y / 2 ^ tz y, E + tz y⟩) := by
        show d = _
        rw [Hd.out, HN.out, z1]
        unfold oddD
        rw [if_neg hy0]
      have hv0 : y / 2 ^ tz y ≠ 0 := by rw [z1]; exact odd_part_ne hy0
      have hv64 : y / 2 ^ tz y < 18446744073709551616 := Nat.lt_of_le_of_lt (Nat.div_le_self _ _) hy64
      have hsh : (y : Int) / 2 ^ tz y = ((y / 2 ^ tz y : Nat) : Int) := by simp
      have hT2 := (HT.out.below HB.out).1
      have htz := fun wx hx => tz64_any y wx hy64 hx
      have Htz := Lib.hid htz
      clear hy0 h0 z1 htz HN
      generalize y / 2 ^ tz y = v at *
      generalize tz y = z at *
      go_wp2_with (go_at_call 53; refine (ones_op t o1 _ ht63 ho1).mono ?_; rintro _ _ ⟨rfl, rfl⟩)
      refine (Htz.out _ hT2).mono ?_
      rintro _ _ ⟨rfl, rfl⟩
      clear Htz hT2 HT t1 t2 t4 e1 e2 Hd
      go_upto_region 15 with (fail)
      obtain ⟨s0, s1, s2, s3⟩ := (Bx.out.below (below1 w2 (Obj.cells #[.int .u64 v] 22))).cells
      obtain ⟨u0, u1, u2, uf, uz⟩ := (Br.out.alloc (Obj.cells #[.int .u64 v] 22)).cells
      go_region
      obtain ⟨k0, k1, k2, -, -⟩ := ((Br.out.setAll (.bool s) (.slice (some ⟨w2.heap.size, 0, none⟩) 1 1) (.int .i64 (F.emin - F.p + 1 + z))).alloc (Obj.cells #[.int .u64 v] 22)).cells
      go_wp2
      refine bodyPost_ret (v := .tuple #[.agg #[.bool s, .slice (some ⟨w2.heap.size, 0, none⟩) 1 1, .int .i64 (F.emin - F.p + 1 + z)], .int .i64 0]) (by simp [results, Tryz.results17, go_sem, k0, k1, k2]) rfl ?_
      rw [E1.out, show E + (z : Int) = F.emin - F.p + 1 + z by have := He.out; omega]
      have hV := DV.one (((w2.setCell ⟨w.heap.size, 0, none⟩ (.bool s)).setCell ⟨w.heap.size, 1, none⟩ (.slice (some ⟨w2.heap.size, 0, none⟩) 1 1)).setCell ⟨w.heap.size, 2, none⟩ (.int .i64 (F.emin - F.p + 1 + z))) s v (F.emin - F.p + 1 + z) hv0 hv64
      have hbb := below_box HB.out (Nat.le_refl _) (.bool s) (.slice (some ⟨w2.heap.size, 0, none⟩) 1 1) (.int .i64 (F.emin - F.p + 1 + z))
      simp only [World.size_setCell] at hV
      exact ⟨_, rfl, hV.mono (by omega), (hbb.alloc (by simp <;> omega) _).drew⟩
  · have t4 : ((F.fx a : Int) == 0) = false := by simp [h0]
    rw [if_neg h0] at Hm He
    generalize F.fx a = x at *
    generalize F.fy a = y at *
    obtain ⟨s3, hs3⟩ : ∃ s3, s3 = 2 ^ n1 := ⟨_, rfl⟩
    have h3 : IntKind.u64.wrap ((2 : Int) ^ n1) = (s3 : Int) := by
      have e0 : (2 : Int) ^ n1 = ((2 ^ n1 : Nat) : Int) := by simp
      rw [e0, hs3, IntKind.wrap_u64]; omega
    have h4 : bits .or .u64 (y : Int) (s3 : Int) = (N : Int) := by
      rw [or_nat _ _ (by omega) (by omega), hs3, Nat.or_comm, Hm.out]
      have := or_add 1 y n1 hyl
      rw [Nat.one_mul] at this
      rw [this]
    have hy0 : N ≠ 0 := by rw [Hm.out]; have := pow_pos2 n1; omega
    have hy64 : N < 18446744073709551616 := by rw [Hm.out]; omega
    have t2 : ((N : Int) == 0) = false := by simp [hy0]
    have HN : Hid (N = N) := Lib.hid rfl
    clear hs3 Hm
    obtain ⟨z1, z2⟩ := tz_tzN hy64 hy0
    have E1 : Hid (d = ⟨s, N / 2 ^ tz N, E + tz N⟩) := by
      show d = _
      rw [Hd.out, HN.out, z1]
      unfold oddD
      rw [if_neg hy0]
    have hv0 : N / 2 ^ tz N ≠ 0 := by rw [z1]; exact odd_part_ne hy0
    have hv64 : N / 2 ^ tz N < 18446744073709551616 := Nat.lt_of_le_of_lt (Nat.div_le_self _ _) hy64
    have hsh : (N : Int) / 2 ^ tz N = ((N / 2 ^ tz N : Nat) : Int) := by simp
    have hT2 := (HT.out.below HB.out).1
    have htz := fun wx hx => tz64_any N wx hy64 hx
    have Htz := Lib.hid htz
    clear hy0 h0 z1 htz HN
    generalize N / 2 ^ tz N = v at *
    generalize tz N = z at *
    go_wp2_with (go_at_call 53; refine (ones_op t o1 _ ht63 ho1).mono ?_; rintro _ _ ⟨rfl, rfl⟩)
    refine (Htz.out _ hT2).mono ?_
    rintro _ _ ⟨rfl, rfl⟩
    clear Htz hT2 HT t1 t2 t4 e1 e2 Hd
    go_upto_region 15 with (fail)
    obtain ⟨s0, s1, s2, s3⟩ := (Bx.out.below (below1 w2 (Obj.cells #[.int .u64 v] 22))).cells
    obtain ⟨u0, u1, u2, uf, uz⟩ := (Br.out.alloc (Obj.cells #[.int .u64 v] 22)).cells
    go_region
    obtain ⟨k0, k1, k2, -, -⟩ := ((Br.out.setAll (.bool s) (.slice (some ⟨w2.heap.size, 0, none⟩) 1 1) (.int .i64 (x - 1 + F.emin - F.p + 1 + z))).alloc (Obj.cells #[.int .u64 v] 22)).cells
    go_wp2
    refine bodyPost_ret (v := .tuple #[.agg #[.bool s, .slice (some ⟨w2.heap.size, 0, none⟩) 1 1, .int .i64 (x - 1 + F.emin - F.p + 1 + z)], .int .i64 0]) (by simp [results, Tryz.results17, go_sem, k0, k1, k2]) rfl ?_
    rw [E1.out, show E + (z : Int) = x - 1 + F.emin - F.p + 1 + z by have := He.out; omega]
    have hV := DV.one (((w2.setCell ⟨w.heap.size, 0, none⟩ (.bool s)).setCell ⟨w.heap.size, 1, none⟩ (.slice (some ⟨w2.heap.size, 0, none⟩) 1 1)).setCell ⟨w.heap.size, 2, none⟩ (.int .i64 (x - 1 + F.emin - F.p + 1 + z))) s v (x - 1 + F.emin - F.p + 1 + z) hv0 hv64
    have hbb := below_box HB.out (Nat.le_refl _) (.bool s) (.slice (some ⟨w2.heap.size, 0, none⟩) 1 1) (.int .i64 (x - 1 + F.emin - F.p + 1 + z))
    simp only [World.size_setCell] at hV
    exact ⟨_, rfl, hV.mono (by omega), (hbb.alloc (by simp <;> omega) _).drew⟩

/-- the error of a pattern -/
def chkS (f : Int) (a : Nat) : Int := if f < 0 ∨ 4 ≤ f then 2 else if 2 ^ (fm f.toNat).w ≤ a then 4 else 0

theorem Check_any (f : Int) (a : Nat) (w : World) (ha : a < 18446744073709551616) (hG : GlR w) : Calls Tryz.prog 51 #[.int .i64 f, .int .u64 a] w fun e w' => e = .returned (.int .i64 (chkS f a)) ∧ Below w.heap.size w w' := by
  unfold chkS
  by_cases h : f < 0 ∨ 4 ≤ f
  · rw [if_pos h]; exact Check_bad f a w h
  · rw [if_neg h]
    obtain ⟨n, rfl⟩ := Int.eq_ofNat_of_zero_le (show 0 ≤ f by omega)
    rw [Int.toNat_natCast]
    by_cases h2 : 2 ^ (fm n).w ≤ a
    · rw [if_pos h2]; exact Check_big n a w (by omega) h2 ha hG
    · rw [if_neg h2]; exact Check_ok n a w (by omega) (by omega) hG

theorem chkS_ok {f : Int} {a : Nat} (h : chkS f a = 0) : ∃ n : Nat, f = n ∧ n < 4 ∧ a < 2 ^ (fm n).w := by
  unfold chkS at h
  split at h
  · omega
  · rename_i hf
    obtain ⟨n, rfl⟩ := Int.eq_ofNat_of_zero_le (show 0 ≤ f by omega)
    rw [Int.toNat_natCast] at h
    split at h
    · omega
    · exact ⟨n, rfl, by omega, by omega⟩

theorem chkS_of {n a : Nat} (h : n < 4) (ha : a < 2 ^ (fm n).w) : chkS n a = 0 := by
  unfold chkS
  rw [if_neg (by omega), Int.toNat_natCast, if_neg (by omega)]

set_option maxHeartbeats 1000000 in
theorem Value_err (f : Int) (a : Nat) (w : World) (ha : a < 18446744073709551616) (he : chkS f a ≠ 0) (hG : GlR w) :
    Calls Tryz.prog 17 #[.int .i64 f, .int .u64 a] w fun e w' => ∃ x, e = .returned (.tuple #[x, .int .i64 (chkS f a)]) ∧ DV w.heap.size w' x D.zero ∧ Below w.heap.size w w' := by
  have t1 : (chkS f a != 0) = true := by simpa using he
  have hb0 := below1 w (Obj.cells #[Value.bool false, Value.slice none 0 0, Value.int IntKind.i64 0] 28)
  have br := Box3.new w (Value.bool false) (Value.slice none 0 0) (Value.int IntKind.i64 0) 28
  have hC := fun wx => Check_any f a wx ha
  have HC := Lib.hid hC
  have HG := Lib.hid (hG.below hb0)
  clear hC he hG
  generalize chkS f a = c at *
  go_enter Tryz.func17, Tryz.ntmps17
  go_wp2_with fail
  refine (HC.out _ HG.out).mono ?_
  rintro _ w1 ⟨rfl, hb1⟩
  replace br := br.keep hb1
  have HB := Lib.hid (keep_belowB hb0 hb1 (Nat.le_refl _))
  obtain ⟨r0, r1, r2, rf, rz⟩ := br.cells
  clear hb1 hb0 HC HG br
  go_wp2
  refine bodyPost_ret (v := .tuple #[.agg #[.bool false, .slice none 0 0, .int .i64 0], .int .i64 c]) (by simp [results, Tryz.results17, go_sem, r0, r1, r2]) rfl ?_
  exact ⟨_, rfl, DV.zero, below_box HB.out (Nat.le_refl _) _ _ _⟩

set_option maxHeartbeats 1000000 in
theorem FNeg_err (f : Int) (a : Nat) (w : World) (ha : a < 18446744073709551616) (he : chkS f a ≠ 0) (hG : GlR w) : Calls Tryz.prog 41 #[.int .i64 f, .int .u64 a] w fun e w' => e = .returned (.tuple #[.int .u64 0, .int .i64 (chkS f a)]) ∧ Below w.heap.size w w' := by
  have t1 : (chkS f a != 0) = true := by simpa using he
  have HC := Lib.hid (Check_any f a w ha hG)
  clear he hG
  generalize chkS f a = c at *
  go_enter Tryz.func41, Tryz.ntmps41
  go_wp2_with fail
  refine HC.out.mono ?_
  rintro _ w1 ⟨rfl, hb1⟩
  clear HC
  go_wp2
  go_ret2
  exact ⟨rfl, hb1⟩

set_option maxHeartbeats 1000000 in
theorem Class_err (f : Int) (a : Nat) (w : World) (ha : a < 18446744073709551616) (he : chkS f a ≠ 0) (hG : GlR w) : Calls Tryz.prog 69 #[.int .i64 f, .int .u64 a] w fun e w' => e = .returned (.tuple #[.int .i64 0, .int .i64 (chkS f a)]) ∧ Below w.heap.size w w' := by
  have t1 : (chkS f a != 0) = true := by simpa using he
  have HC := Lib.hid (Check_any f a w ha hG)
  clear he hG
  generalize chkS f a = c at *
  go_enter Tryz.func69, Tryz.ntmps69
  go_wp2_with fail
  refine HC.out.mono ?_
  rintro _ w1 ⟨rfl, hb1⟩
  clear HC
  go_wp2
  go_ret2
  exact ⟨rfl, hb1⟩

end Go.Proofs.YtlibhfojfonfjaaGreatDoor

/- Value of what is infinite or no number; Value of whatever. -/
namespace Go.Proofs.YtlibhfojfonfjaaGreatDoor
set_option linter.unusedVariables false
open Go.RowKit

set_option maxRecDepth 100000 in
set_option maxHeartbeats 4000000 in
theorem Value_inf (f a : Nat) (w : World) (hf : f < 4) (ha : a < 2 ^ (fm f).w) (hfin : (fm f).inf ≤ (fm f).abs a) (hG : GlR w) :
    Calls Tryz.prog 17 #[.int .i64 f, .int .u64 a] w fun e w' => ∃ x, e = .returned (.tuple #[x, .int .i64 40]) ∧ DV w.heap.size w' x D.zero ∧ Below w.heap.size w w' := by
  have ok := fm_ok f
  have HG := Lib.hid hG
  clear hG
  go_enter Tryz.func17, Tryz.ntmps17
  go_wp2_with fail
  have hb0 := below1 w (Obj.cells #[Value.bool false, Value.slice none 0 0, Value.int IntKind.i64 0] 28)
  have br := Box3.new w (Value.bool false) (Value.slice none 0 0) (Value.int IntKind.i64 0) 28
  refine (Check_ok f a _ hf ha (HG.out.below hb0)).mono ?_
  rintro _ w1 ⟨rfl, hb1⟩
  replace br := br.keep hb1
  have HB := Lib.hid (keep_belowB hb0 hb1 (Nat.le_refl _))
  have hG1 := HG.out.below HB.out
  obtain ⟨c0, c1, c2, c3⟩ := hG1.1 f hf
  have hgl := hG1.2
  have hz1 := hb1.size
  simp at hz1
  clear hG1 hb1 hb0 HG
  generalize hF : fm f = F at *
  clear hF
  have bx := BxP.new F w1 65
  go_wp2_with fail
  refine (split_any F ok a _ ha).mono ?_
  rintro _ w2 ⟨rfl, hb2⟩
  obtain ⟨q0, q1, q2, q3⟩ := (bx.below hb2).cells
  have br2 := (br.alloc (.cells #[.int .i64 F.w, .int .i64 F.p, .int .i64 F.emin, .int .i64 F.emax] 65)).keep hb2
  replace HB := Lib.hid (keep_belowB (HB.out.trans ((below1 w1 (.cells #[.int .i64 F.w, .int .i64 F.p, .int .i64 F.emin, .int .i64 F.emax] 65)).mono HB.out.size)) hb2 (Nat.le_refl _))
  obtain ⟨r0, r1, r2, rf, rz⟩ := br2.cells
  obtain ⟨p8, p53, pw, w64, emx, emn, b16, b1023⟩ := id ok
  obtain ⟨t, ht⟩ : ∃ t, t = F.w - F.p := ⟨_, rfl⟩
  have e2 : (F.w : Int) - F.p = (t : Int) := by omega
  have ht63 : t ≤ 63 := by omega
  have hxl := fx_lt ok a
  have hp := abs_parts (F := F) a
  rw [← ht] at hxl
  have hxo : F.fx a = 2 ^ t - 1 := by
    have h1 := inf_parts (F := F)
    rw [h1, hp, ← ht] at hfin
    have hyl := fy_lt (F := F) a
    rcases Nat.lt_or_ge (F.fx a) (2 ^ t - 1) with h | h
    · exfalso
      have : (F.fx a + 1) * 2 ^ (F.p - 1) ≤ (2 ^ t - 1) * 2 ^ (F.p - 1) := Nat.mul_le_mul_right _ (by omega)
      rw [Nat.add_mul, Nat.one_mul] at this
      omega
    · omega
  obtain ⟨o1, ho1⟩ : ∃ o, Hid (o = 2 ^ t - 1) := ⟨_, Lib.hid rfl⟩
  rw [← ho1.out] at hxo
  rw [hxo]
  clear emx emn ht b16 b1023 hp hxo hb2 ha hfin c0 c1 c2 c3 hgl bx br br2 hxl
  go_wp2_with (go_at_call 53; refine (ones_op t o1 _ ht63 ho1).mono ?_; rintro _ _ ⟨rfl, rfl⟩)
  refine bodyPost_ret (v := .tuple #[.agg #[.bool false, .slice none 0 0, .int .i64 0], .int .i64 40]) (by simp [results, Tryz.results17, go_sem, r0, r1, r2]) rfl ?_
  exact ⟨_, rfl, DV.zero, below_box HB.out (Nat.le_refl _) _ _ _⟩

/-- the error of Value -/
def valE (f : Int) (a : Nat) : Int := if chkS f a ≠ 0 then chkS f a else if (fm f.toNat).abs a < (fm f.toNat).inf then 0 else 40
def valA (f : Int) (a : Nat) : D := if valE f a = 0 then valD (fm f.toNat) a else D.zero

theorem Value_any (f : Int) (a : Nat) (w : World) (ha : a < 18446744073709551616) (hG : GlR w) (hT : Gl w) :
    Calls Tryz.prog 17 #[.int .i64 f, .int .u64 a] w fun e w' => ∃ x, e = .returned (.tuple #[x, .int .i64 (valE f a)]) ∧ DV w.heap.size w' x (valA f a) ∧ Below w.heap.size w w' := by
  unfold valA
  by_cases hc : chkS f a = 0
  · obtain ⟨n, rfl, hn, han⟩ := chkS_ok hc
    have e0 : valE (n : Int) a = if (fm n).abs a < (fm n).inf then 0 else 40 := by unfold valE; rw [if_neg (by simpa using hc), Int.toNat_natCast]
    rw [Int.toNat_natCast]
    by_cases hfin : (fm n).abs a < (fm n).inf
    · rw [if_pos hfin] at e0
      rw [e0, if_pos rfl]
      exact Value_fin n a w hn han hfin hG hT
    · rw [if_neg hfin] at e0
      rw [e0, if_neg (by decide)]
      exact Value_inf n a w hn han (by omega) hG
  · have e0 : valE f a = chkS f a := by unfold valE; rw [if_pos hc]
    rw [e0, if_neg hc]
    exact Value_err f a w ha hc hG

theorem valE_ok {f : Int} {a : Nat} (h : valE f a = 0) : ∃ n : Nat, f = n ∧ n < 4 ∧ a < 2 ^ (fm n).w ∧ (fm n).abs a < (fm n).inf := by
  unfold valE at h
  split at h
  · rename_i h1; exact absurd h h1
  · rename_i h1
    obtain ⟨n, rfl, hn, han⟩ := chkS_ok (show chkS f a = 0 by simpa using h1)
    rw [Int.toNat_natCast] at h
    split at h
    · rename_i h2; exact ⟨n, rfl, hn, han, h2⟩
    · cases h

def absA (f : Int) (a : Nat) : Nat := if chkS f a = 0 then (fm f.toNat).abs a else 0

end Go.Proofs.YtlibhfojfonfjaaGreatDoor
