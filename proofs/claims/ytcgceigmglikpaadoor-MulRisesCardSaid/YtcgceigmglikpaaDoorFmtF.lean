/- Value of what is infinite or no number; Value of whatever. -/
import Derived.Test.YtcgceigmglikpaaDoorFmtE
namespace Go.Proofs.YtcgceigmglikpaaDoor
set_option linter.unusedVariables false
open Go.RowKit

set_option maxRecDepth 100000 in
set_option maxHeartbeats 4000000 in
theorem Value_inf (f a : Nat) (w : World) (hf : f < 4) (ha : a < 2 ^ (fm f).w) (hfin : (fm f).inf ≤ (fm f).abs a) (hG : GlR w) :
    Calls Tryd.prog 27 #[.int .i64 f, .int .u64 a] w fun e w' => ∃ x, e = .returned (.tuple #[x, .int .i64 40]) ∧ DV w.heap.size w' x D.zero ∧ Below w.heap.size w w' := by
  have ok := fm_ok f
  have HG := Lib.hid hG
  clear hG
  go_enter Tryd.func27, Tryd.ntmps27
  go_wp2_with fail
  have hb0 := below1 w (Obj.cells #[Value.bool false, Value.slice none 0 0, Value.int IntKind.i64 0] 53)
  have br := Box3.new w (Value.bool false) (Value.slice none 0 0) (Value.int IntKind.i64 0) 53
  refine (Check_ok f a _ hf ha (HG.out.below hb0)).mono ?_
  rintro _ w1 ⟨rfl, hb1⟩
  replace br := br.keep hb1
  have HB := Lib.hid (keep_belowB hb0 hb1 (Nat.le_refl _))
  have hG1 := HG.out.below HB.out
  obtain ⟨c0, c1, c2, c3⟩ := hG1.1 f hf
  have hgl := hG1.2
  have hz1 := hb1.size
  simp at hz1
  clear hG1 hb1 hb0 HG
  generalize hF : fm f = F at *
  clear hF
  have bx := BxP.new F w1 58
  go_wp2_with fail
  refine (split_any F ok a _ ha).mono ?_
  rintro _ w2 ⟨rfl, hb2⟩
  obtain ⟨q0, q1, q2, q3⟩ := (bx.below hb2).cells
  have br2 := (br.alloc (.cells #[.int .i64 F.w, .int .i64 F.p, .int .i64 F.emin, .int .i64 F.emax] 58)).keep hb2
  replace HB := Lib.hid (keep_belowB (HB.out.trans ((below1 w1 (.cells #[.int .i64 F.w, .int .i64 F.p, .int .i64 F.emin, .int .i64 F.emax] 58)).mono HB.out.size)) hb2 (Nat.le_refl _))
  obtain ⟨r0, r1, r2, rf, rz⟩ := br2.cells
  obtain ⟨p8, p53, pw, w64, emx, emn, b16, b1023⟩ := id ok
  obtain ⟨t, ht⟩ : ∃ t, t = F.w - F.p := ⟨_, rfl⟩
  have e2 : (F.w : Int) - F.p = (t : Int) := by omega
  have ht63 : t ≤ 63 := by omega
  have hxl := fx_lt ok a
  have hp := abs_parts (F := F) a
  rw [← ht] at hxl
  have hxo : F.fx a = 2 ^ t - 1 := by
    have h1 := inf_parts (F := F)
    rw [h1, hp, ← ht] at hfin
    have hyl := fy_lt (F := F) a
    rcases Nat.lt_or_ge (F.fx a) (2 ^ t - 1) with h | h
    · exfalso
      have : (F.fx a + 1) * 2 ^ (F.p - 1) ≤ (2 ^ t - 1) * 2 ^ (F.p - 1) := Nat.mul_le_mul_right _ (by omega)
      rw [Nat.add_mul, Nat.one_mul] at this
      omega
    · omega
  obtain ⟨o1, ho1⟩ : ∃ o, Hid (o = 2 ^ t - 1) := ⟨_, Lib.hid rfl⟩
  rw [← ho1.out] at hxo
  rw [hxo]
  clear emx emn ht b16 b1023 hp hxo hb2 ha hfin c0 c1 c2 c3 hgl bx br br2 hxl
  go_wp2_with (go_at_call 77; refine (ones_op t o1 _ ht63 ho1).mono ?_; rintro _ _ ⟨rfl, rfl⟩)
  refine bodyPost_ret (v := .tuple #[.agg #[.bool false, .slice none 0 0, .int .i64 0], .int .i64 40]) (by simp [results, Tryd.results27, go_sem, r0, r1, r2]) rfl ?_
  exact ⟨_, rfl, DV.zero, below_box HB.out (Nat.le_refl _) _ _ _⟩

/-- the error of Value -/
def valE (f : Int) (a : Nat) : Int := if chkS f a ≠ 0 then chkS f a else if (fm f.toNat).abs a < (fm f.toNat).inf then 0 else 40
def valA (f : Int) (a : Nat) : D := if valE f a = 0 then valD (fm f.toNat) a else D.zero

theorem Value_any (f : Int) (a : Nat) (w : World) (ha : a < 18446744073709551616) (hG : GlR w) (hT : Gl w) :
    Calls Tryd.prog 27 #[.int .i64 f, .int .u64 a] w fun e w' => ∃ x, e = .returned (.tuple #[x, .int .i64 (valE f a)]) ∧ DV w.heap.size w' x (valA f a) ∧ Below w.heap.size w w' := by
  unfold valA
  by_cases hc : chkS f a = 0
  · obtain ⟨n, rfl, hn, han⟩ := chkS_ok hc
    have e0 : valE (n : Int) a = if (fm n).abs a < (fm n).inf then 0 else 40 := by unfold valE; rw [if_neg (by simpa using hc), Int.toNat_natCast]
    rw [Int.toNat_natCast]
    by_cases hfin : (fm n).abs a < (fm n).inf
    · rw [if_pos hfin] at e0
      rw [e0, if_pos rfl]
      exact Value_fin n a w hn han hfin hG hT
    · rw [if_neg hfin] at e0
      rw [e0, if_neg (by decide)]
      exact Value_inf n a w hn han (by omega) hG
  · have e0 : valE f a = chkS f a := by unfold valE; rw [if_pos hc]
    rw [e0, if_neg hc]
    exact Value_err f a w ha hc hG

theorem valE_ok {f : Int} {a : Nat} (h : valE f a = 0) : ∃ n : Nat, f = n ∧ n < 4 ∧ a < 2 ^ (fm n).w ∧ (fm n).abs a < (fm n).inf := by
  unfold valE at h
  split at h
  · rename_i h1; exact absurd h h1
  · rename_i h1
    obtain ⟨n, rfl, hn, han⟩ := chkS_ok (show chkS f a = 0 by simpa using h1)
    rw [Int.toNat_natCast] at h
    split at h
    · rename_i h2; exact ⟨n, rfl, hn, han, h2⟩
    · cases h

def absA (f : Int) (a : Nat) : Nat := if chkS f a = 0 then (fm f.toNat).abs a else 0

theorem FAbs_any (f : Int) (a : Nat) (w : World) (ha : a < 18446744073709551616) (hG : GlR w) : Calls Tryd.prog 26 #[.int .i64 f, .int .u64 a] w fun e w' => e = .returned (.tuple #[.int .u64 (absA f a), .int .i64 (chkS f a)]) ∧ Below w.heap.size w w' := by
  unfold absA
  by_cases hc : chkS f a = 0
  · rw [if_pos hc, hc]
    obtain ⟨n, rfl, hn, han⟩ := chkS_ok hc
    exact FAbs_ok n a w hn han hG
  · rw [if_neg hc]
    exact FAbs_err f a w ha hc hG

end Go.Proofs.YtcgceigmglikpaaDoor
