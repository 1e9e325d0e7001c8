/- The walk of FusedSigns. Printed by gen/fusl.py. -/
import Derived.Deep.CutBlock
import Derived.Test.YtcgceigmglikpaaDoorFusK
namespace Go.Proofs.YtcgceigmglikpaaDoor
set_option linter.unusedVariables false
open Go.RowKit

theorem mir_le {k : Nat} (h : k ≤ 5) : mir k ≤ 5 := by unfold mir; split <;> (try split) <;> omega

section
variable {F : Fm}
theorem signs_law (ok : F.Ok) (k a b c d : Nat) (ha : a < 2 ^ F.w) (hb : b < 2 ^ F.w) (hc : c < 2 ^ F.w) :
    fmaS F k b a c = fmaS F k a b c ∧ fmaS F k (F.flip a) (F.flip b) c = fmaS F k a b c ∧ fmaS F k a b (F.flip (F.flip c)) = fmaS F k a b c ∧ fmaS F k (F.flip a) (F.flip b) c = fmaS F k a b c ∧
    dot2S F k d c a b = dot2S F k a b c d ∧
    (fmaS F (mir k) (F.flip a) b (F.flip c)).2 = (fmaS F k a b c).2 ∧ F.isNan (fmaS F (mir k) (F.flip a) b (F.flip c)).1 = F.isNan (fmaS F k a b c).1 ∧ (F.isNan (fmaS F k a b c).1 = false → rankZ F (fmaS F k a b c).1 = -rankZ F (fmaS F (mir k) (F.flip a) b (F.flip c)).1) := by
  simp only [fmaZ ok, dotZ ok, prodZ_flip, prodZ_flip2, oneZ_flip, opp_opp, flip_flip ok hc]
  have hm := fuseZ_mir ok k (prodZ F a b) (oneZ F c)
  refine ⟨by rw [prodZ_comm], trivial, trivial, trivial, ?_, hm⟩
  rw [prodZ_comm d c, fuseZ_comm]
end

set_option maxRecDepth 100000 in
set_option maxHeartbeats 32000000 in
theorem signs_any (f m : Int) (a b c d : Nat) (w : World) (hf : -9223372036854775808 ≤ f ∧ f ≤ 9223372036854775807) (hm : -9223372036854775808 ≤ m ∧ m ≤ 9223372036854775807) (ha : a < 18446744073709551616) (hb : b < 18446744073709551616) (hc : c < 18446744073709551616) (hd : d < 18446744073709551616) (hG : Gl w) (hR : GlR w) :
    Calls Tryd.prog 12 #[.agg (fourA f m a b c d)] w fun e w' => e = .returned (.bool true) ∧ Below w.heap.size w w' := by
  have hst := fun wx => four_start f m a b c d wx hf hm ha hb hc hd
  have hb0 := below1 w (.cells (fourA f m a b c d) 68)
  have hx := Bx.new w (fourA f m a b c d) 68
  obtain ⟨W, hW⟩ : ∃ W, W = w.alloc (.cells (fourA f m a b c d) 68) := ⟨_, rfl⟩
  rw [← hW] at hb0 hx
  have HS := Lib.hid (show St w.heap.size w w.heap.size (fourA f m a b c d) W from ⟨hb0, hG.below hb0, hR.below hb0, hx⟩)
  have HGB := Lib.hid (fun (u : World) (h : Below w.heap.size w u) => hG.below h)
  have HRB := Lib.hid (fun (u : World) (h : Below w.heap.size w u) => hR.below h)
  have Hst := Lib.hid hst
  clear hst hb0 hx hG hR hf hm ha hb hc hd
  unfold fourA at hW HS Hst
  unfold fourA
  go_enter Tryd.func12, Tryd.ntmps12
  go_upto_region 1 with (fail)
  rw [← hW]
  clear hW
  go_wp2_with fail
  refine (fawake_any W HS.out.gl HS.out.glr).mono ?_
  rintro _ w1 ⟨rfl, hb1⟩
  replace HS := Lib.hid (HS.out.below hb1 (Nat.le_refl _))
  clear hb1
  obtain ⟨k0, k1, k2, k3, k4, k5⟩ := HS.out.bx.six
  have xf : ∀ j, w1.frozen? ⟨w.heap.size, j, none⟩ = false := fun j => HS.out.bx.free j
  go_wp2_with fail
  refine (Hst.out w1).mono ?_
  rintro _ w2 ⟨n, k, a, b, c, d, hin, rfl, hb2⟩
  replace HS := Lib.hid (HS.out.below hb2 (Nat.le_refl _))
  clear hb2 k0 k1 k2 k3 k4 k5 xf Hst
  have HI := Lib.hid hin
  clear hin
  obtain ⟨k0, k1, k2, k3, k4, k5⟩ := HS.out.bx.six
  have xf : ∀ j, w2.frozen? ⟨w.heap.size, j, none⟩ = false := fun j => HS.out.bx.free j
  go_upto_region 4 with (fail)
  replace HS := Lib.hid (HS.out.set6 HGB.out HRB.out (.int .i64 n) (.int .i64 k) (.int .u64 a) (.int .u64 b) (.int .u64 c) (.int .u64 d))
  clear k0 k1 k2 k3 k4 k5 xf
  generalize (((((w2.setCell ⟨w.heap.size, 0, none⟩ (.int .i64 n)).setCell ⟨w.heap.size, 1, none⟩ (.int .i64 k)).setCell ⟨w.heap.size, 2, none⟩ (.int .u64 a)).setCell ⟨w.heap.size, 3, none⟩ (.int .u64 b)).setCell ⟨w.heap.size, 4, none⟩ (.int .u64 c)).setCell ⟨w.heap.size, 5, none⟩ (.int .u64 d) = W3 at *
  obtain ⟨hn, hk, hal, hbl, hcl, hdl⟩ := HI.out
  have ok := fm_ok n
  obtain ⟨s1, s2, s3, s4, s5, s6, s7, s8⟩ := signs_law ok k a b c d hal hbl hcl
  have hfa := flip_lt ok a
  have hfb := flip_lt ok b
  have hfc := flip_lt ok c
  have c1 := fun wx h1 h2 => lfma_ok n k a b c d wx hn hk hal hbl hcl hdl h1 h2
  have c2 := fun wx h1 h2 => Fma_ok n k b a c wx hn hk hbl hal hcl h1 h2
  have c3 := fun wx h1 h2 => Fma_ok n k ((fm n).flip a) ((fm n).flip b) c wx hn hk hfa hfb hcl h1 h2
  have c4 := fun wx h1 h2 => Fms_ok n k a b ((fm n).flip c) wx hn hk hal hbl hfc h1 h2
  have c5 := fun wx h1 h2 => Fnma_ok n k a ((fm n).flip b) c wx hn hk hal hfb hcl h1 h2
  have c6 := fun wx h1 h2 => Fms_ok n (mir k) ((fm n).flip a) b c wx hn (mir_le hk) hfa hbl hcl h1 h2
  have c7 := fun wx h1 h2 => ldot2_ok n k a b c d wx hn hk hal hbl hcl hdl h1 h2
  have c8 := fun wx h1 h2 => Dot2_ok n k d c a b wx hn hk hdl hcl hal hbl h1 h2
  have o1 := fun wx => ropposite_ok n a wx hn hal
  have o2 := fun wx => ropposite_ok n b wx hn hbl
  have o3 := fun wx => ropposite_ok n c wx hn hcl
  rw [s1] at c2
  rw [s2] at c3
  rw [s3] at c4
  rw [s4] at c5
  rw [s5] at c8
  have xl := (fuseZ_lt ok k (prodZ (fm n) a b) (oneZ (fm n) c)).1
  rw [← fmaZ ok] at xl
  have yl := (fuseZ_lt ok (mir k) (prodZ (fm n) ((fm n).flip a) b) (oneZ (fm n) ((fm n).flip c))).1
  rw [← fmaZ ok] at yl
  rw [s6] at c6
  obtain ⟨x, hx⟩ : ∃ x, x = (fmaS (fm n) k a b c).1 := ⟨_, rfl⟩
  obtain ⟨g, hg⟩ : ∃ x, x = (fmaS (fm n) k a b c).2 := ⟨_, rfl⟩
  obtain ⟨y, hy⟩ : ∃ x, x = (fmaS (fm n) (mir k) ((fm n).flip a) b ((fm n).flip c)).1 := ⟨_, rfl⟩
  obtain ⟨x2, hx2⟩ : ∃ x, x = (dot2S (fm n) k a b c d).1 := ⟨_, rfl⟩
  obtain ⟨g2, hg2⟩ : ∃ x, x = (dot2S (fm n) k a b c d).2 := ⟨_, rfl⟩
  simp only [← hx, ← hg] at c1 c2 c3 c4 c5
  simp only [← hy, ← hg] at c6
  simp only [← hx2, ← hg2] at c7 c8
  rw [← hx] at xl s7 s8
  rw [← hy] at yl s7 s8
  have cn : ∀ wx z, z = x ∨ z = y → Calls Tryd.prog 44 #[.int .i64 n, .int .u64 z] wx fun e w' => e = .returned (.bool ((fm n).isNan z)) ∧ Below wx.heap.size wx w' := fun wx z hz => lnan_ok n z wx hn (by rcases hz with rfl | rfl <;> assumption)
  have cr : ∀ wx z, z = x ∨ z = y → Calls Tryd.prog 42 #[.int .i64 n, .int .u64 z] wx fun e w' => e = .returned (.int .i64 (rankZ (fm n) z)) ∧ Below wx.heap.size wx w' := fun wx z hz => lrank_ok n z wx hn (by rcases hz with rfl | rfl <;> assumption)
  obtain ⟨nb, hnb⟩ : ∃ f, f = (fm n).isNan := ⟨_, rfl⟩
  obtain ⟨rk, hrk⟩ : ∃ f, f = rankZ (fm n) := ⟨_, rfl⟩
  rw [← hnb] at s7 s8 cn
  rw [← hrk] at s8 cr
  have rkb : -9223372036854775808 < rk x ∧ rk x < 9223372036854775808 ∧ -9223372036854775808 < rk y ∧ rk y < 9223372036854775808 := by
    have key : ∀ z, -9223372036854775808 < rk z ∧ rk z < 9223372036854775808 := by
      intro z
      rw [hrk]
      have h1 := abs_lt (F := fm n) z
      have h2 : (2 : Nat) ^ ((fm n).w - 1) ≤ 2 ^ 63 := Nat.pow_le_pow_right (by decide) (by have := ok.w64; omega)
      unfold rankZ sI
      split <;> omega
    exact ⟨(key x).1, (key x).2, (key y).1, (key y).2⟩
  obtain ⟨ma, hma⟩ : ∃ z, z = (fm n).flip a := ⟨_, rfl⟩
  obtain ⟨mb, hmb⟩ : ∃ z, z = (fm n).flip b := ⟨_, rfl⟩
  obtain ⟨mc, hmc⟩ : ∃ z, z = (fm n).flip c := ⟨_, rfl⟩
  rw [← hma] at c3 c6 o1
  rw [← hmb] at c3 c5 o2
  rw [← hmc] at c4 o3
  have C1 := Lib.hid c1
  have C2 := Lib.hid c2
  have C3 := Lib.hid c3
  have C4 := Lib.hid c4
  have C5 := Lib.hid c5
  have C6 := Lib.hid c6
  have C7 := Lib.hid c7
  have C8 := Lib.hid c8
  have O1 := Lib.hid o1
  have O2 := Lib.hid o2
  have O3 := Lib.hid o3
  have CN := Lib.hid cn
  have CR := Lib.hid cr
  have S7 := Lib.hid s7
  have S8 := Lib.hid s8
  have RB := Lib.hid rkb
  have HK := Lib.hid hk
  unfold fourA at C1 C7
  clear c1 c2 c3 c4 c5 c6 c7 c8 o1 o2 o3 cn cr s1 s2 s3 s4 s5 s6 s7 s8 hfa hfb hfc xl yl hx hg hy hx2 hg2 hnb hrk rkb hma hmb hmc hn hk hal hbl hcl hdl ok HI HGB HRB
  obtain ⟨k0, k1, k2, k3, k4, k5⟩ := HS.out.bx.six
  go_wp2_with fail
  refine (C1.out _ HS.out.gl HS.out.glr).mono ?_
  rintro _ w' ⟨rfl, hb⟩
  replace HS := Lib.hid (HS.out.below hb (Nat.le_refl _))
  clear hb k0 k1 k2 k3 k4 k5 C1
  obtain ⟨k0, k1, k2, k3, k4, k5⟩ := HS.out.bx.six
  go_wp2_with fail
  refine (C2.out _ HS.out.gl HS.out.glr).mono ?_
  rintro _ w' ⟨rfl, hb⟩
  replace HS := Lib.hid (HS.out.below hb (Nat.le_refl _))
  clear hb k0 k1 k2 k3 k4 k5 C2
  obtain ⟨k0, k1, k2, k3, k4, k5⟩ := HS.out.bx.six
  go_wp2_with fail
  refine (O1.out _).mono ?_
  rintro _ _ ⟨rfl, rfl⟩
  clear O1
  go_wp2_with fail
  refine (O2.out _).mono ?_
  rintro _ _ ⟨rfl, rfl⟩
  clear O2
  go_wp2_with fail
  refine (O3.out _).mono ?_
  rintro _ _ ⟨rfl, rfl⟩
  clear O3
  go_wp2_with fail
  refine (C3.out _ HS.out.gl HS.out.glr).mono ?_
  rintro _ w' ⟨rfl, hb⟩
  replace HS := Lib.hid (HS.out.below hb (Nat.le_refl _))
  clear hb k0 k1 k2 k3 k4 k5 C3
  obtain ⟨k0, k1, k2, k3, k4, k5⟩ := HS.out.bx.six
  go_wp2_with fail
  refine (C4.out _ HS.out.gl HS.out.glr).mono ?_
  rintro _ w' ⟨rfl, hb⟩
  replace HS := Lib.hid (HS.out.below hb (Nat.le_refl _))
  clear hb k0 k1 k2 k3 k4 k5 C4
  obtain ⟨k0, k1, k2, k3, k4, k5⟩ := HS.out.bx.six
  go_wp2_with fail
  refine (C5.out _ HS.out.gl HS.out.glr).mono ?_
  rintro _ w' ⟨rfl, hb⟩
  replace HS := Lib.hid (HS.out.below hb (Nat.le_refl _))
  clear hb k0 k1 k2 k3 k4 k5 C5
  obtain ⟨k0, k1, k2, k3, k4, k5⟩ := HS.out.bx.six
  skip
  have hk := HK.out
  have h3 : (k = 3 ∧ mir k = 4) ∨ (k = 4 ∧ mir k = 3) ∨ ((((k : Int) == 3) = false ∧ ((k : Int) == 4) = false) ∧ mir k = k) := by
    by_cases h3 : k = 3
    · left; exact ⟨h3, by rw [h3]; rfl⟩
    · by_cases h4 : k = 4
      · right; left; exact ⟨h4, by rw [h4]; rfl⟩
      · right; right
        refine ⟨⟨by rw [beq_eq_false_iff_ne]; omega, by rw [beq_eq_false_iff_ne]; omega⟩, ?_⟩
        unfold mir; rw [if_neg h3, if_neg h4]
  clear hk HK
  have hmk : ∃ km, km = mir k := ⟨_, rfl⟩
  obtain ⟨km, hkm⟩ := hmk
  rw [← hkm] at C6 h3
  clear hkm
  go_upto_block 0 with (fail)
  go_cut [14] from 145 (fun v wx => v = .int .i64 km ∧ wx = w')
  case first =>
    rcases h3 with ⟨rfl, rfl⟩ | ⟨rfl, rfl⟩ | ⟨⟨e3, e4⟩, rfl⟩
    · go_wp2_with fail
      go_meet
      case rel => exact ⟨rfl, rfl⟩
    · go_wp2_with fail
      go_meet
      case rel => exact ⟨rfl, rfl⟩
    · go_wp2_with fail
      go_meet
      case rel => exact ⟨rfl, rfl⟩
  case rest =>
    obtain ⟨rfl, rfl⟩ := hcut
    clear h3
    go_wp2_with fail
    refine (C6.out _ HS.out.gl HS.out.glr).mono ?_
    rintro _ w' ⟨rfl, hb⟩
    replace HS := Lib.hid (HS.out.below hb (Nat.le_refl _))
    clear hb k0 k1 k2 k3 k4 k5 C6
    obtain ⟨k0, k1, k2, k3, k4, k5⟩ := HS.out.bx.six
    go_upto_region 29 with (fail)
    have s7 := S7.out
    have s8 := S8.out
    have cell0 := k0
    cases hx0 : nb x
    · rw [hx0] at s7
      have s8' := s8 hx0
      obtain ⟨r1, r2, r3, r4⟩ := RB.out
      have tn : (rk x != IntKind.i64.wrap (-rk y)) = false := by rw [wrap_i64_of _ ⟨by omega, by omega⟩, s8']; simp
      clear s8' s8 S7 S8 RB
      go_region_held3 (fun v => v.cell? ⟨w.heap.size, 0, none⟩ = some (.int .i64 n) ∧ Below w'.heap.size w' v)
        (first | exact ⟨k0, (Below.refl _ _).drew⟩ | exact ⟨keep_cell hb1 k0, keep_below (Below.refl _ _).drew hb1⟩ | ((try go_split_ands); (try dsimp only); refine ⟨keep_cell hb1 ?_, keep_below ?_ hb1⟩ <;> assumption))
        ((first | (go_at_call 44; refine (CN.out _ _ ?_).mono ?_; (first | exact Or.inl rfl | exact Or.inr rfl); rintro _ wz ⟨rfl, hb1⟩) | (go_at_call 42; refine (CR.out _ _ ?_).mono ?_; (first | exact Or.inl rfl | exact Or.inr rfl); rintro _ wz ⟨rfl, hb1⟩)))
      rename_i hHold
      replace HS := Lib.hid (HS.out.below hHold.2 (Nat.le_refl _))
      clear hHold hb1 k0 k1 k2 k3 k4 k5 CN CR
      obtain ⟨k0, k1, k2, k3, k4, k5⟩ := HS.out.bx.six
      go_wp2_with fail
      refine (C7.out _ HS.out.gl HS.out.glr).mono ?_
      rintro _ w' ⟨rfl, hb⟩
      replace HS := Lib.hid (HS.out.below hb (Nat.le_refl _))
      clear hb k0 k1 k2 k3 k4 k5 C7
      obtain ⟨k0, k1, k2, k3, k4, k5⟩ := HS.out.bx.six
      go_wp2_with fail
      refine (C8.out _ HS.out.gl HS.out.glr).mono ?_
      rintro _ w' ⟨rfl, hb⟩
      replace HS := Lib.hid (HS.out.below hb (Nat.le_refl _))
      clear hb k0 k1 k2 k3 k4 k5 C8
      obtain ⟨k0, k1, k2, k3, k4, k5⟩ := HS.out.bx.six
      go_wp2_with fail
      go_ret
      exact ⟨by simp, HS.out.bl⟩
    · rw [hx0] at s7
      clear s8 S7 S8 RB
      refine wp_region_held_drew (S := (fun v => v.cell? ⟨w.heap.size, 0, none⟩ = some (.int .i64 n) ∧ Below w'.heap.size w' v)) (by kernel_rfl) ⟨k0, (Below.refl _ _).drew⟩ (fun hHeld => ?_)
      refine wpAnyH_take (i := 0) (oi := ?oiq1) (v := ?vq1) ?hiq1 ?hsq1 ?hfq1 ?hrq1 ?hqq1 ?hyq1 ?hSq1 ?restq1
      case hiq1 => (simp only [List.getElem?_toArray, List.getElem?_cons_succ, List.getElem?_cons_zero]; exact rfl)
      case hsq1 => kernel_rfl
      case hfq1 => kernel_rfl
      case hrq1 => kernel_rfl
      case hqq1 => (exact fun _ _ _ h => h)
      case hyq1 =>
        refine Or.inl ⟨rfl, ?_⟩
        intro wq hSw
        obtain ⟨hSw, -⟩ := hSw
        first | (go_simp; done) | (go_simp; with_reducible rfl)
      case hSq1 => assumption
      try simp only [Act.put, List.setIfInBounds_toArray, List.set_cons_zero, List.set_cons_succ]
      refine wpAnyH_take (i := 1) (oi := ?oiq2) (v := ?vq2) ?hiq2 ?hsq2 ?hfq2 ?hrq2 ?hqq2 ?hyq2 ?hSq2 ?restq2
      case hiq2 => (simp only [List.getElem?_toArray, List.getElem?_cons_succ, List.getElem?_cons_zero]; exact rfl)
      case hsq2 => kernel_rfl
      case hfq2 => kernel_rfl
      case hrq2 => kernel_rfl
      case hqq2 => (exact fun _ _ _ h => h)
      case hyq2 =>
        refine Or.inl ⟨rfl, ?_⟩
        intro wq hSw
        obtain ⟨hSw, -⟩ := hSw
        first | (go_simp; done) | (go_simp; with_reducible rfl)
      case hSq2 => assumption
      try simp only [Act.put, List.setIfInBounds_toArray, List.set_cons_zero, List.set_cons_succ]
      refine wpAnyH_take (i := 2) (oi := ?oiq3) (v := ?vq3) ?hiq3 ?hsq3 ?hfq3 ?hrq3 ?hqq3 ?hyq3 ?hSq3 ?restq3
      case hiq3 => (simp only [List.getElem?_toArray, List.getElem?_cons_succ, List.getElem?_cons_zero]; exact rfl)
      case hsq3 => kernel_rfl
      case hfq3 => kernel_rfl
      case hrq3 => kernel_rfl
      case hqq3 => (exact fun _ _ _ h => h)
      case hyq3 =>
        refine Or.inl ⟨rfl, ?_⟩
        intro wq hSw
        obtain ⟨hSw, -⟩ := hSw
        first | (go_simp; done) | (go_simp; with_reducible rfl)
      case hSq3 => assumption
      try simp only [Act.put, List.setIfInBounds_toArray, List.set_cons_zero, List.set_cons_succ]
      refine wpAnyH_take (i := 3) (oi := ?oiq4) (v := ?vq4) ?hiq4 ?hsq4 ?hfq4 ?hrq4 ?hqq4 ?hyq4 ?hSq4 ?restq4
      case hiq4 => (simp only [List.getElem?_toArray, List.getElem?_cons_succ, List.getElem?_cons_zero]; exact rfl)
      case hsq4 => kernel_rfl
      case hfq4 => kernel_rfl
      case hrq4 => kernel_rfl
      case hqq4 => (exact fun _ _ _ h => h)
      case hyq4 =>
        refine Or.inl ⟨rfl, ?_⟩
        intro wq hSw
        obtain ⟨hSw, -⟩ := hSw
        first | (go_simp; done) | (go_simp; with_reducible rfl)
      case hSq4 => assumption
      try simp only [Act.put, List.setIfInBounds_toArray, List.set_cons_zero, List.set_cons_succ]
      refine wpAnyH_take (i := 4) (oi := ?oiq5) (v := ?vq5) ?hiq5 ?hsq5 ?hfq5 ?hrq5 ?hqq5 ?hyq5 ?hSq5 ?restq5
      case hiq5 => (simp only [List.getElem?_toArray, List.getElem?_cons_succ, List.getElem?_cons_zero]; exact rfl)
      case hsq5 => kernel_rfl
      case hfq5 => kernel_rfl
      case hrq5 => kernel_rfl
      case hqq5 => (exact fun _ _ _ h => h)
      case hyq5 =>
        refine Or.inl ⟨rfl, ?_⟩
        intro wq hSw
        obtain ⟨hSw, -⟩ := hSw
        first | (go_simp; done) | (go_simp; with_reducible rfl)
      case hSq5 => assumption
      try simp only [Act.put, List.setIfInBounds_toArray, List.set_cons_zero, List.set_cons_succ]
      refine wpAnyH_take (i := 5) (oi := ?oiq6) (v := ?vq6) ?hiq6 ?hsq6 ?hfq6 ?hrq6 ?hqq6 ?hyq6 ?hSq6 ?restq6
      case hiq6 => (simp only [List.getElem?_toArray, List.getElem?_cons_succ, List.getElem?_cons_zero]; exact rfl)
      case hsq6 => kernel_rfl
      case hfq6 => kernel_rfl
      case hrq6 => kernel_rfl
      case hqq6 => (exact fun _ _ _ h => h)
      case hyq6 =>
        refine Or.inl ⟨rfl, ?_⟩
        intro wq hSw
        obtain ⟨hSw, -⟩ := hSw
        first | (go_simp; done) | (go_simp; with_reducible rfl)
      case hSq6 => assumption
      try simp only [Act.put, List.setIfInBounds_toArray, List.set_cons_zero, List.set_cons_succ]
      refine wpAnyH_take (i := 6) (oi := ?oiq7) (v := ?vq7) ?hiq7 ?hsq7 ?hfq7 ?hrq7 ?hqq7 ?hyq7 ?hSq7 ?restq7
      case hiq7 => (simp only [List.getElem?_toArray, List.getElem?_cons_succ, List.getElem?_cons_zero]; exact rfl)
      case hsq7 => kernel_rfl
      case hfq7 => kernel_rfl
      case hrq7 => kernel_rfl
      case hqq7 => (exact fun _ _ _ h => h)
      case hyq7 =>
        refine Or.inl ⟨rfl, ?_⟩
        intro wq hSw
        obtain ⟨hSw, -⟩ := hSw
        first | (go_simp; done) | (go_simp; with_reducible rfl)
      case hSq7 => assumption
      try simp only [Act.put, List.setIfInBounds_toArray, List.set_cons_zero, List.set_cons_succ]
      refine wpAnyH_take (i := 7) (oi := ?oiq8) (v := ?vq8) ?hiq8 ?hsq8 ?hfq8 ?hrq8 ?hqq8 ?hyq8 ?hSq8 ?restq8
      case hiq8 => (simp only [List.getElem?_toArray, List.getElem?_cons_succ, List.getElem?_cons_zero]; exact rfl)
      case hsq8 => kernel_rfl
      case hfq8 => kernel_rfl
      case hrq8 => kernel_rfl
      case hqq8 => (exact fun _ _ _ h => h)
      case hyq8 =>
        refine Or.inl ⟨rfl, ?_⟩
        intro wq hSw
        obtain ⟨hSw, -⟩ := hSw
        first | (go_simp; done) | (go_simp; with_reducible rfl)
      case hSq8 => assumption
      try simp only [Act.put, List.setIfInBounds_toArray, List.set_cons_zero, List.set_cons_succ]
      refine wpAnyH_take (i := 8) (oi := ?oiq9) (v := ?vq9) ?hiq9 ?hsq9 ?hfq9 ?hrq9 ?hqq9 ?hyq9 ?hSq9 ?restq9
      case hiq9 => (simp only [List.getElem?_toArray, List.getElem?_cons_succ, List.getElem?_cons_zero]; exact rfl)
      case hsq9 => kernel_rfl
      case hfq9 => kernel_rfl
      case hrq9 => kernel_rfl
      case hqq9 => (exact fun _ _ _ h => h)
      case hyq9 =>
        refine Or.inl ⟨rfl, ?_⟩
        intro wq hSw
        obtain ⟨hSw, -⟩ := hSw
        first | (go_simp; done) | (go_simp; with_reducible rfl)
      case hSq9 => assumption
      try simp only [Act.put, List.setIfInBounds_toArray, List.set_cons_zero, List.set_cons_succ]
      refine wpAnyH_take (i := 9) (oi := ?oiq10) (v := ?vq10) ?hiq10 ?hsq10 ?hfq10 ?hrq10 ?hqq10 ?hyq10 ?hSq10 ?restq10
      case hiq10 => (simp only [List.getElem?_toArray, List.getElem?_cons_succ, List.getElem?_cons_zero]; exact rfl)
      case hsq10 => kernel_rfl
      case hfq10 => kernel_rfl
      case hrq10 => kernel_rfl
      case hqq10 => (exact fun _ _ _ h => h)
      case hyq10 =>
        refine Or.inl ⟨rfl, ?_⟩
        intro wq hSw
        obtain ⟨hSw, -⟩ := hSw
        first | (go_simp; done) | (go_simp; with_reducible rfl)
      case hSq10 => assumption
      try simp only [Act.put, List.setIfInBounds_toArray, List.set_cons_zero, List.set_cons_succ]
      refine wpAnyH_take (i := 10) (oi := ?oiq11) (v := ?vq11) ?hiq11 ?hsq11 ?hfq11 ?hrq11 ?hqq11 ?hyq11 ?hSq11 ?restq11
      case hiq11 => (simp only [List.getElem?_toArray, List.getElem?_cons_succ, List.getElem?_cons_zero]; exact rfl)
      case hsq11 => kernel_rfl
      case hfq11 => kernel_rfl
      case hrq11 => kernel_rfl
      case hqq11 => (exact fun _ _ _ h => h)
      case hyq11 =>
        refine Or.inl ⟨rfl, ?_⟩
        intro wq hSw
        obtain ⟨hSw, -⟩ := hSw
        first | (go_simp; done) | (go_simp; with_reducible rfl)
      case hSq11 => assumption
      try simp only [Act.put, List.setIfInBounds_toArray, List.set_cons_zero, List.set_cons_succ]
      refine wpAnyH_take (i := 12) (oi := ?oiq12) (v := ?vq12) ?hiq12 ?hsq12 ?hfq12 ?hrq12 ?hqq12 ?hyq12 ?hSq12 ?restq12
      case hiq12 => (simp only [List.getElem?_toArray, List.getElem?_cons_succ, List.getElem?_cons_zero]; exact rfl)
      case hsq12 => kernel_rfl
      case hfq12 => kernel_rfl
      case hrq12 => kernel_rfl
      case hqq12 => (exact fun _ _ _ h => h)
      case hyq12 =>
        refine Or.inl ⟨rfl, ?_⟩
        intro wq hSw
        obtain ⟨hSw, -⟩ := hSw
        first | (go_simp; done) | (go_simp; with_reducible rfl)
      case hSq12 => assumption
      try simp only [Act.put, List.setIfInBounds_toArray, List.set_cons_zero, List.set_cons_succ]
      refine wpAnyH_take (i := 13) (oi := ?oiq13) (v := ?vq13) ?hiq13 ?hsq13 ?hfq13 ?hrq13 ?hqq13 ?hyq13 ?hSq13 ?restq13
      case hiq13 => (simp only [List.getElem?_toArray, List.getElem?_cons_succ, List.getElem?_cons_zero]; exact rfl)
      case hsq13 => kernel_rfl
      case hfq13 => kernel_rfl
      case hrq13 => kernel_rfl
      case hqq13 => (exact fun _ _ _ h => h)
      case hyq13 =>
        refine Or.inl ⟨rfl, ?_⟩
        intro wq hSw
        obtain ⟨hSw, -⟩ := hSw
        first | (go_simp; done) | (go_simp; with_reducible rfl)
      case hSq13 => assumption
      try simp only [Act.put, List.setIfInBounds_toArray, List.set_cons_zero, List.set_cons_succ]
      refine wpAnyH_take (i := 14) (oi := ?oiq14) (v := ?vq14) ?hiq14 ?hsq14 ?hfq14 ?hrq14 ?hqq14 ?hyq14 ?hSq14 ?restq14
      case hiq14 => (simp only [List.getElem?_toArray, List.getElem?_cons_succ, List.getElem?_cons_zero]; exact rfl)
      case hsq14 => kernel_rfl
      case hfq14 => kernel_rfl
      case hrq14 => kernel_rfl
      case hqq14 => (exact fun _ _ _ h => h)
      case hyq14 =>
        refine Or.inl ⟨rfl, ?_⟩
        intro wq hSw
        obtain ⟨hSw, -⟩ := hSw
        first | (go_simp; done) | (go_simp; with_reducible rfl)
      case hSq14 => assumption
      try simp only [Act.put, List.setIfInBounds_toArray, List.set_cons_zero, List.set_cons_succ]
      refine wpAnyH_ready (rs := [11]) (by kernel_rfl) (by simp) ?_
      refine AllReadyH.cons (o := ?oiq15) ?hiq15 (fun K hK => ?_) ?_
      case hiq15 => (simp only [List.getElem?_toArray, List.getElem?_cons_succ, List.getElem?_cons_zero]; exact rfl)
      · go_simp
        go_at_call 44
        refine (CN.out _ _ ?_).mono ?_
        (first | exact Or.inl rfl | exact Or.inr rfl)
        rintro _ wz ⟨rfl, hb1⟩
        first | go_wp2_with fail | skip
        refine hK.out _ _ ⟨keep_cell hb1 hHeld.1, keep_below hHeld.2 hb1⟩ (fun hHeld => ?_)
        clear hK K
        try simp only [Act.put, List.setIfInBounds_toArray, List.set_cons_zero, List.set_cons_succ]
        refine wpAnyH_ready (rs := [15]) (by kernel_rfl) (by simp) ?_
        refine AllReadyH.cons (o := ?oiq16) ?hiq16 (fun K hK => ?_) ?_
        case hiq16 => (simp only [List.getElem?_toArray, List.getElem?_cons_succ, List.getElem?_cons_zero]; exact rfl)
        · go_simp
          go_at_call 44
          refine (CN.out _ _ ?_).mono ?_
          (first | exact Or.inl rfl | exact Or.inr rfl)
          rintro _ wz ⟨rfl, hb1⟩
          first | go_wp2_with fail | skip
          refine hK.out _ _ ⟨keep_cell hb1 hHeld.1, keep_below hHeld.2 hb1⟩ (fun hHeld => ?_)
          clear hK K
          try simp only [Act.put, List.setIfInBounds_toArray, List.set_cons_zero, List.set_cons_succ]
          refine wpAnyH_take (i := 16) (oi := ?oiq17) (v := ?vq17) ?hiq17 ?hsq17 ?hfq17 ?hrq17 ?hqq17 ?hyq17 ?hSq17 ?restq17
          case hiq17 => (simp only [List.getElem?_toArray, List.getElem?_cons_succ, List.getElem?_cons_zero]; exact rfl)
          case hsq17 => kernel_rfl
          case hfq17 => kernel_rfl
          case hrq17 => kernel_rfl
          case hqq17 => (exact fun _ _ _ h => h)
          case hyq17 =>
            refine Or.inl ⟨rfl, ?_⟩
            intro wq hSw
            obtain ⟨hSw, -⟩ := hSw
            first | (go_simp; done) | (go_simp; with_reducible rfl)
          case hSq17 => assumption
          try simp only [Act.put, List.setIfInBounds_toArray, List.set_cons_zero, List.set_cons_succ]
          refine wpAnyH_take (i := 17) (oi := ?oiq18) (v := ?vq18) ?hiq18 ?hsq18 ?hfq18 ?hrq18 ?hqq18 ?hyq18 ?hSq18 ?restq18
          case hiq18 => (simp only [List.getElem?_toArray, List.getElem?_cons_succ, List.getElem?_cons_zero]; exact rfl)
          case hsq18 => kernel_rfl
          case hfq18 => kernel_rfl
          case hrq18 => kernel_rfl
          case hqq18 => (exact fun _ _ _ h => h)
          case hyq18 =>
            refine Or.inl ⟨rfl, ?_⟩
            intro wq hSw
            obtain ⟨hSw, -⟩ := hSw
            first | (go_simp; done) | (go_simp; with_reducible rfl)
          case hSq18 => assumption
          try simp only [Act.put, List.setIfInBounds_toArray, List.set_cons_zero, List.set_cons_succ]
          refine wpAnyH_take (i := 18) (oi := ?oiq19) (v := ?vq19) ?hiq19 ?hsq19 ?hfq19 ?hrq19 ?hqq19 ?hyq19 ?hSq19 ?restq19
          case hiq19 => (simp only [List.getElem?_toArray, List.getElem?_cons_succ, List.getElem?_cons_zero]; exact rfl)
          case hsq19 => kernel_rfl
          case hfq19 => kernel_rfl
          case hrq19 => kernel_rfl
          case hqq19 => (exact fun _ _ _ h => h)
          case hyq19 =>
            refine Or.inl ⟨rfl, ?_⟩
            intro wq hSw
            obtain ⟨hSw, -⟩ := hSw
            first | (go_simp; done) | (go_simp; with_reducible rfl)
          case hSq19 => assumption
          try simp only [Act.put, List.setIfInBounds_toArray, List.set_cons_zero, List.set_cons_succ]
          refine wpAnyH_take (i := 19) (oi := ?oiq20) (v := ?vq20) ?hiq20 ?hsq20 ?hfq20 ?hrq20 ?hqq20 ?hyq20 ?hSq20 ?restq20
          case hiq20 => (simp only [List.getElem?_toArray, List.getElem?_cons_succ, List.getElem?_cons_zero]; exact rfl)
          case hsq20 => kernel_rfl
          case hfq20 => kernel_rfl
          case hrq20 => kernel_rfl
          case hqq20 => (exact fun _ _ _ h => h)
          case hyq20 =>
            refine Or.inl ⟨rfl, ?_⟩
            intro wq hSw
            obtain ⟨hSw, -⟩ := hSw
            first | (go_simp; done) | (go_simp; with_reducible rfl)
          case hSq20 => assumption
          try simp only [Act.put, List.setIfInBounds_toArray, List.set_cons_zero, List.set_cons_succ]
          refine wpAnyH_take (i := 20) (oi := ?oiq21) (v := ?vq21) ?hiq21 ?hsq21 ?hfq21 ?hrq21 ?hqq21 ?hyq21 ?hSq21 ?restq21
          case hiq21 => (simp only [List.getElem?_toArray, List.getElem?_cons_succ, List.getElem?_cons_zero]; exact rfl)
          case hsq21 => kernel_rfl
          case hfq21 => kernel_rfl
          case hrq21 => kernel_rfl
          case hqq21 => (exact fun _ _ _ h => h)
          case hyq21 =>
            refine Or.inl ⟨rfl, ?_⟩
            intro wq hSw
            obtain ⟨hSw, -⟩ := hSw
            first | (go_simp; done) | (go_simp; with_reducible rfl)
          case hSq21 => assumption
          try simp only [Act.put, List.setIfInBounds_toArray, List.set_cons_zero, List.set_cons_succ]
          refine wpAnyH_take (i := 21) (oi := ?oiq22) (v := ?vq22) ?hiq22 ?hsq22 ?hfq22 ?hrq22 ?hqq22 ?hyq22 ?hSq22 ?restq22
          case hiq22 => (simp only [List.getElem?_toArray, List.getElem?_cons_succ, List.getElem?_cons_zero]; exact rfl)
          case hsq22 => kernel_rfl
          case hfq22 => kernel_rfl
          case hrq22 => kernel_rfl
          case hqq22 => (exact fun _ _ _ h => h)
          case hyq22 =>
            refine Or.inl ⟨rfl, ?_⟩
            intro wq hSw
            obtain ⟨hSw, -⟩ := hSw
            first | (go_simp; done) | (go_simp; with_reducible rfl)
          case hSq22 => assumption
          try simp only [Act.put, List.setIfInBounds_toArray, List.set_cons_zero, List.set_cons_succ]
          refine wpAnyH_ready (rs := [22]) (by kernel_rfl) (by simp) ?_
          refine AllReadyH.cons (o := ?oiq23) ?hiq23 (fun K hK => ?_) ?_
          case hiq23 => (simp only [List.getElem?_toArray, List.getElem?_cons_succ, List.getElem?_cons_zero]; exact rfl)
          · go_simp
            go_at_call 44
            refine (CN.out _ _ ?_).mono ?_
            (first | exact Or.inl rfl | exact Or.inr rfl)
            rintro _ wz ⟨rfl, hb1⟩
            first | go_wp2_with fail | skip
            refine hK.out _ _ ⟨keep_cell hb1 hHeld.1, keep_below hHeld.2 hb1⟩ (fun hHeld => ?_)
            clear hK K
            try simp only [Act.put, List.setIfInBounds_toArray, List.set_cons_zero, List.set_cons_succ]
            refine wpAnyH_take (i := 23) (oi := ?oiq24) (v := ?vq24) ?hiq24 ?hsq24 ?hfq24 ?hrq24 ?hqq24 ?hyq24 ?hSq24 ?restq24
            case hiq24 => (simp only [List.getElem?_toArray, List.getElem?_cons_succ, List.getElem?_cons_zero]; exact rfl)
            case hsq24 => kernel_rfl
            case hfq24 => kernel_rfl
            case hrq24 => kernel_rfl
            case hqq24 => (exact fun _ _ _ h => h)
            case hyq24 =>
              refine Or.inl ⟨rfl, ?_⟩
              intro wq hSw
              obtain ⟨hSw, -⟩ := hSw
              first | (go_simp; done) | (go_simp; with_reducible rfl)
            case hSq24 => assumption
            try simp only [Act.put, List.setIfInBounds_toArray, List.set_cons_zero, List.set_cons_succ]
            refine wpAnyH_take (i := 24) (oi := ?oiq25) (v := ?vq25) ?hiq25 ?hsq25 ?hfq25 ?hrq25 ?hqq25 ?hyq25 ?hSq25 ?restq25
            case hiq25 => (simp only [List.getElem?_toArray, List.getElem?_cons_succ, List.getElem?_cons_zero]; exact rfl)
            case hsq25 => kernel_rfl
            case hfq25 => kernel_rfl
            case hrq25 => kernel_rfl
            case hqq25 => (exact fun _ _ _ h => h)
            case hyq25 =>
              refine Or.inl ⟨rfl, ?_⟩
              intro wq hSw
              obtain ⟨hSw, -⟩ := hSw
              first | (go_simp; done) | (go_simp; with_reducible rfl)
            case hSq25 => assumption
            try simp only [Act.put, List.setIfInBounds_toArray, List.set_cons_zero, List.set_cons_succ]
            refine wpAnyH_take (i := 25) (oi := ?oiq26) (v := undef) ?hiq26 ?hsq26 ?hfq26 ?hrq26 ?hqq26 ?hyq26 ?hSq26 ?restq26
            case hiq26 => (simp only [List.getElem?_toArray, List.getElem?_cons_succ, List.getElem?_cons_zero]; exact rfl)
            case hsq26 => kernel_rfl
            case hfq26 => kernel_rfl
            case hrq26 => kernel_rfl
            case hqq26 => (exact fun _ _ _ h => h)
            case hyq26 => (exact Or.inr ⟨by rfl, rfl⟩)
            case hSq26 => assumption
            try simp only [Act.put, List.setIfInBounds_toArray, List.set_cons_zero, List.set_cons_succ]
            refine wpAnyH_take (i := 26) (oi := ?oiq27) (v := undef) ?hiq27 ?hsq27 ?hfq27 ?hrq27 ?hqq27 ?hyq27 ?hSq27 ?restq27
            case hiq27 => (simp only [List.getElem?_toArray, List.getElem?_cons_succ, List.getElem?_cons_zero]; exact rfl)
            case hsq27 => kernel_rfl
            case hfq27 => kernel_rfl
            case hrq27 => kernel_rfl
            case hqq27 => (exact fun _ _ _ h => h)
            case hyq27 => (exact Or.inr ⟨by rfl, rfl⟩)
            case hSq27 => assumption
            try simp only [Act.put, List.setIfInBounds_toArray, List.set_cons_zero, List.set_cons_succ]
            refine wpAnyH_take (i := 27) (oi := ?oiq28) (v := undef) ?hiq28 ?hsq28 ?hfq28 ?hrq28 ?hqq28 ?hyq28 ?hSq28 ?restq28
            case hiq28 => (simp only [List.getElem?_toArray, List.getElem?_cons_succ, List.getElem?_cons_zero]; exact rfl)
            case hsq28 => kernel_rfl
            case hfq28 => kernel_rfl
            case hrq28 => kernel_rfl
            case hqq28 => (exact fun _ _ _ h => h)
            case hyq28 => (exact Or.inr ⟨by rfl, rfl⟩)
            case hSq28 => assumption
            try simp only [Act.put, List.setIfInBounds_toArray, List.set_cons_zero, List.set_cons_succ]
            refine wpAnyH_take (i := 28) (oi := ?oiq29) (v := undef) ?hiq29 ?hsq29 ?hfq29 ?hrq29 ?hqq29 ?hyq29 ?hSq29 ?restq29
            case hiq29 => (simp only [List.getElem?_toArray, List.getElem?_cons_succ, List.getElem?_cons_zero]; exact rfl)
            case hsq29 => kernel_rfl
            case hfq29 => kernel_rfl
            case hrq29 => kernel_rfl
            case hqq29 => (exact fun _ _ _ h => h)
            case hyq29 => (exact Or.inr ⟨by rfl, rfl⟩)
            case hSq29 => assumption
            try simp only [Act.put, List.setIfInBounds_toArray, List.set_cons_zero, List.set_cons_succ]
            refine wpAnyH_take (i := 29) (oi := ?oiq30) (v := undef) ?hiq30 ?hsq30 ?hfq30 ?hrq30 ?hqq30 ?hyq30 ?hSq30 ?restq30
            case hiq30 => (simp only [List.getElem?_toArray, List.getElem?_cons_succ, List.getElem?_cons_zero]; exact rfl)
            case hsq30 => kernel_rfl
            case hfq30 => kernel_rfl
            case hrq30 => kernel_rfl
            case hqq30 => (exact fun _ _ _ h => h)
            case hyq30 => (exact Or.inr ⟨by rfl, rfl⟩)
            case hSq30 => assumption
            try simp only [Act.put, List.setIfInBounds_toArray, List.set_cons_zero, List.set_cons_succ]
            refine wpAnyH_take (i := 30) (oi := ?oiq31) (v := undef) ?hiq31 ?hsq31 ?hfq31 ?hrq31 ?hqq31 ?hyq31 ?hSq31 ?restq31
            case hiq31 => (simp only [List.getElem?_toArray, List.getElem?_cons_succ, List.getElem?_cons_zero]; exact rfl)
            case hsq31 => kernel_rfl
            case hfq31 => kernel_rfl
            case hrq31 => kernel_rfl
            case hqq31 => (exact fun _ _ _ h => h)
            case hyq31 => (exact Or.inr ⟨by rfl, rfl⟩)
            case hSq31 => assumption
            try simp only [Act.put, List.setIfInBounds_toArray, List.set_cons_zero, List.set_cons_succ]
            refine wpAnyH_take (i := 31) (oi := ?oiq32) (v := undef) ?hiq32 ?hsq32 ?hfq32 ?hrq32 ?hqq32 ?hyq32 ?hSq32 ?restq32
            case hiq32 => (simp only [List.getElem?_toArray, List.getElem?_cons_succ, List.getElem?_cons_zero]; exact rfl)
            case hsq32 => kernel_rfl
            case hfq32 => kernel_rfl
            case hrq32 => kernel_rfl
            case hqq32 => (exact fun _ _ _ h => h)
            case hyq32 => (exact Or.inr ⟨by rfl, rfl⟩)
            case hSq32 => assumption
            try simp only [Act.put, List.setIfInBounds_toArray, List.set_cons_zero, List.set_cons_succ]
            refine wpAnyH_take (i := 32) (oi := ?oiq33) (v := undef) ?hiq33 ?hsq33 ?hfq33 ?hrq33 ?hqq33 ?hyq33 ?hSq33 ?restq33
            case hiq33 => (simp only [List.getElem?_toArray, List.getElem?_cons_succ, List.getElem?_cons_zero]; exact rfl)
            case hsq33 => kernel_rfl
            case hfq33 => kernel_rfl
            case hrq33 => kernel_rfl
            case hqq33 => (exact fun _ _ _ h => h)
            case hyq33 => (exact Or.inr ⟨by rfl, rfl⟩)
            case hSq33 => assumption
            try simp only [Act.put, List.setIfInBounds_toArray, List.set_cons_zero, List.set_cons_succ]
            refine wpAnyH_take (i := 33) (oi := ?oiq34) (v := undef) ?hiq34 ?hsq34 ?hfq34 ?hrq34 ?hqq34 ?hyq34 ?hSq34 ?restq34
            case hiq34 => (simp only [List.getElem?_toArray, List.getElem?_cons_succ, List.getElem?_cons_zero]; exact rfl)
            case hsq34 => kernel_rfl
            case hfq34 => kernel_rfl
            case hrq34 => kernel_rfl
            case hqq34 => (exact fun _ _ _ h => h)
            case hyq34 => (exact Or.inr ⟨by rfl, rfl⟩)
            case hSq34 => assumption
            try simp only [Act.put, List.setIfInBounds_toArray, List.set_cons_zero, List.set_cons_succ]
            refine wpAnyH_take (i := 34) (oi := ?oiq35) (v := undef) ?hiq35 ?hsq35 ?hfq35 ?hrq35 ?hqq35 ?hyq35 ?hSq35 ?restq35
            case hiq35 => (simp only [List.getElem?_toArray, List.getElem?_cons_succ, List.getElem?_cons_zero]; exact rfl)
            case hsq35 => kernel_rfl
            case hfq35 => kernel_rfl
            case hrq35 => kernel_rfl
            case hqq35 => (exact fun _ _ _ h => h)
            case hyq35 => (exact Or.inr ⟨by rfl, rfl⟩)
            case hSq35 => assumption
            try simp only [Act.put, List.setIfInBounds_toArray, List.set_cons_zero, List.set_cons_succ]
            refine wpAnyH_take (i := 35) (oi := ?oiq36) (v := ?vq36) ?hiq36 ?hsq36 ?hfq36 ?hrq36 ?hqq36 ?hyq36 ?hSq36 ?restq36
            case hiq36 => (simp only [List.getElem?_toArray, List.getElem?_cons_succ, List.getElem?_cons_zero]; exact rfl)
            case hsq36 => kernel_rfl
            case hfq36 => kernel_rfl
            case hrq36 => kernel_rfl
            case hqq36 => (exact fun _ _ _ h => h)
            case hyq36 =>
              refine Or.inl ⟨rfl, ?_⟩
              intro wq hSw
              obtain ⟨hSw, -⟩ := hSw
              first | (go_simp; done) | (go_simp; with_reducible rfl)
            case hSq36 => assumption
            try simp only [Act.put, List.setIfInBounds_toArray, List.set_cons_zero, List.set_cons_succ]
            refine wpAnyH_take (i := 36) (oi := ?oiq37) (v := ?vq37) ?hiq37 ?hsq37 ?hfq37 ?hrq37 ?hqq37 ?hyq37 ?hSq37 ?restq37
            case hiq37 => (simp only [List.getElem?_toArray, List.getElem?_cons_succ, List.getElem?_cons_zero]; exact rfl)
            case hsq37 => kernel_rfl
            case hfq37 => kernel_rfl
            case hrq37 => kernel_rfl
            case hqq37 => (exact fun _ _ _ h => h)
            case hyq37 =>
              refine Or.inl ⟨rfl, ?_⟩
              intro wq hSw
              obtain ⟨hSw, -⟩ := hSw
              first | (go_simp; done) | (go_simp; with_reducible rfl)
            case hSq37 => assumption
            try simp only [Act.put, List.setIfInBounds_toArray, List.set_cons_zero, List.set_cons_succ]
            refine wpAnyH_done (by kernel_rfl) ?_ _
            have hHold := hHeld
            replace HS := Lib.hid (HS.out.below hHold.2 (Nat.le_refl _))
            clear hHold hHeld hb1 k0 k1 k2 k3 k4 k5 CN CR
            obtain ⟨k0, k1, k2, k3, k4, k5⟩ := HS.out.bx.six
            go_wp2_with fail
            refine (C7.out _ HS.out.gl HS.out.glr).mono ?_
            rintro _ w' ⟨rfl, hb⟩
            replace HS := Lib.hid (HS.out.below hb (Nat.le_refl _))
            clear hb k0 k1 k2 k3 k4 k5 C7
            obtain ⟨k0, k1, k2, k3, k4, k5⟩ := HS.out.bx.six
            go_wp2_with fail
            refine (C8.out _ HS.out.gl HS.out.glr).mono ?_
            rintro _ w' ⟨rfl, hb⟩
            replace HS := Lib.hid (HS.out.below hb (Nat.le_refl _))
            clear hb k0 k1 k2 k3 k4 k5 C8
            obtain ⟨k0, k1, k2, k3, k4, k5⟩ := HS.out.bx.six
            go_wp2_with fail
            go_ret
            exact ⟨by simp, HS.out.bl⟩
          exact AllReadyH.nil
        exact AllReadyH.nil
      exact AllReadyH.nil

end Go.Proofs.YtcgceigmglikpaaDoor
