/- The walk of addsub.sum. Printed by gen/addsum.py. -/
import Derived.Test.YtlibhfojfonfjaaGreatDoorAddA
import Derived.Test.YtlibhfojfonfjaaGreatDoorAddS
import Derived.Test.YtlibhfojfonfjaaGreatDoorPackM
namespace Go.Proofs.YtlibhfojfonfjaaGreatDoor
set_option linter.unusedVariables false
set_option linter.unusedSimpArgs false
open Go.RowKit

theorem wv_small {n : Nat} (h : n < 18446744073709551616) : Value.agg #[.int .u64 0, .int .u64 n] = WV n := by
  rw [WV_eq, Nat.div_eq_of_lt h, Nat.mod_eq_of_lt h]; rfl

theorem Bx.wide0 {w : World} {g k : Nat} (hb : Bx w g #[.int .u64 0, .int .u64 k]) : w.cell? ⟨g, 0, none⟩ = some (.int .u64 0) ∧ w.cell? ⟨g, 1, none⟩ = some (.int .u64 k) := ⟨hb.cell 0 rfl, hb.cell 1 rfl⟩

theorem Bx.four {w : World} {q : Nat} {a b c d : Value} (h1 : Bx w q #[a, b]) (h2 : Bx w (q + 1) #[c, d]) (x y z u : Value) :
    Bx ((((w.setCell ⟨q, 0, none⟩ x).setCell ⟨q, 1, none⟩ y).setCell ⟨q + 1, 0, none⟩ z).setCell ⟨q + 1, 1, none⟩ u) q #[x, y] ∧ Bx ((((w.setCell ⟨q, 0, none⟩ x).setCell ⟨q, 1, none⟩ y).setCell ⟨q + 1, 0, none⟩ z).setCell ⟨q + 1, 1, none⟩ u) (q + 1) #[z, u] :=
  ⟨(((h1.set2 x y).other (p := ⟨q + 1, 0, none⟩) (by show q + 1 ≠ q; omega) z).other (p := ⟨q + 1, 1, none⟩) (by show q + 1 ≠ q; omega) u), (((h2.other (p := ⟨q, 0, none⟩) (by show q ≠ q + 1; omega) x).other (p := ⟨q, 1, none⟩) (by show q ≠ q + 1; omega) y).set2 z u)⟩

theorem below_four {B : Nat} {w0 w : World} (h : Below B w0 w) {q : Nat} (hq : B ≤ q) (x y z u : Value) : Below B w0 ((((w.setCell ⟨q, 0, none⟩ x).setCell ⟨q, 1, none⟩ y).setCell ⟨q + 1, 0, none⟩ z).setCell ⟨q + 1, 1, none⟩ u) :=
  below_two (below_two h hq x y) (Nat.le_succ_of_le hq) z u

/-- behind the exchange -/
structure Mid (F : Fm) (m : Nat) (r : Nat × Nat) (s : Bool) (n : Nat) (e : Int) (t : Bool) (k : Nat) (g : Int) : Prop where
  zero : n = 0 → k = 0 ∧ s ≠ t
  le : k ≠ 0 → g ≤ e
  b : n < 2 ^ 53 ∧ k < 2 ^ 53 ∧ -2000 ≤ e ∧ e ≤ 2000 ∧ -2000 ≤ g ∧ g ≤ 2000
  r : r = sumN F m s n e t k g

theorem Bx.six3 {w : World} {g6 g7 : Nat} {s t : Bool} {n k : Nat} {e g : Int} (h6 : Bx w g6 (nmA s n e)) (h7 : Bx w g7 (nmA t k g)) (hne : g6 ≠ g7) (a b : Bool) (x y : Nat) (u v : Int) :
    Bx ((((((w.setCell ⟨g6, 0, none⟩ (.bool a)).setCell ⟨g6, 1, none⟩ (.int .u64 x)).setCell ⟨g6, 2, none⟩ (.int .i64 u)).setCell ⟨g7, 0, none⟩ (.bool b)).setCell ⟨g7, 1, none⟩ (.int .u64 y)).setCell ⟨g7, 2, none⟩ (.int .i64 v)) g6 (nmA a x u) ∧
    Bx ((((((w.setCell ⟨g6, 0, none⟩ (.bool a)).setCell ⟨g6, 1, none⟩ (.int .u64 x)).setCell ⟨g6, 2, none⟩ (.int .i64 u)).setCell ⟨g7, 0, none⟩ (.bool b)).setCell ⟨g7, 1, none⟩ (.int .u64 y)).setCell ⟨g7, 2, none⟩ (.int .i64 v)) g7 (nmA b y v) := by
  have h1 := h6.set3' (.bool a) (.int .u64 x) (.int .i64 u)
  have h2 := ((h7.other (p := ⟨g6, 0, none⟩) hne (.bool a)).other (p := ⟨g6, 1, none⟩) hne (.int .u64 x)).other (p := ⟨g6, 2, none⟩) hne (.int .i64 u)
  exact ⟨((h1.other (p := ⟨g7, 0, none⟩) hne.symm (.bool b)).other (p := ⟨g7, 1, none⟩) hne.symm (.int .u64 y)).other (p := ⟨g7, 2, none⟩) hne.symm (.int .i64 v), h2.set3' (.bool b) (.int .u64 y) (.int .i64 v)⟩

theorem below_six {B : Nat} {w0 w : World} (h : Below B w0 w) {g6 g7 : Nat} (h6 : B ≤ g6) (h7 : B ≤ g7) (a b c x y z : Value) :
    Below B w0 ((((((w.setCell ⟨g6, 0, none⟩ a).setCell ⟨g6, 1, none⟩ b).setCell ⟨g6, 2, none⟩ c).setCell ⟨g7, 0, none⟩ x).setCell ⟨g7, 1, none⟩ y).setCell ⟨g7, 2, none⟩ z) :=
  below_box (below_box h h6 a b c) h7 x y z

set_option maxRecDepth 100000 in
set_option maxHeartbeats 16000000 in
theorem asum_any (f m : Nat) (s1 s2 : Bool) (n1 n2 : Nat) (e1 e2 : Int) (w : World) (hf : f < 4) (hm : m ≤ 5) (hn1 : n1 < 2 ^ 53) (hn2 : n2 < 2 ^ 53) (he1 : -2000 ≤ e1 ∧ e1 ≤ 2000) (he2 : -2000 ≤ e2 ∧ e2 ≤ 2000) (hG : Gl w) (hR : GlR w) :
    Calls Tryz.prog 85 #[.int .i64 f, .int .i64 m, .agg (nmA s1 n1 e1), .agg (nmA s2 n2 e2)] w fun e w' => e = .returned (.tuple #[.int .u64 ((sumN (fm f) m s1 n1 e1 s2 n2 e2).1 : Int), .int .i64 ((sumN (fm f) m s1 n1 e1 s2 n2 e2).2 : Int), .int .i64 0]) ∧ Below w.heap.size w w' := by
  have ok := fm_ok f
  obtain ⟨r, hr⟩ : ∃ r, r = sumN (fm f) m s1 n1 e1 s2 n2 e2 := ⟨_, rfl⟩
  rw [← hr]
  have b6 := (Bx.new w (nmA s1 n1 e1) 132).below (below1 _ (.cells (nmA s2 n2 e2) 132))
  have b7 := Bx.new (w.alloc (.cells (nmA s1 n1 e1) 132)) (nmA s2 n2 e2) 132
  have hb : Below w.heap.size w ((w.alloc (.cells (nmA s1 n1 e1) 132)).alloc (.cells (nmA s2 n2 e2) 132)) := ((Below.refl _ _).alloc (Nat.le_refl _) _).alloc (by simp) _
  rw [show (w.alloc (.cells (nmA s1 n1 e1) 132)).heap.size = w.heap.size + 1 by simp] at b7
  have HG := Lib.hid hG
  have HR := Lib.hid hR
  obtain ⟨W, hW⟩ : ∃ W, W = (w.alloc (.cells (nmA s1 n1 e1) 132)).alloc (.cells (nmA s2 n2 e2) 132) := ⟨_, rfl⟩
  rw [← hW] at b6 b7 hb
  obtain ⟨x0, x1, x2⟩ := b6.nm
  obtain ⟨y0, y1, y2⟩ := b7.nm
  have B6 := Lib.hid b6
  have B7 := Lib.hid b7
  have HB := Lib.hid hb
  have HI := Lib.hid (And.intro hf hm)
  unfold nmA at hW ⊢
  clear b6 b7 hb hG hR hf hm
  by_cases hA : n1 = 0 ∧ n2 = 0 ∧ s1 = s2
  · obtain ⟨h1, h2, h3⟩ := hA
    have hz := fun wx h => Zero_ok f s1 wx HI.out.1 h
    have er : r = ((fm f).sg s1, 0) := by
      rw [hr]; unfold sumN
      have a1 : D.i (-5000) ⟨s1, n1, e1⟩ = 0 := i_of_zero h1 _
      have a2 : D.i (-5000) ⟨s2, n2, e2⟩ = 0 := i_of_zero h2 _
      rw [a1, a2, if_pos (show (0 : Int) + 0 = 0 from rfl), if_pos ⟨h1, h2, h3⟩]
    have t1 : ((n1 : Int) == 0) = true := by rw [beq_iff_eq]; omega
    have t2 : ((n2 : Int) == 0) = true := by rw [beq_iff_eq]; omega
    have t3 : (s1 == s2) = true := by rw [beq_iff_eq]; exact h3
    subst er
    clear h1 h2 h3
    generalize (fm f).sg s1 = z at *
    have HZ := Lib.hid hz
    clear hz hr hn1 hn2 he1 he2
    go_enter Tryz.func85, Tryz.ntmps85
    go_upto_region 1 with (fail)
    rw [← hW]
    clear hW
    go_wp2_with fail
    refine (HZ.out _ (HR.out.below HB.out)).mono ?_
    rintro _ wz ⟨rfl, hb⟩
    replace HB := Lib.hid (keep_belowB HB.out hb (Nat.le_refl _))
    clear hb x0 x1 x2 y0 y1 y2
    go_wp2_with fail
    refine bodyPost_ret (v := .tuple #[.int .u64 z, .int .i64 0, .int .i64 0]) (by simp [results, Tryz.results85, go_sem]) rfl ⟨rfl, HB.out⟩
  have HR0 := Lib.hid hr
  have HA := Lib.hid hA
  have HN := Lib.hid (And.intro hn1 (And.intro hn2 (And.intro he1 he2)))
  have hA1 : n1 = 0 → n2 = 0 → (s1 == s2) = false := by
    intro h1 h2
    rw [beq_eq_false_iff_ne]
    exact fun h3 => hA ⟨h1, h2, h3⟩
  have xf : ∀ j, W.frozen? ⟨w.heap.size, j, none⟩ = false := fun j => B6.out.free j
  have yf : ∀ j, W.frozen? ⟨w.heap.size + 1, j, none⟩ = false := fun j => B7.out.free j
  clear hr hA hn1 hn2 he1 he2
  -- the exchange
  go_enter Tryz.func85, Tryz.ntmps85
  go_upto_region 1 with (fail)
  rw [← hW]
  clear hW
  obtain ⟨c1, hc1⟩ : ∃ b : Bool, b = ((n1 : Int) == 0) := ⟨_, rfl⟩
  obtain ⟨c2, hc2⟩ : ∃ b : Bool, b = ((n2 : Int) == 0) := ⟨_, rfl⟩
  obtain ⟨c3, hc3⟩ : ∃ b : Bool, b = decide (e1 < e2) := ⟨_, rfl⟩
  have h2' : ((n2 : Int) != 0) = !c2 := by rw [hc2]; rfl
  have HC := Lib.hid (And.intro hc1 (And.intro hc2 hc3))
  have hA2 : c1 = true → c2 = true → (s1 == s2) = false := by
    intro h1 h2
    rw [h1] at hc1
    rw [h2] at hc2
    have h3 := hc1.symm
    have h4 := hc2.symm
    rw [beq_iff_eq] at h3 h4
    exact hA1 (by omega) (by omega)
  have e1' := hc1.symm
  have e2' := hc2.symm
  have e3' := hc3.symm
  clear hc1 hc2 hc3 hA1
  have hA3 : (c1 = true ∧ c2 = true ∧ (s1 == s2) = false) ∨ (c1 = true ∧ c2 = false) ∨ c1 = false := by
    cases c1
    · exact Or.inr (Or.inr rfl)
    · cases c2
      · exact Or.inr (Or.inl ⟨rfl, rfl⟩)
      · exact Or.inl ⟨rfl, rfl, hA2 rfl rfl⟩
  clear hA2
  have LD : ∀ X, Below w.heap.size w X → Gl X ∧ GlR X := fun X h => ⟨HG.out.below h, HR.out.below h⟩
  have HLD := Lib.hid LD
  clear LD
  go_cut [40] from 26 (fun v wx => v = .bool false ∧ W = wx)
  case first =>
    rcases hA3 with ⟨rfl, rfl, h3⟩ | ⟨rfl, rfl⟩ | rfl
    · go_wp2_with fail
      go_meet
      case rel => exact ⟨rfl, rfl⟩
    · go_wp2_with fail
      go_meet
      case rel => exact ⟨rfl, rfl⟩
    · go_wp2_with fail
      go_meet
      case rel => exact ⟨rfl, rfl⟩
  case rest =>
    obtain ⟨rfl, rfl⟩ := hcut
    clear hA3
    go_upto_region 4 with (fail)
    go_cut [63] from 49 (fun v wx => v = .bool (c1 || (!c2 && c3)) ∧ W = wx)
    case first =>
      cases c1
      · cases c2
        · go_wp2_with fail
          go_meet
          case rel => exact ⟨rfl, rfl⟩
        · go_wp2_with fail
          go_meet
          case rel => exact ⟨rfl, rfl⟩
      · go_wp2_with fail
        go_meet
        case rel => exact ⟨rfl, rfl⟩
    case rest =>
      obtain ⟨rfl, rfl⟩ := hcut
      have hmid : if (c1 || (!c2 && c3)) = true then Mid (fm f) m r s2 n2 e2 s1 n1 e1 else Mid (fm f) m r s1 n1 e1 s2 n2 e2 := by
        obtain ⟨g1, g2, g3⟩ := HC.out
        obtain ⟨h1, h2, h3, h4⟩ := HN.out
        have hA := HA.out
        have hr := HR0.out
        have d1 : c1 = true ↔ n1 = 0 := by rw [g1, beq_iff_eq]; omega
        have d2 : c2 = true ↔ n2 = 0 := by rw [g2, beq_iff_eq]; omega
        have d3 : c3 = true ↔ e1 < e2 := by rw [g3, decide_eq_true_eq]
        split
        · rename_i hc
          have hc' : n1 = 0 ∨ (n2 ≠ 0 ∧ e1 < e2) := by
            rw [Bool.or_eq_true, Bool.and_eq_true, Bool.not_eq_true', ← Bool.not_eq_true, d1, d2, d3] at hc
            exact hc
          refine ⟨fun h0 => ?_, fun h0 => ?_, ⟨h2, h1, h4.1, h4.2, h3.1, h3.2⟩, by rw [hr, sumN_comm]⟩
          · rcases hc' with h5 | h5
            · exact ⟨h5, fun h6 => hA ⟨h5, h0, h6.symm⟩⟩
            · exact absurd h0 h5.1
          · rcases hc' with h5 | h5
            · exact absurd h5 h0
            · exact Int.le_of_lt h5.2
        · rename_i hc
          have hc' : ¬ (n1 = 0 ∨ (n2 ≠ 0 ∧ e1 < e2)) := by
            rw [Bool.or_eq_true, Bool.and_eq_true, Bool.not_eq_true', ← Bool.not_eq_true, d1, d2, d3] at hc
            exact hc
          refine ⟨fun h0 => absurd (Or.inl h0) hc', fun h0 => ?_, ⟨h1, h2, h3.1, h3.2, h4.1, h4.2⟩, hr⟩
          rcases Int.lt_or_le e1 e2 with h5 | h5
          · exact absurd (Or.inr ⟨h0, h5⟩) hc'
          · exact h5
      have HM := Lib.hid hmid
      clear hmid e1' e2' e3' h2' HC HN HA HR0
      generalize (c1 || (!c2 && c3)) = b at *
      go_upto_if 63 with (fail)
      go_cut [63] from 64 (fun v63 wx => ∃ (s t : Bool) (n k : Nat) (e g : Int), (Bx wx w.heap.size (nmA s n e) ∧ Bx wx (w.heap.size + 1) (nmA t k g)) ∧ Mid (fm f) m r s n e t k g ∧ Below w.heap.size w wx)
      case first =>
        cases b
        · have hm := HM.out
          rw [if_neg (by simp)] at hm
          have HM' := Lib.hid hm
          clear hm HM
          go_wp2_with fail
          go_meet
          case rel => exact ⟨s1, s2, n1, n2, e1, e2, ⟨B6.out, B7.out⟩, HM'.out, HB.out⟩
        · have hm := HM.out
          rw [if_pos rfl] at hm
          have HM' := Lib.hid hm
          clear hm HM
          go_wp2_with fail
          go_meet
          case rel =>
            obtain ⟨q1, q2⟩ := Bx.six3 B6.out B7.out (by omega) s2 s1 n2 n1 e2 e1
            exact ⟨s2, s1, n2, n1, e2, e1, ⟨q1, q2⟩, HM'.out, below_six HB.out (Nat.le_refl _) (Nat.le_succ _) _ _ _ _ _ _⟩
      case rest =>
        obtain ⟨s, t, n, k, e, g, ⟨b6, b7⟩, hmid, hb⟩ := hcut
        replace B6 := Lib.hid b6
        replace B7 := Lib.hid b7
        replace HB := Lib.hid hb
        replace HM := Lib.hid hmid
        clear b6 b7 hb hmid x0 x1 x2 y0 y1 y2 xf yf
        obtain ⟨x0, x1, x2⟩ := B6.out.nm
        obtain ⟨y0, y1, y2⟩ := B7.out.nm
        have yf : ∀ j, wc.frozen? ⟨w.heap.size + 1, j, none⟩ = false := fun j => B7.out.free j
        have hlaid : (k = 0 → Laid2 s n e t k e ∧ r = sumN (fm f) m s n e t k e) ∧ (k ≠ 0 → Laid2 s n e t k g ∧ r = sumN (fm f) m s n e t k g) := by
          obtain ⟨h1, h2, ⟨h3, h4, h5, h6, h7, h8⟩, h9⟩ := HM.out
          constructor
          · intro h0
            refine ⟨⟨Int.le_refl _, h5, h6, h3, h4, h1⟩, ?_⟩
            rw [h9, h0]
            exact sumN_zero m s t n e g e
          · intro h0
            exact ⟨⟨h2 h0, h7, h6, h3, h4, h1⟩, h9⟩
        have HL := Lib.hid hlaid
        clear hlaid HM
        obtain ⟨b, hb⟩ : ∃ b : Bool, b = ((k : Int) == 0) := ⟨_, rfl⟩
        have HBb := Lib.hid hb
        have eb := hb.symm
        clear hb
        go_upto_if 68 with (fail)
        go_cut [68] from 69 (fun v68 wx => ∃ (g : Int), (Bx wx w.heap.size (nmA s n e) ∧ Bx wx (w.heap.size + 1) (nmA t k g)) ∧ (Laid2 s n e t k g ∧ r = sumN (fm f) m s n e t k g) ∧ Below w.heap.size w wx)
        case first =>
          cases b
          · have h0 : k ≠ 0 := by have h := HBb.out.symm; rw [beq_eq_false_iff_ne] at h; omega
            have HL' := Lib.hid (HL.out.2 h0)
            clear h0 HL
            go_wp2_with fail
            go_meet
            case rel => exact ⟨g, ⟨B6.out, B7.out⟩, HL'.out, HB.out⟩
          · have h0 : k = 0 := by have h := HBb.out.symm; rw [beq_iff_eq] at h; omega
            have HL' := Lib.hid (HL.out.1 h0)
            clear h0 HL
            go_wp2_with fail
            go_meet
            case rel => exact ⟨e, ⟨B6.out.other (p := ⟨w.heap.size + 1, 2, none⟩) (by show w.heap.size + 1 ≠ w.heap.size; omega) _, B7.out.put 2 (.int .i64 e) _ rfl⟩, HL'.out, HB.out.setCell (p := ⟨w.heap.size + 1, 2, none⟩) (Nat.le_succ _) _⟩
        case rest =>
          clear eb HBb HL x0 x1 x2 y0 y1 y2 yf
          obtain ⟨g', ⟨b6, b7⟩, ⟨hl, hr⟩, hb⟩ := hcut
          clear HB B6 B7
          have hsh := shifts_of hl.le hl.lo hl.hi
          obtain ⟨up, hup⟩ : ∃ up, up = min (e - g').toNat 70 := ⟨_, rfl⟩
          obtain ⟨down, hdown⟩ : ∃ d, d = (e - g').toNat - min (e - g').toNat 70 := ⟨_, rfl⟩
          rw [← hdown, ← hup] at hsh
          have hmin : min (e - g') 70 = (up : Int) := by rw [hup]; have := hl.le; omega
          clear hup hdown
          obtain ⟨l1, l2, l3, -, -, -⟩ := id hl
          have HL := Lib.hid hl
          have HRr := Lib.hid hr
          have HSH := Lib.hid hsh
          have B6 := Lib.hid b6
          have B7 := Lib.hid b7
          have HB := Lib.hid hb
          have heu : IntKind.i64.wrap (e - (up : Int)) = e - up := by have := hsh.eq; have := hsh.le; rw [IntKind.wrap_i64]; omega
          have hed : IntKind.i64.wrap (e - (up : Int) - g') = (down : Int) := by have := hsh.eq; have := hsh.lt; rw [IntKind.wrap_i64]; omega
          have hew : e - (up : Int) - g' = (down : Int) := by have := hsh.eq; omega
          have hn53 := HL.out.n53
          have hk53 := HL.out.k53
          have cS1 := fun wx => wShl_any n up wx (by omega) (by have := hsh.le; omega)
          have hH := high_lt hn53 hsh.le
          rw [Nat.mod_eq_of_lt (by omega)] at cS1
          rw [← wv_small (show n < 18446744073709551616 by omega)] at cS1
          obtain ⟨H, hHd⟩ : ∃ H, H = n * 2 ^ up := ⟨_, rfl⟩
          obtain ⟨L, hLd⟩ : ∃ H, H = k / 2 ^ down := ⟨_, rfl⟩
          have hLk : L ≤ k := by rw [hLd]; exact Nat.div_le_self _ _
          rw [← hHd] at cS1 hH
          have cR := fun wx => wShr_any k down wx (by omega) (by have := hsh.lt; omega)
          rw [← hLd, ← wv_small (show k < 18446744073709551616 by omega), ← wv_small (show L < 18446744073709551616 by omega)] at cR
          rw [WV_eq H] at cS1
          obtain ⟨hh, hhh⟩ : ∃ x, x = H / 18446744073709551616 := ⟨_, rfl⟩
          obtain ⟨hl', hhl⟩ : ∃ x, x = H % 18446744073709551616 := ⟨_, rfl⟩
          rw [← hhh, ← hhl] at cS1
          unfold wv at cS1
          have CS1 := Lib.hid cS1
          have CR := Lib.hid cR
          have HH := Lib.hid (And.intro hHd (And.intro hLd (And.intro hH (And.intro hhh hhl))))
          clear hl hr hsh b6 b7 hb cS1 cR hHd hLd hH hhh hhl hn53 hk53 hLk
          obtain ⟨x0, x1, x2⟩ := B6.out.nm
          obtain ⟨y0, y1, y2⟩ := B7.out.nm
          go_wp2_with fail
          refine (CS1.out _).mono ?_
          rintro _ w1 ⟨rfl, hb⟩
          have hb' : Below wc.heap.size wc ((w1.alloc (.cells #[.int .u64 hh, .int .u64 hl'] 78)).alloc (.cells #[.int .u64 0, .int .u64 k] 78)) := (hb.alloc hb.size _).alloc (by have := hb.size; simp; omega) _
          have hz1 : w.heap.size + 1 < wc.heap.size := B7.out.lt
          have hz2 := hb.size
          have b14 := (Bx.new w1 #[.int .u64 hh, .int .u64 hl'] 78).below (below1 _ (.cells #[.int .u64 0, .int .u64 k] 78))
          have b15 := Bx.new (w1.alloc (.cells #[.int .u64 hh, .int .u64 hl'] 78)) #[.int .u64 0, .int .u64 k] 78
          rw [show (w1.alloc (.cells #[.int .u64 hh, .int .u64 hl'] 78)).heap.size = w1.heap.size + 1 by simp] at b15
          have B6a := Lib.hid ((B6.out.below hb).below (below1 w1 (.cells #[.int .u64 hh, .int .u64 hl'] 78)))
          have B7a := Lib.hid ((B7.out.below hb).below (below1 w1 (.cells #[.int .u64 hh, .int .u64 hl'] 78)))
          replace B6 := Lib.hid (B6a.out.below (below1 _ (.cells #[.int .u64 0, .int .u64 k] 78)))
          replace B7 := Lib.hid (B7a.out.below (below1 _ (.cells #[.int .u64 0, .int .u64 k] 78)))
          obtain ⟨p0, p1, p2⟩ := B6a.out.nm
          obtain ⟨q0, q1, q2⟩ := B7a.out.nm
          obtain ⟨p3, p4, p5⟩ := B6.out.nm
          obtain ⟨q3, q4, q5⟩ := B7.out.nm
          clear x0 x1 x2 y0 y1 y2
          go_upto_region 13 with (fail)
          clear p0 p1 p2 p3 p4 p5 q0 q1 q2 q3 q4 q5 B6a B7a
          replace HB := Lib.hid (keep_belowB HB.out hb' (Nat.le_refl _))
          generalize (w1.alloc (.cells #[.int .u64 hh, .int .u64 hl'] 78)).alloc (.cells #[.int .u64 0, .int .u64 k] 78) = X at *
          generalize w1.heap.size = q at *
          have B14 := Lib.hid b14
          have B15 := Lib.hid b15
          have HQ := Lib.hid (show w.heap.size + 1 < q by omega)
          clear hb hb' hz1 hz2 b14 b15 CS1 hmin l1 l2 l3 hew heu hed
          obtain ⟨more, hmore⟩ : ∃ b, b = decide (L * 2 ^ down ≠ k) := ⟨_, rfl⟩
          obtain ⟨B, hBd⟩ : ∃ b, b = L * 2 ^ down := ⟨_, rfl⟩
          have hBk : B ≤ k := by rw [hBd, HH.out.2.1]; exact Nat.div_mul_le_self _ _
          have hk53 := HL.out.k53
          have hLk : L ≤ k := by rw [HH.out.2.1]; exact Nat.div_le_self _ _
          have cS2 := fun wx => wShl_any L down wx (by omega) (by have := HSH.out.lt; omega)
          rw [← hBd, Nat.mod_eq_of_lt (by omega), ← wv_small (show L < 18446744073709551616 by omega), ← wv_small (show B < 18446744073709551616 by omega)] at cS2
          have CS2 := Lib.hid cS2
          have HMo := Lib.hid hmore
          rw [← hBd] at hmore
          have hmb : ((B : Int) == (k : Int)) = !more := by rw [hmore, Bool.eq_iff_iff]; simp; omega
          have hfar : more = false → 63 < down → ((k : Int) != 0) = false := by
            intro h1 h2
            have h3 : B = k := by rw [hmore] at h1; simpa using h1
            have h4 : L = 0 := by
              rw [HH.out.2.1]
              refine Nat.div_eq_of_lt ?_
              have h5 : (2 : Nat) ^ 53 ≤ 2 ^ down := Nat.pow_le_pow_right (by decide) (by omega)
              exact Nat.lt_of_lt_of_le HL.out.k53 h5
            rw [hBd, h4, Nat.zero_mul] at h3
            rw [← h3]; rfl
          clear cS2 hmore hBk hBd hk53 hLk
          obtain ⟨z0, z1⟩ := (show Bx X (q + 1) #[.int .u64 0, .int .u64 k] from B15.out).wide0
          obtain ⟨y0, y1, y2⟩ := B7.out.nm
          go_cut [18] from 94 (fun v wx => v = .bool more ∧ Below X.heap.size X wx)
          case first =>
            cases hm : more
            · have hmb' : ((B : Int) == (k : Int)) = true := by rw [hmb, hm]; rfl
              by_cases hd : 63 < down
              · have hk0 := hfar hm hd
                have hd' : decide ((down : Int) > 63) = true := by rw [decide_eq_true_eq]; omega
                have Hm := Lib.hid hm
                clear hfar hmb hm hd HMo
                refine wp_region_held_drew (S := (fun v => v.cell? ⟨q + 1, 0, none⟩ = some (.int .u64 0) ∧ v.cell? ⟨q + 1, 1, none⟩ = some (.int .u64 k) ∧ v.cell? ⟨w.heap.size + 1, 1, none⟩ = some (.int .u64 k) ∧ Below X.heap.size X v)) (by kernel_rfl) ⟨z0, z1, y1, (Below.refl _ _).drew⟩ (fun hHeld => ?_)
                refine wpAnyH_take (i := 0) (oi := ?oia1) (v := ?va1) ?hia1 ?hsa1 ?hfa1 ?hra1 ?hqa1 ?hya1 ?hSa1 ?resta1
                case hia1 => (simp only [List.getElem?_toArray, List.getElem?_cons_succ, List.getElem?_cons_zero]; exact rfl)
                case hsa1 => kernel_rfl
                case hfa1 => kernel_rfl
                case hra1 => kernel_rfl
                case hqa1 => (exact fun _ _ _ h => h)
                case hya1 =>
                  refine Or.inl ⟨rfl, ?_⟩
                  intro wq hSw
                  obtain ⟨sa, sb, sc, -⟩ := hSw
                  first | (go_simp; done) | (go_simp; with_reducible rfl)
                case hSa1 => assumption
                try simp only [Act.put, List.setIfInBounds_toArray, List.set_cons_zero, List.set_cons_succ]
                refine wpAnyH_take (i := 1) (oi := ?oia2) (v := ?va2) ?hia2 ?hsa2 ?hfa2 ?hra2 ?hqa2 ?hya2 ?hSa2 ?resta2
                case hia2 => (simp only [List.getElem?_toArray, List.getElem?_cons_succ, List.getElem?_cons_zero]; exact rfl)
                case hsa2 => kernel_rfl
                case hfa2 => kernel_rfl
                case hra2 => kernel_rfl
                case hqa2 => (exact fun _ _ _ h => h)
                case hya2 =>
                  refine Or.inl ⟨rfl, ?_⟩
                  intro wq hSw
                  obtain ⟨sa, sb, sc, -⟩ := hSw
                  first | (go_simp; done) | (go_simp; with_reducible rfl)
                case hSa2 => assumption
                try simp only [Act.put, List.setIfInBounds_toArray, List.set_cons_zero, List.set_cons_succ]
                refine wpAnyH_take (i := 3) (oi := ?oia3) (v := ?va3) ?hia3 ?hsa3 ?hfa3 ?hra3 ?hqa3 ?hya3 ?hSa3 ?resta3
                case hia3 => (simp only [List.getElem?_toArray, List.getElem?_cons_succ, List.getElem?_cons_zero]; exact rfl)
                case hsa3 => kernel_rfl
                case hfa3 => kernel_rfl
                case hra3 => kernel_rfl
                case hqa3 => (exact fun _ _ _ h => h)
                case hya3 =>
                  refine Or.inl ⟨rfl, ?_⟩
                  intro wq hSw
                  obtain ⟨sa, sb, sc, -⟩ := hSw
                  first | (go_simp; done) | (go_simp; with_reducible rfl)
                case hSa3 => assumption
                try simp only [Act.put, List.setIfInBounds_toArray, List.set_cons_zero, List.set_cons_succ]
                refine wpAnyH_take (i := 5) (oi := ?oia4) (v := ?va4) ?hia4 ?hsa4 ?hfa4 ?hra4 ?hqa4 ?hya4 ?hSa4 ?resta4
                case hia4 => (simp only [List.getElem?_toArray, List.getElem?_cons_succ, List.getElem?_cons_zero]; exact rfl)
                case hsa4 => kernel_rfl
                case hfa4 => kernel_rfl
                case hra4 => kernel_rfl
                case hqa4 => (exact fun _ _ _ h => h)
                case hya4 =>
                  refine Or.inl ⟨rfl, ?_⟩
                  intro wq hSw
                  obtain ⟨sa, sb, sc, -⟩ := hSw
                  first | (go_simp; done) | (go_simp; with_reducible rfl)
                case hSa4 => assumption
                try simp only [Act.put, List.setIfInBounds_toArray, List.set_cons_zero, List.set_cons_succ]
                refine wpAnyH_ready (rs := [2]) (by kernel_rfl) (by simp) ?_
                refine AllReadyH.cons (o := ?oia5) ?hia5 (fun K hK => ?_) ?_
                case hia5 => (simp only [List.getElem?_toArray, List.getElem?_cons_succ, List.getElem?_cons_zero]; exact rfl)
                · go_simp
                  go_at_call 104
                  refine (CR.out _).mono ?_
                  rintro _ wz ⟨rfl, hb1⟩
                  first | go_wp2_with fail | skip
                  refine hK.out _ _ ⟨keep_cell hb1 hHeld.1, keep_cell hb1 hHeld.2.1, keep_cell hb1 hHeld.2.2.1, keep_below hHeld.2.2.2 hb1⟩ (fun hHeld => ?_)
                  clear hK K
                  try simp only [Act.put, List.setIfInBounds_toArray, List.set_cons_zero, List.set_cons_succ]
                  refine wpAnyH_ready (rs := [4]) (by kernel_rfl) (by simp) ?_
                  refine AllReadyH.cons (o := ?oia6) ?hia6 (fun K hK => ?_) ?_
                  case hia6 => (simp only [List.getElem?_toArray, List.getElem?_cons_succ, List.getElem?_cons_zero]; exact rfl)
                  · go_simp
                    go_at_call 103
                    refine (CS2.out _).mono ?_
                    rintro _ wz ⟨rfl, hb1⟩
                    first | go_wp2_with fail | skip
                    refine hK.out _ _ ⟨keep_cell hb1 hHeld.1, keep_cell hb1 hHeld.2.1, keep_cell hb1 hHeld.2.2.1, keep_below hHeld.2.2.2 hb1⟩ (fun hHeld => ?_)
                    clear hK K
                    try simp only [Act.put, List.setIfInBounds_toArray, List.set_cons_zero, List.set_cons_succ]
                    refine wpAnyH_take (i := 6) (oi := ?oia7) (v := ?va7) ?hia7 ?hsa7 ?hfa7 ?hra7 ?hqa7 ?hya7 ?hSa7 ?resta7
                    case hia7 => (simp only [List.getElem?_toArray, List.getElem?_cons_succ, List.getElem?_cons_zero]; exact rfl)
                    case hsa7 => kernel_rfl
                    case hfa7 => kernel_rfl
                    case hra7 => kernel_rfl
                    case hqa7 => (exact fun _ _ _ h => h)
                    case hya7 =>
                      refine Or.inl ⟨rfl, ?_⟩
                      intro wq hSw
                      obtain ⟨sa, sb, sc, -⟩ := hSw
                      first | (go_simp; done) | (go_simp; with_reducible rfl)
                    case hSa7 => assumption
                    try simp only [Act.put, List.setIfInBounds_toArray, List.set_cons_zero, List.set_cons_succ]
                    refine wpAnyH_take (i := 7) (oi := ?oia8) (v := ?va8) ?hia8 ?hsa8 ?hfa8 ?hra8 ?hqa8 ?hya8 ?hSa8 ?resta8
                    case hia8 => (simp only [List.getElem?_toArray, List.getElem?_cons_succ, List.getElem?_cons_zero]; exact rfl)
                    case hsa8 => kernel_rfl
                    case hfa8 => kernel_rfl
                    case hra8 => kernel_rfl
                    case hqa8 => (exact fun _ _ _ h => h)
                    case hya8 =>
                      refine Or.inl ⟨rfl, ?_⟩
                      intro wq hSw
                      obtain ⟨sa, sb, sc, -⟩ := hSw
                      first | (go_simp; done) | (go_simp; with_reducible rfl)
                    case hSa8 => assumption
                    try simp only [Act.put, List.setIfInBounds_toArray, List.set_cons_zero, List.set_cons_succ]
                    refine wpAnyH_take (i := 8) (oi := ?oia9) (v := ?va9) ?hia9 ?hsa9 ?hfa9 ?hra9 ?hqa9 ?hya9 ?hSa9 ?resta9
                    case hia9 => (simp only [List.getElem?_toArray, List.getElem?_cons_succ, List.getElem?_cons_zero]; exact rfl)
                    case hsa9 => kernel_rfl
                    case hfa9 => kernel_rfl
                    case hra9 => kernel_rfl
                    case hqa9 => (exact fun _ _ _ h => h)
                    case hya9 =>
                      refine Or.inl ⟨rfl, ?_⟩
                      intro wq hSw
                      obtain ⟨sa, sb, sc, -⟩ := hSw
                      first | (go_simp; done) | (go_simp; with_reducible rfl)
                    case hSa9 => assumption
                    try simp only [Act.put, List.setIfInBounds_toArray, List.set_cons_zero, List.set_cons_succ]
                    refine wpAnyH_take (i := 9) (oi := ?oia10) (v := ?va10) ?hia10 ?hsa10 ?hfa10 ?hra10 ?hqa10 ?hya10 ?hSa10 ?resta10
                    case hia10 => (simp only [List.getElem?_toArray, List.getElem?_cons_succ, List.getElem?_cons_zero]; exact rfl)
                    case hsa10 => kernel_rfl
                    case hfa10 => kernel_rfl
                    case hra10 => kernel_rfl
                    case hqa10 => (exact fun _ _ _ h => h)
                    case hya10 =>
                      refine Or.inl ⟨rfl, ?_⟩
                      intro wq hSw
                      obtain ⟨sa, sb, sc, -⟩ := hSw
                      first | (go_simp; done) | (go_simp; with_reducible rfl)
                    case hSa10 => assumption
                    try simp only [Act.put, List.setIfInBounds_toArray, List.set_cons_zero, List.set_cons_succ]
                    refine wpAnyH_take (i := 10) (oi := ?oia11) (v := ?va11) ?hia11 ?hsa11 ?hfa11 ?hra11 ?hqa11 ?hya11 ?hSa11 ?resta11
                    case hia11 => (simp only [List.getElem?_toArray, List.getElem?_cons_succ, List.getElem?_cons_zero]; exact rfl)
                    case hsa11 => kernel_rfl
                    case hfa11 => kernel_rfl
                    case hra11 => kernel_rfl
                    case hqa11 => (exact fun _ _ _ h => h)
                    case hya11 =>
                      refine Or.inl ⟨rfl, ?_⟩
                      intro wq hSw
                      obtain ⟨sa, sb, sc, -⟩ := hSw
                      first | (go_simp; done) | (go_simp; with_reducible rfl)
                    case hSa11 => assumption
                    try simp only [Act.put, List.setIfInBounds_toArray, List.set_cons_zero, List.set_cons_succ]
                    refine wpAnyH_take (i := 11) (oi := ?oia12) (v := ?va12) ?hia12 ?hsa12 ?hfa12 ?hra12 ?hqa12 ?hya12 ?hSa12 ?resta12
                    case hia12 => (simp only [List.getElem?_toArray, List.getElem?_cons_succ, List.getElem?_cons_zero]; exact rfl)
                    case hsa12 => kernel_rfl
                    case hfa12 => kernel_rfl
                    case hra12 => kernel_rfl
                    case hqa12 => (exact fun _ _ _ h => h)
                    case hya12 =>
                      refine Or.inl ⟨rfl, ?_⟩
                      intro wq hSw
                      obtain ⟨sa, sb, sc, -⟩ := hSw
                      first | (go_simp; done) | (go_simp; with_reducible rfl)
                    case hSa12 => assumption
                    try simp only [Act.put, List.setIfInBounds_toArray, List.set_cons_zero, List.set_cons_succ]
                    refine wpAnyH_take (i := 12) (oi := ?oia13) (v := ?va13) ?hia13 ?hsa13 ?hfa13 ?hra13 ?hqa13 ?hya13 ?hSa13 ?resta13
                    case hia13 => (simp only [List.getElem?_toArray, List.getElem?_cons_succ, List.getElem?_cons_zero]; exact rfl)
                    case hsa13 => kernel_rfl
                    case hfa13 => kernel_rfl
                    case hra13 => kernel_rfl
                    case hqa13 => (exact fun _ _ _ h => h)
                    case hya13 =>
                      refine Or.inl ⟨rfl, ?_⟩
                      intro wq hSw
                      obtain ⟨sa, sb, sc, -⟩ := hSw
                      first | (go_simp; done) | (go_simp; with_reducible rfl)
                    case hSa13 => assumption
                    try simp only [Act.put, List.setIfInBounds_toArray, List.set_cons_zero, List.set_cons_succ]
                    refine wpAnyH_take (i := 13) (oi := ?oia14) (v := ?va14) ?hia14 ?hsa14 ?hfa14 ?hra14 ?hqa14 ?hya14 ?hSa14 ?resta14
                    case hia14 => (simp only [List.getElem?_toArray, List.getElem?_cons_succ, List.getElem?_cons_zero]; exact rfl)
                    case hsa14 => kernel_rfl
                    case hfa14 => kernel_rfl
                    case hra14 => kernel_rfl
                    case hqa14 => (exact fun _ _ _ h => h)
                    case hya14 =>
                      refine Or.inl ⟨rfl, ?_⟩
                      intro wq hSw
                      obtain ⟨sa, sb, sc, -⟩ := hSw
                      first | (go_simp; done) | (go_simp; with_reducible rfl)
                    case hSa14 => assumption
                    try simp only [Act.put, List.setIfInBounds_toArray, List.set_cons_zero, List.set_cons_succ]
                    refine wpAnyH_take (i := 14) (oi := ?oia15) (v := ?va15) ?hia15 ?hsa15 ?hfa15 ?hra15 ?hqa15 ?hya15 ?hSa15 ?resta15
                    case hia15 => (simp only [List.getElem?_toArray, List.getElem?_cons_succ, List.getElem?_cons_zero]; exact rfl)
                    case hsa15 => kernel_rfl
                    case hfa15 => kernel_rfl
                    case hra15 => kernel_rfl
                    case hqa15 => (exact fun _ _ _ h => h)
                    case hya15 =>
                      refine Or.inl ⟨rfl, ?_⟩
                      intro wq hSw
                      obtain ⟨sa, sb, sc, -⟩ := hSw
                      first | (go_simp; done) | (go_simp; with_reducible rfl)
                    case hSa15 => assumption
                    try simp only [Act.put, List.setIfInBounds_toArray, List.set_cons_zero, List.set_cons_succ]
                    refine wpAnyH_take (i := 15) (oi := ?oia16) (v := ?va16) ?hia16 ?hsa16 ?hfa16 ?hra16 ?hqa16 ?hya16 ?hSa16 ?resta16
                    case hia16 => (simp only [List.getElem?_toArray, List.getElem?_cons_succ, List.getElem?_cons_zero]; exact rfl)
                    case hsa16 => kernel_rfl
                    case hfa16 => kernel_rfl
                    case hra16 => kernel_rfl
                    case hqa16 => (exact fun _ _ _ h => h)
                    case hya16 =>
                      refine Or.inl ⟨rfl, ?_⟩
                      intro wq hSw
                      obtain ⟨sa, sb, sc, -⟩ := hSw
                      first | (go_simp; done) | (go_simp; with_reducible rfl)
                    case hSa16 => assumption
                    try simp only [Act.put, List.setIfInBounds_toArray, List.set_cons_zero, List.set_cons_succ]
                    refine wpAnyH_take (i := 16) (oi := ?oia17) (v := ?va17) ?hia17 ?hsa17 ?hfa17 ?hra17 ?hqa17 ?hya17 ?hSa17 ?resta17
                    case hia17 => (simp only [List.getElem?_toArray, List.getElem?_cons_succ, List.getElem?_cons_zero]; exact rfl)
                    case hsa17 => kernel_rfl
                    case hfa17 => kernel_rfl
                    case hra17 => kernel_rfl
                    case hqa17 => (exact fun _ _ _ h => h)
                    case hya17 =>
                      refine Or.inl ⟨rfl, ?_⟩
                      intro wq hSw
                      obtain ⟨sa, sb, sc, -⟩ := hSw
                      first | (go_simp; done) | (go_simp; with_reducible rfl)
                    case hSa17 => assumption
                    try simp only [Act.put, List.setIfInBounds_toArray, List.set_cons_zero, List.set_cons_succ]
                    refine wpAnyH_done (by kernel_rfl) ?_ _
                    have hHold := hHeld
                    go_wp2_with fail
                    go_meet
                    case rel => exact ⟨by rw [Hm.out], hHold.2.2.2⟩
                  exact AllReadyH.nil
                exact AllReadyH.nil
              · have hd' : decide ((down : Int) > 63) = false := by rw [decide_eq_false_iff_not]; omega
                have Hm := Lib.hid hm
                clear hfar hmb hm hd HMo
                refine wp_region_held_drew (S := (fun v => v.cell? ⟨q + 1, 0, none⟩ = some (.int .u64 0) ∧ v.cell? ⟨q + 1, 1, none⟩ = some (.int .u64 k) ∧ v.cell? ⟨w.heap.size + 1, 1, none⟩ = some (.int .u64 k) ∧ Below X.heap.size X v)) (by kernel_rfl) ⟨z0, z1, y1, (Below.refl _ _).drew⟩ (fun hHeld => ?_)
                refine wpAnyH_take (i := 0) (oi := ?oib1) (v := ?vb1) ?hib1 ?hsb1 ?hfb1 ?hrb1 ?hqb1 ?hyb1 ?hSb1 ?restb1
                case hib1 => (simp only [List.getElem?_toArray, List.getElem?_cons_succ, List.getElem?_cons_zero]; exact rfl)
                case hsb1 => kernel_rfl
                case hfb1 => kernel_rfl
                case hrb1 => kernel_rfl
                case hqb1 => (exact fun _ _ _ h => h)
                case hyb1 =>
                  refine Or.inl ⟨rfl, ?_⟩
                  intro wq hSw
                  obtain ⟨sa, sb, sc, -⟩ := hSw
                  first | (go_simp; done) | (go_simp; with_reducible rfl)
                case hSb1 => assumption
                try simp only [Act.put, List.setIfInBounds_toArray, List.set_cons_zero, List.set_cons_succ]
                refine wpAnyH_take (i := 1) (oi := ?oib2) (v := ?vb2) ?hib2 ?hsb2 ?hfb2 ?hrb2 ?hqb2 ?hyb2 ?hSb2 ?restb2
                case hib2 => (simp only [List.getElem?_toArray, List.getElem?_cons_succ, List.getElem?_cons_zero]; exact rfl)
                case hsb2 => kernel_rfl
                case hfb2 => kernel_rfl
                case hrb2 => kernel_rfl
                case hqb2 => (exact fun _ _ _ h => h)
                case hyb2 =>
                  refine Or.inl ⟨rfl, ?_⟩
                  intro wq hSw
                  obtain ⟨sa, sb, sc, -⟩ := hSw
                  first | (go_simp; done) | (go_simp; with_reducible rfl)
                case hSb2 => assumption
                try simp only [Act.put, List.setIfInBounds_toArray, List.set_cons_zero, List.set_cons_succ]
                refine wpAnyH_take (i := 3) (oi := ?oib3) (v := ?vb3) ?hib3 ?hsb3 ?hfb3 ?hrb3 ?hqb3 ?hyb3 ?hSb3 ?restb3
                case hib3 => (simp only [List.getElem?_toArray, List.getElem?_cons_succ, List.getElem?_cons_zero]; exact rfl)
                case hsb3 => kernel_rfl
                case hfb3 => kernel_rfl
                case hrb3 => kernel_rfl
                case hqb3 => (exact fun _ _ _ h => h)
                case hyb3 =>
                  refine Or.inl ⟨rfl, ?_⟩
                  intro wq hSw
                  obtain ⟨sa, sb, sc, -⟩ := hSw
                  first | (go_simp; done) | (go_simp; with_reducible rfl)
                case hSb3 => assumption
                try simp only [Act.put, List.setIfInBounds_toArray, List.set_cons_zero, List.set_cons_succ]
                refine wpAnyH_take (i := 5) (oi := ?oib4) (v := ?vb4) ?hib4 ?hsb4 ?hfb4 ?hrb4 ?hqb4 ?hyb4 ?hSb4 ?restb4
                case hib4 => (simp only [List.getElem?_toArray, List.getElem?_cons_succ, List.getElem?_cons_zero]; exact rfl)
                case hsb4 => kernel_rfl
                case hfb4 => kernel_rfl
                case hrb4 => kernel_rfl
                case hqb4 => (exact fun _ _ _ h => h)
                case hyb4 =>
                  refine Or.inl ⟨rfl, ?_⟩
                  intro wq hSw
                  obtain ⟨sa, sb, sc, -⟩ := hSw
                  first | (go_simp; done) | (go_simp; with_reducible rfl)
                case hSb4 => assumption
                try simp only [Act.put, List.setIfInBounds_toArray, List.set_cons_zero, List.set_cons_succ]
                refine wpAnyH_ready (rs := [2]) (by kernel_rfl) (by simp) ?_
                refine AllReadyH.cons (o := ?oib5) ?hib5 (fun K hK => ?_) ?_
                case hib5 => (simp only [List.getElem?_toArray, List.getElem?_cons_succ, List.getElem?_cons_zero]; exact rfl)
                · go_simp
                  go_at_call 104
                  refine (CR.out _).mono ?_
                  rintro _ wz ⟨rfl, hb1⟩
                  first | go_wp2_with fail | skip
                  refine hK.out _ _ ⟨keep_cell hb1 hHeld.1, keep_cell hb1 hHeld.2.1, keep_cell hb1 hHeld.2.2.1, keep_below hHeld.2.2.2 hb1⟩ (fun hHeld => ?_)
                  clear hK K
                  try simp only [Act.put, List.setIfInBounds_toArray, List.set_cons_zero, List.set_cons_succ]
                  refine wpAnyH_ready (rs := [4]) (by kernel_rfl) (by simp) ?_
                  refine AllReadyH.cons (o := ?oib6) ?hib6 (fun K hK => ?_) ?_
                  case hib6 => (simp only [List.getElem?_toArray, List.getElem?_cons_succ, List.getElem?_cons_zero]; exact rfl)
                  · go_simp
                    go_at_call 103
                    refine (CS2.out _).mono ?_
                    rintro _ wz ⟨rfl, hb1⟩
                    first | go_wp2_with fail | skip
                    refine hK.out _ _ ⟨keep_cell hb1 hHeld.1, keep_cell hb1 hHeld.2.1, keep_cell hb1 hHeld.2.2.1, keep_below hHeld.2.2.2 hb1⟩ (fun hHeld => ?_)
                    clear hK K
                    try simp only [Act.put, List.setIfInBounds_toArray, List.set_cons_zero, List.set_cons_succ]
                    refine wpAnyH_take (i := 6) (oi := ?oib7) (v := ?vb7) ?hib7 ?hsb7 ?hfb7 ?hrb7 ?hqb7 ?hyb7 ?hSb7 ?restb7
                    case hib7 => (simp only [List.getElem?_toArray, List.getElem?_cons_succ, List.getElem?_cons_zero]; exact rfl)
                    case hsb7 => kernel_rfl
                    case hfb7 => kernel_rfl
                    case hrb7 => kernel_rfl
                    case hqb7 => (exact fun _ _ _ h => h)
                    case hyb7 =>
                      refine Or.inl ⟨rfl, ?_⟩
                      intro wq hSw
                      obtain ⟨sa, sb, sc, -⟩ := hSw
                      first | (go_simp; done) | (go_simp; with_reducible rfl)
                    case hSb7 => assumption
                    try simp only [Act.put, List.setIfInBounds_toArray, List.set_cons_zero, List.set_cons_succ]
                    refine wpAnyH_take (i := 7) (oi := ?oib8) (v := ?vb8) ?hib8 ?hsb8 ?hfb8 ?hrb8 ?hqb8 ?hyb8 ?hSb8 ?restb8
                    case hib8 => (simp only [List.getElem?_toArray, List.getElem?_cons_succ, List.getElem?_cons_zero]; exact rfl)
                    case hsb8 => kernel_rfl
                    case hfb8 => kernel_rfl
                    case hrb8 => kernel_rfl
                    case hqb8 => (exact fun _ _ _ h => h)
                    case hyb8 =>
                      refine Or.inl ⟨rfl, ?_⟩
                      intro wq hSw
                      obtain ⟨sa, sb, sc, -⟩ := hSw
                      first | (go_simp; done) | (go_simp; with_reducible rfl)
                    case hSb8 => assumption
                    try simp only [Act.put, List.setIfInBounds_toArray, List.set_cons_zero, List.set_cons_succ]
                    refine wpAnyH_take (i := 8) (oi := ?oib9) (v := ?vb9) ?hib9 ?hsb9 ?hfb9 ?hrb9 ?hqb9 ?hyb9 ?hSb9 ?restb9
                    case hib9 => (simp only [List.getElem?_toArray, List.getElem?_cons_succ, List.getElem?_cons_zero]; exact rfl)
                    case hsb9 => kernel_rfl
                    case hfb9 => kernel_rfl
                    case hrb9 => kernel_rfl
                    case hqb9 => (exact fun _ _ _ h => h)
                    case hyb9 =>
                      refine Or.inl ⟨rfl, ?_⟩
                      intro wq hSw
                      obtain ⟨sa, sb, sc, -⟩ := hSw
                      first | (go_simp; done) | (go_simp; with_reducible rfl)
                    case hSb9 => assumption
                    try simp only [Act.put, List.setIfInBounds_toArray, List.set_cons_zero, List.set_cons_succ]
                    refine wpAnyH_take (i := 9) (oi := ?oib10) (v := ?vb10) ?hib10 ?hsb10 ?hfb10 ?hrb10 ?hqb10 ?hyb10 ?hSb10 ?restb10
                    case hib10 => (simp only [List.getElem?_toArray, List.getElem?_cons_succ, List.getElem?_cons_zero]; exact rfl)
                    case hsb10 => kernel_rfl
                    case hfb10 => kernel_rfl
                    case hrb10 => kernel_rfl
                    case hqb10 => (exact fun _ _ _ h => h)
                    case hyb10 =>
                      refine Or.inl ⟨rfl, ?_⟩
                      intro wq hSw
                      obtain ⟨sa, sb, sc, -⟩ := hSw
                      first | (go_simp; done) | (go_simp; with_reducible rfl)
                    case hSb10 => assumption
                    try simp only [Act.put, List.setIfInBounds_toArray, List.set_cons_zero, List.set_cons_succ]
                    refine wpAnyH_take (i := 10) (oi := ?oib11) (v := ?vb11) ?hib11 ?hsb11 ?hfb11 ?hrb11 ?hqb11 ?hyb11 ?hSb11 ?restb11
                    case hib11 => (simp only [List.getElem?_toArray, List.getElem?_cons_succ, List.getElem?_cons_zero]; exact rfl)
                    case hsb11 => kernel_rfl
                    case hfb11 => kernel_rfl
                    case hrb11 => kernel_rfl
                    case hqb11 => (exact fun _ _ _ h => h)
                    case hyb11 =>
                      refine Or.inl ⟨rfl, ?_⟩
                      intro wq hSw
                      obtain ⟨sa, sb, sc, -⟩ := hSw
                      first | (go_simp; done) | (go_simp; with_reducible rfl)
                    case hSb11 => assumption
                    try simp only [Act.put, List.setIfInBounds_toArray, List.set_cons_zero, List.set_cons_succ]
                    refine wpAnyH_take (i := 11) (oi := ?oib12) (v := undef) ?hib12 ?hsb12 ?hfb12 ?hrb12 ?hqb12 ?hyb12 ?hSb12 ?restb12
                    case hib12 => (simp only [List.getElem?_toArray, List.getElem?_cons_succ, List.getElem?_cons_zero]; exact rfl)
                    case hsb12 => kernel_rfl
                    case hfb12 => kernel_rfl
                    case hrb12 => kernel_rfl
                    case hqb12 => (exact fun _ _ _ h => h)
                    case hyb12 => (exact Or.inr ⟨by rfl, rfl⟩)
                    case hSb12 => assumption
                    try simp only [Act.put, List.setIfInBounds_toArray, List.set_cons_zero, List.set_cons_succ]
                    refine wpAnyH_take (i := 12) (oi := ?oib13) (v := undef) ?hib13 ?hsb13 ?hfb13 ?hrb13 ?hqb13 ?hyb13 ?hSb13 ?restb13
                    case hib13 => (simp only [List.getElem?_toArray, List.getElem?_cons_succ, List.getElem?_cons_zero]; exact rfl)
                    case hsb13 => kernel_rfl
                    case hfb13 => kernel_rfl
                    case hrb13 => kernel_rfl
                    case hqb13 => (exact fun _ _ _ h => h)
                    case hyb13 => (exact Or.inr ⟨by rfl, rfl⟩)
                    case hSb13 => assumption
                    try simp only [Act.put, List.setIfInBounds_toArray, List.set_cons_zero, List.set_cons_succ]
                    refine wpAnyH_take (i := 13) (oi := ?oib14) (v := undef) ?hib14 ?hsb14 ?hfb14 ?hrb14 ?hqb14 ?hyb14 ?hSb14 ?restb14
                    case hib14 => (simp only [List.getElem?_toArray, List.getElem?_cons_succ, List.getElem?_cons_zero]; exact rfl)
                    case hsb14 => kernel_rfl
                    case hfb14 => kernel_rfl
                    case hrb14 => kernel_rfl
                    case hqb14 => (exact fun _ _ _ h => h)
                    case hyb14 => (exact Or.inr ⟨by rfl, rfl⟩)
                    case hSb14 => assumption
                    try simp only [Act.put, List.setIfInBounds_toArray, List.set_cons_zero, List.set_cons_succ]
                    refine wpAnyH_take (i := 14) (oi := ?oib15) (v := ?vb15) ?hib15 ?hsb15 ?hfb15 ?hrb15 ?hqb15 ?hyb15 ?hSb15 ?restb15
                    case hib15 => (simp only [List.getElem?_toArray, List.getElem?_cons_succ, List.getElem?_cons_zero]; exact rfl)
                    case hsb15 => kernel_rfl
                    case hfb15 => kernel_rfl
                    case hrb15 => kernel_rfl
                    case hqb15 => (exact fun _ _ _ h => h)
                    case hyb15 =>
                      refine Or.inl ⟨rfl, ?_⟩
                      intro wq hSw
                      obtain ⟨sa, sb, sc, -⟩ := hSw
                      first | (go_simp; done) | (go_simp; with_reducible rfl)
                    case hSb15 => assumption
                    try simp only [Act.put, List.setIfInBounds_toArray, List.set_cons_zero, List.set_cons_succ]
                    refine wpAnyH_take (i := 15) (oi := ?oib16) (v := ?vb16) ?hib16 ?hsb16 ?hfb16 ?hrb16 ?hqb16 ?hyb16 ?hSb16 ?restb16
                    case hib16 => (simp only [List.getElem?_toArray, List.getElem?_cons_succ, List.getElem?_cons_zero]; exact rfl)
                    case hsb16 => kernel_rfl
                    case hfb16 => kernel_rfl
                    case hrb16 => kernel_rfl
                    case hqb16 => (exact fun _ _ _ h => h)
                    case hyb16 =>
                      refine Or.inl ⟨rfl, ?_⟩
                      intro wq hSw
                      obtain ⟨sa, sb, sc, -⟩ := hSw
                      first | (go_simp; done) | (go_simp; with_reducible rfl)
                    case hSb16 => assumption
                    try simp only [Act.put, List.setIfInBounds_toArray, List.set_cons_zero, List.set_cons_succ]
                    refine wpAnyH_take (i := 16) (oi := ?oib17) (v := ?vb17) ?hib17 ?hsb17 ?hfb17 ?hrb17 ?hqb17 ?hyb17 ?hSb17 ?restb17
                    case hib17 => (simp only [List.getElem?_toArray, List.getElem?_cons_succ, List.getElem?_cons_zero]; exact rfl)
                    case hsb17 => kernel_rfl
                    case hfb17 => kernel_rfl
                    case hrb17 => kernel_rfl
                    case hqb17 => (exact fun _ _ _ h => h)
                    case hyb17 =>
                      refine Or.inl ⟨rfl, ?_⟩
                      intro wq hSw
                      obtain ⟨sa, sb, sc, -⟩ := hSw
                      first | (go_simp; done) | (go_simp; with_reducible rfl)
                    case hSb17 => assumption
                    try simp only [Act.put, List.setIfInBounds_toArray, List.set_cons_zero, List.set_cons_succ]
                    refine wpAnyH_done (by kernel_rfl) ?_ _
                    have hHold := hHeld
                    go_wp2_with fail
                    go_meet
                    case rel => exact ⟨by rw [Hm.out], hHold.2.2.2⟩
                  exact AllReadyH.nil
                exact AllReadyH.nil
            · have hmb' : ((B : Int) == (k : Int)) = false := by rw [hmb, hm]; rfl
              have Hm := Lib.hid hm
              clear hfar hmb hm HMo
              refine wp_region_held_drew (S := (fun v => v.cell? ⟨q + 1, 0, none⟩ = some (.int .u64 0) ∧ v.cell? ⟨q + 1, 1, none⟩ = some (.int .u64 k) ∧ v.cell? ⟨w.heap.size + 1, 1, none⟩ = some (.int .u64 k) ∧ Below X.heap.size X v)) (by kernel_rfl) ⟨z0, z1, y1, (Below.refl _ _).drew⟩ (fun hHeld => ?_)
              refine wpAnyH_take (i := 0) (oi := ?oic1) (v := ?vc1) ?hic1 ?hsc1 ?hfc1 ?hrc1 ?hqc1 ?hyc1 ?hSc1 ?restc1
              case hic1 => (simp only [List.getElem?_toArray, List.getElem?_cons_succ, List.getElem?_cons_zero]; exact rfl)
              case hsc1 => kernel_rfl
              case hfc1 => kernel_rfl
              case hrc1 => kernel_rfl
              case hqc1 => (exact fun _ _ _ h => h)
              case hyc1 =>
                refine Or.inl ⟨rfl, ?_⟩
                intro wq hSw
                obtain ⟨sa, sb, sc, -⟩ := hSw
                first | (go_simp; done) | (go_simp; with_reducible rfl)
              case hSc1 => assumption
              try simp only [Act.put, List.setIfInBounds_toArray, List.set_cons_zero, List.set_cons_succ]
              refine wpAnyH_take (i := 1) (oi := ?oic2) (v := ?vc2) ?hic2 ?hsc2 ?hfc2 ?hrc2 ?hqc2 ?hyc2 ?hSc2 ?restc2
              case hic2 => (simp only [List.getElem?_toArray, List.getElem?_cons_succ, List.getElem?_cons_zero]; exact rfl)
              case hsc2 => kernel_rfl
              case hfc2 => kernel_rfl
              case hrc2 => kernel_rfl
              case hqc2 => (exact fun _ _ _ h => h)
              case hyc2 =>
                refine Or.inl ⟨rfl, ?_⟩
                intro wq hSw
                obtain ⟨sa, sb, sc, -⟩ := hSw
                first | (go_simp; done) | (go_simp; with_reducible rfl)
              case hSc2 => assumption
              try simp only [Act.put, List.setIfInBounds_toArray, List.set_cons_zero, List.set_cons_succ]
              refine wpAnyH_take (i := 3) (oi := ?oic3) (v := ?vc3) ?hic3 ?hsc3 ?hfc3 ?hrc3 ?hqc3 ?hyc3 ?hSc3 ?restc3
              case hic3 => (simp only [List.getElem?_toArray, List.getElem?_cons_succ, List.getElem?_cons_zero]; exact rfl)
              case hsc3 => kernel_rfl
              case hfc3 => kernel_rfl
              case hrc3 => kernel_rfl
              case hqc3 => (exact fun _ _ _ h => h)
              case hyc3 =>
                refine Or.inl ⟨rfl, ?_⟩
                intro wq hSw
                obtain ⟨sa, sb, sc, -⟩ := hSw
                first | (go_simp; done) | (go_simp; with_reducible rfl)
              case hSc3 => assumption
              try simp only [Act.put, List.setIfInBounds_toArray, List.set_cons_zero, List.set_cons_succ]
              refine wpAnyH_take (i := 5) (oi := ?oic4) (v := ?vc4) ?hic4 ?hsc4 ?hfc4 ?hrc4 ?hqc4 ?hyc4 ?hSc4 ?restc4
              case hic4 => (simp only [List.getElem?_toArray, List.getElem?_cons_succ, List.getElem?_cons_zero]; exact rfl)
              case hsc4 => kernel_rfl
              case hfc4 => kernel_rfl
              case hrc4 => kernel_rfl
              case hqc4 => (exact fun _ _ _ h => h)
              case hyc4 =>
                refine Or.inl ⟨rfl, ?_⟩
                intro wq hSw
                obtain ⟨sa, sb, sc, -⟩ := hSw
                first | (go_simp; done) | (go_simp; with_reducible rfl)
              case hSc4 => assumption
              try simp only [Act.put, List.setIfInBounds_toArray, List.set_cons_zero, List.set_cons_succ]
              refine wpAnyH_ready (rs := [2]) (by kernel_rfl) (by simp) ?_
              refine AllReadyH.cons (o := ?oic5) ?hic5 (fun K hK => ?_) ?_
              case hic5 => (simp only [List.getElem?_toArray, List.getElem?_cons_succ, List.getElem?_cons_zero]; exact rfl)
              · go_simp
                go_at_call 104
                refine (CR.out _).mono ?_
                rintro _ wz ⟨rfl, hb1⟩
                first | go_wp2_with fail | skip
                refine hK.out _ _ ⟨keep_cell hb1 hHeld.1, keep_cell hb1 hHeld.2.1, keep_cell hb1 hHeld.2.2.1, keep_below hHeld.2.2.2 hb1⟩ (fun hHeld => ?_)
                clear hK K
                try simp only [Act.put, List.setIfInBounds_toArray, List.set_cons_zero, List.set_cons_succ]
                refine wpAnyH_ready (rs := [4]) (by kernel_rfl) (by simp) ?_
                refine AllReadyH.cons (o := ?oic6) ?hic6 (fun K hK => ?_) ?_
                case hic6 => (simp only [List.getElem?_toArray, List.getElem?_cons_succ, List.getElem?_cons_zero]; exact rfl)
                · go_simp
                  go_at_call 103
                  refine (CS2.out _).mono ?_
                  rintro _ wz ⟨rfl, hb1⟩
                  first | go_wp2_with fail | skip
                  refine hK.out _ _ ⟨keep_cell hb1 hHeld.1, keep_cell hb1 hHeld.2.1, keep_cell hb1 hHeld.2.2.1, keep_below hHeld.2.2.2 hb1⟩ (fun hHeld => ?_)
                  clear hK K
                  try simp only [Act.put, List.setIfInBounds_toArray, List.set_cons_zero, List.set_cons_succ]
                  refine wpAnyH_take (i := 6) (oi := ?oic7) (v := ?vc7) ?hic7 ?hsc7 ?hfc7 ?hrc7 ?hqc7 ?hyc7 ?hSc7 ?restc7
                  case hic7 => (simp only [List.getElem?_toArray, List.getElem?_cons_succ, List.getElem?_cons_zero]; exact rfl)
                  case hsc7 => kernel_rfl
                  case hfc7 => kernel_rfl
                  case hrc7 => kernel_rfl
                  case hqc7 => (exact fun _ _ _ h => h)
                  case hyc7 =>
                    refine Or.inl ⟨rfl, ?_⟩
                    intro wq hSw
                    obtain ⟨sa, sb, sc, -⟩ := hSw
                    first | (go_simp; done) | (go_simp; with_reducible rfl)
                  case hSc7 => assumption
                  try simp only [Act.put, List.setIfInBounds_toArray, List.set_cons_zero, List.set_cons_succ]
                  refine wpAnyH_take (i := 7) (oi := ?oic8) (v := ?vc8) ?hic8 ?hsc8 ?hfc8 ?hrc8 ?hqc8 ?hyc8 ?hSc8 ?restc8
                  case hic8 => (simp only [List.getElem?_toArray, List.getElem?_cons_succ, List.getElem?_cons_zero]; exact rfl)
                  case hsc8 => kernel_rfl
                  case hfc8 => kernel_rfl
                  case hrc8 => kernel_rfl
                  case hqc8 => (exact fun _ _ _ h => h)
                  case hyc8 =>
                    refine Or.inl ⟨rfl, ?_⟩
                    intro wq hSw
                    obtain ⟨sa, sb, sc, -⟩ := hSw
                    first | (go_simp; done) | (go_simp; with_reducible rfl)
                  case hSc8 => assumption
                  try simp only [Act.put, List.setIfInBounds_toArray, List.set_cons_zero, List.set_cons_succ]
                  refine wpAnyH_take (i := 8) (oi := ?oic9) (v := undef) ?hic9 ?hsc9 ?hfc9 ?hrc9 ?hqc9 ?hyc9 ?hSc9 ?restc9
                  case hic9 => (simp only [List.getElem?_toArray, List.getElem?_cons_succ, List.getElem?_cons_zero]; exact rfl)
                  case hsc9 => kernel_rfl
                  case hfc9 => kernel_rfl
                  case hrc9 => kernel_rfl
                  case hqc9 => (exact fun _ _ _ h => h)
                  case hyc9 => (exact Or.inr ⟨by rfl, rfl⟩)
                  case hSc9 => assumption
                  try simp only [Act.put, List.setIfInBounds_toArray, List.set_cons_zero, List.set_cons_succ]
                  refine wpAnyH_take (i := 9) (oi := ?oic10) (v := undef) ?hic10 ?hsc10 ?hfc10 ?hrc10 ?hqc10 ?hyc10 ?hSc10 ?restc10
                  case hic10 => (simp only [List.getElem?_toArray, List.getElem?_cons_succ, List.getElem?_cons_zero]; exact rfl)
                  case hsc10 => kernel_rfl
                  case hfc10 => kernel_rfl
                  case hrc10 => kernel_rfl
                  case hqc10 => (exact fun _ _ _ h => h)
                  case hyc10 => (exact Or.inr ⟨by rfl, rfl⟩)
                  case hSc10 => assumption
                  try simp only [Act.put, List.setIfInBounds_toArray, List.set_cons_zero, List.set_cons_succ]
                  refine wpAnyH_take (i := 10) (oi := ?oic11) (v := undef) ?hic11 ?hsc11 ?hfc11 ?hrc11 ?hqc11 ?hyc11 ?hSc11 ?restc11
                  case hic11 => (simp only [List.getElem?_toArray, List.getElem?_cons_succ, List.getElem?_cons_zero]; exact rfl)
                  case hsc11 => kernel_rfl
                  case hfc11 => kernel_rfl
                  case hrc11 => kernel_rfl
                  case hqc11 => (exact fun _ _ _ h => h)
                  case hyc11 => (exact Or.inr ⟨by rfl, rfl⟩)
                  case hSc11 => assumption
                  try simp only [Act.put, List.setIfInBounds_toArray, List.set_cons_zero, List.set_cons_succ]
                  refine wpAnyH_take (i := 11) (oi := ?oic12) (v := undef) ?hic12 ?hsc12 ?hfc12 ?hrc12 ?hqc12 ?hyc12 ?hSc12 ?restc12
                  case hic12 => (simp only [List.getElem?_toArray, List.getElem?_cons_succ, List.getElem?_cons_zero]; exact rfl)
                  case hsc12 => kernel_rfl
                  case hfc12 => kernel_rfl
                  case hrc12 => kernel_rfl
                  case hqc12 => (exact fun _ _ _ h => h)
                  case hyc12 => (exact Or.inr ⟨by rfl, rfl⟩)
                  case hSc12 => assumption
                  try simp only [Act.put, List.setIfInBounds_toArray, List.set_cons_zero, List.set_cons_succ]
                  refine wpAnyH_take (i := 12) (oi := ?oic13) (v := undef) ?hic13 ?hsc13 ?hfc13 ?hrc13 ?hqc13 ?hyc13 ?hSc13 ?restc13
                  case hic13 => (simp only [List.getElem?_toArray, List.getElem?_cons_succ, List.getElem?_cons_zero]; exact rfl)
                  case hsc13 => kernel_rfl
                  case hfc13 => kernel_rfl
                  case hrc13 => kernel_rfl
                  case hqc13 => (exact fun _ _ _ h => h)
                  case hyc13 => (exact Or.inr ⟨by rfl, rfl⟩)
                  case hSc13 => assumption
                  try simp only [Act.put, List.setIfInBounds_toArray, List.set_cons_zero, List.set_cons_succ]
                  refine wpAnyH_take (i := 13) (oi := ?oic14) (v := undef) ?hic14 ?hsc14 ?hfc14 ?hrc14 ?hqc14 ?hyc14 ?hSc14 ?restc14
                  case hic14 => (simp only [List.getElem?_toArray, List.getElem?_cons_succ, List.getElem?_cons_zero]; exact rfl)
                  case hsc14 => kernel_rfl
                  case hfc14 => kernel_rfl
                  case hrc14 => kernel_rfl
                  case hqc14 => (exact fun _ _ _ h => h)
                  case hyc14 => (exact Or.inr ⟨by rfl, rfl⟩)
                  case hSc14 => assumption
                  try simp only [Act.put, List.setIfInBounds_toArray, List.set_cons_zero, List.set_cons_succ]
                  refine wpAnyH_take (i := 14) (oi := ?oic15) (v := undef) ?hic15 ?hsc15 ?hfc15 ?hrc15 ?hqc15 ?hyc15 ?hSc15 ?restc15
                  case hic15 => (simp only [List.getElem?_toArray, List.getElem?_cons_succ, List.getElem?_cons_zero]; exact rfl)
                  case hsc15 => kernel_rfl
                  case hfc15 => kernel_rfl
                  case hrc15 => kernel_rfl
                  case hqc15 => (exact fun _ _ _ h => h)
                  case hyc15 => (exact Or.inr ⟨by rfl, rfl⟩)
                  case hSc15 => assumption
                  try simp only [Act.put, List.setIfInBounds_toArray, List.set_cons_zero, List.set_cons_succ]
                  refine wpAnyH_take (i := 15) (oi := ?oic16) (v := ?vc16) ?hic16 ?hsc16 ?hfc16 ?hrc16 ?hqc16 ?hyc16 ?hSc16 ?restc16
                  case hic16 => (simp only [List.getElem?_toArray, List.getElem?_cons_succ, List.getElem?_cons_zero]; exact rfl)
                  case hsc16 => kernel_rfl
                  case hfc16 => kernel_rfl
                  case hrc16 => kernel_rfl
                  case hqc16 => (exact fun _ _ _ h => h)
                  case hyc16 =>
                    refine Or.inl ⟨rfl, ?_⟩
                    intro wq hSw
                    obtain ⟨sa, sb, sc, -⟩ := hSw
                    first | (go_simp; done) | (go_simp; with_reducible rfl)
                  case hSc16 => assumption
                  try simp only [Act.put, List.setIfInBounds_toArray, List.set_cons_zero, List.set_cons_succ]
                  refine wpAnyH_take (i := 16) (oi := ?oic17) (v := ?vc17) ?hic17 ?hsc17 ?hfc17 ?hrc17 ?hqc17 ?hyc17 ?hSc17 ?restc17
                  case hic17 => (simp only [List.getElem?_toArray, List.getElem?_cons_succ, List.getElem?_cons_zero]; exact rfl)
                  case hsc17 => kernel_rfl
                  case hfc17 => kernel_rfl
                  case hrc17 => kernel_rfl
                  case hqc17 => (exact fun _ _ _ h => h)
                  case hyc17 =>
                    refine Or.inl ⟨rfl, ?_⟩
                    intro wq hSw
                    obtain ⟨sa, sb, sc, -⟩ := hSw
                    first | (go_simp; done) | (go_simp; with_reducible rfl)
                  case hSc17 => assumption
                  try simp only [Act.put, List.setIfInBounds_toArray, List.set_cons_zero, List.set_cons_succ]
                  refine wpAnyH_done (by kernel_rfl) ?_ _
                  have hHold := hHeld
                  go_wp2_with fail
                  go_meet
                  case rel => exact ⟨by rw [Hm.out], hHold.2.2.2⟩
                exact AllReadyH.nil
              exact AllReadyH.nil
          case rest =>
            obtain ⟨rfl, hb⟩ := hcut
            replace B6 := Lib.hid (B6.out.below hb)
            replace B7 := Lib.hid (B7.out.below hb)
            replace B14 := Lib.hid (B14.out.below hb)
            replace B15 := Lib.hid (B15.out.below hb)
            replace HB := Lib.hid (keep_belowB HB.out hb (Nat.le_refl _))
            clear hb z0 z1 y0 y1 y2 hmb hfar CS2
            obtain ⟨z0, z1⟩ := B15.out.wide0
            go_wp2_with fail
            refine (CR.out _).mono ?_
            rintro _ w4 ⟨rfl, hb⟩
            replace B6 := Lib.hid (B6.out.below hb)
            replace B7 := Lib.hid (B7.out.below hb)
            replace B14 := Lib.hid (B14.out.below hb)
            replace B15 := Lib.hid (B15.out.below hb)
            replace HB := Lib.hid (keep_belowB HB.out hb (Nat.le_refl _))
            clear hb z0 z1 CR
            obtain ⟨z0, z1⟩ := B15.out.wide0
            have zf : ∀ j, w4.frozen? ⟨q + 1, j, none⟩ = false := fun j => B15.out.free j
            go_upto_region 15 with (fail)
            have hq := HQ.out
            replace B6 := Lib.hid ((B6.out.other (p := ⟨q + 1, 0, none⟩) (by show q + 1 ≠ _; omega) (.int .u64 0)).other (p := ⟨q + 1, 1, none⟩) (by show q + 1 ≠ _; omega) (.int .u64 L))
            replace B7 := Lib.hid ((B7.out.other (p := ⟨q + 1, 0, none⟩) (by show q + 1 ≠ _; omega) (.int .u64 0)).other (p := ⟨q + 1, 1, none⟩) (by show q + 1 ≠ _; omega) (.int .u64 L))
            replace B14 := Lib.hid ((B14.out.other (p := ⟨q + 1, 0, none⟩) (by show q + 1 ≠ q; omega) (.int .u64 0)).other (p := ⟨q + 1, 1, none⟩) (by show q + 1 ≠ q; omega) (.int .u64 L))
            replace B15 := Lib.hid (B15.out.set2 (.int .u64 0) (.int .u64 L))
            replace HB := Lib.hid (below_two HB.out (show w.heap.size ≤ q + 1 by omega) (.int .u64 0) (.int .u64 L))
            generalize (w4.setCell ⟨q + 1, 0, none⟩ (.int .u64 0)).setCell ⟨q + 1, 1, none⟩ (.int .u64 L) = Y at *
            clear z0 z1 zf hq
            obtain ⟨x0, x1, x2⟩ := B6.out.nm
            obtain ⟨y0, y1, y2⟩ := B7.out.nm
            obtain ⟨z0, z1⟩ := B15.out.wide0
            have u0 := B14.out.cell 0 rfl
            have u1 := B14.out.cell 1 rfl
            obtain ⟨hHd, hLd, hHl, hhh, hhl⟩ := HH.out
            have hl := HL.out
            have hsh := HSH.out
            have hk53 := hl.k53
            have hLk : L ≤ k := by rw [hLd]; exact Nat.div_le_self _ _
            have wL : Value.agg #[.int .u64 0, .int .u64 L] = WV L := wv_small (by omega)
            have wH : Value.agg #[.int .u64 hh, .int .u64 hl'] = WV H := by rw [WV_eq, ← hhh, ← hhl]; rfl
            have hmo := HMo.out
            rw [hLd] at hmo
            have he40 : -40000 ≤ e - (up : Int) ∧ e - (up : Int) ≤ 40000 := by have := hsh.le; have := hl.le; have := hl.lo; have := hl.hi; omega
            have hr := HRr.out
            by_cases hst : s = t
            · subst hst
              obtain ⟨a1, a2, a3, a4, a5⟩ := sum_same (F := fm f) ok m hl hsh
              rw [← hHd, ← hLd] at a1 a2 a3 a4
              rw [← hLd] at hmo
              rw [← hmo] at a3 a4
              have er : r = intoS (fm f) m s (H + L) (e - up) more := by
                rw [hr, a4]; unfold sumN; rw [if_neg a5]
              have cA := fun wx => wAdd_any H L wx (by omega)
              have cP := fun wx h1 h2 => Parts_ok f m s (H + L) (e - up) more wx HI.out.1 HI.out.2 (by omega) he40 a3 h1 h2
              unfold partsS at cP
              rw [if_neg a1, ← er] at cP
              rw [← wL, ← wH, WV_eq (H + L)] at cA
              rw [WV_eq (H + L)] at cP
              obtain ⟨sh, hsh'⟩ : ∃ x, x = (H + L) / 18446744073709551616 := ⟨_, rfl⟩
              obtain ⟨sl, hsl⟩ : ∃ x, x = (H + L) % 18446744073709551616 := ⟨_, rfl⟩
              rw [← hsh', ← hsl] at cA cP
              unfold wv at cA cP
              have CA := Lib.hid cA
              have CP := Lib.hid cP
              clear cA cP hsh' hsl er a1 a2 a3 a4 a5 hHd hLd hHl hhh hhl hl hsh hk53 hLk wL wH hmo he40 hr
              go_wp2_with fail
              refine (CA.out _).mono ?_
              rintro _ w5 ⟨rfl, hb⟩
              replace B6 := Lib.hid ((B6.out.below hb).below (below1 w5 (.cells #[.int .u64 sh, .int .u64 sl] 78)))
              replace HB := Lib.hid ((keep_belowB HB.out hb (Nat.le_refl _)).alloc (by have := HB.out.size; have := hb.size; omega) (.cells #[.int .u64 sh, .int .u64 sl] 78))
              clear hb x0 x1 x2 y0 y1 y2 z0 z1 u0 u1 CA
              obtain ⟨x0, x1, x2⟩ := B6.out.nm
              go_wp2_with fail
              refine (CP.out _ (HG.out.below HB.out) (HR.out.below HB.out)).mono ?_
              rintro _ w6 ⟨rfl, hb⟩
              replace HB := Lib.hid (keep_belowB HB.out hb (Nat.le_refl _))
              clear hb x0 x1 x2 CP
              go_wp2_with fail
              refine bodyPost_ret (v := .tuple #[.int .u64 r.1, .int .i64 r.2, .int .i64 0]) (by simp [results, Tryz.results85, go_sem]) rfl ⟨rfl, HB.out⟩
            · obtain rfl : t = !s := by cases s <;> cases t <;> simp_all
              have th : (s == !s) = false := by cases s <;> rfl
              have cC := fun wx => wCmp_any H L wx
              rw [← wL, ← wH] at cC
              have CC := Lib.hid cC
              clear cC hst
              by_cases hlt : H < L
              · skip
                obtain ⟨a1, a2, a3, a4⟩ := sum_turn (F := fm f) ok m hl hsh (by rw [← hHd, ← hLd]; exact hlt)
                rw [← hHd, ← hLd] at a2 a3
                have hm0 : more = false := by rw [hmo, a1]
                have er : r = intoS (fm f) m (!s) (L - H) (e - up) false := by
                  rw [hr, a3]; unfold sumN; rw [if_neg a4]
                have hne : L - H ≠ 0 := a2
                have HMB : false = true → (fm f).p + 2 ≤ bl (L - H) := nofun
                have cP := fun wx h1 h2 => Parts_ok f m (!s) (L - H) (e - up) false wx HI.out.1 HI.out.2 (by omega) he40 HMB h1 h2
                unfold partsS at cP
                rw [if_neg hne, ← er] at cP
                rw [WV_eq (L - H)] at cP
                have cS := fun wx => wSub_any L H wx (by omega) (by omega)
                rw [← wL, ← wH, WV_eq (L - H)] at cS
                obtain ⟨dh, hdh⟩ : ∃ x, x = (L - H) / 18446744073709551616 := ⟨_, rfl⟩
                obtain ⟨dl, hdl⟩ : ∃ x, x = (L - H) % 18446744073709551616 := ⟨_, rfl⟩
                rw [← hdh, ← hdl] at cS cP
                have hdz : ¬ (dh = 0 ∧ dl = 0) := by rw [hdh, hdl]; omega
                unfold wv at cS cP
                have CS := Lib.hid cS
                have CP := Lib.hid cP
                have hc : cmpW H L = -1 := by unfold cmpW; rw [if_pos hlt]
                have cC := CC.out
                rw [hc] at cC
                have CC' := Lib.hid cC
                subst hm0
                clear a1 a2 a3 a4 cS cP cC hc hlt hdh hdl CC HMo
                clear er hne HMB hHd hLd hHl hhh hhl hl hsh hk53 hLk wL wH hmo he40 hr
                go_wp2_with fail
                refine (CC'.out _).mono ?_
                rintro _ w5 ⟨rfl, hb⟩
                replace B7 := Lib.hid (B7.out.below hb)
                replace B14 := Lib.hid (B14.out.below hb)
                replace B15 := Lib.hid (B15.out.below hb)
                replace HB := Lib.hid (keep_belowB HB.out hb (Nat.le_refl _))
                clear hb CC' x0 x1 x2 y0 y1 y2 z0 z1 u0 u1
                obtain ⟨y0, y1, y2⟩ := B7.out.nm
                obtain ⟨z0, z1⟩ := B15.out.wide0
                have u0 := B14.out.cell 0 rfl
                have u1 := B14.out.cell 1 rfl
                have zf : ∀ j, w5.frozen? ⟨q + 1, j, none⟩ = false := fun j => B15.out.free j
                have uf : ∀ j, w5.frozen? ⟨q, j, none⟩ = false := fun j => B14.out.free j
                go_upto_region 20 with (fail)
                go_cut [21] from 141 (fun v wx => v = .bool (!s) ∧ (Bx wx q #[.int .u64 0, .int .u64 L] ∧ Bx wx (q + 1) #[.int .u64 hh, .int .u64 hl']) ∧ Below w.heap.size w wx)
                case first =>
                  have hn1 : w.heap.size + 1 ≠ q := by have := HQ.out; omega
                  have hn2 : w.heap.size + 1 ≠ q + 1 := by have := HQ.out; omega
                  go_region
                  all_goals
                    go_wp2_with fail
                    go_meet
                    case rel => exact ⟨rfl, Bx.four B14.out B15.out _ _ _ _, (below_four HB.out (q := q) (by have := HQ.out; omega) _ _ _ _).drew⟩
                case rest =>
                  obtain ⟨rfl, ⟨b14, b15⟩, hb⟩ := hcut
                  clear y0 y1 y2 z0 z1 u0 u1 zf uf B6 B7
                  replace HB := Lib.hid hb
                  have z0 := b14.cell 0 rfl
                  have z1 := b14.cell 1 rfl
                  have u0 := b15.cell 0 rfl
                  have u1 := b15.cell 1 rfl
                  clear b14 b15 hb B14 B15
                  go_wp2_with fail
                  refine (CS.out _).mono ?_
                  rintro _ w5' ⟨rfl, hb⟩
                  replace HB := Lib.hid ((keep_belowB HB.out hb (Nat.le_refl _)).alloc (by have := HB.out.size; have := hb.size; omega) (.cells #[.int .u64 dh, .int .u64 dl] 78))
                  clear hb z0 z1 u0 u1 CS
                  by_cases cz : dh = 0
                  · have z1' : ((dh : Int) == 0) = true := by rw [beq_iff_eq]; omega
                    have z2' : ((dl : Int) == 0) = false := by rw [beq_eq_false_iff_ne]; omega
                    clear cz hdz
                    go_wp2_with fail
                    refine (CP.out _ (HG.out.below HB.out) (HR.out.below HB.out)).mono ?_
                    rintro _ w6 ⟨rfl, hb⟩
                    replace HB := Lib.hid (keep_belowB HB.out hb (Nat.le_refl _))
                    clear hb CP
                    go_wp2_with fail
                    refine bodyPost_ret (v := .tuple #[.int .u64 r.1, .int .i64 r.2, .int .i64 0]) (by simp [results, Tryz.results85, go_sem]) rfl ⟨rfl, HB.out⟩
                  · have z1' : ((dh : Int) == 0) = false := by rw [beq_eq_false_iff_ne]; omega
                    clear cz hdz
                    go_wp2_with fail
                    refine (CP.out _ (HG.out.below HB.out) (HR.out.below HB.out)).mono ?_
                    rintro _ w6 ⟨rfl, hb⟩
                    replace HB := Lib.hid (keep_belowB HB.out hb (Nat.le_refl _))
                    clear hb CP
                    go_wp2_with fail
                    refine bodyPost_ret (v := .tuple #[.int .u64 r.1, .int .i64 r.2, .int .i64 0]) (by simp [results, Tryz.results85, go_sem]) rfl ⟨rfl, HB.out⟩

              · skip
                have hle : L ≤ H := by omega
                obtain ⟨d1, d2⟩ := sum_diff (F := fm f) ok m hl hsh (by rw [← hHd, ← hLd]; exact hle)
                rw [← hHd, ← hLd] at d1 d2
                rw [← hLd] at hmo
                rw [← hmo] at d1 d2
                have hc : decide (cmpW H L < 0) = false := by unfold cmpW; rw [if_neg hlt]; split <;> rfl
                obtain ⟨cc, hcc⟩ : ∃ x, x = cmpW H L := ⟨_, rfl⟩
                have cC := CC.out
                rw [← hcc] at hc cC
                have CC' := Lib.hid cC
                have cS0 := fun wx => wSub_any H L wx (by omega) hle
                rw [← wL, ← wH, WV_eq (H - L)] at cS0
                obtain ⟨ph, hph⟩ : ∃ x, x = (H - L) / 18446744073709551616 := ⟨_, rfl⟩
                obtain ⟨pl, hpl⟩ : ∃ x, x = (H - L) % 18446744073709551616 := ⟨_, rfl⟩
                rw [← hph, ← hpl] at cS0
                unfold wv at cS0
                have CS0 := Lib.hid cS0
                clear cC hcc CC cS0
                cases hm : more
                · obtain ⟨d3, d4⟩ := d2 hm
                  by_cases h0 : H - L = 0
                  · have hz := d3 h0
                    have er : r = ((fm f).sg (m == 4), 0) := by
                      rw [hr]; unfold sumN
                      rw [if_pos hz, if_neg]
                      rintro ⟨_, _, h⟩
                      cases s <;> cases h
                    have e1 : ph = 0 := by rw [hph, h0]
                    have e2 : pl = 0 := by rw [hpl, h0]
                    have hzc := fun wx h => Zero_ok f (m == 4) wx HI.out.1 h
                    subst e1 e2
                    obtain ⟨zz, hzz⟩ : ∃ z, z = (fm f).sg (m == 4) := ⟨_, rfl⟩
                    rw [← hzz] at er hzc
                    have Er := Lib.hid er
                    clear er hzz
                    have hm4 : ((m : Int) == 4) = (m == 4) := by rw [Bool.eq_iff_iff]; simp; omega
                    have HZ := Lib.hid hzc
                    clear d1 d2 d3 d4 h0 hz hzc hph hpl hlt hle hHd hLd hHl hhh hhl hl hsh hk53 hLk wL wH hmo he40 hr hm HMo
                    go_wp2_with fail
                    refine (CC'.out _).mono ?_
                    rintro _ w5 ⟨rfl, hb⟩
                    replace B14 := Lib.hid (B14.out.below hb)
                    replace B15 := Lib.hid (B15.out.below hb)
                    replace HB := Lib.hid (keep_belowB HB.out hb (Nat.le_refl _))
                    clear hb CC' x0 x1 x2 y0 y1 y2 z0 z1 u0 u1 B6 B7
                    obtain ⟨z0, z1⟩ := B15.out.wide0
                    have u0 := B14.out.cell 0 rfl
                    have u1 := B14.out.cell 1 rfl
                    go_wp2_with fail
                    refine (CS0.out _).mono ?_
                    rintro _ w5' ⟨rfl, hb⟩
                    replace HB := Lib.hid ((keep_belowB HB.out hb (Nat.le_refl _)).alloc (by have := HB.out.size; have := hb.size; omega) (.cells #[.int .u64 ((0 : Nat) : Int), .int .u64 ((0 : Nat) : Int)] 78))
                    have B22 := Lib.hid (Bx.new w5' #[.int .u64 ((0 : Nat) : Int), .int .u64 ((0 : Nat) : Int)] 78)
                    clear hb z0 z1 u0 u1 CS0 B14 B15 hc
                    go_wp2_with fail
                    refine (HZ.out _ (HR.out.below HB.out)).mono ?_
                    rintro _ w6 ⟨rfl, hb⟩
                    replace HB := Lib.hid (keep_belowB HB.out hb (Nat.le_refl _))
                    clear hb HZ
                    go_wp2_with fail
                    refine bodyPost_ret (v := .tuple #[.int .u64 zz, .int .i64 0, .int .i64 0]) (by simp [results, Tryz.results85, go_sem]) rfl ⟨by rw [Er.out]; rfl, HB.out⟩
                  · obtain ⟨r1, r2⟩ := d4 h0
                    have er : r = intoS (fm f) m s (H - L) (e - up) false := by
                      rw [hr, r1]; unfold sumN; rw [if_neg r2]
                    have hne := h0
                    have HMB : false = true → (fm f).p + 2 ≤ bl (H - L) := nofun
                    have cP := fun wx h1 h2 => Parts_ok f m s (H - L) (e - up) false wx HI.out.1 HI.out.2 (by omega) he40 HMB h1 h2
                    unfold partsS at cP
                    rw [if_neg hne, ← er, WV_eq (H - L), ← hph, ← hpl] at cP
                    unfold wv at cP
                    have hdz : ¬ (ph = 0 ∧ pl = 0) := by rw [hph, hpl]; omega
                    have CP := Lib.hid cP
                    clear d1 d2 d3 d4 r1 r2 cP h0 hph hpl hlt hle hm HMo
                    clear er hne HMB hHd hLd hHl hhh hhl hl hsh hk53 hLk wL wH hmo he40 hr
                    go_wp2_with fail
                    refine (CC'.out _).mono ?_
                    rintro _ w5 ⟨rfl, hb⟩
                    replace B14 := Lib.hid (B14.out.below hb)
                    replace B15 := Lib.hid (B15.out.below hb)
                    replace HB := Lib.hid (keep_belowB HB.out hb (Nat.le_refl _))
                    clear hb CC' x0 x1 x2 y0 y1 y2 z0 z1 u0 u1 B6 B7
                    obtain ⟨z0, z1⟩ := B15.out.wide0
                    have u0 := B14.out.cell 0 rfl
                    have u1 := B14.out.cell 1 rfl
                    go_wp2_with fail
                    refine (CS0.out _).mono ?_
                    rintro _ w5' ⟨rfl, hb⟩
                    replace HB := Lib.hid ((keep_belowB HB.out hb (Nat.le_refl _)).alloc (by have := HB.out.size; have := hb.size; omega) (.cells #[.int .u64 ph, .int .u64 pl] 78))
                    have B22 := Lib.hid (Bx.new w5' #[.int .u64 ph, .int .u64 pl] 78)
                    clear hb z0 z1 u0 u1 CS0 B14 B15 hc
                    by_cases cz : ph = 0
                    · have z1' : ((ph : Int) == 0) = true := by rw [beq_iff_eq]; omega
                      have z2' : ((pl : Int) == 0) = false := by rw [beq_eq_false_iff_ne]; omega
                      clear cz hdz
                      go_wp2_with fail
                      refine (CP.out _ (HG.out.below HB.out) (HR.out.below HB.out)).mono ?_
                      rintro _ w6 ⟨rfl, hb⟩
                      replace HB := Lib.hid (keep_belowB HB.out hb (Nat.le_refl _))
                      clear hb CP
                      go_wp2_with fail
                      refine bodyPost_ret (v := .tuple #[.int .u64 r.1, .int .i64 r.2, .int .i64 0]) (by simp [results, Tryz.results85, go_sem]) rfl ⟨rfl, HB.out⟩
                    · have z1' : ((ph : Int) == 0) = false := by rw [beq_eq_false_iff_ne]; omega
                      clear cz hdz
                      go_wp2_with fail
                      refine (CP.out _ (HG.out.below HB.out) (HR.out.below HB.out)).mono ?_
                      rintro _ w6 ⟨rfl, hb⟩
                      replace HB := Lib.hid (keep_belowB HB.out hb (Nat.le_refl _))
                      clear hb CP
                      go_wp2_with fail
                      refine bodyPost_ret (v := .tuple #[.int .u64 r.1, .int .i64 r.2, .int .i64 0]) (by simp [results, Tryz.results85, go_sem]) rfl ⟨rfl, HB.out⟩
                · obtain ⟨d3, hne, HMB', r1, r2⟩ := d1 hm
                  have er : r = intoS (fm f) m s (H - L - 1) (e - up) true := by
                    rw [hr, r1]; unfold sumN; rw [if_neg r2]
                  have HMB : true = true → (fm f).p + 2 ≤ bl (H - L - 1) := fun _ => HMB'
                  have cP := fun wx h1 h2 => Parts_ok f m s (H - L - 1) (e - up) true wx HI.out.1 HI.out.2 (by omega) he40 HMB h1 h2
                  unfold partsS at cP
                  rw [if_neg hne, ← er, WV_eq (H - L - 1)] at cP
                  have cS1 := fun wx => wSub_any (H - L) 1 wx (by omega) (by omega)
                  rw [WV_eq (H - L), WV_eq (H - L - 1), ← hph, ← hpl, ← wv_small (show 1 < 18446744073709551616 by decide)] at cS1
                  obtain ⟨dh, hdh⟩ : ∃ x, x = (H - L - 1) / 18446744073709551616 := ⟨_, rfl⟩
                  obtain ⟨dl, hdl⟩ : ∃ x, x = (H - L - 1) % 18446744073709551616 := ⟨_, rfl⟩
                  rw [← hdh, ← hdl] at cS1 cP
                  have hdz : ¬ (dh = 0 ∧ dl = 0) := by rw [hdh, hdl]; omega
                  unfold wv at cS1 cP
                  have CP := Lib.hid cP
                  have CS1 := Lib.hid cS1
                  clear d1 d2 d3 HMB' r1 r2 cP cS1 hph hpl hdh hdl hlt hle hm HMo
                  clear er hne HMB hHd hLd hHl hhh hhl hl hsh hk53 hLk wL wH hmo he40 hr
                  go_wp2_with fail
                  refine (CC'.out _).mono ?_
                  rintro _ w5 ⟨rfl, hb⟩
                  replace B14 := Lib.hid (B14.out.below hb)
                  replace B15 := Lib.hid (B15.out.below hb)
                  replace HB := Lib.hid (keep_belowB HB.out hb (Nat.le_refl _))
                  clear hb CC' x0 x1 x2 y0 y1 y2 z0 z1 u0 u1 B6 B7
                  obtain ⟨z0, z1⟩ := B15.out.wide0
                  have u0 := B14.out.cell 0 rfl
                  have u1 := B14.out.cell 1 rfl
                  go_wp2_with fail
                  refine (CS0.out _).mono ?_
                  rintro _ w5' ⟨rfl, hb⟩
                  have HS5 := Lib.hid (show w.heap.size ≤ w5'.heap.size by have := HB.out.size; have := hb.size; omega)
                  replace HB := Lib.hid ((keep_belowB HB.out hb (Nat.le_refl _)).alloc (by have := HB.out.size; have := hb.size; omega) (.cells #[.int .u64 ph, .int .u64 pl] 78))
                  have B22 := Lib.hid (Bx.new w5' #[.int .u64 ph, .int .u64 pl] 78)
                  clear hb z0 z1 u0 u1 CS0 B14 B15 hc
                  go_wp2_with fail
                  refine (CS1.out _).mono ?_
                  rintro _ w7 ⟨rfl, hb⟩
                  replace B22 := Lib.hid (B22.out.below hb)
                  have hsz5 : w.heap.size ≤ w5'.heap.size := by
                    have h1 := B22.out.lt
                    have h2 := HB.out
                    have h3 := HS5.out
                    omega
                  replace HB := Lib.hid (keep_belowB HB.out hb (Nat.le_refl _))
                  clear hb CS1
                  have v0 := B22.out.cell 0 rfl
                  have v1 := B22.out.cell 1 rfl
                  have vf : ∀ j, w7.frozen? ⟨w5'.heap.size, j, none⟩ = false := fun j => B22.out.free j
                  go_upto_region 24 with (fail)
                  replace B22 := Lib.hid (B22.out.set2 (.int .u64 dh) (.int .u64 dl))
                  replace HB := Lib.hid (below_two HB.out hsz5 (.int .u64 dh) (.int .u64 dl))
                  clear v0 v1 vf
                  generalize (w7.setCell ⟨w5'.heap.size, 0, none⟩ (.int .u64 dh)).setCell ⟨w5'.heap.size, 1, none⟩ (.int .u64 dl) = Z at *
                  have v0 := B22.out.cell 0 rfl
                  have v1 := B22.out.cell 1 rfl
                  by_cases cz : dh = 0
                  · have z1' : ((dh : Int) == 0) = true := by rw [beq_iff_eq]; omega
                    have z2' : ((dl : Int) == 0) = false := by rw [beq_eq_false_iff_ne]; omega
                    clear cz hdz
                    go_wp2_with fail
                    refine (CP.out _ (HG.out.below HB.out) (HR.out.below HB.out)).mono ?_
                    rintro _ w6 ⟨rfl, hb⟩
                    replace HB := Lib.hid (keep_belowB HB.out hb (Nat.le_refl _))
                    clear hb CP
                    go_wp2_with fail
                    refine bodyPost_ret (v := .tuple #[.int .u64 r.1, .int .i64 r.2, .int .i64 0]) (by simp [results, Tryz.results85, go_sem]) rfl ⟨rfl, HB.out⟩
                  · have z1' : ((dh : Int) == 0) = false := by rw [beq_eq_false_iff_ne]; omega
                    clear cz hdz
                    go_wp2_with fail
                    refine (CP.out _ (HG.out.below HB.out) (HR.out.below HB.out)).mono ?_
                    rintro _ w6 ⟨rfl, hb⟩
                    replace HB := Lib.hid (keep_belowB HB.out hb (Nat.le_refl _))
                    clear hb CP
                    go_wp2_with fail
                    refine bodyPost_ret (v := .tuple #[.int .u64 r.1, .int .i64 r.2, .int .i64 0]) (by simp [results, Tryz.results85, go_sem]) rfl ⟨rfl, HB.out⟩

end Go.Proofs.YtlibhfojfonfjaaGreatDoor
