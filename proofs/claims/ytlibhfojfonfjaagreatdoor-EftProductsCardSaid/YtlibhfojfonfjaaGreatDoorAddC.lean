/- The walk of addsub.Add. Printed by gen/addc.py. -/
import Derived.Deep.CutBlock
import Derived.Deep.RegionHeld3
import Derived.Test.YtlibhfojfonfjaaGreatDoorAddB
import Derived.Test.YtlibhfojfonfjaaGreatDoorAddCl
import Derived.Test.YtlibhfojfonfjaaGreatDoorPackM
namespace Go.Proofs.YtlibhfojfonfjaaGreatDoor
set_option linter.unusedVariables false
set_option linter.unusedSimpArgs false
open Go.RowKit

set_option maxRecDepth 100000 in
set_option maxHeartbeats 8000000 in
theorem Add_ok (f m a b : Nat) (w : World) (hf : f < 4) (hm : m ≤ 5) (ha : a < 2 ^ (fm f).w) (hb : b < 2 ^ (fm f).w) (hG : Gl w) (hR : GlR w) :
    Calls Tryz.prog 45 #[.int .i64 f, .int .i64 m, .int .u64 a, .int .u64 b] w fun e w' => e = .returned (.tuple #[.int .u64 ((addS (fm f) m a b).1 : Int), .int .i64 ((addS (fm f) m a b).2 : Int), .int .i64 0]) ∧ Below w.heap.size w w' := by
  have hPar := fun wx hx => Params_ok f wx hf hx
  have hclA := fun wx hx => Class_ok f a wx hf ha hx
  have hclB := fun wx hx => Class_ok f b wx hf hb hx
  have hnan := fun wx hx => NaN_ok f wx hf hx
  have hfin : ∀ wx z, z = a ∨ z = b → GlR wx → Calls Tryz.prog 86 #[.int .i64 f, PV (fm f), .int .u64 z] wx fun e w' => e = .returned (.agg (nmA ((fm f).neg z) ((fm f).mag z) ((fm f).ex z))) ∧ Below wx.heap.size wx w' :=
    fun wx z hz hx => afinite_any f z wx hf (by rcases hz with rfl | rfl <;> assumption) hx
  have ok := fm_ok f
  obtain ⟨eb1, eb2, eb3⟩ := fin_bounds ok a
  obtain ⟨eb4, eb5, eb6⟩ := fin_bounds ok b
  have hsm := fun wx h3 h4 => asum_any f m ((fm f).neg a) ((fm f).neg b) ((fm f).mag a) ((fm f).mag b) ((fm f).ex a) ((fm f).ex b) wx hf hm eb3 eb6 ⟨by omega, by omega⟩ ⟨by omega, by omega⟩ h3 h4
  have hw := add_ways ok m ha hb
  clear eb1 eb2 eb3 eb4 eb5 eb6
  obtain ⟨F, hF⟩ : ∃ F, F = fm f := ⟨_, rfl⟩
  rw [← hF] at hPar hclA hclB hnan hfin hsm hw ⊢
  obtain ⟨r, hr⟩ : ∃ r, r = addS F m a b := ⟨_, rfl⟩
  obtain ⟨S, hS⟩ : ∃ S, S = sumN F m (F.neg a) (F.mag a) (F.ex a) (F.neg b) (F.mag b) (F.ex b) := ⟨_, rfl⟩
  obtain ⟨ca, hca⟩ : ∃ c, c = clsF F a := ⟨_, rfl⟩
  obtain ⟨cb, hcb⟩ : ∃ c, c = clsF F b := ⟨_, rfl⟩
  rw [← hca, ← hcb] at hw
  rw [← hca] at hclA
  rw [← hcb] at hclB
  rw [← hS] at hsm
  have way_sg := hw.sg
  have way_qu := hw.qu
  have way_no := hw.no
  have way_fi := hw.fi
  have way_se := hw.se
  have way_su := hw.su
  rw [← hS] at way_su
  rw [← hr] at way_sg way_qu way_no way_fi way_se way_su ⊢
  obtain ⟨N, hN⟩ : ∃ n, n = F.nan := ⟨_, rfl⟩
  rw [← hN] at hnan way_sg way_qu way_no
  obtain ⟨sa, tsa⟩ : ∃ t, (ca == 0) = t := ⟨_, rfl⟩
  obtain ⟨sb, tsb⟩ : ∃ t, (cb == 0) = t := ⟨_, rfl⟩
  obtain ⟨na, tna⟩ : ∃ t, (ca == 1) = t := ⟨_, rfl⟩
  obtain ⟨nb, tnb⟩ : ∃ t, (cb == 1) = t := ⟨_, rfl⟩
  obtain ⟨pa, tpa⟩ : ∃ t, (ca == 2) = t := ⟨_, rfl⟩
  obtain ⟨pb, tpb⟩ : ∃ t, (cb == 2) = t := ⟨_, rfl⟩
  obtain ⟨ra, tra⟩ : ∃ t, (ca == 9) = t := ⟨_, rfl⟩
  obtain ⟨rb, trb⟩ : ∃ t, (cb == 9) = t := ⟨_, rfl⟩
  obtain ⟨ne, tne⟩ : ∃ t, (ca != cb) = t := ⟨_, rfl⟩
  have tne2 : (!(ca == cb)) = ne := tne
  rw [tsa, tsb] at way_sg
  rw [tsa, tsb, tna, tnb] at way_qu
  rw [tsa, tsb, tna, tnb, tpa, tpb, tra, trb, tne] at way_no way_fi
  rw [tsa, tsb, tna, tnb, tpa, tpb, tra, trb] at way_se way_su
  have t1 : decide ((m : Int) < 0) = false := decide_eq_false (by omega)
  have t2 : decide (5 < m) = false := decide_eq_false (by omega)
  have t3 : decide ((5 : Int) < (m : Int)) = false := decide_eq_false (by omega)
  have Wsg := Lib.hid way_sg
  have Wqu := Lib.hid way_qu
  have Wno := Lib.hid way_no
  have Wfi := Lib.hid way_fi
  have Wse := Lib.hid way_se
  have Wsu := Lib.hid way_su
  have HPar := Lib.hid hPar
  have HcA := Lib.hid hclA
  have HcB := Lib.hid hclB
  have HNan := Lib.hid hnan
  have HFin := Lib.hid hfin
  have HSum := Lib.hid hsm
  have HG := Lib.hid hG
  have HR := Lib.hid hR
  have Tsa := Lib.hid tsa
  have Tsb := Lib.hid tsb
  have Tna := Lib.hid tna
  have Tnb := Lib.hid tnb
  have Tne := Lib.hid (And.intro tne tne2)
  clear way_sg way_qu way_no way_fi way_se way_su hw hPar hclA hclB hnan hfin hsm hG hR hF hr hS hca hcb hN hf hm ha hb ok tsa tsb tna tnb tne tne2
  go_enter Tryz.func45, Tryz.ntmps45
  go_wp2_with fail
  refine (HPar.out _ HR.out).mono ?_
  rintro _ w1 ⟨rfl, hb1⟩
  unfold PV
  have ha1 := below1 w1 (.cells #[.int .i64 F.w, .int .i64 F.p, .int .i64 F.emin, .int .i64 F.emax] 65)
  have HB := Lib.hid (hb1.trans (ha1.mono hb1.size))
  replace HG := Lib.hid (HG.out.below HB.out)
  replace HR := Lib.hid (HR.out.below HB.out)
  have BP := Lib.hid (BxP.new F w1 65)
  obtain ⟨W1, hW1⟩ : ∃ W, W = w1.alloc (.cells #[.int .i64 F.w, .int .i64 F.p, .int .i64 F.emin, .int .i64 F.emax] 65) := ⟨_, rfl⟩
  rw [← hW1] at HB HG HR BP
  clear hb1 ha1 HPar
  go_upto_region 2 with (fail)
  rw [← hW1]
  clear hW1
  go_wp2_with fail
  refine (HcA.out _ HR.out).mono ?_
  rintro _ w2 ⟨rfl, hb⟩
  replace HB := Lib.hid (HB.out.trans (hb.mono HB.out.size))
  replace HG := Lib.hid (HG.out.below hb)
  replace HR := Lib.hid (HR.out.below hb)
  replace BP := Lib.hid (BP.out.below hb)
  clear hb HcA
  go_wp2_with fail
  refine (HcB.out _ HR.out).mono ?_
  rintro _ w3 ⟨rfl, hb⟩
  replace HB := Lib.hid (HB.out.trans (hb.mono HB.out.size))
  replace HG := Lib.hid (HG.out.below hb)
  replace HR := Lib.hid (HR.out.below hb)
  replace BP := Lib.hid (BP.out.below hb)
  clear hb HcB
  go_upto_region 12 with (fail)
  go_cut [15, 16] from 51 (fun v15 v16 wx => v15 = .bool (pa || ra) ∧ v16 = .bool (pb || rb) ∧ Below w3.heap.size w3 wx)
  case first =>
    cases pa <;> cases pb
    · cases ra <;> cases rb
      all_goals
        go_wp2_with fail
        go_meet
        case rel => exact ⟨rfl, rfl, Below.refl _ _⟩
    · cases ra
      all_goals
        go_wp2_with fail
        go_meet
        case rel => exact ⟨rfl, rfl, Below.refl _ _⟩
    · cases rb
      all_goals
        go_wp2_with fail
        go_meet
        case rel => exact ⟨rfl, rfl, Below.refl _ _⟩
    · go_wp2_with fail
      go_meet
      case rel => exact ⟨rfl, rfl, Below.refl _ _⟩
  case rest =>
    obtain ⟨rfl, rfl, hb⟩ := hcut
    replace HB := Lib.hid (HB.out.trans (hb.mono HB.out.size))
    replace HG := Lib.hid (HG.out.below hb)
    replace HR := Lib.hid (HR.out.below hb)
    replace BP := Lib.hid (BP.out.below hb)
    clear hb tpa tpb tra trb
    generalize (pa || ra) = ia at *
    generalize (pb || rb) = ib at *
    go_wp2_with fail
    refine (HNan.out _ HR.out).mono ?_
    rintro _ w4 ⟨rfl, hb⟩
    replace HB := Lib.hid (HB.out.trans (hb.mono HB.out.size))
    replace HG := Lib.hid (HG.out.below hb)
    replace HR := Lib.hid (HR.out.below hb)
    replace BP := Lib.hid (BP.out.below hb)
    clear hb HNan
    have tsa := Tsa.out
    have tsb := Tsb.out
    cases sa
    rotate_left
    · skip
      have E := Lib.hid (Wsg.out (Or.inl rfl))
      clear Wsg Wqu Wno Wfi Wse Wsu
      go_wp2_with fail
      refine bodyPost_ret (v := .tuple #[.int .u64 N, .int .i64 1, .int .i64 0]) (by simp [results, Tryz.results45, go_sem]) rfl ?_
      exact ⟨by rw [E.out]; rfl, HB.out⟩
    cases sb
    rotate_left
    · skip
      have E := Lib.hid (Wsg.out (Or.inr rfl))
      clear Wsg Wqu Wno Wfi Wse Wsu
      go_wp2_with fail
      refine bodyPost_ret (v := .tuple #[.int .u64 N, .int .i64 1, .int .i64 0]) (by simp [results, Tryz.results45, go_sem]) rfl ?_
      exact ⟨by rw [E.out]; rfl, HB.out⟩
    have tna := Tna.out
    have tnb := Tnb.out
    cases na
    rotate_left
    · skip
      have E := Lib.hid (Wqu.out rfl rfl (Or.inl rfl))
      clear Wsg Wqu Wno Wfi Wse Wsu
      go_wp2_with fail
      refine bodyPost_ret (v := .tuple #[.int .u64 N, .int .i64 0, .int .i64 0]) (by simp [results, Tryz.results45, go_sem]) rfl ?_
      exact ⟨by rw [E.out]; rfl, HB.out⟩
    cases nb
    rotate_left
    · skip
      have E := Lib.hid (Wqu.out rfl rfl (Or.inr rfl))
      clear Wsg Wqu Wno Wfi Wse Wsu
      go_wp2_with fail
      refine bodyPost_ret (v := .tuple #[.int .u64 N, .int .i64 0, .int .i64 0]) (by simp [results, Tryz.results45, go_sem]) rfl ?_
      exact ⟨by rw [E.out]; rfl, HB.out⟩
    obtain ⟨tne, tne2⟩ := Tne.out
    cases ia
    rotate_left
    · cases ib
      · skip
        have E := Lib.hid (Wfi.out rfl rfl rfl rfl rfl (fun h => absurd h (by decide)))
        clear Wsg Wqu Wno Wfi Wse Wsu
        go_wp2_with fail
        refine bodyPost_ret (v := .tuple #[.int .u64 a, .int .i64 0, .int .i64 0]) (by simp [results, Tryz.results45, go_sem]) rfl ?_
        exact ⟨by rw [E.out]; rfl, HB.out⟩
      · cases ne
        · skip
          have E := Lib.hid (Wfi.out rfl rfl rfl rfl rfl (fun _ => rfl))
          clear Wsg Wqu Wno Wfi Wse Wsu
          go_wp2_with fail
          refine bodyPost_ret (v := .tuple #[.int .u64 a, .int .i64 0, .int .i64 0]) (by simp [results, Tryz.results45, go_sem]) rfl ?_
          exact ⟨by rw [E.out]; rfl, HB.out⟩
        · skip
          have E := Lib.hid (Wno.out rfl rfl rfl rfl rfl rfl rfl)
          clear Wsg Wqu Wno Wfi Wse Wsu
          go_wp2_with fail
          refine bodyPost_ret (v := .tuple #[.int .u64 N, .int .i64 1, .int .i64 0]) (by simp [results, Tryz.results45, go_sem]) rfl ?_
          exact ⟨by rw [E.out]; rfl, HB.out⟩
    cases ib
    rotate_left
    · skip
      have E := Lib.hid (Wse.out rfl rfl rfl rfl rfl rfl)
      clear Wsg Wqu Wno Wfi Wse Wsu
      go_wp2_with fail
      refine bodyPost_ret (v := .tuple #[.int .u64 b, .int .i64 0, .int .i64 0]) (by simp [results, Tryz.results45, go_sem]) rfl ?_
      exact ⟨by rw [E.out]; rfl, HB.out⟩
    have E := Lib.hid (Wsu.out rfl rfl rfl rfl rfl rfl)
    clear Wsg Wqu Wno Wfi Wse Wsu Tsa Tsb Tna Tnb Tne tne tne2
    obtain ⟨q0, q1, q2, q3⟩ := BP.out.cells
    go_upto_region 24 with (fail)
    have hGw := HG.out
    have hRw := HR.out
    unfold PV at HFin
    go_region_held3 (fun w' => w'.cell? ⟨w1.heap.size, 0, none⟩ = some (.int .i64 F.w) ∧ w'.cell? ⟨w1.heap.size, 1, none⟩ = some (.int .i64 F.p) ∧ w'.cell? ⟨w1.heap.size, 2, none⟩ = some (.int .i64 F.emin) ∧ w'.cell? ⟨w1.heap.size, 3, none⟩ = some (.int .i64 F.emax) ∧ Gl w' ∧ GlR w' ∧ Below w4.heap.size w4 w')
      (first | exact ⟨q0, q1, q2, q3, hGw, hRw, (Below.refl _ _).drew⟩ | exact ⟨keep_cell hb1 q0, keep_cell hb1 q1, keep_cell hb1 q2, keep_cell hb1 q3, hGw.below hb1, hRw.below hb1, keep_below (Below.refl _ _).drew hb1⟩ | ((try go_split_ands); (try dsimp only); refine ⟨keep_cell hb1 ?_, keep_cell hb1 ?_, keep_cell hb1 ?_, keep_cell hb1 ?_, Gl.below ?_ hb1, GlR.below ?_ hb1, keep_below ?_ hb1⟩ <;> assumption))
      ((first | (go_at_call 86; refine (HFin.out _ _ ?_ ?_).mono ?_; (first | exact Or.inl rfl | exact Or.inr rfl); (first | exact hRw | (go_split_ands; assumption)); rintro _ wz ⟨rfl, hb1⟩) | (go_at_call 85; refine (HSum.out _ ?_ ?_).mono ?_; (go_split_ands; assumption); (go_split_ands; assumption); rintro _ wz ⟨rfl, hb1⟩)))
    all_goals
      go_wp2_with fail
      refine bodyPost_ret (v := .tuple #[.int .u64 S.1, .int .i64 S.2, .int .i64 0]) (by simp [results, Tryz.results45, go_sem]) rfl ?_
      go_split_ands
      exact ⟨by rw [E.out], HB.out.trans (Below.mono (by assumption) HB.out.size)⟩

/-- the sum does not care for the order -/
theorem addS_comm {F : Fm} (ok : F.Ok) (m : Nat) {a b : Nat} (ha : a < 2 ^ F.w) (hb : b < 2 ^ F.w) : addS F m a b = addS F m b a := by
  rw [← sum_z ok m ha hb, ← sum_z ok m hb ha, fuseZ_comm]

end Go.Proofs.YtlibhfojfonfjaaGreatDoor
