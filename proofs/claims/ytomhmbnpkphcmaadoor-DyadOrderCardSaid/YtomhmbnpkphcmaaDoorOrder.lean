/- The walk of DyadOrder. -/
import Derived.Outline
import Derived.Deep.CutBlock
import Derived.Test.YtomhmbnpkphcmaaDoorLawB
import Derived.Test.YtomhmbnpkphcmaaDoorLawP
namespace Go.Proofs.YtomhmbnpkphcmaaDoor
set_option linter.unusedVariables false
open Go.RowKit

/-- what every part of the walk is told of the world -/
def OrdK (w wc : World) (s1 s2 s3 : Bool) (A1 A2 A3 : Option Addr) (n1 c1 n2 c2 n3 c3 : Nat) (e1 e2 e3 : Int) : Prop :=
  Below w.heap.size w wc ∧ Box3 wc w.heap.size (.bool s1) (.slice A1 n1 c1) (.int .i64 e1) ∧ Box3 wc (w.heap.size + 1) (.bool s2) (.slice A2 n2 c2) (.int .i64 e2) ∧ Box3 wc (w.heap.size + 1 + 1) (.bool s3) (.slice A3 n3 c3) (.int .i64 e3)

theorem OrdK.keep {w wc wd : World} {s1 s2 s3 : Bool} {A1 A2 A3 : Option Addr} {n1 c1 n2 c2 n3 c3 : Nat} {e1 e2 e3 : Int} (h : OrdK w wc s1 s2 s3 A1 A2 A3 n1 c1 n2 c2 n3 c3 e1 e2 e3) (hb : Below wc.heap.size wc wd) : OrdK w wd s1 s2 s3 A1 A2 A3 n1 c1 n2 c2 n3 c3 e1 e2 e3 :=
  ⟨keep_belowB h.1 hb (Nat.le_refl _), h.2.1.keep hb, h.2.2.1.keep hb, h.2.2.2.keep hb⟩

theorem OrdK.alloc {w wc : World} {s1 s2 s3 : Bool} {A1 A2 A3 : Option Addr} {n1 c1 n2 c2 n3 c3 : Nat} {e1 e2 e3 : Int} (h : OrdK w wc s1 s2 s3 A1 A2 A3 n1 c1 n2 c2 n3 c3 e1 e2 e3) (ob : Obj) : OrdK w (wc.alloc ob) s1 s2 s3 A1 A2 A3 n1 c1 n2 c2 n3 c3 e1 e2 e3 :=
  h.keep (below1 wc ob)

/-- the two boxes x and y -/
def OrdX (w wc : World) (p q : Value) : Prop :=
  ∃ g h a b c a' b' c', p = .pointer (some ⟨g, 0, none⟩) ∧ q = .pointer (some ⟨h, 0, none⟩) ∧ g < h ∧ w.heap.size + 3 ≤ g ∧ Box3 wc g a b c ∧ Box3 wc h a' b' c'

theorem OrdK.store {w wc : World} {s1 s2 s3 : Bool} {A1 A2 A3 : Option Addr} {n1 c1 n2 c2 n3 c3 : Nat} {e1 e2 e3 : Int} (h : OrdK w wc s1 s2 s3 A1 A2 A3 n1 c1 n2 c2 n3 c3 e1 e2 e3) {g : Nat} (hg : w.heap.size + 3 ≤ g) (x y z : Value) : OrdK w (((wc.setCell ⟨g, 0, none⟩ x).setCell ⟨g, 1, none⟩ y).setCell ⟨g, 2, none⟩ z) s1 s2 s3 A1 A2 A3 n1 c1 n2 c2 n3 c3 e1 e2 e3 :=
  ⟨below_box h.1 (by omega) _ _ _, h.2.1.otherAll (by omega) _ _ _, h.2.2.1.otherAll (by omega) _ _ _, h.2.2.2.otherAll (by omega) _ _ _⟩

theorem OrdK.three {w wc : World} {s1 s2 s3 : Bool} {A1 A2 A3 : Option Addr} {n1 c1 n2 c2 n3 c3 : Nat} {e1 e2 e3 : Int} (h : OrdK w wc s1 s2 s3 A1 A2 A3 n1 c1 n2 c2 n3 c3 e1 e2 e3) : w.heap.size + 3 ≤ wc.heap.size := by
  have := h.2.2.2.cells.2.2.2.2
  omega

theorem OrdK.cells {w wc : World} {s1 s2 s3 : Bool} {A1 A2 A3 : Option Addr} {n1 c1 n2 c2 n3 c3 : Nat} {e1 e2 e3 : Int} (h : OrdK w wc s1 s2 s3 A1 A2 A3 n1 c1 n2 c2 n3 c3 e1 e2 e3) :
    (wc.cell? ⟨w.heap.size, 0, none⟩ = some (.bool s1) ∧ wc.cell? ⟨w.heap.size, 1, none⟩ = some (.slice A1 n1 c1) ∧ wc.cell? ⟨w.heap.size, 2, none⟩ = some (.int .i64 e1)) ∧
    (wc.cell? ⟨w.heap.size + 1, 0, none⟩ = some (.bool s2) ∧ wc.cell? ⟨w.heap.size + 1, 1, none⟩ = some (.slice A2 n2 c2) ∧ wc.cell? ⟨w.heap.size + 1, 2, none⟩ = some (.int .i64 e2)) ∧
    (wc.cell? ⟨w.heap.size + 1 + 1, 0, none⟩ = some (.bool s3) ∧ wc.cell? ⟨w.heap.size + 1 + 1, 1, none⟩ = some (.slice A3 n3 c3) ∧ wc.cell? ⟨w.heap.size + 1 + 1, 2, none⟩ = some (.int .i64 e3)) := by
  obtain ⟨_, h1, h2, h3⟩ := h
  obtain ⟨a1, a2, a3, _⟩ := h1.cells
  obtain ⟨b1, b2, b3, _⟩ := h2.cells
  obtain ⟨c1, c2, c3, _⟩ := h3.cells
  exact ⟨⟨a1, a2, a3⟩, ⟨b1, b2, b3⟩, ⟨c1, c2, c3⟩⟩

set_option maxRecDepth 100000 in
set_option maxHeartbeats 8000000 in
theorem order_any (s1 s2 s3 : Bool) (A1 A2 A3 : Option Addr) (N1 n1 c1 N2 n2 c2 N3 n3 c3 : Nat) (e1 e2 e3 k : Int) (w : World) (h1 : Rd 64 w (.slice A1 n1 c1) N1 n1) (h2 : Rd 64 w (.slice A2 n2 c2) N2 n2) (h3 : Rd 64 w (.slice A3 n3 c3) N3 n3) (hG : Gl w)
    (hk : -9223372036854775808 ≤ k ∧ k ≤ 9223372036854775807) :
    Calls Tryd.prog 4 #[.agg #[.bool s1, .slice A1 n1 c1, .int .i64 e1], .agg #[.bool s2, .slice A2 n2 c2, .int .i64 e2], .agg #[.bool s3, .slice A3 n3 c3, .int .i64 e3], .int .i64 k] w fun e' w' =>
      e' = .returned (.bool true) ∧ Below w.heap.size w w' := by
  obtain ⟨W, hW⟩ : ∃ W, W = (((w.alloc (Obj.cells #[Value.bool s1, Value.slice A1 n1 c1, Value.int IntKind.i64 e1] 26)).alloc (Obj.cells #[Value.bool s2, Value.slice A2 n2 c2, Value.int IntKind.i64 e2] 26)).alloc
    (Obj.cells #[Value.bool s3, Value.slice A3 n3 c3, Value.int IntKind.i64 e3] 26)) := ⟨_, rfl⟩
  have hK : OrdK w W s1 s2 s3 A1 A2 A3 n1 c1 n2 c2 n3 c3 e1 e2 e3 := by
    rw [hW]; exact ⟨below3 .., ((Box3.new ..).alloc _).alloc _, (Box3.new1 ..).alloc _, Box3.new2 ..⟩
  go_enter Tryd.func4, Tryd.ntmps4
  go_wp2_with fail
  rw [← hW]
  clear hW
  refine (awake_any W (hG.below hK.1)).mono ?_
  rintro e w1 ⟨rfl, hb1⟩
  have hK1 := hK.keep hb1
  clear hK hb1
  obtain ⟨⟨a0, a1, a2⟩, ⟨b0, b1, b2⟩, d0, d1, d2⟩ := hK1.cells
  go_wp2_with fail
  refine (DCmp_any s1 s2 A1 A2 N1 n1 c1 N2 n2 c2 e1 e2 w1 (h1.below hK1.1) (h2.below hK1.1) (hG.below hK1.1)).mono ?_
  rintro e w2 ⟨rfl, hb2⟩
  have hK2 := hK1.keep hb2
  clear hK1 hb2 a0 a1 a2 b0 b1 b2 d0 d1 d2
  obtain ⟨⟨a0, a1, a2⟩, ⟨b0, b1, b2⟩, d0, d1, d2⟩ := hK2.cells
  go_wp2_with fail
  refine (DCmp_any s2 s1 A2 A1 N2 n2 c2 N1 n1 c1 e2 e1 w2 (h2.below hK2.1) (h1.below hK2.1) (hG.below hK2.1)).mono ?_
  rintro e w3 ⟨rfl, hb3⟩
  have hK3 := hK2.keep hb3
  clear hK2 hb3 a0 a1 a2 b0 b1 b2 d0 d1 d2
  by_cases hr : (cmpD n1 ⟨s1, N1, e1⟩ n2 ⟨s2, N2, e2⟩).2 = 0
  · have hR1 := cmpD_ok hr
    have C1 := cmpD_val n1 n2 ⟨s1, N1, e1⟩ ⟨s2, N2, e2⟩ (-1000000) (by omega) hR1.1 hR1.2
    have C2 := cmpD_val n2 n1 ⟨s2, N2, e2⟩ ⟨s1, N1, e1⟩ (-1000000) (by omega) hR1.2 hR1.1
    rw [show D.i (-1000000) ⟨s2, N2, e2⟩ - D.i (-1000000) ⟨s1, N1, e1⟩ = -(D.i (-1000000) ⟨s1, N1, e1⟩ - D.i (-1000000) ⟨s2, N2, e2⟩) from by omega, sgI_neg] at C2
    have hor := sgI_range (D.i (-1000000) ⟨s1, N1, e1⟩ - D.i (-1000000) ⟨s2, N2, e2⟩)
    rw [C1, C2]
    have H1 := Lib.hid h1
    have H2 := Lib.hid h2
    have H3 := Lib.hid h3
    have HG := Lib.hid hG
    clear hr C1 C2 h1 h2 h3 hG hR1
    obtain ⟨o, ho⟩ : ∃ o, o = sgI (D.i (-1000000) ⟨s1, N1, e1⟩ - D.i (-1000000) ⟨s2, N2, e2⟩) := ⟨_, rfl⟩
    rw [← ho] at hor ⊢
    have Ho := Lib.hid ho
    clear ho
    have wo : IntKind.i64.wrap (-o) = -o := by rw [IntKind.wrap_i64]; omega
    obtain ⟨⟨a0, a1, a2⟩, ⟨b0, b1, b2⟩, d0, d1, d2⟩ := hK3.cells
    have HK := Lib.hid hK3
    clear hK3
    go_wp2_with fail
    refine (DSub_any s1 s2 A1 A2 N1 n1 c1 N2 n2 c2 e1 e2 w3 (H1.out.below HK.out.1) (H2.out.below HK.out.1) (HG.out.below HK.out.1)).mono ?_
    rintro e w4 ⟨x, rfl, hV, hb4⟩
    have hRes := subD_res n1 n2 ⟨s1, N1, e1⟩ ⟨s2, N2, e2⟩ (-1000000) (by omega)
    obtain ⟨r, hr⟩ : ∃ r, r = subD n1 ⟨s1, N1, e1⟩ n2 ⟨s2, N2, e2⟩ := ⟨_, rfl⟩
    rw [← hr] at hRes hV ⊢
    obtain ⟨A4, c4, rfl, hc4, hcm4, hR4, hF4⟩ := id hV
    have HK4 := Lib.hid ((HK.out.keep hb4).alloc (.cells #[Value.bool r.1.s, Value.slice A4 (nd 64 r.1.n) c4, Value.int IntKind.i64 r.1.e] 26))
    have hbx := Box3.new w4 (Value.bool r.1.s) (Value.slice A4 (nd 64 r.1.n) c4) (Value.int IntKind.i64 r.1.e) 26
    have HR4 := Lib.hid (hR4.below (below1 w4 (.cells #[Value.bool r.1.s, Value.slice A4 (nd 64 r.1.n) c4, Value.int IntKind.i64 r.1.e] 26)))
    have HRes := Lib.hid hRes
    clear hr hV hRes hb4 hcm4 hR4 hF4 a0 a1 a2 b0 b1 b2 d0 d1 d2 HK
    go_upto_region 10 with (fail)
    obtain ⟨q0, q1, q2, _⟩ := hbx.cells
    clear hbx
    obtain ⟨W4, hW4⟩ : ∃ W4, W4 = (w4.alloc (.cells #[Value.bool r.1.s, Value.slice A4 (nd 64 r.1.n) c4, Value.int IntKind.i64 r.1.e] 26)) := ⟨_, rfl⟩
    rw [← hW4] at HK4 HR4 q0 q1 q2 ⊢
    clear hW4
    go_cut [10, 81] from 22 (fun p v wc => (∃ x, p = .int .i64 x) ∧ v = .bool false ∧ OrdK w wc s1 s2 s3 A1 A2 A3 n1 c1 n2 c2 n3 c3 e1 e2 e3)
    case first =>
      by_cases hz : r.2 = 0
      · have hs : sgD r.1.s r.1.n = o := by
          obtain ⟨_, _, _, _, h5⟩ := HRes.out hz
          rw [Ho.out, ← h5]; exact sgD_i _ _
        rw [hz]
        go_wp2_with fail
        refine (Sign_any _ _ _ _ _ _ _ HR4.out).mono ?_
        rintro e w5 ⟨rfl, hb5⟩
        rw [hs]
        have HK5 := Lib.hid (HK4.out.keep hb5)
        clear hb5 HK4
        go_wp2_with fail
        go_meet
        case rel => exact ⟨⟨_, rfl⟩, rfl, HK5.out⟩
      · have t1 : (r.2 == 0) = false := by simpa using hz
        go_wp2_with fail
        go_meet
        case rel => exact ⟨⟨_, rfl⟩, rfl, HK4.out⟩
    case rest =>
      obtain ⟨⟨_, rfl⟩, rfl, hK⟩ := hcut
      clear HK4 HR4 HRes q0 q1 q2
      obtain ⟨⟨a0, a1, a2⟩, ⟨b0, b1, b2⟩, d0, d1, d2⟩ := hK.cells
      have HK := Lib.hid hK
      clear hK
      go_wp2_with fail
      refine (Neg_any s1 A1 N1 n1 c1 e1 wc (H1.out.below HK.out.1) (HG.out.below HK.out.1)).mono ?_
      rintro e w6 ⟨x, rfl, hV, hb6⟩
      have HResX := Lib.hid (negD_res n1 ⟨s1, N1, e1⟩ (-1000000) (by omega))
      obtain ⟨rx, hrx⟩ : ∃ r, r = negD n1 ⟨s1, N1, e1⟩ := ⟨_, rfl⟩
      rw [← hrx] at HResX hV ⊢
      obtain ⟨A5, c5, rfl, hc5, hcm5, hR5, hF5⟩ := id hV
      have HK6 := (HK.out.keep hb6).alloc (.cells #[Value.bool rx.1.s, Value.slice A5 (nd 64 rx.1.n) c5, Value.int IntKind.i64 rx.1.e] 26)
      have hbx := Box3.new w6 (Value.bool rx.1.s) (Value.slice A5 (nd 64 rx.1.n) c5) (Value.int IntKind.i64 rx.1.e) 26
      have hRx := hR5.below (below1 w6 (.cells #[Value.bool rx.1.s, Value.slice A5 (nd 64 rx.1.n) c5, Value.int IntKind.i64 rx.1.e] 26))
      have hz6 : w6.heap.size < (w6.alloc (.cells #[Value.bool rx.1.s, Value.slice A5 (nd 64 rx.1.n) c5, Value.int IntKind.i64 rx.1.e] 26)).heap.size := by simp
      have hz6' : w.heap.size + 3 ≤ w6.heap.size := Nat.le_trans HK.out.three hb6.size
      clear hrx hV hb6 hcm5 hR5 hF5 a0 a1 a2 b0 b1 b2 d0 d1 d2 HK
      go_upto_region 13 with (fail)
      obtain ⟨W6, hW6⟩ : ∃ W6, W6 = (w6.alloc (.cells #[Value.bool rx.1.s, Value.slice A5 (nd 64 rx.1.n) c5, Value.int IntKind.i64 rx.1.e] 26)) := ⟨_, rfl⟩
      rw [← hW6] at HK6 hRx hbx hz6 ⊢
      clear hW6
      obtain ⟨⟨a0, a1, a2⟩, ⟨b0, b1, b2⟩, d0, d1, d2⟩ := HK6.cells
      have HK := Lib.hid HK6
      have Hbx := Lib.hid hbx
      have HRx := Lib.hid hRx
      clear HK6 hbx hRx
      go_wp2_with fail
      refine (Neg_any s2 A2 N2 n2 c2 e2 W6 (H2.out.below HK.out.1) (HG.out.below HK.out.1)).mono ?_
      rintro e w7 ⟨x, rfl, hV, hb7⟩
      have HResY := Lib.hid (negD_res n2 ⟨s2, N2, e2⟩ (-1000000) (by omega))
      obtain ⟨ry, hry⟩ : ∃ r, r = negD n2 ⟨s2, N2, e2⟩ := ⟨_, rfl⟩
      rw [← hry] at HResY hV ⊢
      obtain ⟨A6, c6, rfl, hc6, hcm6, hR6, hF6⟩ := id hV
      have HK7 := (HK.out.keep hb7).alloc (.cells #[Value.bool ry.1.s, Value.slice A6 (nd 64 ry.1.n) c6, Value.int IntKind.i64 ry.1.e] 26)
      have hby := Box3.new w7 (Value.bool ry.1.s) (Value.slice A6 (nd 64 ry.1.n) c6) (Value.int IntKind.i64 ry.1.e) 26
      have hRy := hR6.below (below1 w7 (.cells #[Value.bool ry.1.s, Value.slice A6 (nd 64 ry.1.n) c6, Value.int IntKind.i64 ry.1.e] 26))
      have hbx := (Hbx.out.keep hb7).alloc (.cells #[Value.bool ry.1.s, Value.slice A6 (nd 64 ry.1.n) c6, Value.int IntKind.i64 ry.1.e] 26)
      have hRx := (HRx.out.below hb7).below (below1 w7 (.cells #[Value.bool ry.1.s, Value.slice A6 (nd 64 ry.1.n) c6, Value.int IntKind.i64 ry.1.e] 26))
      have hz7 : w6.heap.size < w7.heap.size := Nat.lt_of_lt_of_le hz6 hb7.size
      clear hry hV hb7 hcm6 hR6 hF6 a0 a1 a2 b0 b1 b2 d0 d1 d2 HK Hbx HRx hz6
      go_upto_region 14 with (fail)
      obtain ⟨W7, hW7⟩ : ∃ W7, W7 = (w7.alloc (.cells #[Value.bool ry.1.s, Value.slice A6 (nd 64 ry.1.n) c6, Value.int IntKind.i64 ry.1.e] 26)) := ⟨_, rfl⟩
      rw [← hW7] at HK7 hRx hRy hbx hby ⊢
      clear hW7
      have HK := Lib.hid HK7
      have HBx := Lib.hid hbx
      have HBy := Lib.hid hby
      have HRx := Lib.hid hRx
      have HRy := Lib.hid hRy
      clear HK7 hbx hby hRx hRy
      go_cut [97] from 22 (fun v wx => v = .bool (decide (rx.2 = 0 ∧ ry.2 = 0)) ∧ wx = W7)
      case first =>
        by_cases hz : rx.2 = 0
        · have t1 : (rx.2 == 0) = true := by simpa using hz
          go_wp2_with fail
          go_meet
          case rel => exact ⟨by by_cases hy : ry.2 = 0 <;> simp [hz, hy], rfl⟩
        · have t1 : (rx.2 == 0) = false := by simpa using hz
          go_wp2_with fail
          go_meet
          case rel => exact ⟨by by_cases hy : ry.2 = 0 <;> simp [hz, hy], rfl⟩
      case rest =>
        obtain ⟨rfl, rfl⟩ := hcut
        go_upto_if 97 with (fail)
        go_cut [10, 12, 14, 15] from 22 (fun p0 q0 p q wx => (∃ x, p0 = .int .i64 x) ∧ (∃ x, q0 = .int .i64 x) ∧ OrdK w wx s1 s2 s3 A1 A2 A3 n1 c1 n2 c2 n3 c3 e1 e2 e3 ∧ OrdX w wx p q)
        case first =>
          by_cases hz : rx.2 = 0 ∧ ry.2 = 0
          · obtain ⟨p0, p1, p2, _⟩ := HBx.out.cells
            obtain ⟨q0, q1, q2, _⟩ := HBy.out.cells
            have t1 : decide (rx.2 = 0 ∧ ry.2 = 0) = true := by simpa using hz
            rw [t1]
            clear t1
            have HC : Hid (cmpD (nd 64 rx.1.n) rx.1 (nd 64 ry.1.n) ry.1 = (-o, 0)) := by
              show _ = _
              rw [cmpD_val _ _ _ _ (-1000000) (by omega) (res_ref HResX.out hz.1) (res_ref HResY.out hz.2)]
              obtain ⟨_, _, _, _, h5⟩ := HResX.out hz.1
              obtain ⟨_, _, _, _, h6⟩ := HResY.out hz.2
              rw [h5, h6, Ho.out, ← sgI_neg]
              all_goals (congr 2; omega)
            clear hz
            go_wp2_with fail
            refine (DCmp_any rx.1.s ry.1.s A5 A6 rx.1.n _ c5 ry.1.n _ c6 rx.1.e ry.1.e wc HRx.out HRy.out (HG.out.below HK.out.1)).mono ?_
            rintro e w8 ⟨rfl, hb8⟩
            rw [HC.out]
            have HK8 := Lib.hid (HK.out.keep hb8)
            have HX8 : Hid (OrdX w w8 (.pointer (some ⟨w6.heap.size, 0, none⟩)) (.pointer (some ⟨w7.heap.size, 0, none⟩))) := ⟨_, _, _, _, _, _, _, _, rfl, rfl, by omega, hz6', HBx.out.keep hb8, HBy.out.keep hb8⟩
            clear hb8 p0 p1 p2 q0 q1 q2 HK HBx HBy HRx HRy HC
            go_wp2_with fail
            go_meet
            case rel => exact ⟨⟨_, rfl⟩, ⟨_, rfl⟩, HK8.out, HX8.out⟩
          · have t1 : decide (rx.2 = 0 ∧ ry.2 = 0) = false := by simpa using hz
            rw [t1]
            clear t1
            go_wp2_with fail
            go_meet
            case rel => exact ⟨⟨_, rfl⟩, ⟨_, rfl⟩, HK.out, ⟨_, _, _, _, _, _, _, _, rfl, rfl, by omega, hz6', HBx.out, HBy.out⟩⟩
        case rest =>
          obtain ⟨⟨_, rfl⟩, ⟨_, rfl⟩, hK, g, h, xa, xb, xc, ya, yb, yc, rfl, rfl, hgh, hg, hbx, hby⟩ := hcut
          obtain ⟨⟨a0, a1, a2⟩, ⟨b0, b1, b2⟩, d0, d1, d2⟩ := hK.cells
          have HK := Lib.hid hK
          have Hbx := Lib.hid hbx
          have Hby := Lib.hid hby
          clear hK hbx hby
          go_wp2_with fail
          refine (DAdd_any s1 s3 A1 A3 N1 n1 c1 N3 n3 c3 e1 e3 wc (H1.out.below HK.out.1) (H3.out.below HK.out.1) (HG.out.below HK.out.1)).mono ?_
          rintro e w6 ⟨x, rfl, hV, hb6⟩
          have HResX := Lib.hid (addD_res n1 n3 ⟨s1, N1, e1⟩ ⟨s3, N3, e3⟩ (-1000000) (by omega))
          obtain ⟨rx, hrx⟩ : ∃ r, r = addD n1 ⟨s1, N1, e1⟩ n3 ⟨s3, N3, e3⟩ := ⟨_, rfl⟩
          rw [← hrx] at HResX hV ⊢
          have hgw : g < wc.heap.size := Hbx.out.cells.2.2.2.2
          have hhw : h < wc.heap.size := Hby.out.cells.2.2.2.2
          obtain ⟨A5, c5, rfl, -⟩ := id hV
          have HK6 := Lib.hid ((HK.out.keep hb6).store hg (Value.bool rx.1.s) (Value.slice A5 (nd 64 rx.1.n) c5) (Value.int IntKind.i64 rx.1.e))
          have Hby6 := Lib.hid ((Hby.out.keep hb6).otherAll (g' := g) (by omega) (Value.bool rx.1.s) (Value.slice A5 (nd 64 rx.1.n) c5) (Value.int IntKind.i64 rx.1.e))
          have hbx6 := Hbx.out.keep hb6
          obtain ⟨p0, p1, p2, p3, _⟩ := hbx6.cells
          have Hbx6 := Lib.hid (hbx6.setAll (Value.bool rx.1.s) (Value.slice A5 (nd 64 rx.1.n) c5) (Value.int IntKind.i64 rx.1.e))
          have HVx := Lib.hid (hV.setBox hgw (Value.bool rx.1.s) (Value.slice A5 (nd 64 rx.1.n) c5) (Value.int IntKind.i64 rx.1.e))
          have hs6 := hb6.size
          clear hrx hV hb6 hbx6 a0 a1 a2 b0 b1 b2 d0 d1 d2 HK Hbx Hby
          go_upto_region 19 with (fail)
          clear p0 p1 p2 p3
          obtain ⟨W6, hW6⟩ : ∃ W6, W6 = (((w6.setCell ⟨g, 0, none⟩ (Value.bool rx.1.s)).setCell ⟨g, 1, none⟩ (Value.slice A5 (nd 64 rx.1.n) c5)).setCell ⟨g, 2, none⟩ (Value.int IntKind.i64 rx.1.e)) := ⟨_, rfl⟩
          have hs6' : W6.heap.size = w6.heap.size := by rw [hW6]; simp
          rw [← hW6] at HK6 Hbx6 Hby6 HVx ⊢
          clear hW6
          obtain ⟨⟨a0, a1, a2⟩, ⟨b0, b1, b2⟩, d0, d1, d2⟩ := HK6.out.cells
          go_wp2_with fail
          refine (DAdd_any s2 s3 A2 A3 N2 n2 c2 N3 n3 c3 e2 e3 W6 (H2.out.below HK6.out.1) (H3.out.below HK6.out.1) (HG.out.below HK6.out.1)).mono ?_
          rintro e w7 ⟨x, rfl, hV, hb7⟩
          have HResY := Lib.hid (addD_res n2 n3 ⟨s2, N2, e2⟩ ⟨s3, N3, e3⟩ (-1000000) (by omega))
          obtain ⟨ry, hry⟩ : ∃ r, r = addD n2 ⟨s2, N2, e2⟩ n3 ⟨s3, N3, e3⟩ := ⟨_, rfl⟩
          rw [← hry] at HResY hV ⊢
          obtain ⟨A6, c6, rfl, -⟩ := id hV
          have hhW : h < W6.heap.size := Hby6.out.cells.2.2.2.2
          have HK7 := Lib.hid ((HK6.out.keep hb7).store (g := h) (by omega) (Value.bool ry.1.s) (Value.slice A6 (nd 64 ry.1.n) c6) (Value.int IntKind.i64 ry.1.e))
          have hby7 := Hby6.out.keep hb7
          obtain ⟨p0, p1, p2, p3, _⟩ := hby7.cells
          have Hbx7 := Lib.hid ((Hbx6.out.keep hb7).otherAll (g' := h) (by omega) (Value.bool ry.1.s) (Value.slice A6 (nd 64 ry.1.n) c6) (Value.int IntKind.i64 ry.1.e))
          have Hby7 := Lib.hid (hby7.setAll (Value.bool ry.1.s) (Value.slice A6 (nd 64 ry.1.n) c6) (Value.int IntKind.i64 ry.1.e))
          have HVy := Lib.hid (hV.setBox hhW (Value.bool ry.1.s) (Value.slice A6 (nd 64 ry.1.n) c6) (Value.int IntKind.i64 ry.1.e))
          have HVx7 := Lib.hid ((HVx.out.below hb7).setBox (g := h) hhw (Value.bool ry.1.s) (Value.slice A6 (nd 64 ry.1.n) c6) (Value.int IntKind.i64 ry.1.e))
          clear hry hV hb7 hby7 a0 a1 a2 b0 b1 b2 d0 d1 d2 HK6 Hbx6 Hby6 HVx
          go_upto_region 20 with (fail)
          clear p0 p1 p2 p3
          obtain ⟨W7, hW7⟩ : ∃ W7, W7 = (((w7.setCell ⟨h, 0, none⟩ (Value.bool ry.1.s)).setCell ⟨h, 1, none⟩ (Value.slice A6 (nd 64 ry.1.n) c6)).setCell ⟨h, 2, none⟩ (Value.int IntKind.i64 ry.1.e)) := ⟨_, rfl⟩
          rw [← hW7] at HK7 Hbx7 Hby7 HVx7 HVy ⊢
          clear hW7
          go_cut [129] from 22 (fun v wx => v = .bool (decide (rx.2 = 0 ∧ ry.2 = 0)) ∧ wx = W7)
          case first =>
            by_cases hz : rx.2 = 0
            · have t1 : (rx.2 == 0) = true := by simpa using hz
              go_wp2_with fail
              go_meet
              case rel => exact ⟨by by_cases hy : ry.2 = 0 <;> simp [hz, hy], rfl⟩
            · have t1 : (rx.2 == 0) = false := by simpa using hz
              go_wp2_with fail
              go_meet
              case rel => exact ⟨by by_cases hy : ry.2 = 0 <;> simp [hz, hy], rfl⟩
          case rest =>
            obtain ⟨rfl, rfl⟩ := hcut
            go_upto_if 129 with (fail)
            go_cut [10, 12, 14, 15] from 22 (fun p0 q0 p q wx => (∃ x, p0 = .int .i64 x) ∧ (∃ x, q0 = .int .i64 x) ∧ OrdK w wx s1 s2 s3 A1 A2 A3 n1 c1 n2 c2 n3 c3 e1 e2 e3 ∧ OrdX w wx p q)
            case first =>
              by_cases hz : rx.2 = 0 ∧ ry.2 = 0
              · obtain ⟨p0, p1, p2, _⟩ := Hbx7.out.cells
                obtain ⟨q0, q1, q2, _⟩ := Hby7.out.cells
                have t1 : decide (rx.2 = 0 ∧ ry.2 = 0) = true := by simpa using hz
                rw [t1]
                clear t1
                have HC : Hid (cmpD (nd 64 rx.1.n) rx.1 (nd 64 ry.1.n) ry.1 = (o, 0)) := by
                  show _ = _
                  rw [cmpD_val _ _ _ _ (-1000000) (by have := clampD_range k; omega) (res_ref HResX.out hz.1) (res_ref HResY.out hz.2)]
                  obtain ⟨_, _, _, _, h5⟩ := HResX.out hz.1
                  obtain ⟨_, _, _, _, h6⟩ := HResY.out hz.2
                  rw [h5, h6, Ho.out]
                  all_goals (congr 2; omega)
                clear hz
                obtain ⟨A7, c7, hA, _, _, hRx, _⟩ := HVx7.out
                obtain ⟨A8, c8, hB, _, _, hRy, _⟩ := HVy.out
                simp only [Value.agg.injEq, List.cons.injEq, Array.mk.injEq, Value.slice.injEq, and_true, true_and] at hA hB
                obtain ⟨rfl, rfl⟩ := hA
                obtain ⟨rfl, rfl⟩ := hB
                have HRx := Lib.hid hRx
                have HRy := Lib.hid hRy
                clear hRx hRy
                go_wp2_with fail
                refine (DCmp_any rx.1.s ry.1.s A5 A6 rx.1.n _ c5 ry.1.n _ c6 rx.1.e ry.1.e wc HRx.out HRy.out (HG.out.below HK7.out.1)).mono ?_
                rintro e w8 ⟨rfl, hb8⟩
                rw [HC.out]
                have HK8 := Lib.hid (HK7.out.keep hb8)
                have HX8 : Hid (OrdX w w8 (.pointer (some ⟨g, 0, none⟩)) (.pointer (some ⟨h, 0, none⟩))) := ⟨_, _, _, _, _, _, _, _, rfl, rfl, hgh, hg, Hbx7.out.keep hb8, Hby7.out.keep hb8⟩
                clear hb8 p0 p1 p2 q0 q1 q2 HK7 Hbx7 Hby7 HRx HRy HC HVx7 HVy
                go_wp2_with fail
                go_meet
                case rel => exact ⟨⟨_, rfl⟩, ⟨_, rfl⟩, HK8.out, HX8.out⟩
              · have t1 : decide (rx.2 = 0 ∧ ry.2 = 0) = false := by simpa using hz
                rw [t1]
                clear t1
                go_wp2_with fail
                go_meet
                case rel => exact ⟨⟨_, rfl⟩, ⟨_, rfl⟩, HK7.out, ⟨_, _, _, _, _, _, _, _, rfl, rfl, hgh, hg, Hbx7.out, Hby7.out⟩⟩
            case rest =>
              clear HResX HResY Hbx7 Hby7 HVx7 HVy HK7
              obtain ⟨⟨_, rfl⟩, ⟨_, rfl⟩, hK, g, h, xa, xb, xc, ya, yb, yc, rfl, rfl, hgh, hg, hbx, hby⟩ := hcut
              obtain ⟨⟨a0, a1, a2⟩, ⟨b0, b1, b2⟩, d0, d1, d2⟩ := hK.cells
              have HK := Lib.hid hK
              have Hbx := Lib.hid hbx
              have Hby := Lib.hid hby
              clear hK hbx hby
              go_wp2_with fail
              refine (Scale_any s1 A1 N1 n1 c1 e1 k wc (H1.out.below HK.out.1) (HG.out.below HK.out.1) hk).mono ?_
              rintro e w6 ⟨x, rfl, hV, hb6⟩
              have HResX := Lib.hid (scaleD_res n1 ⟨s1, N1, e1⟩ k (-1000000) (by omega))
              obtain ⟨rx, hrx⟩ : ∃ r, r = scaleD n1 ⟨s1, N1, e1⟩ k := ⟨_, rfl⟩
              rw [← hrx] at HResX hV ⊢
              have hgw : g < wc.heap.size := Hbx.out.cells.2.2.2.2
              have hhw : h < wc.heap.size := Hby.out.cells.2.2.2.2
              obtain ⟨A5, c5, rfl, -⟩ := id hV
              have HK6 := Lib.hid ((HK.out.keep hb6).store hg (Value.bool rx.1.s) (Value.slice A5 (nd 64 rx.1.n) c5) (Value.int IntKind.i64 rx.1.e))
              have Hby6 := Lib.hid ((Hby.out.keep hb6).otherAll (g' := g) (by omega) (Value.bool rx.1.s) (Value.slice A5 (nd 64 rx.1.n) c5) (Value.int IntKind.i64 rx.1.e))
              have hbx6 := Hbx.out.keep hb6
              obtain ⟨p0, p1, p2, p3, _⟩ := hbx6.cells
              have Hbx6 := Lib.hid (hbx6.setAll (Value.bool rx.1.s) (Value.slice A5 (nd 64 rx.1.n) c5) (Value.int IntKind.i64 rx.1.e))
              have HVx := Lib.hid (hV.setBox hgw (Value.bool rx.1.s) (Value.slice A5 (nd 64 rx.1.n) c5) (Value.int IntKind.i64 rx.1.e))
              have hs6 := hb6.size
              clear hrx hV hb6 hbx6 a0 a1 a2 b0 b1 b2 d0 d1 d2 HK Hbx Hby
              go_upto_region 25 with (fail)
              clear p0 p1 p2 p3
              obtain ⟨W6, hW6⟩ : ∃ W6, W6 = (((w6.setCell ⟨g, 0, none⟩ (Value.bool rx.1.s)).setCell ⟨g, 1, none⟩ (Value.slice A5 (nd 64 rx.1.n) c5)).setCell ⟨g, 2, none⟩ (Value.int IntKind.i64 rx.1.e)) := ⟨_, rfl⟩
              have hs6' : W6.heap.size = w6.heap.size := by rw [hW6]; simp
              rw [← hW6] at HK6 Hbx6 Hby6 HVx ⊢
              clear hW6
              obtain ⟨⟨a0, a1, a2⟩, ⟨b0, b1, b2⟩, d0, d1, d2⟩ := HK6.out.cells
              go_wp2_with fail
              refine (Scale_any s2 A2 N2 n2 c2 e2 k W6 (H2.out.below HK6.out.1) (HG.out.below HK6.out.1) hk).mono ?_
              rintro e w7 ⟨x, rfl, hV, hb7⟩
              have HResY := Lib.hid (scaleD_res n2 ⟨s2, N2, e2⟩ k (-1000000) (by omega))
              obtain ⟨ry, hry⟩ : ∃ r, r = scaleD n2 ⟨s2, N2, e2⟩ k := ⟨_, rfl⟩
              rw [← hry] at HResY hV ⊢
              obtain ⟨A6, c6, rfl, -⟩ := id hV
              have hhW : h < W6.heap.size := Hby6.out.cells.2.2.2.2
              have HK7 := Lib.hid ((HK6.out.keep hb7).store (g := h) (by omega) (Value.bool ry.1.s) (Value.slice A6 (nd 64 ry.1.n) c6) (Value.int IntKind.i64 ry.1.e))
              have hby7 := Hby6.out.keep hb7
              obtain ⟨p0, p1, p2, p3, _⟩ := hby7.cells
              have Hbx7 := Lib.hid ((Hbx6.out.keep hb7).otherAll (g' := h) (by omega) (Value.bool ry.1.s) (Value.slice A6 (nd 64 ry.1.n) c6) (Value.int IntKind.i64 ry.1.e))
              have Hby7 := Lib.hid (hby7.setAll (Value.bool ry.1.s) (Value.slice A6 (nd 64 ry.1.n) c6) (Value.int IntKind.i64 ry.1.e))
              have HVy := Lib.hid (hV.setBox hhW (Value.bool ry.1.s) (Value.slice A6 (nd 64 ry.1.n) c6) (Value.int IntKind.i64 ry.1.e))
              have HVx7 := Lib.hid ((HVx.out.below hb7).setBox (g := h) hhw (Value.bool ry.1.s) (Value.slice A6 (nd 64 ry.1.n) c6) (Value.int IntKind.i64 ry.1.e))
              clear hry hV hb7 hby7 a0 a1 a2 b0 b1 b2 d0 d1 d2 HK6 Hbx6 Hby6 HVx
              go_upto_region 26 with (fail)
              clear p0 p1 p2 p3
              obtain ⟨W7, hW7⟩ : ∃ W7, W7 = (((w7.setCell ⟨h, 0, none⟩ (Value.bool ry.1.s)).setCell ⟨h, 1, none⟩ (Value.slice A6 (nd 64 ry.1.n) c6)).setCell ⟨h, 2, none⟩ (Value.int IntKind.i64 ry.1.e)) := ⟨_, rfl⟩
              rw [← hW7] at HK7 Hbx7 Hby7 HVx7 HVy ⊢
              clear hW7
              go_cut [160] from 22 (fun v wx => v = .bool (decide (rx.2 = 0 ∧ ry.2 = 0)) ∧ wx = W7)
              case first =>
                by_cases hz : rx.2 = 0
                · have t1 : (rx.2 == 0) = true := by simpa using hz
                  go_wp2_with fail
                  go_meet
                  case rel => exact ⟨by by_cases hy : ry.2 = 0 <;> simp [hz, hy], rfl⟩
                · have t1 : (rx.2 == 0) = false := by simpa using hz
                  go_wp2_with fail
                  go_meet
                  case rel => exact ⟨by by_cases hy : ry.2 = 0 <;> simp [hz, hy], rfl⟩
              case rest =>
                obtain ⟨rfl, rfl⟩ := hcut
                go_upto_if 160 with (fail)
                by_cases hz : rx.2 = 0 ∧ ry.2 = 0
                · obtain ⟨p0, p1, p2, _⟩ := Hbx7.out.cells
                  obtain ⟨q0, q1, q2, _⟩ := Hby7.out.cells
                  have t1 : decide (rx.2 = 0 ∧ ry.2 = 0) = true := by simpa using hz
                  rw [t1]
                  clear t1
                  have HC : Hid (cmpD (nd 64 rx.1.n) rx.1 (nd 64 ry.1.n) ry.1 = (o, 0)) := by
                    show _ = _
                    rw [cmpD_val _ _ _ _ (-1000000 + clampD k) (by have := clampD_range k; omega) (res_ref HResX.out hz.1) (res_ref HResY.out hz.2)]
                    obtain ⟨_, _, _, _, h5⟩ := HResX.out hz.1
                    obtain ⟨_, _, _, _, h6⟩ := HResY.out hz.2
                    rw [h5, h6, Ho.out]
                    all_goals (congr 2; omega)
                  clear hz
                  obtain ⟨A7, c7, hA, _, _, hRx, _⟩ := HVx7.out
                  obtain ⟨A8, c8, hB, _, _, hRy, _⟩ := HVy.out
                  simp only [Value.agg.injEq, List.cons.injEq, Array.mk.injEq, Value.slice.injEq, and_true, true_and] at hA hB
                  obtain ⟨rfl, rfl⟩ := hA
                  obtain ⟨rfl, rfl⟩ := hB
                  have HRx := Lib.hid hRx
                  have HRy := Lib.hid hRy
                  clear hRx hRy
                  go_wp2_with fail
                  refine (DCmp_any rx.1.s ry.1.s A5 A6 rx.1.n _ c5 ry.1.n _ c6 rx.1.e ry.1.e wc HRx.out HRy.out (HG.out.below HK7.out.1)).mono ?_
                  rintro e w8 ⟨rfl, hb8⟩
                  rw [HC.out]
                  have HK8 := Lib.hid (HK7.out.keep hb8)
                  clear hb8 p0 p1 p2 q0 q1 q2 HK7 Hbx7 Hby7 HRx HRy HC HVx7 HVy
                  go_wp2_with fail
                  go_ret
                  exact ⟨rfl, HK8.out.1⟩
                · have t1 : decide (rx.2 = 0 ∧ ry.2 = 0) = false := by simpa using hz
                  rw [t1]
                  clear t1
                  go_wp2_with fail
                  go_ret
                  exact ⟨rfl, HK7.out.1⟩
  · obtain ⟨g1, g2, g3⟩ := cmpD_err hr
    generalize (cmpD n1 ⟨s1, N1, e1⟩ n2 ⟨s2, N2, e2⟩) = r1 at *
    generalize (cmpD n2 ⟨s2, N2, e2⟩ n1 ⟨s1, N1, e1⟩) = r2 at *
    have t1 : (r1.2 != 0) = true := by simpa using hr
    have t2 : (r2.2 != 0) = true := by simpa using g3
    rw [g1, g2]
    clear g1 g2 g3 hr
    generalize r1.2 = x1 at *
    generalize r2.2 = x2 at *
    go_wp2
    go_ret
    exact ⟨rfl, hK3.1⟩

end Go.Proofs.YtomhmbnpkphcmaaDoor
