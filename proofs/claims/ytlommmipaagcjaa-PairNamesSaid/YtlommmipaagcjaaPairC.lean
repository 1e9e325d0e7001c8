/- Walks of layer 20: open. -/
import Derived.Outline
import Derived.Deep.CutBlock
import Derived.Laws.AppendOwnNone
import Derived.RowKit3
import Derived.Test.YtlommmipaagcjaaPairB
namespace Go.Proofs.Ytlommmipaagcjaa
set_option linter.unusedVariables false
open Go.RowKit

/-- block b holds the pairs ps -/
def RdP (w : World) (b : Nat) (ps : List (Nat × Nat)) : Prop := ∀ j, j < ps.length → w.cell? ⟨b, j * 2, none⟩ = some (.int .u64 ((ps.getD j (0, 0)).1 : Nat)) ∧ w.cell? ⟨b, j * 2 + 1, none⟩ = some (.int .u64 ((ps.getD j (0, 0)).2 : Nat))

def flP (ps : List (Nat × Nat)) : List Value := ps.flatMap fun p => [.float .f64 p.1, .float .f64 p.2]

theorem flP_len (ps : List (Nat × Nat)) : (flP ps).length = ps.length * 2 := by
  unfold flP
  induction ps with
  | nil => rfl
  | cons p ps ih => simp only [List.flatMap_cons, List.length_append, ih, List.length_cons, List.length_nil]; omega

/-- a row of pairs at work, of the call's own -/
def RowP (B : Nat) (w : World) (v : Value) (ps : List (Nat × Nat)) : Prop := w.ownsRow B 45 2 v ps.length (flP ps)

theorem info_two : (Try.prog.info? 45).map (fun i => (i.zero, i.size, i.bytes)) = some (some (.agg #[.float .f64 0, .float .f64 0]), 2, 16) := by kernel_rfl

def finP (p : Nat × Nat) : Bool := finB .f64 p.1 && finB .f64 p.2
def okP (p : Nat × Nat) : Bool := (match floatBits .add .f64 p.1 p.2 with | some r => eqB .f64 r p.1 | none => false) && boundB p.1
def openE (ps : List (Nat × Nat)) : Int := if ps.all finP = true then (if ps.all okP = true then 0 else 7) else 40

theorem ok_add {p : Nat × Nat} {r : Nat} (h : FOp .add .f64 p.1 p.2 r) : (FloatKind.f64.format.order r p.1 != some .eq) = !(match floatBits .add .f64 p.1 p.2 with | some r => eqB .f64 r p.1 | none => false) := by
  cases hb : floatBits .add .f64 p.1 p.2 with
  | some b => rw [h.some hb]; rfl
  | none => rw [order_nan (h.none hb)]; rfl

theorem RowP.below {B : Nat} {w w' : World} {v : Value} {ps : List (Nat × Nat)} (h : RowP B w v ps) (hb : Below w.heap.size w w') : RowP B w' v ps := by
  refine ⟨h.1, ?_⟩
  rcases h.2 with h1 | ⟨g, cap, cur, rfl, hB, hg, rest⟩
  · exact Or.inl h1
  · exact Or.inr ⟨g, cap, cur, rfl, hB, (hb.block g (lt_of_heap hg)).trans hg, rest⟩

theorem RowP.nil {B : Nat} {w : World} : RowP B w (.slice none 0 0) [] := World.ownsRow_nil w B _ 2

theorem Box2.store {w : World} {g : Nat} {a b x y : Value} (h : Box2 w g a b) : Box2 ((w.setCell ⟨g, 0, none⟩ x).setCell ⟨g, 1, none⟩ y) g x y := by
  obtain ⟨t, h⟩ := h
  refine ⟨t, ?_⟩
  simp [World.setCell, Array.getElem?_modify, h]

theorem take_fin {ps : List (Nat × Nat)} {j : Nat} (h : j < ps.length) : flP (ps.take (j + 1)) = flP (ps.take j) ++ [.float .f64 (ps.getD j (0, 0)).1, .float .f64 (ps.getD j (0, 0)).2] := by
  rw [List.take_succ_eq_append_getElem h]
  unfold flP
  rw [List.flatMap_append]
  simp [List.getD, h]

theorem wpList_append_two {ops : Array Oper} {rest : List Oper} {o : Oper} {a : Act} {w : World} {Q : Exit → Act → World → Prop} (hgd : o.guard = none) (s x : Operand) (ho : o.op = .call { callee := .builtin .append, args := #[s, x], argTypes := #[36, 36] })
    {B : Nat} {v : Value} {ps : List (Nat × Nat)} (hs : a.eval s = v) (hown : RowP B w v ps) {g : Nat} {p : Nat × Nat} (hx : a.eval x = .slice (some ⟨g, 0, none⟩) 1 1) (hc : w.cell? ⟨g, 0, none⟩ = some (.float .f64 p.1)) (hc1 : w.cell? ⟨g, 1, none⟩ = some (.float .f64 p.2))
    (hle : ps.length ≤ 1000) (hB : B ≤ w.heap.size)
    (h : ∀ v' w', RowP B w' v' (ps ++ [p]) → w.grownBy w' v.ownBlock → wpList Try.prog ops Q rest (a.put o.dst v') w') : wpList Try.prog ops Q (o :: rest) a w := by
  obtain ⟨i0, hi, hz0, hz1, hz2⟩ := info_parts info_two
  refine wpList_append_own w hgd s x 36 ho B 45 i0 (.agg #[.float .f64 0, .float .f64 0]) 2 16 Try.underlying36 hi hz0 hz1 hz2 rfl (by decide) v ps.length _ hs hown ⟨g, 0, none⟩ 1 1 [.float .f64 p.1, .float .f64 p.2] hx rfl ?_ ?_ (by simp only [maxLen]; omega) (by omega) hB ?_
  · intro j u hj
    match j, hj with
    | 0, hj =>
      simp at hj
      subst hj
      unfold Addr.add
      simpa using hc
    | 1, hj =>
      simp at hj
      subst hj
      unfold Addr.add
      simpa using hc1
    | j + 2, hj => simp at hj
  · intro u hu
    simp at hu
    rcases hu with rfl | rfl <;> rfl
  · intro v' w' h3 h4 _
    refine h v' w' ?_ h4
    unfold RowP
    rw [List.length_append, List.length_singleton]
    have : flP (ps ++ [p]) = flP ps ++ [.float .f64 p.1, .float .f64 p.2] := by unfold flP; rw [List.flatMap_append]; rfl
    rw [this]
    exact h3

theorem getD_elemP (xs : List (Nat × Nat)) (j : Nat) (h : j < xs.length) : xs.getD j (0, 0) = xs[j] := by simp [List.getD, h]

theorem all_notP (f : Nat × Nat → Bool) (xs : List (Nat × Nat)) (j : Nat) (hj : j < xs.length) (h : f (xs.getD j (0, 0)) = false) : xs.all f = false := by
  rw [List.all_eq_false]
  exact ⟨xs.getD j (0, 0), by rw [getD_elemP xs j hj]; exact List.getElem_mem hj, by rw [h]; decide⟩

theorem all_takeP (f : Nat × Nat → Bool) (xs : List (Nat × Nat)) (h : ∀ i, i < xs.length → f (xs.getD i (0, 0)) = true) : xs.all f = true := by
  rw [List.all_eq_true]
  intro y hy
  obtain ⟨i, hi, rfl⟩ := List.getElem_of_mem hy
  have := h i hi
  rwa [getD_elemP xs i hi] at this

theorem next_allP {f : Nat × Nat → Bool} {xs : List (Nat × Nat)} {j : Nat} {x : Nat × Nat} (hall : ∀ i, i < j → f (xs.getD i (0, 0)) = true) (hx : x = xs.getD j (0, 0)) (h : f x = true) : ∀ i, i < j + 1 → f (xs.getD i (0, 0)) = true := fun i hi => by
  rcases Nat.lt_or_ge i j with h' | h'
  · exact hall i h'
  · obtain rfl : i = j := by omega
    rw [← hx]; exact h

theorem flP_get (ps : List (Nat × Nat)) (j : Nat) (hj : j < ps.length) : (flP ps)[j * 2]? = some (.float .f64 (ps.getD j (0, 0)).1) ∧ (flP ps)[j * 2 + 1]? = some (.float .f64 (ps.getD j (0, 0)).2) := by
  induction ps generalizing j with
  | nil => simp at hj
  | cons p ps ih =>
    cases j with
    | zero => exact ⟨rfl, rfl⟩
    | succ j =>
      have := ih j (by simpa using hj)
      have e1 : flP (p :: ps) = .float .f64 p.1 :: .float .f64 p.2 :: flP ps := rfl
      rw [e1, show (j + 1) * 2 = j * 2 + 2 from by omega]
      simpa using this

theorem RowP.form {B : Nat} {w : World} {v : Value} {ps : List (Nat × Nat)} (h : RowP B w v ps) : ∃ A c, v = .slice A ps.length c ∧ (0 < ps.length → ∃ g, A = some ⟨g, 0, none⟩ ∧ g < w.heap.size ∧ ∀ j, j < ps.length →
    w.cell? ⟨g, j * 2, none⟩ = some (.float .f64 (ps.getD j (0, 0)).1) ∧ w.cell? ⟨g, j * 2 + 1, none⟩ = some (.float .f64 (ps.getD j (0, 0)).2)) := by
  rcases h.2 with ⟨rfl, h0⟩ | ⟨g, cap, cur, rfl, hB, hg, rest⟩
  · exact ⟨none, 0, by rw [h0], fun h => absurd h (by omega)⟩
  · refine ⟨_, cap, rfl, fun _ => ⟨g, rfl, lt_of_heap hg, fun j hj => ?_⟩⟩
    have hc := World.ownsRow.cells h (g := g) rfl
    obtain ⟨q1, q2⟩ := flP_get ps j hj
    have c1 := hc _ _ q1
    have c2 := hc _ _ q2
    have ea : ∀ i, (⟨g, 0, none⟩ : Addr).add i = ⟨g, i, none⟩ := fun i => by unfold Addr.add; split <;> simp_all
    rw [ea] at c1 c2
    exact ⟨c1, c2⟩

def OpenAns (ps : List (Nat × Nat)) (B : Nat) (E : Int) (v : Value) (w' : World) : Prop := E = openE ps ∧ (E = 0 → RowP B w' v ps)

set_option maxHeartbeats 4000000 in
theorem open_any (pb : Nat) (ps : List (Nat × Nat)) (w : World) (hp : RdP w pb ps) (hb : pb < w.heap.size) (hn : ps.length ≤ 100) :
    Calls Try.prog 15 #[.slice (some ⟨pb, 0, none⟩) ps.length ps.length] w fun e' w' => ∃ v E, e' = .returned (.tuple #[v, .int .i64 E]) ∧ OpenAns ps w.heap.size E v w' ∧ Below w.heap.size w w' := by
  obtain ⟨n, hnl⟩ : ∃ n, n = ps.length := ⟨_, rfl⟩
  have HP := Lib.hid hp
  rw [← hnl] at hn ⊢
  have Hnl := Lib.hid hnl
  clear hnl hp
  go_enter Try.func15, Try.ntmps15
  go_wp2
  go_loopw [12, 4] (fun v12 v4 wr => ∃ j : Nat, j ≤ n ∧ v12 = .int .i64 j ∧ Hid (RowP w.heap.size wr v4 (ps.take j)) ∧ Hid (∀ i, i < j → finP (ps.getD i (0, 0)) = true) ∧ Below w.heap.size w wr) (fun v _ _ => n - (intOf v).toNat)
  case atStart => exact ⟨0, Nat.zero_le _, rfl, RowP.nil, fun i hi => absurd hi (Nat.not_lt_zero _), Below.refl _ _⟩
  case round =>
    obtain ⟨j, hj, rfl, hrow, hall, hB⟩ := hrel
    by_cases hjn : j < n
    · obtain ⟨c0, c1⟩ := HP.out j (by rw [← Hnl.out]; exact hjn)
      have q0 := (hB.cell (p := ⟨pb, j * 2, none⟩) hb).trans c0
      have q1 := (hB.cell (p := ⟨pb, j * 2 + 1, none⟩) hb).trans c1
      have hjn' : (j : Int) < n := by omega
      obtain ⟨x, hx⟩ : ∃ x, x = ps.getD j (0, 0) := ⟨_, rfl⟩
      rw [← hx] at q0 q1
      have Hx := Lib.hid hx
      have HB := Lib.hid hB
      have hszw := hB.size
      clear c0 c1 hx hB
      obtain ⟨W1, hW1⟩ : ∃ W1, W1 = wr.alloc (Obj.cells #[.int .u64 (x.1 : Nat), .int .u64 (x.2 : Nat)] 26) := ⟨_, rfl⟩
      have b1 : Below wr.heap.size wr W1 := by rw [hW1]; exact below_a ..
      have hbx : Box2 W1 wr.heap.size (.int .u64 (x.1 : Nat)) (.int .u64 (x.2 : Nat)) := by rw [hW1]; exact Box2.new ..
      replace HB := Lib.hid (HB.out.trans (b1.mono HB.out.size))
      replace hrow := Lib.hid (hrow.out.below b1)
      have hs1 := b1.size
      clear b1
      go_upto_region 5 with (fail)
      rw [← hW1]
      clear hW1 q0 q1
      obtain ⟨k0, k1, _, hlt⟩ := hbx.cells
      have hne : W1.heap.size ≠ wr.heap.size := by omega
      go_cut [7] from 13 to 37 (fun p7 wx => p7 = .pointer (some ⟨W1.heap.size, 0, none⟩) ∧ Box2 wx W1.heap.size (.float .f64 x.1) (.float .f64 x.2) ∧ Below W1.heap.size W1 wx)
      case first =>
        have hst := fun (a : Addr) (x : Nat) (w : World) => run_store Try.prog w a (.float .f64 x) .plain rfl
        go_region_held3 (fun w' => w'.cell? ⟨wr.heap.size, 0, none⟩ = some (.int .u64 (x.1 : Nat)) ∧ w'.cell? ⟨wr.heap.size, 1, none⟩ = some (.int .u64 (x.2 : Nat)))
          (first | exact ⟨k0, k1⟩ | (simp [*, World.cell?_alloc_some, World.cell?_setCell_far]))
          (first | (go_at_call 25; (with_reducible refine (pfloat_any x.1 _).mono ?_); rintro e w5 ⟨rfl, rfl⟩) | (go_at_call 25; (with_reducible refine (pfloat_any x.2 _).mono ?_); rintro e w6 ⟨rfl, rfl⟩))
        all_goals go_wp2_with fail
        all_goals go_meet
        all_goals exact ⟨rfl, Box2.new W1 _ _ _, (below_a W1 _).drew⟩
      case rest =>
        obtain ⟨rfl, hbx7, hbc⟩ := hcut
        clear k0 k1 hbx hne
        replace HB := Lib.hid (HB.out.trans (hbc.mono HB.out.size))
        replace hrow := Lib.hid (hrow.out.below hbc)
        have Hb7 := Lib.hid hbx7
        have hs2 := hbc.size
        clear hbc hbx7
        obtain ⟨k0, k1, _, hlt7⟩ := Hb7.out.cells
        go_wp2_with fail
        refine (pfinite_any x.1 wc).mono ?_
        rintro _ w7 ⟨rfl, hb7⟩
        replace HB := Lib.hid (HB.out.trans (hb7.mono HB.out.size))
        replace hrow := Lib.hid (hrow.out.below hb7)
        replace Hb7 := Lib.hid (Hb7.out.below hb7)
        clear hb7 k0 k1
        obtain ⟨k0, k1, _, _⟩ := Hb7.out.cells
        obtain ⟨f1, hf1⟩ : ∃ f, finB .f64 x.1 = f := ⟨_, rfl⟩
        rw [hf1]
        cases f1
        · have H : Hid (40 = openE ps) := by
            show (40 : Int) = _
            unfold openE
            rw [if_neg]
            rw [all_notP finP ps j (by rw [← Hnl.out]; exact hjn) (by rw [← Hx.out]; unfold finP; rw [hf1]; rfl)]
            decide
          clear hall hrow k0 k1
          go_wp2
          go_ret2
          exact ⟨_, 40, rfl, ⟨H.out, fun h => absurd h (by decide)⟩, HB.out⟩
        · go_wp2_with fail
          refine (pfinite_any x.2 w7).mono ?_
          rintro _ w8 ⟨rfl, hb8⟩
          replace HB := Lib.hid (HB.out.trans (hb8.mono HB.out.size))
          replace hrow := Lib.hid (hrow.out.below hb8)
          replace Hb7 := Lib.hid (Hb7.out.below hb8)
          clear hb8 k0 k1
          obtain ⟨k0, k1, _, _⟩ := Hb7.out.cells
          obtain ⟨f2, hf2⟩ : ∃ f, finB .f64 x.2 = f := ⟨_, rfl⟩
          rw [hf2]
          cases f2
          · have H : Hid (40 = openE ps) := by
              show (40 : Int) = _
              unfold openE
              rw [if_neg]
              rw [all_notP finP ps j (by rw [← Hnl.out]; exact hjn) (by rw [← Hx.out]; unfold finP; rw [hf2, Bool.and_false])]
              decide
            clear hall hrow k0 k1
            go_wp2
            go_ret2
            exact ⟨_, 40, rfl, ⟨H.out, fun h => absurd h (by decide)⟩, HB.out⟩
          · have hlen : (ps.take j).length = j := by rw [List.length_take, ← Hnl.out]; omega
            obtain ⟨W9, hW9⟩ : ∃ W9, W9 = w8.alloc (Obj.cells #[.float .f64 x.1, .float .f64 x.2] 45) := ⟨_, rfl⟩
            have b9 : Below w8.heap.size w8 W9 := by rw [hW9]; exact below_a ..
            have hrow9 := hrow.out.below b9
            have hbx9 : Box2 W9 w8.heap.size (.float .f64 x.1) (.float .f64 x.2) := by rw [hW9]; exact Box2.new ..
            obtain ⟨e0, e1, _, _⟩ := hbx9.cells
            replace HB := Lib.hid (HB.out.trans (b9.mono HB.out.size))
            have hsz9 := HB.out.size
            rw [hW9] at e0 e1 hrow9 hsz9
            clear hbx9 b9
            have hle9 : (ps.take j).length ≤ 1000 := by omega
            go_wp2_with (at_builtin; refine wpList_append_two rfl (.tmp 33) (.tmp 35) rfl rfl hrow9 (p := x) rfl e0 e1 hle9 hsz9 ?_; intro v' w' hR hg)
            have HB' : Hid (Below w.heap.size w w') := by
              have hb9 := HB.out
              rw [hW9] at hb9
              exact hb9.grown hg hsz9 (fun k hk => (World.ownsRow.lt hrow9 k hk).1)
            have hnx : Hid (∀ i, i < j + 1 → finP (ps.getD i (0, 0)) = true) := next_allP hall.out Hx.out (by unfold finP; rw [hf1, hf2]; rfl)
            have hR' : Hid (RowP w.heap.size w' v' (ps.take (j + 1))) := by
              show RowP _ _ _ _
              rw [List.take_succ_eq_append_getElem (by rw [← Hnl.out]; exact hjn), ← getD_elemP ps j (by rw [← Hnl.out]; exact hjn), ← Hx.out]
              exact hR
            clear hR hg hrow9 e0 e1 k0 k1
            go_roundw
            case rel => exact ⟨j + 1, by omega, by go_num, hR', hnx, HB'.out⟩
            case measure => simp [intOf]; omega
    · obtain rfl : j = n := by omega
      have hft : Hid (ps.all finP = true) := all_takeP finP ps (fun i hi => hall.out i (by rw [Hnl.out]; exact hi))
      have hrow' := hrow.out
      rw [List.take_of_length_le (by rw [← Hnl.out]; exact Nat.le_refl _)] at hrow'
      obtain ⟨A, c, rfl, hcl⟩ := hrow'.form
      have HR := Lib.hid hrow'
      have HB := Lib.hid hB
      have HCL : Hid (∀ i, i < j → ∃ g, A = some ⟨g, 0, none⟩ ∧ g < wr.heap.size ∧ wr.cell? ⟨g, i * 2, none⟩ = some (.float .f64 (ps.getD i (0, 0)).1) ∧ wr.cell? ⟨g, i * 2 + 1, none⟩ = some (.float .f64 (ps.getD i (0, 0)).2)) := fun i hi => by
        obtain ⟨g, e, hg, hc⟩ := hcl (by rw [← Hnl.out]; omega)
        exact ⟨g, e, hg, hc i (by rw [← Hnl.out]; exact hi)⟩
      rw [← Hnl.out]
      clear hrow' hrow hcl hall hB
      go_wp2
      go_loopw [40] (fun v40 w2 => ∃ i : Nat, i ≤ j ∧ v40 = .int .i64 i ∧ Hid (∀ k, k < i → okP (ps.getD k (0, 0)) = true) ∧ Below wr.heap.size wr w2) (fun v _ => j - (intOf v).toNat)
      case atStart => exact ⟨0, Nat.zero_le _, rfl, fun k hk => absurd hk (Nat.not_lt_zero _), Below.refl _ _⟩
      case round =>
        obtain ⟨i, hi, rfl, hok, hB2⟩ := hrel
        by_cases hin : i < j
        · obtain ⟨g, rfl, hg, c0, c1⟩ := HCL.out i hin
          have q0 := (hB2.cell (p := ⟨g, i * 2, none⟩) hg).trans c0
          have q1 := (hB2.cell (p := ⟨g, i * 2 + 1, none⟩) hg).trans c1
          have hin' : (i : Int) < j := by omega
          obtain ⟨x, hx⟩ : ∃ x, x = ps.getD i (0, 0) := ⟨_, rfl⟩
          rw [← hx] at q0 q1
          have Hx := Lib.hid hx
          clear c0 c1 hx
          obtain ⟨r, d, hr, hF⟩ := run_flt (P := Try.prog) .add (by simp) 43 .f64 x.1 x.2 (wr.alloc (Obj.cells #[.float .f64 x.1, .float .f64 x.2] 45))
          have hst := fun (a : Addr) (x : Nat) (w : World) => run_store Try.prog w a (.float .f64 x) .plain rfl
          have hcmp := ok_add (p := x) hF
          obtain ⟨m, hm⟩ : ∃ m, m = (match floatBits .add .f64 x.1 x.2 with | some r => eqB .f64 r x.1 | none => false) := ⟨_, rfl⟩
          rw [← hm] at hcmp
          have Hm := Lib.hid hm
          have HB3 := Lib.hid (below_drewN (hB2.alloc hB2.size (Obj.cells #[.float .f64 x.1, .float .f64 x.2] 45)) d)
          clear hm hF hB2
          cases m
          · have H : Hid (7 = openE ps) := by
              show (7 : Int) = _
              unfold openE
              rw [if_pos hft.out, if_neg]
              rw [all_notP okP ps i (by rw [← Hnl.out]; exact hin) (by rw [← Hx.out]; unfold okP; rw [← Hm.out]; rfl)]
              decide
            clear hok
            go_wp2
            go_ret2
            exact ⟨_, 7, rfl, ⟨H.out, fun h => absurd h (by decide)⟩, HB.out.trans (HB3.out.mono HB.out.size)⟩
          · go_wp2_with fail
            refine (bounded_any x.1 _).mono ?_
            rintro _ w5 ⟨rfl, rfl⟩
            obtain ⟨b, hb'⟩ : ∃ b, b = boundB x.1 := ⟨_, rfl⟩
            rw [← hb']
            have Hb := Lib.hid hb'
            clear hb'
            cases b
            · have H : Hid (7 = openE ps) := by
                show (7 : Int) = _
                unfold openE
                rw [if_pos hft.out, if_neg]
                rw [all_notP okP ps i (by rw [← Hnl.out]; exact hin) (by rw [← Hx.out]; unfold okP; rw [← Hb.out, Bool.and_false])]
                decide
              clear hok
              go_wp2
              go_ret2
              exact ⟨_, 7, rfl, ⟨H.out, fun h => absurd h (by decide)⟩, HB.out.trans (HB3.out.mono HB.out.size)⟩
            · have H := Lib.hid (next_allP (f := okP) hok.out Hx.out (by unfold okP; rw [← Hm.out, ← Hb.out]; rfl))
              clear hok
              go_wp2
              go_roundw
              case rel => exact ⟨i + 1, by omega, by go_num, H, HB3.out⟩
              case measure => simp [intOf]; omega
        · obtain rfl : i = j := by omega
          have H : Hid (0 = openE ps) := by
            show (0 : Int) = _
            unfold openE
            rw [if_pos hft.out, if_pos (all_takeP okP ps (fun k hk => hok.out k (by rw [Hnl.out]; exact hk)))]
          have HR2 := Lib.hid (HR.out.below hB2)
          clear hok
          go_wp2
          go_ret2
          exact ⟨_, 0, rfl, ⟨H.out, fun _ => by have := HR2.out; rw [← Hnl.out] at this; exact this⟩, HB.out.trans (hB2.mono HB.out.size)⟩

end Go.Proofs.Ytlommmipaagcjaa
