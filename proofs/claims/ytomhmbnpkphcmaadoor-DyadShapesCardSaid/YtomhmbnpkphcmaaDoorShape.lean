/- The walk of Shape.other: the same value, written behind zero bits and with zero words at its end. -/
import Derived.Outline
import Derived.Test.YtomhmbnpkphcmaaDoorLawB
import Derived.Test.YtomhmbnpkphcmaaDoorInv
namespace Go.Proofs.YtomhmbnpkphcmaaDoor
set_option linter.unusedVariables false
open Go.RowKit

theorem wpList_append_words {ops : Array Oper} {rest : List Oper} {o : Oper} {a : Act} {w : World} {Q : Exit → Act → World → Prop} (hgd : o.guard = none) (s x : Operand) (ho : o.op = .call { callee := .builtin .append, args := #[s, x], argTypes := #[24, 24] })
    {k B : Nat} {v : Value} {N n : Nat} (hs : a.eval s = v) (hown : Row k B w v N n) {A : Option Addr} {m c M : Nat} (hx : a.eval x = .slice A m c) (hsrc : Rd k w (.slice A m c) M m) (hA : A = none → c = 0)
    (hle : n + m ≤ 17592186044416) (hB : B ≤ w.heap.size)
    (h : ∀ v' w', Row k B w' v' (N + M * 2 ^ (k * n)) (n + m) → w.grownBy w' v.ownBlock → wpList Tryd.prog ops Q rest (a.put o.dst v') w') : wpList Tryd.prog ops Q (o :: rest) a w :=
  wpList_plain hgd fun K hK => wp_append_words s x ho hs hown hx hsrc hA hle hB fun v' w' h1 h2 => hK _ _ (h v' w' h1 h2)

/-- what the word before sends over -/
def carryW (N k j : Nat) : Nat := if j = 0 then 0 else dg 64 N (j - 1) / 2 ^ (64 - k)

theorem shl_digit (N k j : Nat) (hk : k < 64) : (dg 64 N j * 2 ^ k % 2 ^ 64) ||| carryW N k j = dg 64 (N * 2 ^ k) j ∧ carryW N k j < 18446744073709551616 := by
  have hc : carryW N k j < 18446744073709551616 := by
    unfold carryW
    split
    · decide
    · exact Nat.lt_of_le_of_lt (Nat.div_le_self _ _) (dg64_lt N _)
  refine ⟨?_, hc⟩
  by_cases h0 : k = 0
  · subst h0
    have h1 : carryW N 0 j = 0 := by
      unfold carryW
      split
      · rfl
      · exact Nat.div_eq_of_lt (dg64_lt N _)
    rw [h1]
    simp
    exact dg64_lt N j
  · have e : N * 2 ^ k = N * 2 ^ 64 / 2 ^ (64 * 0 + (64 - k)) := by
      have : (2 : Nat) ^ 64 = 2 ^ k * 2 ^ (64 - k) := by rw [← Nat.pow_add]; congr 1; omega
      rw [this, ← Nat.mul_assoc, Nat.mul_zero, Nat.zero_add, Nat.mul_div_cancel _ (pow_pos2 _)]
    have hs := shr_digit (N * 2 ^ 64) 0 (64 - k) j (by omega)
    rw [← e, Nat.zero_add] at hs
    have e2 : dg 64 (N * 2 ^ 64) (j + 1) = dg 64 N j := by
      have := dg_shift 64 N 1 j
      rwa [show 1 + j = j + 1 from by omega, Nat.mul_one] at this
    have e3 : dg 64 (N * 2 ^ 64) j / 2 ^ (64 - k) = carryW N k j := by
      unfold carryW
      split
      · rename_i hj
        subst hj
        have : dg 64 (N * 2 ^ 64) 0 = 0 := by unfold dg; simp
        rw [this]; simp
      · rename_i hj
        have := dg_shift 64 N 1 (j - 1)
        rw [show 1 + (j - 1) = j from by omega, Nat.mul_one] at this
        rw [this]
    have e4 : 64 - (64 - k) = k := by omega
    rw [e2, e3, e4] at hs
    rw [hs]
    have hp := or_parts (if j = 0 then 0 else dg 64 N (j - 1)) (dg 64 N j) (64 - k) (by omega) (by split; decide; exact dg64_lt N _)
    have e5 : (if j = 0 then 0 else dg 64 N (j - 1)) / 2 ^ (64 - k) = carryW N k j := by
      unfold carryW
      split
      · simp
      · rfl
    rw [e5, e4] at hp
    rw [Nat.or_comm]
    exact hp

theorem carry_next (N k j : Nat) : carryW N k (j + 1) = dg 64 N j / 2 ^ (64 - k) := by
  unfold carryW
  rw [if_neg (by omega)]
  rfl

theorem shl_last (N k n : Nat) (hk : k < 64) (hN : N < 2 ^ (64 * n)) : carryW N k n = dg 64 (N * 2 ^ k) n ∧ N * 2 ^ k < 2 ^ (64 * (n + 1)) := by
  have h := (shl_digit N k n hk).1
  rw [dg_high 64 N n n hN (Nat.le_refl _)] at h
  refine ⟨by simpa using h, ?_⟩
  rw [Nat.mul_succ, Nat.pow_add]
  have h1 : (2 : Nat) ^ k ≤ 2 ^ 64 := Nat.pow_le_pow_right (by decide) (by omega)
  have h2 := Nat.mul_le_mul_left N h1
  have h3 := (Nat.mul_lt_mul_right (pow_pos2 64)).2 hN
  omega

/-- block g is five cells: a Shape -/
def Box5 (w : World) (g : Nat) (a b c d e : Value) : Prop := ∃ t, w.heap[g]? = some (Obj.cells #[a, b, c, d, e] t (0, 0))
theorem Box5.below {w w' : World} {g : Nat} {a b c d e : Value} (h : Box5 w g a b c d e) (hb : Below w.heap.size w w') : Box5 w' g a b c d e := by
  obtain ⟨t, h⟩ := h
  exact ⟨t, (hb.block g (lt_size_of_some h)).trans h⟩
theorem Box5.new (w : World) (a b c d e : Value) (t : TypeId) : Box5 (w.alloc (Obj.cells #[a, b, c, d, e] t)) w.heap.size a b c d e := ⟨t, heap_alloc_at w _⟩
theorem Box5.cells {w : World} {g : Nat} {a b c d e : Value} (h : Box5 w g a b c d e) :
    w.cell? ⟨g, 0, none⟩ = some a ∧ w.cell? ⟨g, 1, none⟩ = some b ∧ w.cell? ⟨g, 2, none⟩ = some c ∧ w.cell? ⟨g, 3, none⟩ = some d ∧ w.cell? ⟨g, 4, none⟩ = some e ∧ g < w.heap.size := by
  obtain ⟨t, h⟩ := h
  refine ⟨?_, ?_, ?_, ?_, ?_, lt_size_of_some h⟩ <;> · unfold World.cell?; simp only [h]; rfl

set_option maxRecDepth 100000 in
set_option maxHeartbeats 2000000 in
theorem other_any (s : Bool) (A : Option Addr) (N n c : Nat) (e bt wd : Int) (k z : Nat) (w : World) (hv : Rd 64 w (.slice A n c) N n) (hn : n ≤ 1000) (he : -39000 ≤ e ∧ e ≤ 39000)
    (hbt : -9223372036854775808 ≤ bt ∧ bt ≤ 9223372036854775807) (hwd : -9223372036854775808 ≤ wd ∧ wd ≤ 9223372036854775807)
    (hk : (bt.tmod 64 + 64).tmod 64 = (k : Int)) (hz : (wd.tmod 5 + 5).tmod 5 = (z : Int)) (hk64 : k < 64) (hz5 : z < 5) :
    Calls Tryd.prog 24 #[.agg #[.bool s, .slice A n c, .int .i64 e, .int .i64 bt, .int .i64 wd]] w fun e' w' =>
      ∃ A' c', e' = .returned (.agg #[.bool s, .slice A' (n + 1 + z) c', .int .i64 (e - k)]) ∧ Row 64 w.heap.size w' (.slice A' (n + 1 + z) c') (N * 2 ^ k) (n + 1 + z) ∧ Below w.heap.size w w' := by
  obtain ⟨_, _, _, hrX⟩ := hv.at_
  have HN := Lib.hid hv.lt
  obtain ⟨W, hW⟩ : ∃ W, W = ((w.alloc (Obj.cells #[.bool s, .slice A n c, .int .i64 e, .int .i64 bt, .int .i64 wd] 43)).alloc (Obj.cells #[Value.bool false, Value.slice none 0 0, Value.int IntKind.i64 0] 26)) := ⟨_, rfl⟩
  have hB : Below w.heap.size w W := by rw [hW]; exact below2 ..
  have b0 : Box5 W w.heap.size (.bool s) (.slice A n c) (.int .i64 e) (.int .i64 bt) (.int .i64 wd) := by rw [hW]; exact (Box5.new ..).below (below1 ..)
  have b1 : BoxD W (w.heap.size + 1) (.bool false) (.slice none 0 0) (.int .i64 0) := by
    rw [hW]
    have := BoxD.new (w.alloc (Obj.cells #[.bool s, .slice A n c, .int .i64 e, .int .i64 bt, .int .i64 wd] 43)) (.bool false) (.slice none 0 0) (.int .i64 0)
    simpa using this
  have hWs : W.heap.size = w.heap.size + 2 := by rw [hW]; simp
  obtain ⟨k0, k1, k2, k3, k4, _⟩ := b0.cells
  have hm1 : -64 < bt.tmod 64 ∧ bt.tmod 64 < 64 := ⟨Int.lt_tmod_of_pos bt (by decide), Int.tmod_lt_of_pos bt (by decide)⟩
  have hm2 : -5 < wd.tmod 5 ∧ wd.tmod 5 < 5 := ⟨Int.lt_tmod_of_pos wd (by decide), Int.tmod_lt_of_pos wd (by decide)⟩
  have hw1 : IntKind.i64.wrap (bt.tmod 64 + 64) = bt.tmod 64 + 64 := by rw [IntKind.wrap_i64]; omega
  have hw2 : IntKind.i64.wrap (wd.tmod 5 + 5) = wd.tmod 5 + 5 := by rw [IntKind.wrap_i64]; omega
  have hw3 : IntKind.u64.wrap (k : Int) = (k : Int) := by rw [wrap_u64_nat]; omega
  go_enter Tryd.func24, Tryd.ntmps24
  go_wp2
  rw [← hW]
  have h3 : ∀ j, dg 64 (N * 2 ^ k) j < 18446744073709551616 := fun j => dg64_lt _ j
  have hBs := hB.size
  clear hW b0
  go_loopw [4, 5, 6] (fun v4 v5 v6 wr => ∃ j : Nat, j ≤ n ∧ v6 = .int .i64 j ∧ v5 = .int .u64 (carryW N k j : Nat) ∧ Row 64 W.heap.size wr v4 (N * 2 ^ k % 2 ^ (64 * j)) j ∧ Below W.heap.size W wr) (fun _ _ v6 _ => n - (intOf v6).toNat)
  case atStart => exact ⟨0, Nat.zero_le _, rfl, by simp [carryW], by simpa [Nat.mod_one] using Row.nil, Below.refl _ _⟩
  case round =>
    obtain ⟨j, hj, rfl, rfl, hrow, hbw⟩ := hrel
    by_cases hjn : j < n
    · obtain ⟨b1, o1, rfl, hb1, hcell1⟩ := hrX (by omega)
      have hW0 : Below w.heap.size w wr := keep_belowB hB hbw (Nat.le_refl _)
      have hx : wr.cell? ⟨b1, o1 + j, none⟩ = _ := (hW0.cell (p := ⟨b1, o1 + j, none⟩) hb1).trans (hcell1 j hjn)
      have q0 := keep_cell hbw k0
      have q1 := keep_cell hbw k1
      obtain ⟨hd1, hcl⟩ := shl_digit N k j hk64
      have hxl := dg64_lt N j
      have hor : bits BinOp.or IntKind.u64 (IntKind.u64.wrap (((dg 64 N j : Nat) : Int) * 2 ^ k)) ((carryW N k j : Nat) : Int) = ((dg 64 (N * 2 ^ k) j : Nat) : Int) := by
        rw [wrap_shl_nat, or_nat _ _ (Nat.mod_lt _ (by decide)) hcl]
        exact congrArg (fun x : Nat => (x : Int)) hd1
      have hjn' : (j : Int) < n := by omega
      have hmod : Hid (N * 2 ^ k % 2 ^ (64 * j) + dg 64 (N * 2 ^ k) j * 2 ^ (64 * j) = N * 2 ^ k % 2 ^ (64 * (j + 1))) := (mod_succ 64 (N * 2 ^ k) j).symm
      have hcn : Hid (carryW N k (j + 1) = dg 64 N j / 2 ^ (64 - k)) := carry_next N k j
      have hdl := h3 j
      have hle1 : j + 1 ≤ 17592186044416 := by omega
      have hszw := hbw.size
      have hsrc : Rd 64 (wr.alloc (.cells #[.int .u64 (dg 64 (N * 2 ^ k) j : Nat)] 49)) (.slice (some ⟨wr.heap.size, 0, none⟩) 1 1) (dg 64 (N * 2 ^ k) j) 1 := Rd.one' wr _ _ rfl hdl
      have hrow' := hrow.alloc (.cells #[.int .u64 (dg 64 (N * 2 ^ k) j : Nat)] 49)
      have hal' : Below W.heap.size W (wr.alloc (.cells #[.int .u64 (dg 64 (N * 2 ^ k) j : Nat)] 49)) := hbw.alloc hbw.size _
      have hle2' := hal'.size
      generalize hdd : dg 64 (N * 2 ^ k) j = d at *
      generalize hcc : carryW N k j = cc at *
      clear hd1 hdd hcc h3
      by_cases hk0 : 0 < k
      · have hsub : IntKind.u64.wrap (64 - (k : Int)) = ((64 - k : Nat) : Int) := by rw [show (64 - (k : Int)) = ((64 - k : Nat) : Int) from by omega, wrap_u64_nat]; omega
        go_wp2_with (at_builtin; refine wpList_append_words rfl (.tmp 22) (.tmp 33) rfl rfl hrow' rfl hsrc nofun hle1 hle2' ?_; intro v' w' hR hg; have hbw' := hrow'.grown hg hal' hle2'; have q0' := keep_cell hbw' k0; have q1' := keep_cell hbw' k1; have hx' := ((keep_belowB hB hbw' (Nat.le_refl _)).cell (p := ⟨b1, o1 + j, none⟩) hb1).trans (hcell1 j hjn))
        go_roundw
        case rel => exact ⟨j + 1, by omega, by go_num, by rw [hcn.out]; simp, by rw [← hmod.out]; exact hR, hbw'⟩
        case measure => simp [intOf]; omega
      · have hk00 : k = 0 := by omega
        have hk1 : decide (0 < k) = false := by simpa using hk0
        have hcn0 : Hid (carryW N k (j + 1) = 0) := by show _ = _; rw [hcn.out, hk00]; exact Nat.div_eq_of_lt hxl
        clear hk00
        go_wp2_with (at_builtin; refine wpList_append_words rfl (.tmp 22) (.tmp 33) rfl rfl hrow' rfl hsrc nofun hle1 hle2' ?_; intro v' w' hR hg; have hbw' := hrow'.grown hg hal' hle2'; have q0' := keep_cell hbw' k0; have q1' := keep_cell hbw' k1; have hx' := ((keep_belowB hB hbw' (Nat.le_refl _)).cell (p := ⟨b1, o1 + j, none⟩) hb1).trans (hcell1 j hjn))
        go_roundw
        case rel => exact ⟨j + 1, by omega, by go_num, by rw [hcn0.out]; rfl, by rw [← hmod.out]; exact hR, hbw'⟩
        case measure => simp [intOf]; omega
    · obtain rfl : j = n := by omega
      have q0 := keep_cell hbw k0
      have q1 := keep_cell hbw k1
      have q2 := keep_cell hbw k2
      have q4 := keep_cell hbw k4
      obtain ⟨hl1, hl2⟩ := shl_last N k j hk64 HN.out
      have hmod : Hid (N * 2 ^ k % 2 ^ (64 * j) + carryW N k j * 2 ^ (64 * j) = N * 2 ^ k) := by
        show _ = _
        rw [hl1, ← mod_succ, Nat.mod_eq_of_lt hl2]
      have hcl := (shl_digit N k j hk64).2
      have hle1 : j + 1 ≤ 17592186044416 := by omega
      have hsrc : Rd 64 (wr.alloc (.cells #[.int .u64 (carryW N k j : Nat)] 49)) (.slice (some ⟨wr.heap.size, 0, none⟩) 1 1) (carryW N k j) 1 := Rd.one' wr _ _ rfl hcl
      have hrow' := hrow.alloc (.cells #[.int .u64 (carryW N k j : Nat)] 49)
      have hal' : Below W.heap.size W (wr.alloc (.cells #[.int .u64 (carryW N k j : Nat)] 49)) := hbw.alloc hbw.size _
      have hle2' := hal'.size
      clear hrX hl1 hl2
      generalize carryW N k j = cc at *
      go_wp2_with (at_builtin; refine wpList_append_words rfl (.tmp 46) (.tmp 48) rfl rfl hrow' rfl hsrc nofun hle1 hle2' ?_; intro v5 w5 hR5 hg5; have hbw5 := hrow'.grown hg5 hal' hle2')
      rw [hmod.out] at hR5
      clear hrow' hsrc hal' hle2' hg5 hrow hbw q0 q1 q2 q4
      clear h3 hmod hcl hle1
      go_loopw [4, 7] (fun v4 v7 wr => ∃ i : Nat, i ≤ z ∧ v7 = .int .i64 i ∧ Row 64 W.heap.size wr v4 (N * 2 ^ k) (j + 1 + i) ∧ Below W.heap.size W wr) (fun _ v7 _ => z - (intOf v7).toNat)
      case atStart => exact ⟨0, Nat.zero_le _, rfl, hR5, hbw5⟩
      case round =>
        clear hR5 hbw5
        obtain ⟨i, hi, rfl, hrow, hbw⟩ := hrel
        have q0 := keep_cell hbw k0
        have q2 := keep_cell hbw k2
        have q4 := keep_cell hbw k4
        by_cases hiz : i < z
        · have hle1 : j + 1 + i + 1 ≤ 17592186044416 := by omega
          have hsrc : Rd 64 (wr.alloc (.cells #[.int .u64 0] 49)) (.slice (some ⟨wr.heap.size, 0, none⟩) 1 1) 0 1 := Rd.one' wr 0 0 rfl (by omega)
          have hrow' := hrow.alloc (.cells #[.int .u64 0] 49)
          have hal' : Below W.heap.size W (wr.alloc (.cells #[.int .u64 0] 49)) := hbw.alloc hbw.size _
          have hle2' := hal'.size
          go_wp2_with (at_builtin; refine wpList_append_words rfl (.tmp 59) (.tmp 60) rfl rfl hrow' rfl hsrc nofun hle1 hle2' ?_; intro v' w' hR hg; have hbw' := hrow'.grown hg hal' hle2')
          go_roundw
          case rel => exact ⟨i + 1, by omega, by go_num, by simpa [Nat.add_assoc] using hR, hbw'⟩
          case measure => simp [intOf]; omega
        · obtain rfl : i = z := by omega
          obtain ⟨A', c', rfl, -, -⟩ := hrow.form
          have b1' := b1.below hbw
          obtain ⟨p0, p1, p2, p3, _⟩ := b1'.box3.cells
          have hwe : IntKind.i64.wrap (e - (k : Int)) = e - k := by rw [IntKind.wrap_i64]; omega
          have hwk : IntKind.i64.wrap (k : Int) = k := by rw [IntKind.wrap_i64]; omega
          have hrow2 := hrow.wd (b1'.wd (x := .bool s) (y := .slice A' (j + 1 + i) c') (z := .int .i64 (e - k)))
          have HR := Lib.hid (hrow2.mono (show w.heap.size ≤ W.heap.size by omega))
          have HBw := Lib.hid (below_box (keep_belowB hB hbw (Nat.le_refl _)) (show w.heap.size ≤ w.heap.size + 1 by omega) (.bool s) (.slice A' (j + 1 + i) c') (.int .i64 (e - k)))
          clear hrow2 hrow hbw b1' hB b1
          go_wp2
          refine bodyPost_ret (v := .agg #[.bool s, .slice A' (j + 1 + i) c', .int .i64 (e - k)]) (by simp [results, Tryd.results24, go_sem, p0, p1, p2]) rfl ?_
          exact ⟨A', c', rfl, HR.out, HBw.out⟩

end Go.Proofs.YtomhmbnpkphcmaaDoor
