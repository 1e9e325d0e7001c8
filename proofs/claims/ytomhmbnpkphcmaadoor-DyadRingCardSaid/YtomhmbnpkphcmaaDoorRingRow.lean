/- DyadRing: for every input the law answers true. Conditions: none. -/
import Derived.Test.YtomhmbnpkphcmaaDoorRing
import Derived.Test.YtomhmbnpkphcmaaDoorOpen
import Derived.Test.YtomhmbnpkphcmaaDoorLaid
import Derived.Test.YtomhmbnpkphcmaaDoorTie
import Derived.Test.YtomhmbnpkphcmaaDoorCards
import Derived.ProofKit
import Derived.OpenShut
namespace Go.Proofs.YtomhmbnpkphcmaaDoor.dyadRing
set_option linter.unusedVariables false
open Go.ChangeShapes Go.WideShapes Go.ChangeAt Go.RowKit

theorem own : ownKnob Tryd.prog.godebug = none := by kernel_rfl
theorem laidOut : laidOutB Tryd.prog = true := by kernel_rfl

set_option maxRecDepth 100000 in
theorem lifted (os : Os) (started : os.Started) (H : Type) (enc : TypeId × Value → H) :
    ReturnsInHanded {} Tryd.checked os 7 .any (fun w args => (Rows.dyadRingSpec.pre enc Tryd.prog Tryd.f7 Rows.dyadRingRow.domain false w args ∧ laidMetH Tryd.prog Rows.dyadRingRow.laid w) ∧ sizedMet enc Tryd.prog Tryd.f7 (OpenSpec.ofChange Rows.dyadRingSpec) false w args)
      (Rows.dyadRingSpec.post enc Tryd.prog Tryd.f7 false true false false) := by
  refine returnsInHanded_of_change_and (C := Tryd.checked) (X := fun w _ => laidMetH Tryd.prog Rows.dyadRingRow.laid w) (fun _ _ _ hh h => h.of_heap hh) own started (by kernel_rfl) Tryd.func7
    (ChangeSpec.witness_shaped (enc := enc) (C := Tryd.checked) (os := os) (X := fun w _ => laidMetH Tryd.prog Rows.dyadRingRow.laid w) false (World.laidAll Tryd.prog os Rows.dyadRingRow.laid)
      #[.agg #[.bool false, .slice none 0 0, .int .i64 0], .agg #[.bool false, .slice none 0 0, .int .i64 0], .agg #[.bool false, .slice none 0 0, .int .i64 0]] 8 (World.laidAll_os _ _ _)
      (World.shaped_of_ZipB (by kernel_rfl) (by kernel_rfl)) (by kernel_rfl) (by kernel_rfl) (by kernel_rfl)
      (by rw [MakeChecks.laidMetH_plain _ _ _ (by kernel_rfl)]; exact laidMet_laidAll _ (by kernel_rfl) (by kernel_rfl))) ?_
  intro W base args ds gs before hval0 hW hc hsz hL _
  have hval : ∀ (j : Nat) t v, Tryd.f7.params[j]? = some t → args[j]? = some v → Value.okWide Tryd.prog W .any base t v := hval0
  have hlt := hW.lt
  have hW' := hW
  obtain ⟨p, q, hA0, hV, rfl, _, _⟩ := hW
  have hA : DataW.TrodAll enc Tryd.prog W 0 (fun _ => true) true Tryd.f7.params.toList args.toList ds p := hA0
  rw [Tryd.params7] at hA hval hsz
  obtain ⟨v0, v1, v2, d0, d1, d2, p0, p1, p2, rfl, rfl, rfl, h0, h1, h2⟩ := trodAll_three hA
  obtain ⟨rfl, rfl⟩ := trodVars_none hV
  simp only [List.append_nil, List.append_assoc] at hW' hlt
  have hin : ∀ (j : Nat) t d, [26, 26, 26][j]? = some t → [d0, d1, d2][j]? = some d → ∀ m ∈ d.weights Tryd.prog t, m ≤ reachBytes := by
    intro j t d ht hd m hm
    have := List.all_eq_true.1 hsz m (DataW.weights_mem_each (ts := [26, 26, 26]) ht hd m hm)
    simpa using this
  obtain ⟨s0, A0, n0, c0, e0, N0, rfl, hR0, hlo0, hhi0, hA0⟩ := open_dyad (hval 0 26 v0 rfl rfl) h0 (hin 0 _ _ rfl rfl) (fun x hx => hlt x (by simp [hx]))
  obtain ⟨s1, A1, n1, c1, e1, N1, rfl, hR1, hlo1, hhi1, hA1⟩ := open_dyad (hval 1 26 v1 rfl rfl) h1 (hin 1 _ _ rfl rfl) (fun x hx => hlt x (by simp [hx]))
  obtain ⟨s2, A2, n2, c2, e2, N2, rfl, hR2, hlo2, hhi2, hA2⟩ := open_dyad (hval 2 26 v2 rfl rfl) h2 (hin 2 _ _ rfl rfl) (fun x hx => hlt x (by simp [hx]))
  refine (ring_any s0 s1 s2 A0 A1 A2 N0 n0 c0 N1 n1 c1 N2 n2 c2 e0 e1 e2 W hR0 hR1 hR2 (gl_of_laid hL)).mono fun e W' ⟨he, hB⟩ => ?_
  subst he
  refine ⟨_, rfl, _, _, _, [], p0 ++ (p1 ++ p2), [], hW', ?_, ?_, rfl, hB.frame _, fun h => by cases h⟩
  · exact trodAll_mk1 (shut_bool Tryd.underlying4 _)
  · have st : ∀ {v d p'}, DataW.Trod enc Tryd.prog W 0 (fun _ => true) true 26 v d p' → (∀ x ∈ p', x.block < W.heap.size) → DataW.Trod enc Tryd.prog W' 0 (fun b => decide (b < W.heap.size)) true 26 v d p' :=
      fun h hx => Below.trod laidOut (by kernel_rfl) (by decide) h hB hx
    exact trodAll_mk3 (st h0 fun x hx => hlt x (by simp [hx])) (st h1 fun x hx => hlt x (by simp [hx])) (st h2 fun x hx => hlt x (by simp [hx]))

theorem over : Rows.dyadRingRow.holds Tryd.pinned (OpenSpec.ofChange Rows.dyadRingSpec) :=
  OpenClaim.holds_of_wide 7 Tryd.f7 rfl rfl rfl rfl rfl rfl rfl ⟨rfl, rfl, rfl, rfl, rfl⟩ rfl rfl rfl rfl rfl (by kernel_rfl) Tryd.func7 (by kernel_rfl)
    (of_decide_eq_true (by kernel_rfl)) (by unfold Func.isWrapper; first | (rw [if_pos (by decide +kernel)]; kernel_rfl) | (rw [if_neg (by decide +kernel)]; exact ⟨rfl, rfl⟩))
    (fun os started H enc _ => lifted os started H enc)

theorem proved : Rows.DyadRingCardSaid :=
  Claim7.holds_tied_plain_at .later [] [.data] true (true, "542be6f0ad2e4ad6e57a18b37f34bcffc68de7db1f4964a1ecdd3a62b120da6a") false over (fun _ h => by cases h) (by kernel_rfl) (fun _ h => by cases h) dyadRing_row_tie rfl ⟨rfl, rfl⟩ (by kernel_rfl) rfl
    (fun f fn hf hfn => by
      obtain rfl : f = 7 := Option.some.inj ((show Tryd.prog.funcNamed "vernier/vernierlaw03.DyadRing" = some 7 by kernel_rfl).symm.trans hf) |>.symm
      obtain rfl : fn = Tryd.f7 := (Option.some.inj (Tryd.func7.symm.trans hfn)).symm
      exact ⟨by kernel_rfl, fun j t ht => by
        rw [Tryd.params7] at ht
        have hm : t ∈ [26, 26, 26] := by simpa using Array.mem_of_getElem? ht
        have hall : ([26, 26, 26].all fun u => !Tryd.prog.wantsStandIn u) = true := by kernel_rfl
        exact (show Tryd.prog.wantsStandIn t = false by simpa using List.all_eq_true.1 hall t hm)⟩)
    (by kernel_rfl)
#print axioms proved
end Go.Proofs.YtomhmbnpkphcmaaDoor.dyadRing
