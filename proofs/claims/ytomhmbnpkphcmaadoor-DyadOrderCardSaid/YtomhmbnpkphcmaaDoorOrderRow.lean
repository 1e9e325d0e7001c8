/- DyadOrder: for every input the law answers true: the order of exact numbers is that of their differences; Neg turns it round, sums and Scale keep it. Conditions: none. -/
import Derived.Test.YtomhmbnpkphcmaaDoorOrder
import Derived.Test.YtomhmbnpkphcmaaDoorLaid
import Derived.Test.YtomhmbnpkphcmaaDoorTie
import Derived.Test.YtomhmbnpkphcmaaDoorCards
import Derived.ProofKit
import Derived.OpenShut
namespace Go.Proofs.YtomhmbnpkphcmaaDoor.dyadOrder
set_option linter.unusedVariables false
open Go.ChangeShapes Go.WideShapes Go.ChangeAt Go.RowKit

theorem own : ownKnob Tryd.prog.godebug = none := by kernel_rfl
theorem laidOut : laidOutB Tryd.prog = true := by kernel_rfl

set_option maxRecDepth 100000 in
theorem lifted (os : Os) (started : os.Started) (H : Type) (enc : TypeId × Value → H) :
    ReturnsInHanded {} Tryd.checked os 4 .any (fun w args => (Rows.dyadOrderSpec.pre enc Tryd.prog Tryd.f4 Rows.dyadOrderRow.domain false w args ∧ laidMetH Tryd.prog Rows.dyadOrderRow.laid w) ∧ sizedMet enc Tryd.prog Tryd.f4 (OpenSpec.ofChange Rows.dyadOrderSpec) false w args)
      (Rows.dyadOrderSpec.post enc Tryd.prog Tryd.f4 false true false false) := by
  refine returnsInHanded_of_change_and (C := Tryd.checked) (X := fun w _ => laidMetH Tryd.prog Rows.dyadOrderRow.laid w) (fun _ _ _ hh h => h.of_heap hh) own started (by kernel_rfl) Tryd.func4
    (ChangeSpec.witness_shaped (enc := enc) (C := Tryd.checked) (os := os) (X := fun w _ => laidMetH Tryd.prog Rows.dyadOrderRow.laid w) false (World.laidAll Tryd.prog os Rows.dyadOrderRow.laid)
      #[.agg #[.bool false, .slice none 0 0, .int .i64 0], .agg #[.bool false, .slice none 0 0, .int .i64 0], .agg #[.bool false, .slice none 0 0, .int .i64 0], .int .i64 0] 8 (World.laidAll_os _ _ _)
      (World.shaped_of_ZipB (by kernel_rfl) (by kernel_rfl)) (by kernel_rfl) (by kernel_rfl) (by kernel_rfl)
      (by rw [MakeChecks.laidMetH_plain _ _ _ (by kernel_rfl)]; exact laidMet_laidAll _ (by kernel_rfl) (by kernel_rfl))) ?_
  intro W base args ds gs before hval0 hW hc hsz hL _
  have hval : ∀ (j : Nat) t v, Tryd.f4.params[j]? = some t → args[j]? = some v → Value.okWide Tryd.prog W .any base t v := hval0
  have hlt := hW.lt
  have hW' := hW
  obtain ⟨p, q, hA0, hV, rfl, _, _⟩ := hW
  have hA : DataW.TrodAll enc Tryd.prog W 0 (fun _ => true) true Tryd.f4.params.toList args.toList ds p := hA0
  rw [Tryd.params4] at hA hval hsz
  obtain ⟨v0, v1, v2, v3, d0, d1, d2, d3, p0, p1, p2, p3, rfl, rfl, rfl, h0, h1, h2, h3⟩ := trodAll_four hA
  obtain ⟨rfl, rfl⟩ := trodVars_none hV
  simp only [List.append_nil] at hW' hlt
  have hin : ∀ (j : Nat) t d, [26, 26, 26, 3][j]? = some t → [d0, d1, d2, d3][j]? = some d → ∀ m ∈ d.weights Tryd.prog t, m ≤ reachBytes := by
    intro j t d ht hd m hm
    have := List.all_eq_true.1 hsz m (DataW.weights_mem_each (ts := [26, 26, 26, 3]) ht hd m hm)
    simpa using this
  obtain ⟨s1, A1, n1, c1, e1, N1, rfl, hR1, _⟩ := open_dyad (hval 0 26 v0 rfl rfl) h0 (hin 0 _ _ rfl rfl) (fun x hx => hlt x (by simp [hx]))
  obtain ⟨s2, A2, n2, c2, e2, N2, rfl, hR2, _⟩ := open_dyad (hval 1 26 v1 rfl rfl) h1 (hin 1 _ _ rfl rfl) (fun x hx => hlt x (by simp [hx]))
  obtain ⟨s3, A3, n3, c3, e3, N3, rfl, hR3, _⟩ := open_dyad (hval 2 26 v2 rfl rfl) h2 (hin 2 _ _ rfl rfl) (fun x hx => hlt x (by simp [hx]))
  obtain ⟨k, rfl, rfl, rfl, wk⟩ := open_int Tryd.underlying3 (hval 3 3 v3 rfl rfl) h3
  have hk : -9223372036854775808 ≤ k ∧ k ≤ 9223372036854775807 := by
    have w := wk
    simp only [Lit.wf, Bool.and_eq_true, decide_eq_true_eq] at w
    have w1 := w.1
    have w2 := w.2
    rw [show IntKind.i64.min = -9223372036854775808 from by decide] at w1
    rw [show IntKind.i64.max = 9223372036854775807 from by decide] at w2
    exact ⟨w1, w2⟩
  refine (order_any s1 s2 s3 A1 A2 A3 N1 n1 c1 N2 n2 c2 N3 n3 c3 e1 e2 e3 k W hR1 hR2 hR3 (gl_of_laid hL) hk).mono fun e W' ⟨he, hB⟩ => ?_
  subst he
  refine ⟨_, rfl, _, _, _, [], p0 ++ (p1 ++ (p2 ++ [])), [], hW', ?_, ?_, rfl, hB.frame _, fun h => by cases h⟩
  · exact trodAll_mk1 (shut_bool Tryd.underlying4 _)
  · have st : ∀ {v d p'}, DataW.Trod enc Tryd.prog W 0 (fun _ => true) true 26 v d p' → (∀ x ∈ p', x.block < W.heap.size) → DataW.Trod enc Tryd.prog W' 0 (fun b => decide (b < W.heap.size)) true 26 v d p' :=
      fun h hx => Below.trod laidOut (by kernel_rfl) (by decide) h hB hx
    exact trodAll_mk4 (st h0 fun x hx => hlt x (by simp [hx])) (st h1 fun x hx => hlt x (by simp [hx])) (st h2 fun x hx => hlt x (by simp [hx])) (shut_int Tryd.underlying3 wk)

theorem over : Rows.dyadOrderRow.holds Tryd.pinned (OpenSpec.ofChange Rows.dyadOrderSpec) :=
  OpenClaim.holds_of_wide 4 Tryd.f4 rfl rfl rfl rfl rfl rfl rfl ⟨rfl, rfl, rfl, rfl, rfl⟩ rfl rfl rfl rfl rfl (by kernel_rfl) Tryd.func4 (by kernel_rfl)
    (of_decide_eq_true (by kernel_rfl)) (by unfold Func.isWrapper; first | (rw [if_pos (by decide +kernel)]; kernel_rfl) | (rw [if_neg (by decide +kernel)]; exact ⟨rfl, rfl⟩))
    (fun os started H enc _ => lifted os started H enc)

theorem proved : Rows.DyadOrderCardSaid :=
  Claim7.holds_tied_plain_at .later [] [.data] true (true, "542be6f0ad2e4ad6e57a18b37f34bcffc68de7db1f4964a1ecdd3a62b120da6a") false over (fun _ h => by cases h) (by kernel_rfl) (fun _ h => by cases h) dyadOrder_row_tie rfl ⟨rfl, rfl⟩ (by kernel_rfl) rfl
    (fun f fn hf hfn => by
      obtain rfl : f = 4 := Option.some.inj ((show Tryd.prog.funcNamed "vernier/vernierlaw03.DyadOrder" = some 4 by kernel_rfl).symm.trans hf) |>.symm
      obtain rfl : fn = Tryd.f4 := (Option.some.inj (Tryd.func4.symm.trans hfn)).symm
      exact ⟨by kernel_rfl, fun j t ht => by
        rw [Tryd.params4] at ht
        have hm : t ∈ [26, 26, 26, 3] := by simpa using Array.mem_of_getElem? ht
        have hall : ([26, 26, 26, 3].all fun u => !Tryd.prog.wantsStandIn u) = true := by kernel_rfl
        exact (show Tryd.prog.wantsStandIn t = false by simpa using List.all_eq_true.1 hall t hm)⟩)
    (by kernel_rfl)
#print axioms proved
end Go.Proofs.YtomhmbnpkphcmaaDoor.dyadOrder
