/- A region by an invariant that knows what its slots held. -/
import Derived.Test.YtakjbmlkcbedmaaDoorPackC
namespace Go.Proofs.YtakjbmlkcbedmaaDoor
set_option linter.unusedVariables false
open Go.RowKit

theorem wp_region_J0 {P : Program} {Q : Exit → Act → World → Prop} {id : Nat} {ol : List Oper} {a : Act} {w : World} (ts : List Tmp) (J : List Bool → List Value → World → Prop) (hm : P.follows .mixedOrders = true)
    (h0 : J (List.replicate ol.length false) (ts.map fun t => a.tmps.getD t undef) w.drew)
    (hstep : StepsFrom (StepJ P Q ol a ts J) 0 ol)
    (hend : ∀ vs w, J (List.replicate ol.length true) vs w → Q .normal (putL a ts vs) w)
    (hlen : ∀ listed vs w, J listed vs w → listed.length = ol.length)
    (hall : ∀ listed vs w, J listed vs w → Region.ready .any ol.toArray listed.toArray = [] → listed = List.replicate ol.length true) : (Code.region id ol.toArray true).wp P Q a w := by
  refine wp_region_inv hm (fun listed a' w' => ∃ vs, a' = putL a ts vs ∧ J listed.toList vs w') ⟨_, (putL_own a ts).symm, ?_⟩ ?_ ?_
  · simpa using h0
  · rintro listed _ w' ⟨vs, rfl, hJ⟩ i o ho hl hall' K' hK
    have h := hstep.get i o (by simpa using ho) listed.toList vs w' hJ
    rw [Nat.zero_add] at h
    refine h (by simpa using hl) (fun e he hb => by simpa using hall' e he hb) K' (fun vs' w'' hJ' => hK _ w'' ⟨vs', rfl, by simpa using hJ'⟩)
  · rintro listed _ w' ⟨vs, rfl, hJ⟩ hr
    have h := hall _ _ _ hJ (by simpa using hr)
    rw [h] at hJ
    exact hend vs w' hJ

end Go.Proofs.YtakjbmlkcbedmaaDoor
