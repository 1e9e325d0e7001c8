/- Where no operation of a region may come up any more, all have come up. -/
import Derived.Test.YtakjbmlkcbedmaaDoorRefJ
namespace Go.Proofs.YtakjbmlkcbedmaaDoor
set_option linter.unusedVariables false
set_option linter.unusedSimpArgs false
open Go.RowKit

/-- each operation waits for earlier ones alone -/
def lowB (ol : List Oper) : Bool := (List.range ol.length).all fun i => match ol[i]? with
  | some o => o.after.toList.all fun e => !Region.binds .any e || decide (e.on < i)
  | none => true

theorem ready_all {ol : List Oper} {listed : List Bool} (hl : lowB ol = true) (hs : listed.length = ol.length) (h : Region.ready .any ol.toArray listed.toArray = []) : listed = List.replicate ol.length true := by
  have key : ∀ i, i < ol.length → listed[i]? = some true := by
    intro i
    induction i using Nat.strongRecOn with
    | _ i ih =>
      intro hi
      have hi' : i < listed.length := by omega
      rw [List.getElem?_eq_getElem hi']
      cases hb : listed[i] with
      | true => rfl
      | false =>
        exfalso
        have ho : ol[i]? = some ol[i] := List.getElem?_eq_getElem hi
        unfold lowB at hl
        rw [List.all_eq_true] at hl
        have h1 := hl i (List.mem_range.2 hi)
        rw [ho] at h1
        simp only [List.all_eq_true, Bool.or_eq_true, Bool.not_eq_true', decide_eq_true_eq] at h1
        have hm : i ∈ Region.ready .any ol.toArray listed.toArray := by
          refine mem_ready.2 ⟨by simp [hi', hb], ol[i], by simp, fun e he hbd => ?_⟩
          have h2 : e.on < i := (h1 e (by simpa using he)).resolve_left (by rw [hbd]; decide)
          have h3 := ih e.on h2 (by omega)
          simp [h3]
        rw [h] at hm
        cases hm
  refine List.ext_getElem (by simp [hs]) fun i h1 h2 => ?_
  have := key i (by omega)
  rw [List.getElem?_eq_getElem h1] at this
  injection this with this
  rw [this]
  simp

theorem wp_region_JR {P : Program} {Q : Exit → Act → World → Prop} {id : Nat} {ol : List Oper} {a : Act} {w : World} (ts : List Tmp) (J : List Bool → List Value → World → Prop) (hm : P.follows .mixedOrders = true) (hlow : lowB ol = true)
    (h0 : ∀ vs, vs.length = ts.length → J (List.replicate ol.length false) vs w.drew)
    (hstep : StepsFrom (StepJ P Q ol a ts J) 0 ol)
    (hend : ∀ vs w, J (List.replicate ol.length true) vs w → Q .normal (putL a ts vs) w)
    (hlen : ∀ listed vs w, J listed vs w → listed.length = ol.length) : (Code.region id ol.toArray true).wp P Q a w :=
  wp_region_J ts J hm h0 hstep hend hlen fun listed vs w hJ hr => ready_all hlow (hlen listed vs w hJ) hr

theorem wp_region_J0R {P : Program} {Q : Exit → Act → World → Prop} {id : Nat} {ol : List Oper} {a : Act} {w : World} (ts : List Tmp) (J : List Bool → List Value → World → Prop) (hm : P.follows .mixedOrders = true) (hlow : lowB ol = true)
    (h0 : J (List.replicate ol.length false) (ts.map fun t => a.tmps.getD t undef) w.drew)
    (hstep : StepsFrom (StepJ P Q ol a ts J) 0 ol)
    (hend : ∀ vs w, J (List.replicate ol.length true) vs w → Q .normal (putL a ts vs) w)
    (hlen : ∀ listed vs w, J listed vs w → listed.length = ol.length) : (Code.region id ol.toArray true).wp P Q a w :=
  wp_region_J0 ts J hm h0 hstep hend hlen fun listed vs w hJ hr => ready_all hlow (hlen listed vs w hJ) hr

end Go.Proofs.YtakjbmlkcbedmaaDoor
