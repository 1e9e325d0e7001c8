/- A region that draws its order, by an invariant instead of by its orders. -/
import Derived.Test.YtomhmbnpkphcmaaDoorBand
import Derived.Test.YtomhmbnpkphcmaaDoorWords
import Derived.Deep.RegionHeld3
namespace Go.Proofs.YtomhmbnpkphcmaaDoor
set_option linter.unusedVariables false
open Go.RowKit

section
variable {P : Program} {ops : Array Oper} {Q : Exit → Act → World → Prop} {md : Region.Mode}

theorem count_set_true {l : Array Bool} {i : Nat} (h : l.getD i true = false) : (l.setIfInBounds i true).toList.count false + 1 = l.toList.count false := by
  have hi : i < l.size := by
    rcases Nat.lt_or_ge i l.size with h' | h'
    · exact h'
    · simp [Array.getElem?_eq_none h'] at h
  have hl : l[i] = false := by simpa [hi] using h
  have hm : false ∈ l.toList := by rw [← hl]; simp
  have hp : 0 < l.toList.count false := List.count_pos_iff.2 hm
  rw [Array.toList_setIfInBounds, List.count_set (by simpa using hi)]
  simp [hl]
  have : 0 < Array.count false l := by simpa [← Array.count_toList] using hp
  omega

/-- whatever order is drawn: an invariant of what has come up, of the frame and of the world -/
theorem wpAny_inv (I : Array Bool → Act → World → Prop)
    (hstep : ∀ listed a w, I listed a w → ∀ i o, ops[i]? = some o → listed.getD i true = false → (∀ e ∈ o.after, Region.binds md e = true → listed.getD e.on false = true) →
      ∀ K' : Act → World → Prop, Shut (∀ a w, I (listed.setIfInBounds i true) a w → K' a w) → if Region.wanted o (yielded ops a.tmps) = true then Oper.wp P o a w K' Q else K' (a.put o.dst undef) w)
    (hend : ∀ listed a w, I listed a w → Region.ready md ops listed = [] → Q .normal a w) :
    ∀ fuel listed a w, listed.toList.count false ≤ fuel → I listed a w → wpAny P md ops Q fuel listed a w := by
  intro fuel
  induction fuel with
  | zero =>
    intro listed a w hc hI
    have hr : Region.ready md ops listed = [] := by
      rw [List.eq_nil_iff_forall_not_mem]
      intro i hi
      have := count_set_true (mem_ready.1 hi).1
      omega
    exact ⟨hr, hend _ _ _ hI hr⟩
  | succ fuel ih =>
    intro listed a w hc hI
    refine ⟨hend _ _ _ hI, fun i hi => ?_⟩
    obtain ⟨h0, o, ho, hall⟩ := mem_ready.1 hi
    refine wpOp_step ho (fun K' hK => ?_)
    refine hstep listed a w hI i o ho h0 hall K' (fun a' w' hI' => hK a' w' (ih _ _ _ ?_ hI'))
    have := count_set_true h0
    omega

theorem wp_region_inv {id : Nat} {a : Act} {w : World} (hm : P.follows .mixedOrders = true) (I : Array Bool → Act → World → Prop) (h0 : I (Array.replicate ops.size false) a w.drew)
    (hstep : ∀ listed a w, I listed a w → ∀ i o, ops[i]? = some o → listed.getD i true = false → (∀ e ∈ o.after, Region.binds .any e = true → listed.getD e.on false = true) →
      ∀ K' : Act → World → Prop, Shut (∀ a w, I (listed.setIfInBounds i true) a w → K' a w) → if Region.wanted o (yielded ops a.tmps) = true then Oper.wp P o a w K' Q else K' (a.put o.dst undef) w)
    (hend : ∀ listed a w, I listed a w → Region.ready .any ops listed = [] → Q .normal a w) : (Code.region id ops true).wp P Q a w :=
  wp_region_any hm (wpAny_inv I hstep hend _ _ _ _ (by simp) h0)

end

theorem below_alloc' {W w : World} (h : Below W.heap.size W w) (o : Obj) : Below W.heap.size W (w.alloc o) := h.alloc h.size o

theorem below_set' {W w : World} (h : Below W.heap.size W w) {g : Nat} (hg : W.heap.size ≤ g) (j : Nat) (v : Value) : Below W.heap.size W (w.setCell ⟨g, j, none⟩ v) := h.setCell hg v

/-- the blocks of words are as they were -/
def Wd (w w' : World) : Prop := w.heap.size ≤ w'.heap.size ∧ ∀ (b : Nat) (arr : Array Value), w.heap[b]? = some (Obj.cells arr 49 (0, 0)) → w'.heap[b]? = w.heap[b]?

theorem DV.wd {B : Nat} {w w' : World} {x : Value} {d : D} (h : DV B w x d) (hb : Wd w w') : DV B w' x d := by
  obtain ⟨A, c, rfl, h1, h2, h3, h4⟩ := h
  obtain ⟨A', n', c', e, hn', h5⟩ := h4
  injection e with ea en ec
  subst ea en ec
  rcases h5 with h5 | ⟨b, arr, e', hB, hh, hc⟩
  · subst h5
    have hz : nd 64 d.n = 0 := by omega
    refine ⟨A, 0, rfl, h1, h2, ?_, ⟨A, _, 0, rfl, hn', Or.inl rfl⟩⟩
    obtain ⟨A2, c2, e2, g1, g2, g3, g4⟩ := h3
    exact ⟨A2, c2, e2, g1, g2, g3, fun h => by omega⟩
  · have hlt := lt_size_of_some hh
    have hk := hb.2 b _ hh
    refine ⟨A, c, rfl, h1, h2, ?_, ⟨A, _, c, rfl, hn', Or.inr ⟨b, arr, e', hB, hk.trans hh, hc⟩⟩⟩
    obtain ⟨A2, c2, e2, g1, g2, g3, g4⟩ := h3
    refine ⟨A2, c2, e2, g1, g2, g3, fun hn => ?_⟩
    obtain ⟨b2, o2, e3, hlt2, hc2⟩ := g4 hn
    injection e2 with e2a e2b e2c
    have hbb : b2 = b := by
      rw [e2a.symm, e'] at e3
      injection e3 with e3
      injection e3 with e3
      exact e3.symm
    subst hbb
    refine ⟨b2, o2, e3, by have := hb.1; omega, fun j hj => ?_⟩
    have hcell := hc2 j hj
    unfold World.cell? at hcell ⊢
    rw [hk]
    exact hcell

/-- block g is the three cells of a Dyad -/
def BoxD (w : World) (g : Nat) (a b c : Value) : Prop := w.heap[g]? = some (Obj.cells #[a, b, c] 26 (0, 0))

section
variable {w w' : World} {g g' : Nat} {a b c x y z : Value}
theorem BoxD.lt (h : BoxD w g a b c) : g < w.heap.size := lt_size_of_some h
theorem BoxD.box3 (h : BoxD w g a b c) : Box3 w g a b c := ⟨_, h⟩
theorem BoxD.below (h : BoxD w g a b c) (hb : Below w.heap.size w w') : BoxD w' g a b c := (hb.block g h.lt).trans h
theorem BoxD.drew (h : BoxD w g a b c) : BoxD w.drew g a b c := h
theorem BoxD.new (w : World) (a b c : Value) : BoxD (w.alloc (.cells #[a, b, c] 26)) w.heap.size a b c := heap_alloc_at w _
theorem BoxD.other (h : BoxD w g a b c) (hne : g' ≠ g) : BoxD (((w.setCell ⟨g', 0, none⟩ x).setCell ⟨g', 1, none⟩ y).setCell ⟨g', 2, none⟩ z) g a b c :=
  (Below.heap_setCell _ ⟨g', 2, none⟩ z g (Ne.symm hne)).trans ((Below.heap_setCell _ ⟨g', 1, none⟩ y g (Ne.symm hne)).trans ((Below.heap_setCell w ⟨g', 0, none⟩ x g (Ne.symm hne)).trans h))
theorem BoxD.setAll (h : BoxD w g a b c) : BoxD (((w.setCell ⟨g, 0, none⟩ x).setCell ⟨g, 1, none⟩ y).setCell ⟨g, 2, none⟩ z) g x y z := by
  unfold BoxD at *
  simp [World.setCell, Array.getElem?_modify, h]
theorem BoxD.wd (h : BoxD w g a b c) : Wd w (((w.setCell ⟨g, 0, none⟩ x).setCell ⟨g, 1, none⟩ y).setCell ⟨g, 2, none⟩ z) := by
  refine ⟨by simp, fun k arr hk => ?_⟩
  have hne : k ≠ g := by
    rintro rfl
    rw [h] at hk
    injection hk with hk
    injection hk with h1 h2 h3
    exact absurd h2 (by decide)
  exact (Below.heap_setCell _ ⟨g, 2, none⟩ z k hne).trans ((Below.heap_setCell _ ⟨g, 1, none⟩ y k hne).trans (Below.heap_setCell w ⟨g, 0, none⟩ x k hne))
end

/-- one side of 'x, y := f(..), g(..)': the call's answer v, the variable's box p; what has come up -/
def SideD (B : Nat) (o : D) (lc la ls : Bool) (v p : Value) (w : World) : Prop :=
  (lc = true → DV B w v o) ∧ (la = true → ∃ g a b c, p = .pointer (some ⟨g, 0, none⟩) ∧ B ≤ g ∧ BoxD w g a b c ∧ (ls = true → v = .agg #[a, b, c])) ∧ (ls = true → lc = true ∧ la = true)

section
variable {B : Nat} {o : D} {lc la ls : Bool} {v p : Value} {w w' : World}
theorem SideD.start (B : Nat) (o : D) (v p : Value) (w : World) : SideD B o false false false v p w := ⟨nofun, nofun, nofun⟩
theorem SideD.below (h : SideD B o lc la ls v p w) (hb : Below w.heap.size w w') : SideD B o lc la ls v p w' := by
  obtain ⟨h1, h2, h3⟩ := h
  refine ⟨fun h => (h1 h).below hb, fun h => ?_, h3⟩
  obtain ⟨g, a, b, c, e, hB, hbox, hv⟩ := h2 h
  exact ⟨g, a, b, c, e, hB, hbox.below hb, hv⟩
theorem SideD.drew (h : SideD B o lc la ls v p w) : SideD B o lc la ls v p w.drew := h
theorem SideD.call (h : SideD B o false la ls v p w) (hb : Below w.heap.size w w') {v' : Value} (hv : DV B w' v' o) : SideD B o true la ls v' p w' := by
  obtain ⟨h1, h2, h3⟩ := h.below hb
  have hs : ls = false := by cases ls with | false => rfl | true => exact absurd (h3 rfl).1 (by decide)
  subst hs
  refine ⟨fun _ => hv, fun h => ?_, fun h => nomatch h⟩
  obtain ⟨g, a, b, c, e, hB, hbox, _⟩ := h2 h
  exact ⟨g, a, b, c, e, hB, hbox, fun h => nomatch h⟩
theorem SideD.make (h : SideD B o lc false ls v p w) (hw : B ≤ w.heap.size) (a b c : Value) : SideD B o lc true ls v (.pointer (some ⟨w.heap.size, 0, none⟩)) (w.alloc (.cells #[a, b, c] 26)) := by
  obtain ⟨h1, h2, h3⟩ := h.below (below1 w (.cells #[a, b, c] 26))
  have hs : ls = false := by cases ls with | false => rfl | true => exact absurd (h3 rfl).2 (by decide)
  subst hs
  exact ⟨h1, fun _ => ⟨_, a, b, c, rfl, hw, BoxD.new .., fun h => nomatch h⟩, fun h => nomatch h⟩
theorem SideD.ptr (h : SideD B o lc true ls v p w) : ∃ g a b c, p = .pointer (some ⟨g, 0, none⟩) ∧ B ≤ g ∧ BoxD w g a b c := by
  obtain ⟨g, a, b, c, e, hB, hbox, _⟩ := h.2.1 rfl
  exact ⟨g, a, b, c, e, hB, hbox⟩
theorem SideD.val (h : SideD B o true la ls v p w) : ∃ A c, v = .agg #[.bool o.s, .slice A (nd 64 o.n) c, .int .i64 o.e] := by
  obtain ⟨A, c, e, _⟩ := h.1 rfl
  exact ⟨A, c, e⟩
theorem SideD.done (h : SideD B o true true true v p w) : ∃ g A c, p = .pointer (some ⟨g, 0, none⟩) ∧ B ≤ g ∧ Box3 w g (.bool o.s) (.slice A (nd 64 o.n) c) (.int .i64 o.e) ∧ Rd 64 w (.slice A (nd 64 o.n) c) o.n (nd 64 o.n) ∧
    DV B w (.agg #[.bool o.s, .slice A (nd 64 o.n) c, .int .i64 o.e]) o := by
  obtain ⟨g, a, b, c, e, hB, hbox, hv⟩ := h.2.1 rfl
  obtain ⟨A, c', e', h1, h2, hR, hF⟩ := h.1 rfl
  have e2 := hv rfl
  rw [e'] at e2
  simp only [Value.agg.injEq, Array.mk.injEq, List.cons.injEq, and_true] at e2
  obtain ⟨rfl, rfl, rfl⟩ := e2
  exact ⟨g, A, c', e, hB, hbox.box3, hR, ⟨A, c', rfl, h1, h2, hR, hF⟩⟩
theorem SideD.store {g : Nat} {x y z : Value} (h : SideD B o true true ls (.agg #[x, y, z]) (.pointer (some ⟨g, 0, none⟩)) w) :
    SideD B o true true true (.agg #[x, y, z]) (.pointer (some ⟨g, 0, none⟩)) (((w.setCell ⟨g, 0, none⟩ x).setCell ⟨g, 1, none⟩ y).setCell ⟨g, 2, none⟩ z) := by
  obtain ⟨g', a, b, c, e, hB, hbox, _⟩ := h.2.1 rfl
  injection e with e; injection e with e; injection e with e; subst e
  exact ⟨fun _ => (h.1 rfl).wd hbox.wd, fun _ => ⟨g, x, y, z, rfl, hB, hbox.setAll, fun _ => rfl⟩, fun _ => ⟨rfl, rfl⟩⟩
theorem SideD.other {g : Nat} {a b c x y z : Value} (h : SideD B o lc la ls v p w) (hg : BoxD w g a b c) (hne : la = true → p ≠ .pointer (some ⟨g, 0, none⟩)) :
    SideD B o lc la ls v p (((w.setCell ⟨g, 0, none⟩ x).setCell ⟨g, 1, none⟩ y).setCell ⟨g, 2, none⟩ z) := by
  obtain ⟨h1, h2, h3⟩ := h
  refine ⟨fun h => (h1 h).wd hg.wd, fun h => ?_, h3⟩
  obtain ⟨g', a', b', c', e, hB, hbox, hv⟩ := h2 h
  exact ⟨g', a', b', c', e, hB, hbox.other (fun e' => hne h (by rw [e, e'])), hv⟩
end

theorem put_own (a : Act) (t : Tmp) : a.put (some t) (a.tmps.getD t undef) = a := by
  unfold Act.put
  cases a with
  | mk tmps defers =>
    simp only [Act.mk.injEq, and_true]
    apply Array.ext (by simp)
    intro i h1 h2
    rw [Array.getElem_setIfInBounds]
    split
    · rename_i e; subst e; simp [h2]
    · rfl

/-- the frame a, the slots ts holding vs -/
def putL (a : Act) : List Tmp → List Value → Act
  | t :: ts, v :: vs => putL (a.put (some t) v) ts vs
  | _, _ => a

theorem putL_own (a : Act) : ∀ ts : List Tmp, putL a ts (ts.map fun t => a.tmps.getD t undef) = a
  | [] => rfl
  | t :: ts => by
    show putL (a.put (some t) (a.tmps.getD t undef)) ts _ = a
    rw [put_own]
    exact putL_own a ts

def StepsFrom (F : Nat → Oper → Prop) : Nat → List Oper → Prop
  | _, [] => True
  | k, o :: l => F k o ∧ StepsFrom F (k + 1) l

theorem StepsFrom.get {F : Nat → Oper → Prop} : ∀ {l : List Oper} {k : Nat}, StepsFrom F k l → ∀ i o, l[i]? = some o → F (k + i) o
  | [], _, _, _, _, h => by simp at h
  | o' :: l, k, hs, 0, o, h => by
    simp at h
    subst h
    exact hs.1
  | o' :: l, k, hs, i + 1, o, h => by
    have := StepsFrom.get hs.2 i o (by simpa using h)
    rwa [show k + (i + 1) = k + 1 + i from by omega]

section
variable {P : Program} {Q : Exit → Act → World → Prop}

theorem step_wp {P : Program} {o : Oper} {a : Act} {w : World} {K : Act → World → Prop} {Q : Exit → Act → World → Prop} {ops : Array Oper} {tm : Array Value} {E : Prop} (hg : o.guard = none) (h : o.wp P a w K Q) :
    if Region.wanted o (yielded ops tm) = true then Oper.wp P o a w K Q else E := by
  rw [if_pos (by simp [Region.wanted, hg])]
  exact h

/-- one operation of the region keeps J -/
def StepJ (P : Program) (Q : Exit → Act → World → Prop) (ol : List Oper) (a : Act) (ts : List Tmp) (J : List Bool → List Value → World → Prop) (i : Nat) (o : Oper) : Prop :=
  ∀ listed vs w, J listed vs w → listed.getD i true = false → (∀ e ∈ o.after, Region.binds .any e = true → listed.getD e.on false = true) →
    ∀ K' : Act → World → Prop, Shut (∀ vs w, J (listed.set i true) vs w → K' (putL a ts vs) w) → if Region.wanted o (yielded ol.toArray (putL a ts vs).tmps) = true then Oper.wp P o (putL a ts vs) w K' Q else K' ((putL a ts vs).put o.dst undef) w

theorem wp_region_J {id : Nat} {ol : List Oper} {a : Act} {w : World} (ts : List Tmp) (J : List Bool → List Value → World → Prop) (hm : P.follows .mixedOrders = true)
    (h0 : ∀ vs, vs.length = ts.length → J (List.replicate ol.length false) vs w.drew)
    (hstep : StepsFrom (StepJ P Q ol a ts J) 0 ol)
    (hend : ∀ vs w, J (List.replicate ol.length true) vs w → Q .normal (putL a ts vs) w)
    (hlen : ∀ listed vs w, J listed vs w → listed.length = ol.length)
    (hall : ∀ listed vs w, J listed vs w → Region.ready .any ol.toArray listed.toArray = [] → listed = List.replicate ol.length true) : (Code.region id ol.toArray true).wp P Q a w := by
  refine wp_region_inv hm (fun listed a' w' => ∃ vs, a' = putL a ts vs ∧ J listed.toList vs w') ⟨_, (putL_own a ts).symm, ?_⟩ ?_ ?_
  · have := h0 (ts.map fun t => a.tmps.getD t undef) (by simp)
    simpa using this
  · rintro listed _ w' ⟨vs, rfl, hJ⟩ i o ho hl hall' K' hK
    have h := hstep.get i o (by simpa using ho) listed.toList vs w' hJ
    rw [Nat.zero_add] at h
    refine h (by simpa using hl) (fun e he hb => by simpa using hall' e he hb) K' (fun vs' w'' hJ' => hK _ w'' ⟨vs', rfl, by simpa using hJ'⟩)
  · rintro listed _ w' ⟨vs, rfl, hJ⟩ hr
    have h := hall _ _ _ hJ (by simpa using hr)
    rw [h] at hJ
    exact hend vs w' hJ

end

/-- an answer of two: an exact number and its error -/
def TupD (B : Nat) (q : D × Int) (v : Value) (w : World) : Prop := ∃ x, v = .tuple #[x, .int .i64 q.2] ∧ DV B w x q.1

theorem TupD.below {B : Nat} {q : D × Int} {v : Value} {w w' : World} (h : TupD B q v w) (hb : Below w.heap.size w w') : TupD B q v w' := by
  obtain ⟨x, e, h⟩ := h
  exact ⟨x, e, h.below hb⟩
theorem TupD.wd {B : Nat} {q : D × Int} {v : Value} {w w' : World} (h : TupD B q v w) (hb : Wd w w') : TupD B q v w' := by
  obtain ⟨x, e, h⟩ := h
  exact ⟨x, e, h.wd hb⟩

/-- box g holds the exact number d, an answer -/
def DVB (B : Nat) (g : Nat) (d : D) (w : World) : Prop := ∃ A c, BoxD w g (.bool d.s) (.slice A (nd 64 d.n) c) (.int .i64 d.e) ∧ DV B w (.agg #[.bool d.s, .slice A (nd 64 d.n) c, .int .i64 d.e]) d

theorem DVB.below {B g : Nat} {d : D} {w w' : World} (h : DVB B g d w) (hb : Below w.heap.size w w') : DVB B g d w' := by
  obtain ⟨A, c, h1, h2⟩ := h
  exact ⟨A, c, h1.below hb, h2.below hb⟩
theorem DVB.lt {B g : Nat} {d : D} {w : World} (h : DVB B g d w) : g < w.heap.size := by
  obtain ⟨A, c, h1, h2⟩ := h
  exact h1.lt
theorem DVB.mono {B B' g : Nat} {d : D} {w : World} (h : DVB B g d w) (hB : B' ≤ B) : DVB B' g d w := by
  obtain ⟨A, c, h1, h2⟩ := h
  exact ⟨A, c, h1, h2.mono hB⟩
/-- another box is written -/
theorem DVB.other {B g g' : Nat} {d : D} {w : World} {a b c x y z : Value} (h : DVB B g d w) (hg : BoxD w g' a b c) (hne : g' ≠ g) : DVB B g d (((w.setCell ⟨g', 0, none⟩ x).setCell ⟨g', 1, none⟩ y).setCell ⟨g', 2, none⟩ z) := by
  obtain ⟨A, c, h1, h2⟩ := h
  exact ⟨A, c, h1.other hne, h2.wd hg.wd⟩
/-- the box is written -/
theorem DVB.set {B g : Nat} {d : D} {w : World} {a b c : Value} {A : Option Addr} {m : Nat} (hg : BoxD w g a b c) (h : DV B w (.agg #[.bool d.s, .slice A (nd 64 d.n) m, .int .i64 d.e]) d) :
    DVB B g d (((w.setCell ⟨g, 0, none⟩ (.bool d.s)).setCell ⟨g, 1, none⟩ (.slice A (nd 64 d.n) m)).setCell ⟨g, 2, none⟩ (.int .i64 d.e)) := ⟨A, m, hg.setAll, h.wd hg.wd⟩
theorem DVB.box {B g : Nat} {d : D} {w : World} (h : DVB B g d w) : ∃ a b c, BoxD w g a b c := by
  obtain ⟨A, c, h1, _⟩ := h
  exact ⟨_, _, _, h1⟩
/-- a new box of an answer -/
theorem DVB.new {B : Nat} {d : D} {w : World} {A : Option Addr} {m : Nat} (h : DV B w (.agg #[.bool d.s, .slice A (nd 64 d.n) m, .int .i64 d.e]) d) :
    DVB B w.heap.size d (w.alloc (Obj.cells #[.bool d.s, .slice A (nd 64 d.n) m, .int .i64 d.e] 26)) := ⟨A, m, BoxD.new .., h.below (below1 _ _)⟩
/-- its cells, and the words -/
theorem DVB.open {B g : Nat} {d : D} {w : World} (h : DVB B g d w) : ∃ A c, (w.cell? ⟨g, 0, none⟩ = some (.bool d.s) ∧ w.cell? ⟨g, 1, none⟩ = some (.slice A (nd 64 d.n) c) ∧ w.cell? ⟨g, 2, none⟩ = some (.int .i64 d.e) ∧ (∀ j, w.frozen? ⟨g, j, none⟩ = false)) ∧
    Rd 64 w (.slice A (nd 64 d.n) c) d.n (nd 64 d.n) := by
  obtain ⟨A, c, h1, A2, c2, e, _, _, hR, _⟩ := h
  simp only [Value.agg.injEq, Array.mk.injEq, List.cons.injEq, and_true, Value.slice.injEq, true_and] at e
  obtain ⟨rfl, rfl⟩ := e
  obtain ⟨p0, p1, p2, p3, _⟩ := h1.box3.cells
  exact ⟨A, c, ⟨p0, p1, p2, p3⟩, hR⟩
theorem SideD.dvb {B : Nat} {o : D} {v p : Value} {w : World} (h : SideD B o true true true v p w) : ∃ g, p = .pointer (some ⟨g, 0, none⟩) ∧ B ≤ g ∧ DVB B g o w := by
  obtain ⟨g, a, b, c, e, hB, hbox, hv⟩ := h.2.1 rfl
  obtain ⟨A, c', e', h1, h2, hR, hF⟩ := h.1 rfl
  have e2 := hv rfl
  rw [e'] at e2
  simp only [Value.agg.injEq, Array.mk.injEq, List.cons.injEq, and_true] at e2
  obtain ⟨rfl, rfl, rfl⟩ := e2
  exact ⟨g, e, hB, A, c', hbox, ⟨A, c', rfl, h1, h2, hR, hF⟩⟩

/-- a fact of a value that calls and stores into other boxes leave -/
structure KeptP (P : Value → World → Prop) : Prop where
  below : ∀ {v : Value} {w w' : World}, P v w → Below w.heap.size w w' → P v w'
  wd : ∀ {v : Value} {w w' : World}, P v w → Wd w w' → P v w'

theorem Row.wd {k B : Nat} {w w' : World} {v : Value} {N n : Nat} (h : Row k B w v N n) (hb : Wd w w') : Row k B w' v N n := h.heap fun g cur hg => hb.2 g cur hg

/-- one side of a statement that makes a box and stores a value: SideD for any fact P of the value -/
def SideP (P : Value → World → Prop) (B : Nat) (lc la ls : Bool) (v p : Value) (w : World) : Prop :=
  (lc = true → P v w) ∧ (la = true → ∃ g a b c, p = .pointer (some ⟨g, 0, none⟩) ∧ B ≤ g ∧ BoxD w g a b c ∧ (ls = true → v = .agg #[a, b, c])) ∧ (ls = true → lc = true ∧ la = true)

section
variable {P : Value → World → Prop} {B : Nat} {lc la ls : Bool} {v p : Value} {w w' : World}
theorem SideP.start (P : Value → World → Prop) (B : Nat) (v p : Value) (w : World) : SideP P B false false false v p w := ⟨nofun, nofun, nofun⟩
theorem SideP.below (h : SideP P B lc la ls v p w) (hP : KeptP P) (hb : Below w.heap.size w w') : SideP P B lc la ls v p w' := by
  obtain ⟨h1, h2, h3⟩ := h
  refine ⟨fun h => hP.below (h1 h) hb, fun h => ?_, h3⟩
  obtain ⟨g, a, b, c, e, hB, hbox, hv⟩ := h2 h
  exact ⟨g, a, b, c, e, hB, hbox.below hb, hv⟩
theorem SideP.call (h : SideP P B false la ls v p w) (hP : KeptP P) (hb : Below w.heap.size w w') {v' : Value} (hv : P v' w') : SideP P B true la ls v' p w' := by
  obtain ⟨h1, h2, h3⟩ := h.below hP hb
  have hs : ls = false := by cases ls with | false => rfl | true => exact absurd (h3 rfl).1 (by decide)
  subst hs
  refine ⟨fun _ => hv, fun h => ?_, fun h => nomatch h⟩
  obtain ⟨g, a, b, c, e, hB, hbox, _⟩ := h2 h
  exact ⟨g, a, b, c, e, hB, hbox, fun h => nomatch h⟩
theorem SideP.make (h : SideP P B lc false ls v p w) (hP : KeptP P) (hw : B ≤ w.heap.size) (a b c : Value) : SideP P B lc true ls v (.pointer (some ⟨w.heap.size, 0, none⟩)) (w.alloc (.cells #[a, b, c] 26)) := by
  obtain ⟨h1, h2, h3⟩ := h.below hP (below1 w (.cells #[a, b, c] 26))
  have hs : ls = false := by cases ls with | false => rfl | true => exact absurd (h3 rfl).2 (by decide)
  subst hs
  exact ⟨h1, fun _ => ⟨_, a, b, c, rfl, hw, BoxD.new .., fun h => nomatch h⟩, fun h => nomatch h⟩
theorem SideP.ptr (h : SideP P B lc true ls v p w) : ∃ g a b c, p = .pointer (some ⟨g, 0, none⟩) ∧ B ≤ g ∧ BoxD w g a b c := by
  obtain ⟨g, a, b, c, e, hB, hbox, _⟩ := h.2.1 rfl
  exact ⟨g, a, b, c, e, hB, hbox⟩
theorem SideP.store {g : Nat} {x y z : Value} (h : SideP P B true true ls (.agg #[x, y, z]) (.pointer (some ⟨g, 0, none⟩)) w) (hP : KeptP P) :
    SideP P B true true true (.agg #[x, y, z]) (.pointer (some ⟨g, 0, none⟩)) (((w.setCell ⟨g, 0, none⟩ x).setCell ⟨g, 1, none⟩ y).setCell ⟨g, 2, none⟩ z) := by
  obtain ⟨g', a, b, c, e, hB, hbox, _⟩ := h.2.1 rfl
  injection e with e; injection e with e; injection e with e; subst e
  exact ⟨fun _ => hP.wd (h.1 rfl) hbox.wd, fun _ => ⟨g, x, y, z, rfl, hB, hbox.setAll, fun _ => rfl⟩, fun _ => ⟨rfl, rfl⟩⟩
theorem SideP.other {g : Nat} {a b c x y z : Value} (h : SideP P B lc la ls v p w) (hP : KeptP P) (hg : BoxD w g a b c) (hne : la = true → p ≠ .pointer (some ⟨g, 0, none⟩)) :
    SideP P B lc la ls v p (((w.setCell ⟨g, 0, none⟩ x).setCell ⟨g, 1, none⟩ y).setCell ⟨g, 2, none⟩ z) := by
  obtain ⟨h1, h2, h3⟩ := h
  refine ⟨fun h => hP.wd (h1 h) hg.wd, fun h => ?_, h3⟩
  obtain ⟨g', a', b', c', e, hB, hbox, hv⟩ := h2 h
  exact ⟨g', a', b', c', e, hB, hbox.other (fun e' => hne h (by rw [e, e'])), hv⟩
/-- a row of words grows while the value isn't there yet -/
theorem SideP.grown {k B' N n : Nat} {x : Value} (h : SideP P B false la ls v p w) (hr : Row k B' w x N n) (hg : w.grownBy w' x.ownBlock) : SideP P B false la ls v p w' := by
  obtain ⟨h1, h2, h3⟩ := h
  refine ⟨nofun, fun h => ?_, h3⟩
  obtain ⟨g, a, b, c, e, hB, hbox, hv⟩ := h2 h
  refine ⟨g, a, b, c, e, hB, (hg.block g hbox.lt ?_).trans hbox, hv⟩
  intro he
  obtain ⟨A, c', rfl, _, hA⟩ := hr.form
  rcases hA with ⟨rfl, _⟩ | ⟨g', cur, rfl, _, hh, _⟩
  · simp [Value.ownBlock] at he
  · simp [Value.ownBlock] at he
    subst he
    rw [hbox] at hh
    injection hh with hh
    injection hh with e1 e2 e3
    exact absurd e2 (by decide)
theorem SideP.done (h : SideP P B true true true v p w) : ∃ g a b c, p = .pointer (some ⟨g, 0, none⟩) ∧ B ≤ g ∧ BoxD w g a b c ∧ P (.agg #[a, b, c]) w := by
  obtain ⟨g, a, b, c, e, hB, hbox, hv⟩ := h.2.1 rfl
  have := h.1 rfl
  rw [hv rfl] at this
  exact ⟨g, a, b, c, e, hB, hbox, this⟩
end

/-- a struct of the sign s, a new row of the n words of N, the exponent e -/
def CopyP (s : Bool) (N n : Nat) (e : Int) (B : Nat) (v : Value) (w : World) : Prop := ∃ A c, v = .agg #[.bool s, .slice A n c, .int .i64 e] ∧ Row 64 B w (.slice A n c) N n
theorem CopyP.kept (s : Bool) (N n : Nat) (e : Int) (B : Nat) : KeptP (CopyP s N n e B) :=
  ⟨fun ⟨A, c, h, hr⟩ hb => ⟨A, c, h, hr.below hb⟩, fun ⟨A, c, h, hr⟩ hb => ⟨A, c, h, hr.wd hb⟩⟩

end Go.Proofs.YtomhmbnpkphcmaaDoor
