/- An exact number in a box; the calls of layer 3 on such; Value's errors. -/
import Derived.Test.YtdbfkfbncmbfcaaGreatDoorPackF
import Derived.Test.YtdbfkfbncmbfcaaGreatDoorPackC
namespace Go.Proofs.YtdbfkfbncmbfcaaGreatDoor
set_option linter.unusedVariables false
open Go.RowKit

/-- an exact number in a box -/
structure VB (g : Nat) (d : D) (A : Option Addr) (c : Nat) (w : World) : Prop where
  bx : Box3 w g (.bool d.s) (.slice A (nd 64 d.n) c) (.int .i64 d.e)
  rd : Rd 64 w (.slice A (nd 64 d.n) c) d.n (nd 64 d.n)

theorem VB.below {g : Nat} {d : D} {A : Option Addr} {c : Nat} {w w' : World} (h : VB g d A c w) (hb : Below w.heap.size w w') : VB g d A c w' := ⟨h.bx.keep hb, h.rd.below hb⟩

theorem VB.new {d : D} {A : Option Addr} {c : Nat} {w : World} (h : Rd 64 w (.slice A (nd 64 d.n) c) d.n (nd 64 d.n)) (t : TypeId) : VB w.heap.size d A c (w.alloc (.cells #[.bool d.s, .slice A (nd 64 d.n) c, .int .i64 d.e] t)) :=
  ⟨Box3.new w _ _ _ t, h.below (below1 w _)⟩

theorem DMul_vb {u v x : D} {A1 A2 : Option Addr} {c1 c2 g1 g2 : Nat} {w : World} (h1 : VB g1 u A1 c1 w) (h2 : VB g2 v A2 c2 w) (hG : Gl w) (hm : mulD (nd 64 u.n) u (nd 64 v.n) v = (x, 0)) :
    Calls Tryz.prog 60 #[.agg #[.bool u.s, .slice A1 (nd 64 u.n) c1, .int .i64 u.e], .agg #[.bool v.s, .slice A2 (nd 64 v.n) c2, .int .i64 v.e]] w fun e w' =>
      ∃ A c, e = .returned (.tuple #[.agg #[.bool x.s, .slice A (nd 64 x.n) c, .int .i64 x.e], .int .i64 0]) ∧ Rd 64 w' (.slice A (nd 64 x.n) c) x.n (nd 64 x.n) ∧ Below w.heap.size w w' := by
  refine (DMul_any u.s v.s A1 A2 u.n (nd 64 u.n) c1 v.n (nd 64 v.n) c2 u.e v.e w h1.rd h2.rd hG).mono ?_
  rintro e w' ⟨y, rfl, hd, hb⟩
  rw [show mulD (nd 64 u.n) ⟨u.s, u.n, u.e⟩ (nd 64 v.n) ⟨v.s, v.n, v.e⟩ = (x, 0) from hm] at hd
  obtain ⟨A, c, rfl, _, _, h, _⟩ := hd
  exact ⟨A, c, by rw [show mulD (nd 64 u.n) ⟨u.s, u.n, u.e⟩ (nd 64 v.n) ⟨v.s, v.n, v.e⟩ = (x, 0) from hm], h, hb⟩

theorem Value_vb (f : Int) (a : Nat) (d : D) (z : Int) (ha : a < 18446744073709551616) (hd : d = valA f a) (hz : z = valE f a) (w : World) (hG : GlR w) (hT : Gl w) :
    Calls Tryz.prog 63 #[.int .i64 f, .int .u64 a] w fun e w' => ∃ A c, e = .returned (.tuple #[.agg #[.bool d.s, .slice A (nd 64 d.n) c, .int .i64 d.e], .int .i64 z]) ∧ Rd 64 w' (.slice A (nd 64 d.n) c) d.n (nd 64 d.n) ∧ Below w.heap.size w w' := by
  subst hd hz
  refine (Value_any f a w ha hG hT).mono ?_
  rintro e w' ⟨x, rfl, ⟨A, c, rfl, _, _, h, _⟩, hb⟩
  exact ⟨A, c, rfl, h, hb⟩

theorem flag16 {g : Nat} (h : g = 0 ∨ g = 16 ∨ g = 20 ∨ g = 24) : (bits .and .i64 (g : Int) 16 == 0) = decide (g &&& 16 = 0) ∧ (bits .and .i64 (g : Int) 4 == 0) = decide (g &&& 4 = 0) := by
  rcases h with rfl | rfl | rfl | rfl <;> exact ⟨by decide +kernel, by decide +kernel⟩

theorem valE_fin {n A : Nat} (hn : n < 4) (hl : A < 2 ^ (fm n).w) (hf : (fm n).abs A < (fm n).inf) : valE (n : Int) A = 0 := by
  unfold valE
  rw [chkS_of hn hl, if_neg (by decide), Int.toNat_natCast, if_pos hf]

theorem valE_inf {n A : Nat} (hn : n < 4) (hl : A < 2 ^ (fm n).w) (hf : ¬ (fm n).abs A < (fm n).inf) : valE (n : Int) A = 40 := by
  unfold valE
  rw [chkS_of hn hl, if_neg (by decide), Int.toNat_natCast, if_neg hf]

theorem valA_fin {n A : Nat} (hn : n < 4) (hl : A < 2 ^ (fm n).w) (hf : (fm n).abs A < (fm n).inf) : valA (n : Int) A = valD (fm n) A := by
  unfold valA
  rw [valE_fin hn hl hf, if_pos rfl, Int.toNat_natCast]

end Go.Proofs.YtdbfkfbncmbfcaaGreatDoor
