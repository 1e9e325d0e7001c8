/- Walks of the document's answer for layer 3: Digits. -/
import Derived.StillTailTactics
import Derived.Deep.LoopGhost
import Derived.Test.YtlibhfojfonfjaaGreatDoorRefA
import Derived.Test.YtlibhfojfonfjaaGreatDoorPackC
import Derived.Test.YtlibhfojfonfjaaGreatDoorRefJ
namespace Go.Proofs.YtlibhfojfonfjaaGreatDoor
set_option linter.unusedVariables false
open Go.RowKit

theorem Row.drew {k B : Nat} {w : World} {v : Value} {N n : Nat} (h : Row k B w v N n) : Row k B w.drew v N n := h

theorem wpList_append_words' {ops : Array Oper} {rest : List Oper} {o : Oper} {a : Act} {w : World} {Q : Exit → Act → World → Prop} (hgd : o.guard = none) (s x : Operand) (ho : o.op = .call { callee := .builtin .append, args := #[s, x], argTypes := #[26, 26] })
    {k B : Nat} {v : Value} {N n : Nat} (hs : a.eval s = v) (hown : Row k B w v N n) {A : Option Addr} {m c M : Nat} (hx : a.eval x = .slice A m c) (hsrc : Rd k w (.slice A m c) M m) (hA : A = none → c = 0)
    (hle : n + m ≤ 17592186044416) (hB : B ≤ w.heap.size)
    (h : ∀ v' w', Row k B w' v' (N + M * 2 ^ (k * n)) (n + m) → w.grownBy w' v.ownBlock → wpList Tryz.prog ops Q rest (a.put o.dst v') w') : wpList Tryz.prog ops Q (o :: rest) a w :=
  wpList_plain hgd fun K hK => wp_append_words s x ho hs hown hx hsrc hA hle hB fun v' w' h1 h2 => hK _ _ (h v' w' h1 h2)

/-- two digits of the base 2^32, laid anew -/
theorem Rd.two32 (w : World) (x : Nat) (hx : x < 18446744073709551616) (a b : Int) (ha : a = ((x % 4294967296 : Nat) : Int)) (hb : b = ((x / 4294967296 : Nat) : Int)) (t : TypeId) :
    Rd 32 (w.alloc (.cells #[.int .u64 a, .int .u64 b] t)) (.slice (some ⟨w.heap.size, 0, none⟩) 2 2) x 2 := by
  subst ha hb
  refine ⟨_, 2, rfl, Nat.le_refl _, by omega, by omega, fun _ => ⟨_, 0, rfl, by simp, fun j hj => ?_⟩⟩
  rcases (show j = 0 ∨ j = 1 by omega) with rfl | rfl
  · rw [World.cell?_alloc_at _ _ _ _ rfl]
    have : dg 32 x 0 = x % 4294967296 := by unfold dg; simp
    rw [this]; rfl
  · rw [World.cell?_alloc_at _ _ _ _ rfl]
    have : dg 32 x 1 = x / 4294967296 := by unfold dg; rw [show 2 ^ (32 * 1) = 4294967296 from rfl]; exact Nat.mod_eq_of_lt (by omega)
    rw [this]; rfl

end Go.Proofs.YtlibhfojfonfjaaGreatDoor
