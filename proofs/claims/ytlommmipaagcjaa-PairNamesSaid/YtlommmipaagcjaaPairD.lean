/- Walks of layer 20: Check, Make. -/
import Derived.Test.YtlommmipaagcjaaPairC
namespace Go.Proofs.Ytlommmipaagcjaa
set_option linter.unusedVariables false
open Go.RowKit

theorem RdP.one (w : World) (a b : Nat) (t : TypeId) : RdP (w.alloc (Obj.cells #[.int .u64 (a : Nat), .int .u64 (b : Nat)] t)) w.heap.size [(a, b)] := by
  intro j hj
  obtain rfl : j = 0 := by simp at hj; exact hj
  rw [World.cell?_alloc_at _ _ _ _ rfl, World.cell?_alloc_at _ _ _ _ rfl]
  exact ⟨rfl, rfl⟩

theorem check_any (a b : Nat) (w : World) : Calls Try.prog 5 #[.agg #[.int .u64 a, .int .u64 b]] w fun e' w' => e' = .returned (.int .i64 (openE [(a, b)])) ∧ Below w.heap.size w w' := by
  obtain ⟨W, hW⟩ : ∃ W, W = w.alloc (Obj.cells #[.int .u64 (a : Nat), .int .u64 (b : Nat)] 26) := ⟨_, rfl⟩
  have hB : Below w.heap.size w W := by rw [hW]; exact below_a ..
  obtain ⟨W2, hW2⟩ : ∃ W2, W2 = W.alloc (Obj.cells #[.int .u64 (a : Nat), .int .u64 (b : Nat)] 26) := ⟨_, rfl⟩
  have hr : RdP W2 W.heap.size [(a, b)] := by rw [hW2]; exact RdP.one W a b _
  have hs : W.heap.size < W2.heap.size := by rw [hW2]; simp
  have hB2 : Below w.heap.size w W2 := by rw [hW2]; exact hB.alloc hB.size _
  have hws : W.heap.size = w.heap.size + 1 := by rw [hW]; simp
  have hbx : Box2 W w.heap.size (.int .u64 (a : Nat)) (.int .u64 (b : Nat)) := by rw [hW]; exact Box2.new ..
  obtain ⟨k0, k1, _, _⟩ := hbx.cells
  clear hbx hB
  go_enter Try.func5, Try.ntmps5
  have hws2 := hws
  rw [hW] at k0 k1 hws2
  go_wp2_with fail
  rw [← hW, ← hW2]
  refine (open_any (w.heap.size + 1) [(a, b)] W2 (by rw [← hws]; exact hr) (by rw [← hws]; exact hs) (by simp)).mono ?_
  rintro _ w3 ⟨v, E, rfl, hO, hb3⟩
  have HO := Lib.hid hO
  have HB := Lib.hid (hB2.trans (hb3.mono hB2.size))
  clear hO hb3 hr hs hB2 k0 k1 hW hW2 hws hws2
  go_wp2
  go_ret
  exact ⟨by rw [← HO.out.1]; rfl, HB.out⟩

end Go.Proofs.Ytlommmipaagcjaa
