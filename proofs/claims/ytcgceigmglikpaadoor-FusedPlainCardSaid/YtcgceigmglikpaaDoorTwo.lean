/- A format, a mode and two data, as a struct in memory. -/
import Derived.Test.YtcgceigmglikpaaDoorPackO
namespace Go.Proofs.YtcgceigmglikpaaDoor
set_option linter.unusedVariables false
open Go.RowKit

def twoA (f m : Int) (a b : Nat) : Array Value := #[.int .i64 f, .int .i64 m, .int .u64 a, .int .u64 b]
theorem Bx.two {w : World} {g : Nat} {f m : Int} {a b : Nat} (h : Bx w g (twoA f m a b)) : w.cell? ⟨g, 0, none⟩ = some (.int .i64 f) ∧ w.cell? ⟨g, 1, none⟩ = some (.int .i64 m) ∧ w.cell? ⟨g, 2, none⟩ = some (.int .u64 a) ∧ w.cell? ⟨g, 3, none⟩ = some (.int .u64 b) :=
  ⟨h.cell 0 rfl, h.cell 1 rfl, h.cell 2 rfl, h.cell 3 rfl⟩

end Go.Proofs.YtcgceigmglikpaaDoor
