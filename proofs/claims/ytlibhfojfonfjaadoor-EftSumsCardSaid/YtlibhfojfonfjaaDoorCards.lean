/-
  DERIVED. GIVEN WITH THE SEED: THE CARDS: each row of YtlibhfojfonfjaaDoorRows.lean that lists a variable, with what it lists TIED to the program's text (the seventh form; the later family's looks); each row that meets fmt, with fmt's text TOLD by the authors' own Lean function (tested against real Go, not proved from fmt's source: count such statements apart). THE CARD IS WHAT COUNTS. Prove the row's statement (the work); the ties are given (YtlibhfojfonfjaaDoorTie.lean); close each card by the builder's one call (the guide's Derived/Test/ToyasCard.lean, 'card_holds'). Laid BY PROGRAM, IN A SANDBOX (cutbox-door.mjs). By AI agents, Wed Nov 11 2026. No macro, syntax, notation, axiom, sorry.
-/
import Derived.Test.YtlibhfojfonfjaaDoorRows
import GoSem.ClaimSeven
namespace Go.Proofs.YtlibhfojfonfjaaDoor
namespace Rows

/-- THE TIED CARD OF 'vernierlaw18.EftSums'. -/
def eftSumsCard : Claim7 := { stood := { row := eftSumsRow, standIns := [], harness := (true, "315b20835a378188eed6bd858c838b8f5ed5f4516095ff9779bcef84c3e0436d"), looks := false }, kinds := [], alts := [], laidByText := true, laidKinds := [.data, .data], laidTests := true, laidLooks := .later }
def EftSumsCardSaid : Prop := Claim7.holds Tryd.pinned (.plain (OpenSpec.ofChange eftSumsSpec)) eftSumsCard

/-- THE SECOND FORM's CARD OF 'vernierlaw18.EftSums'. -/
def eftSumsUptoCard : Claim7 := { stood := { row := eftSumsUptoRow, standIns := [], harness := (true, "315b20835a378188eed6bd858c838b8f5ed5f4516095ff9779bcef84c3e0436d"), looks := false }, kinds := [], alts := [], laidByText := true, laidKinds := [.data, .data], laidTests := true, laidLooks := .later }
def EftSumsUptoCardSaid : Prop := Claim7.holds Tryd.pinned (.plain (OpenSpec.upto eftSumsSpec)) eftSumsUptoCard
end Rows
end Go.Proofs.YtlibhfojfonfjaaDoor
