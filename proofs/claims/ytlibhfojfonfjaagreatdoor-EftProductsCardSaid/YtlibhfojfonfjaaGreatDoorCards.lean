/-
  DERIVED. GIVEN WITH THE SEED: THE CARDS: each row of YtlibhfojfonfjaaGreatDoorRows.lean that lists a variable, with what it lists TIED to the program's text (the seventh form; the later family's looks); each row that meets fmt, with fmt's text TOLD by the authors' own Lean function (tested against real Go, not proved from fmt's source: count such statements apart). THE CARD IS WHAT COUNTS. Prove the row's statement (the work); the ties are given (YtlibhfojfonfjaaGreatDoorTie.lean); close each card by the builder's one call (the guide's Derived/Test/ToyasCard.lean, 'card_holds'). Laid BY PROGRAM, IN A SANDBOX (cutbox-door.mjs). By AI agents, Wed Nov 11 2026. No macro, syntax, notation, axiom, sorry.
-/
import Derived.Test.YtlibhfojfonfjaaGreatDoorRows
import GoSem.ClaimSeven
namespace Go.Proofs.YtlibhfojfonfjaaGreatDoor
namespace Rows

/-- THE TIED CARD OF 'vernierlaw18.EftProducts'. -/
def eftProductsCard : Claim7 := { stood := { row := eftProductsRow, standIns := [], harness := (true, "6fb58e5567a223c9f349ea8a40e5facd437a83bfe1cf30a2e1f67a3fbe228811"), looks := false }, kinds := [], alts := [], laidByText := true, laidKinds := [.data, .data], laidTests := true, laidLooks := .later }
def EftProductsCardSaid : Prop := Claim7.holds Tryz.pinned (.plain (OpenSpec.ofChange eftProductsSpec)) eftProductsCard

/-- THE SECOND FORM's CARD OF 'vernierlaw18.EftProducts'. -/
def eftProductsUptoCard : Claim7 := { stood := { row := eftProductsUptoRow, standIns := [], harness := (true, "6fb58e5567a223c9f349ea8a40e5facd437a83bfe1cf30a2e1f67a3fbe228811"), looks := false }, kinds := [], alts := [], laidByText := true, laidKinds := [.data, .data], laidTests := true, laidLooks := .later }
def EftProductsUptoCardSaid : Prop := Claim7.holds Tryz.pinned (.plain (OpenSpec.upto eftProductsSpec)) eftProductsUptoCard
end Rows
end Go.Proofs.YtlibhfojfonfjaaGreatDoor
