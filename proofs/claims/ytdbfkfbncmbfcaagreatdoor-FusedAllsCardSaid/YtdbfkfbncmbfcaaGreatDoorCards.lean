/-
  DERIVED. GIVEN WITH THE SEED: THE CARDS: each row of YtdbfkfbncmbfcaaGreatDoorRows.lean that lists a variable, with what it lists TIED to the program's text (the seventh form; the later family's looks); each row that meets fmt, with fmt's text TOLD by the authors' own Lean function (tested against real Go, not proved from fmt's source: count such statements apart). THE CARD IS WHAT COUNTS. Prove the row's statement (the work); the ties are given (YtdbfkfbncmbfcaaGreatDoorTie.lean); close each card by the builder's one call (the guide's Derived/Test/ToyasCard.lean, 'card_holds'). Laid BY PROGRAM, IN A SANDBOX (cutbox-door.mjs). By AI agents, Wed Nov 11 2026. No macro, syntax, notation, axiom, sorry.
-/
import Derived.Test.YtdbfkfbncmbfcaaGreatDoorRows
import GoSem.ClaimSeven
namespace Go.Proofs.YtdbfkfbncmbfcaaGreatDoor
namespace Rows

/-- THE TIED CARD OF 'vernierlaw09.FusedAlls'. -/
def fusedAllsCard : Claim7 := { stood := { row := fusedAllsRow, standIns := [], harness := (true, "038c5155a1ecc44f841b2f5fd766fb81398c227ef82a1b03a2cb8e86ed6ac469"), looks := false }, kinds := [], alts := [], laidByText := true, laidKinds := [.data, .data], laidTests := true, laidLooks := .later }
def FusedAllsCardSaid : Prop := Claim7.holds Tryz.pinned (.plain (OpenSpec.ofChange fusedAllsSpec)) fusedAllsCard

/-- THE TIED CARD OF 'verniertop.WholeFused'. -/
def wholeFusedCard : Claim7 := { stood := { row := wholeFusedRow, standIns := [], harness := (true, "038c5155a1ecc44f841b2f5fd766fb81398c227ef82a1b03a2cb8e86ed6ac469"), looks := false }, kinds := [], alts := [], laidByText := true, laidKinds := [.data, .data], laidTests := true, laidLooks := .later }
def WholeFusedCardSaid : Prop := Claim7.holds Tryz.pinned (.plain (OpenSpec.ofChange wholeFusedSpec)) wholeFusedCard

/-- THE SECOND FORM's CARD OF 'vernierlaw09.FusedAlls'. -/
def fusedAllsUptoCard : Claim7 := { stood := { row := fusedAllsUptoRow, standIns := [], harness := (true, "038c5155a1ecc44f841b2f5fd766fb81398c227ef82a1b03a2cb8e86ed6ac469"), looks := false }, kinds := [], alts := [], laidByText := true, laidKinds := [.data, .data], laidTests := true, laidLooks := .later }
def FusedAllsUptoCardSaid : Prop := Claim7.holds Tryz.pinned (.plain (OpenSpec.upto fusedAllsSpec)) fusedAllsUptoCard

/-- THE SECOND FORM's CARD OF 'verniertop.WholeFused'. -/
def wholeFusedUptoCard : Claim7 := { stood := { row := wholeFusedUptoRow, standIns := [], harness := (true, "038c5155a1ecc44f841b2f5fd766fb81398c227ef82a1b03a2cb8e86ed6ac469"), looks := false }, kinds := [], alts := [], laidByText := true, laidKinds := [.data, .data], laidTests := true, laidLooks := .later }
def WholeFusedUptoCardSaid : Prop := Claim7.holds Tryz.pinned (.plain (OpenSpec.upto wholeFusedSpec)) wholeFusedUptoCard
end Rows
end Go.Proofs.YtdbfkfbncmbfcaaGreatDoor
