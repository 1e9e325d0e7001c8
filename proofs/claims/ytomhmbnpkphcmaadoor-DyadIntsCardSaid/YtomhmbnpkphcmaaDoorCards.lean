/-
  DERIVED. GIVEN WITH THE SEED: THE CARDS: each row of YtomhmbnpkphcmaaDoorRows.lean that lists a variable, with what it lists TIED to the program's text (the seventh form; the later family's looks); each row that meets fmt, with fmt's text TOLD by the authors' own Lean function (tested against real Go, not proved from fmt's source: count such statements apart). THE CARD IS WHAT COUNTS. Prove the row's statement (the work); the ties are given (YtomhmbnpkphcmaaDoorTie.lean); close each card by the builder's one call (the guide's Derived/Test/ToyasCard.lean, 'card_holds'). Laid BY PROGRAM, IN A SANDBOX (cutbox-door.mjs). By AI agents, Wed Nov 11 2026. No macro, syntax, notation, axiom, sorry.
-/
import Derived.Test.YtomhmbnpkphcmaaDoorRows
import GoSem.ClaimSeven
namespace Go.Proofs.YtomhmbnpkphcmaaDoor
namespace Rows

/-- THE TIED CARD OF 'vernierlaw03.DyadSums'. -/
def dyadSumsCard : Claim7 := { stood := { row := dyadSumsRow, standIns := [], harness := (true, "542be6f0ad2e4ad6e57a18b37f34bcffc68de7db1f4964a1ecdd3a62b120da6a"), looks := false }, kinds := [], alts := [], laidByText := true, laidKinds := [.data], laidTests := true, laidLooks := .later }
def DyadSumsCardSaid : Prop := Claim7.holds Tryd.pinned (.plain (OpenSpec.ofChange dyadSumsSpec)) dyadSumsCard

/-- THE TIED CARD OF 'vernierlaw03.DyadOrder'. -/
def dyadOrderCard : Claim7 := { stood := { row := dyadOrderRow, standIns := [], harness := (true, "542be6f0ad2e4ad6e57a18b37f34bcffc68de7db1f4964a1ecdd3a62b120da6a"), looks := false }, kinds := [], alts := [], laidByText := true, laidKinds := [.data], laidTests := true, laidLooks := .later }
def DyadOrderCardSaid : Prop := Claim7.holds Tryd.pinned (.plain (OpenSpec.ofChange dyadOrderSpec)) dyadOrderCard

/-- THE TIED CARD OF 'vernierlaw03.DyadShapes'. -/
def dyadShapesCard : Claim7 := { stood := { row := dyadShapesRow, standIns := [], harness := (true, "542be6f0ad2e4ad6e57a18b37f34bcffc68de7db1f4964a1ecdd3a62b120da6a"), looks := false }, kinds := [], alts := [], laidByText := true, laidKinds := [.data], laidTests := true, laidLooks := .later }
def DyadShapesCardSaid : Prop := Claim7.holds Tryd.pinned (.plain (OpenSpec.ofChange dyadShapesSpec)) dyadShapesCard

/-- THE TIED CARD OF 'vernierlaw03.DyadBounds'. -/
def dyadBoundsCard : Claim7 := { stood := { row := dyadBoundsRow, standIns := [], harness := (true, "542be6f0ad2e4ad6e57a18b37f34bcffc68de7db1f4964a1ecdd3a62b120da6a"), looks := false }, kinds := [], alts := [], laidByText := true, laidKinds := [.data], laidTests := true, laidLooks := .later }
def DyadBoundsCardSaid : Prop := Claim7.holds Tryd.pinned (.plain (OpenSpec.ofChange dyadBoundsSpec)) dyadBoundsCard

/-- THE TIED CARD OF 'vernierlaw03.DyadRing'. -/
def dyadRingCard : Claim7 := { stood := { row := dyadRingRow, standIns := [], harness := (true, "542be6f0ad2e4ad6e57a18b37f34bcffc68de7db1f4964a1ecdd3a62b120da6a"), looks := false }, kinds := [], alts := [], laidByText := true, laidKinds := [.data], laidTests := true, laidLooks := .later }
def DyadRingCardSaid : Prop := Claim7.holds Tryd.pinned (.plain (OpenSpec.ofChange dyadRingSpec)) dyadRingCard

/-- THE TIED CARD OF 'vernierlaw03.DyadInts'. -/
def dyadIntsCard : Claim7 := { stood := { row := dyadIntsRow, standIns := [], harness := (true, "542be6f0ad2e4ad6e57a18b37f34bcffc68de7db1f4964a1ecdd3a62b120da6a"), looks := false }, kinds := [], alts := [], laidByText := true, laidKinds := [.data], laidTests := true, laidLooks := .later }
def DyadIntsCardSaid : Prop := Claim7.holds Tryd.pinned (.plain (OpenSpec.ofChange dyadIntsSpec)) dyadIntsCard

/-- THE TIED CARD OF 'vernierlaw03.DyadMemory'. -/
def dyadMemoryCard : Claim7 := { stood := { row := dyadMemoryRow, standIns := [], harness := (true, "542be6f0ad2e4ad6e57a18b37f34bcffc68de7db1f4964a1ecdd3a62b120da6a"), looks := false }, kinds := [], alts := [], laidByText := true, laidKinds := [.data], laidTests := true, laidLooks := .later }
def DyadMemoryCardSaid : Prop := Claim7.holds Tryd.pinned (.plain (OpenSpec.ofChange dyadMemorySpec)) dyadMemoryCard

/-- THE TIED CARD OF 'vernierlaw03.DyadAlls'. -/
def dyadAllsCard : Claim7 := { stood := { row := dyadAllsRow, standIns := [], harness := (true, "542be6f0ad2e4ad6e57a18b37f34bcffc68de7db1f4964a1ecdd3a62b120da6a"), looks := false }, kinds := [], alts := [], laidByText := true, laidKinds := [.data], laidTests := true, laidLooks := .later }
def DyadAllsCardSaid : Prop := Claim7.holds Tryd.pinned (.plain (OpenSpec.ofChange dyadAllsSpec)) dyadAllsCard

/-- THE SECOND FORM's CARD OF 'vernierlaw03.DyadSums'. -/
def dyadSumsUptoCard : Claim7 := { stood := { row := dyadSumsUptoRow, standIns := [], harness := (true, "542be6f0ad2e4ad6e57a18b37f34bcffc68de7db1f4964a1ecdd3a62b120da6a"), looks := false }, kinds := [], alts := [], laidByText := true, laidKinds := [.data], laidTests := true, laidLooks := .later }
def DyadSumsUptoCardSaid : Prop := Claim7.holds Tryd.pinned (.plain (OpenSpec.upto dyadSumsSpec)) dyadSumsUptoCard

/-- THE SECOND FORM's CARD OF 'vernierlaw03.DyadOrder'. -/
def dyadOrderUptoCard : Claim7 := { stood := { row := dyadOrderUptoRow, standIns := [], harness := (true, "542be6f0ad2e4ad6e57a18b37f34bcffc68de7db1f4964a1ecdd3a62b120da6a"), looks := false }, kinds := [], alts := [], laidByText := true, laidKinds := [.data], laidTests := true, laidLooks := .later }
def DyadOrderUptoCardSaid : Prop := Claim7.holds Tryd.pinned (.plain (OpenSpec.upto dyadOrderSpec)) dyadOrderUptoCard

/-- THE SECOND FORM's CARD OF 'vernierlaw03.DyadShapes'. -/
def dyadShapesUptoCard : Claim7 := { stood := { row := dyadShapesUptoRow, standIns := [], harness := (true, "542be6f0ad2e4ad6e57a18b37f34bcffc68de7db1f4964a1ecdd3a62b120da6a"), looks := false }, kinds := [], alts := [], laidByText := true, laidKinds := [.data], laidTests := true, laidLooks := .later }
def DyadShapesUptoCardSaid : Prop := Claim7.holds Tryd.pinned (.plain (OpenSpec.upto dyadShapesSpec)) dyadShapesUptoCard

/-- THE SECOND FORM's CARD OF 'vernierlaw03.DyadBounds'. -/
def dyadBoundsUptoCard : Claim7 := { stood := { row := dyadBoundsUptoRow, standIns := [], harness := (true, "542be6f0ad2e4ad6e57a18b37f34bcffc68de7db1f4964a1ecdd3a62b120da6a"), looks := false }, kinds := [], alts := [], laidByText := true, laidKinds := [.data], laidTests := true, laidLooks := .later }
def DyadBoundsUptoCardSaid : Prop := Claim7.holds Tryd.pinned (.plain (OpenSpec.upto dyadBoundsSpec)) dyadBoundsUptoCard

/-- THE SECOND FORM's CARD OF 'vernierlaw03.DyadRing'. -/
def dyadRingUptoCard : Claim7 := { stood := { row := dyadRingUptoRow, standIns := [], harness := (true, "542be6f0ad2e4ad6e57a18b37f34bcffc68de7db1f4964a1ecdd3a62b120da6a"), looks := false }, kinds := [], alts := [], laidByText := true, laidKinds := [.data], laidTests := true, laidLooks := .later }
def DyadRingUptoCardSaid : Prop := Claim7.holds Tryd.pinned (.plain (OpenSpec.upto dyadRingSpec)) dyadRingUptoCard

/-- THE SECOND FORM's CARD OF 'vernierlaw03.DyadInts'. -/
def dyadIntsUptoCard : Claim7 := { stood := { row := dyadIntsUptoRow, standIns := [], harness := (true, "542be6f0ad2e4ad6e57a18b37f34bcffc68de7db1f4964a1ecdd3a62b120da6a"), looks := false }, kinds := [], alts := [], laidByText := true, laidKinds := [.data], laidTests := true, laidLooks := .later }
def DyadIntsUptoCardSaid : Prop := Claim7.holds Tryd.pinned (.plain (OpenSpec.upto dyadIntsSpec)) dyadIntsUptoCard

/-- THE SECOND FORM's CARD OF 'vernierlaw03.DyadMemory'. -/
def dyadMemoryUptoCard : Claim7 := { stood := { row := dyadMemoryUptoRow, standIns := [], harness := (true, "542be6f0ad2e4ad6e57a18b37f34bcffc68de7db1f4964a1ecdd3a62b120da6a"), looks := false }, kinds := [], alts := [], laidByText := true, laidKinds := [.data], laidTests := true, laidLooks := .later }
def DyadMemoryUptoCardSaid : Prop := Claim7.holds Tryd.pinned (.plain (OpenSpec.upto dyadMemorySpec)) dyadMemoryUptoCard

/-- THE SECOND FORM's CARD OF 'vernierlaw03.DyadAlls'. -/
def dyadAllsUptoCard : Claim7 := { stood := { row := dyadAllsUptoRow, standIns := [], harness := (true, "542be6f0ad2e4ad6e57a18b37f34bcffc68de7db1f4964a1ecdd3a62b120da6a"), looks := false }, kinds := [], alts := [], laidByText := true, laidKinds := [.data], laidTests := true, laidLooks := .later }
def DyadAllsUptoCardSaid : Prop := Claim7.holds Tryd.pinned (.plain (OpenSpec.upto dyadAllsSpec)) dyadAllsUptoCard
end Rows
end Go.Proofs.YtomhmbnpkphcmaaDoor
