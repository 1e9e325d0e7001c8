/-
  DERIVED. GIVEN WITH THE SEED: THE CARDS: each row of YtakjbmlkcbedmaaDoorRows.lean that lists a variable, with what it lists TIED to the program's text (the seventh form; the later family's looks); each row that meets fmt, with fmt's text TOLD by the authors' own Lean function (tested against real Go, not proved from fmt's source: count such statements apart). THE CARD IS WHAT COUNTS. Prove the row's statement (the work); the ties are given (YtakjbmlkcbedmaaDoorTie.lean); close each card by the builder's one call (the guide's Derived/Test/ToyasCard.lean, 'card_holds'). Laid BY PROGRAM, IN A SANDBOX (cutbox-door.mjs). By AI agents, Wed Nov 11 2026. No macro, syntax, notation, axiom, sorry.
-/
import Derived.Test.YtakjbmlkcbedmaaDoorRows
import GoSem.ClaimSeven
namespace Go.Proofs.YtakjbmlkcbedmaaDoor
namespace Rows

/-- THE TIED CARD OF 'vernierlaw03.DyadAlls'. -/
def dyadAllsCard : Claim7 := { stood := { row := dyadAllsRow, standIns := [], harness := (true, "2aafea3b17ab9de93dbeb1081bf349476d420d0108f5332daf69d52ffc47c315"), looks := false }, kinds := [], alts := [], laidByText := true, laidKinds := [.data], laidTests := true, laidLooks := .later }
def DyadAllsCardSaid : Prop := Claim7.holds Tryd.pinned (.plain (OpenSpec.ofChange dyadAllsSpec)) dyadAllsCard

/-- THE TIED CARD OF 'vernierlaw03.DyadSums'. -/
def dyadSumsCard : Claim7 := { stood := { row := dyadSumsRow, standIns := [], harness := (true, "2aafea3b17ab9de93dbeb1081bf349476d420d0108f5332daf69d52ffc47c315"), looks := false }, kinds := [], alts := [], laidByText := true, laidKinds := [.data], laidTests := true, laidLooks := .later }
def DyadSumsCardSaid : Prop := Claim7.holds Tryd.pinned (.plain (OpenSpec.ofChange dyadSumsSpec)) dyadSumsCard

/-- THE SECOND FORM's CARD OF 'vernierlaw03.DyadAlls'. -/
def dyadAllsUptoCard : Claim7 := { stood := { row := dyadAllsUptoRow, standIns := [], harness := (true, "2aafea3b17ab9de93dbeb1081bf349476d420d0108f5332daf69d52ffc47c315"), looks := false }, kinds := [], alts := [], laidByText := true, laidKinds := [.data], laidTests := true, laidLooks := .later }
def DyadAllsUptoCardSaid : Prop := Claim7.holds Tryd.pinned (.plain (OpenSpec.upto dyadAllsSpec)) dyadAllsUptoCard

/-- THE SECOND FORM's CARD OF 'vernierlaw03.DyadSums'. -/
def dyadSumsUptoCard : Claim7 := { stood := { row := dyadSumsUptoRow, standIns := [], harness := (true, "2aafea3b17ab9de93dbeb1081bf349476d420d0108f5332daf69d52ffc47c315"), looks := false }, kinds := [], alts := [], laidByText := true, laidKinds := [.data], laidTests := true, laidLooks := .later }
def DyadSumsUptoCardSaid : Prop := Claim7.holds Tryd.pinned (.plain (OpenSpec.upto dyadSumsSpec)) dyadSumsUptoCard
end Rows
end Go.Proofs.YtakjbmlkcbedmaaDoor
