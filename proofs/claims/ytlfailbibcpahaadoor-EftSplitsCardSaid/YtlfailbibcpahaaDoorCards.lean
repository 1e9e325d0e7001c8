/-
  DERIVED. GIVEN WITH THE SEED: THE CARDS: each row of YtlfailbibcpahaaDoorRows.lean that lists a variable, with what it lists TIED to the program's text (the seventh form; the later family's looks); each row that meets fmt, with fmt's text TOLD by the authors' own Lean function (tested against real Go, not proved from fmt's source: count such statements apart). THE CARD IS WHAT COUNTS. Prove the row's statement (the work); the ties are given (YtlfailbibcpahaaDoorTie.lean); close each card by the builder's one call (the guide's Derived/Test/ToyasCard.lean, 'card_holds'). Laid BY PROGRAM, IN A SANDBOX (cutbox-door.mjs). By AI agents, Wed Nov 11 2026. No macro, syntax, notation, axiom, sorry.
-/
import Derived.Test.YtlfailbibcpahaaDoorRows
import GoSem.ClaimSeven
namespace Go.Proofs.YtlfailbibcpahaaDoor
namespace Rows

/-- THE TIED CARD OF 'vernierlaw18.EftMirror'. -/
def eftMirrorCard : Claim7 := { stood := { row := eftMirrorRow, standIns := [], harness := (true, "420b4594fdb38080d769b6fa23cfa57218408bab5cdb13bd2b5d8fdd05affb3a"), looks := false }, kinds := [], alts := [], laidByText := true, laidKinds := [.data, .data], laidTests := true, laidLooks := .later }
def EftMirrorCardSaid : Prop := Claim7.holds Tryd.pinned (.plain (OpenSpec.ofChange eftMirrorSpec)) eftMirrorCard

/-- THE TIED CARD OF 'vernierlaw18.EftSplits'. -/
def eftSplitsCard : Claim7 := { stood := { row := eftSplitsRow, standIns := [], harness := (true, "420b4594fdb38080d769b6fa23cfa57218408bab5cdb13bd2b5d8fdd05affb3a"), looks := false }, kinds := [], alts := [], laidByText := true, laidKinds := [.data, .data], laidTests := true, laidLooks := .later }
def EftSplitsCardSaid : Prop := Claim7.holds Tryd.pinned (.plain (OpenSpec.ofChange eftSplitsSpec)) eftSplitsCard

/-- THE SECOND FORM's CARD OF 'vernierlaw18.EftMirror'. -/
def eftMirrorUptoCard : Claim7 := { stood := { row := eftMirrorUptoRow, standIns := [], harness := (true, "420b4594fdb38080d769b6fa23cfa57218408bab5cdb13bd2b5d8fdd05affb3a"), looks := false }, kinds := [], alts := [], laidByText := true, laidKinds := [.data, .data], laidTests := true, laidLooks := .later }
def EftMirrorUptoCardSaid : Prop := Claim7.holds Tryd.pinned (.plain (OpenSpec.upto eftMirrorSpec)) eftMirrorUptoCard

/-- THE SECOND FORM's CARD OF 'vernierlaw18.EftSplits'. -/
def eftSplitsUptoCard : Claim7 := { stood := { row := eftSplitsUptoRow, standIns := [], harness := (true, "420b4594fdb38080d769b6fa23cfa57218408bab5cdb13bd2b5d8fdd05affb3a"), looks := false }, kinds := [], alts := [], laidByText := true, laidKinds := [.data, .data], laidTests := true, laidLooks := .later }
def EftSplitsUptoCardSaid : Prop := Claim7.holds Tryd.pinned (.plain (OpenSpec.upto eftSplitsSpec)) eftSplitsUptoCard
end Rows
end Go.Proofs.YtlfailbibcpahaaDoor
