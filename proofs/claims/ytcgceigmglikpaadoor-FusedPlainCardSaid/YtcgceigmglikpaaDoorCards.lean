/-
  DERIVED. GIVEN WITH THE SEED: THE CARDS: each row of YtcgceigmglikpaaDoorRows.lean that lists a variable, with what it lists TIED to the program's text (the seventh form; the later family's looks); each row that meets fmt, with fmt's text TOLD by the authors' own Lean function (tested against real Go, not proved from fmt's source: count such statements apart). THE CARD IS WHAT COUNTS. Prove the row's statement (the work); the ties are given (YtcgceigmglikpaaDoorTie.lean); close each card by the builder's one call (the guide's Derived/Test/ToyasCard.lean, 'card_holds'). Laid BY PROGRAM, IN A SANDBOX (cutbox-door.mjs). By AI agents, Wed Nov 11 2026. No macro, syntax, notation, axiom, sorry.
-/
import Derived.Test.YtcgceigmglikpaaDoorRows
import GoSem.ClaimSeven
namespace Go.Proofs.YtcgceigmglikpaaDoor
namespace Rows

/-- THE TIED CARD OF 'vernierlaw07.MulMachine'. -/
def mulMachineCard : Claim7 := { stood := { row := mulMachineRow, standIns := [], harness := (true, "69220bfd62fed5a0fc017544b077ccd71e70ccd8079cac1d38056f25f65da39a"), looks := false }, kinds := [], alts := [], laidByText := true, laidKinds := [.data, .data], laidTests := true, laidLooks := .later }
def MulMachineCardSaid : Prop := Claim7.holds Tryd.pinned (.plain (OpenSpec.ofChange mulMachineSpec)) mulMachineCard

/-- THE TIED CARD OF 'vernierlaw07.MulMachineSingle'. -/
def mulMachineSingleCard : Claim7 := { stood := { row := mulMachineSingleRow, standIns := [], harness := (true, "69220bfd62fed5a0fc017544b077ccd71e70ccd8079cac1d38056f25f65da39a"), looks := false }, kinds := [], alts := [], laidByText := true, laidKinds := [.data, .data], laidTests := true, laidLooks := .later }
def MulMachineSingleCardSaid : Prop := Claim7.holds Tryd.pinned (.plain (OpenSpec.ofChange mulMachineSingleSpec)) mulMachineSingleCard

/-- THE TIED CARD OF 'vernierlaw07.MulExacts'. -/
def mulExactsCard : Claim7 := { stood := { row := mulExactsRow, standIns := [], harness := (true, "69220bfd62fed5a0fc017544b077ccd71e70ccd8079cac1d38056f25f65da39a"), looks := false }, kinds := [], alts := [], laidByText := true, laidKinds := [.data, .data], laidTests := true, laidLooks := .later }
def MulExactsCardSaid : Prop := Claim7.holds Tryd.pinned (.plain (OpenSpec.ofChange mulExactsSpec)) mulExactsCard

/-- THE TIED CARD OF 'vernierlaw07.MulTurns'. -/
def mulTurnsCard : Claim7 := { stood := { row := mulTurnsRow, standIns := [], harness := (true, "69220bfd62fed5a0fc017544b077ccd71e70ccd8079cac1d38056f25f65da39a"), looks := false }, kinds := [], alts := [], laidByText := true, laidKinds := [.data, .data], laidTests := true, laidLooks := .later }
def MulTurnsCardSaid : Prop := Claim7.holds Tryd.pinned (.plain (OpenSpec.ofChange mulTurnsSpec)) mulTurnsCard

/-- THE TIED CARD OF 'vernierlaw07.MulRises'. -/
def mulRisesCard : Claim7 := { stood := { row := mulRisesRow, standIns := [], harness := (true, "69220bfd62fed5a0fc017544b077ccd71e70ccd8079cac1d38056f25f65da39a"), looks := false }, kinds := [], alts := [], laidByText := true, laidKinds := [.data, .data], laidTests := true, laidLooks := .later }
def MulRisesCardSaid : Prop := Claim7.holds Tryd.pinned (.plain (OpenSpec.ofChange mulRisesSpec)) mulRisesCard

/-- THE TIED CARD OF 'vernierlaw07.MulDoubles'. -/
def mulDoublesCard : Claim7 := { stood := { row := mulDoublesRow, standIns := [], harness := (true, "69220bfd62fed5a0fc017544b077ccd71e70ccd8079cac1d38056f25f65da39a"), looks := false }, kinds := [], alts := [], laidByText := true, laidKinds := [.data, .data], laidTests := true, laidLooks := .later }
def MulDoublesCardSaid : Prop := Claim7.holds Tryd.pinned (.plain (OpenSpec.ofChange mulDoublesSpec)) mulDoublesCard

/-- THE TIED CARD OF 'vernierlaw07.MulBetween'. -/
def mulBetweenCard : Claim7 := { stood := { row := mulBetweenRow, standIns := [], harness := (true, "69220bfd62fed5a0fc017544b077ccd71e70ccd8079cac1d38056f25f65da39a"), looks := false }, kinds := [], alts := [], laidByText := true, laidKinds := [.data, .data], laidTests := true, laidLooks := .later }
def MulBetweenCardSaid : Prop := Claim7.holds Tryd.pinned (.plain (OpenSpec.ofChange mulBetweenSpec)) mulBetweenCard

/-- THE TIED CARD OF 'vernierlaw09.FusedLayers'. -/
def fusedLayersCard : Claim7 := { stood := { row := fusedLayersRow, standIns := [], harness := (true, "69220bfd62fed5a0fc017544b077ccd71e70ccd8079cac1d38056f25f65da39a"), looks := false }, kinds := [], alts := [], laidByText := true, laidKinds := [.data, .data], laidTests := true, laidLooks := .later }
def FusedLayersCardSaid : Prop := Claim7.holds Tryd.pinned (.plain (OpenSpec.ofChange fusedLayersSpec)) fusedLayersCard

/-- THE TIED CARD OF 'vernierlaw09.FusedModes'. -/
def fusedModesCard : Claim7 := { stood := { row := fusedModesRow, standIns := [], harness := (true, "69220bfd62fed5a0fc017544b077ccd71e70ccd8079cac1d38056f25f65da39a"), looks := false }, kinds := [], alts := [], laidByText := true, laidKinds := [.data, .data], laidTests := true, laidLooks := .later }
def FusedModesCardSaid : Prop := Claim7.holds Tryd.pinned (.plain (OpenSpec.ofChange fusedModesSpec)) fusedModesCard

/-- THE TIED CARD OF 'vernierlaw09.FusedSigns'. -/
def fusedSignsCard : Claim7 := { stood := { row := fusedSignsRow, standIns := [], harness := (true, "69220bfd62fed5a0fc017544b077ccd71e70ccd8079cac1d38056f25f65da39a"), looks := false }, kinds := [], alts := [], laidByText := true, laidKinds := [.data, .data], laidTests := true, laidLooks := .later }
def FusedSignsCardSaid : Prop := Claim7.holds Tryd.pinned (.plain (OpenSpec.ofChange fusedSignsSpec)) fusedSignsCard

/-- THE TIED CARD OF 'vernierlaw09.FusedRest'. -/
def fusedRestCard : Claim7 := { stood := { row := fusedRestRow, standIns := [], harness := (true, "69220bfd62fed5a0fc017544b077ccd71e70ccd8079cac1d38056f25f65da39a"), looks := false }, kinds := [], alts := [], laidByText := true, laidKinds := [.data, .data], laidTests := true, laidLooks := .later }
def FusedRestCardSaid : Prop := Claim7.holds Tryd.pinned (.plain (OpenSpec.ofChange fusedRestSpec)) fusedRestCard

/-- THE TIED CARD OF 'vernierlaw09.FusedPlain'. -/
def fusedPlainCard : Claim7 := { stood := { row := fusedPlainRow, standIns := [], harness := (true, "69220bfd62fed5a0fc017544b077ccd71e70ccd8079cac1d38056f25f65da39a"), looks := false }, kinds := [], alts := [], laidByText := true, laidKinds := [.data, .data], laidTests := true, laidLooks := .later }
def FusedPlainCardSaid : Prop := Claim7.holds Tryd.pinned (.plain (OpenSpec.ofChange fusedPlainSpec)) fusedPlainCard

/-- THE SECOND FORM's CARD OF 'vernierlaw07.MulMachine'. -/
def mulMachineUptoCard : Claim7 := { stood := { row := mulMachineUptoRow, standIns := [], harness := (true, "69220bfd62fed5a0fc017544b077ccd71e70ccd8079cac1d38056f25f65da39a"), looks := false }, kinds := [], alts := [], laidByText := true, laidKinds := [.data, .data], laidTests := true, laidLooks := .later }
def MulMachineUptoCardSaid : Prop := Claim7.holds Tryd.pinned (.plain (OpenSpec.upto mulMachineSpec)) mulMachineUptoCard

/-- THE SECOND FORM's CARD OF 'vernierlaw07.MulMachineSingle'. -/
def mulMachineSingleUptoCard : Claim7 := { stood := { row := mulMachineSingleUptoRow, standIns := [], harness := (true, "69220bfd62fed5a0fc017544b077ccd71e70ccd8079cac1d38056f25f65da39a"), looks := false }, kinds := [], alts := [], laidByText := true, laidKinds := [.data, .data], laidTests := true, laidLooks := .later }
def MulMachineSingleUptoCardSaid : Prop := Claim7.holds Tryd.pinned (.plain (OpenSpec.upto mulMachineSingleSpec)) mulMachineSingleUptoCard

/-- THE SECOND FORM's CARD OF 'vernierlaw07.MulExacts'. -/
def mulExactsUptoCard : Claim7 := { stood := { row := mulExactsUptoRow, standIns := [], harness := (true, "69220bfd62fed5a0fc017544b077ccd71e70ccd8079cac1d38056f25f65da39a"), looks := false }, kinds := [], alts := [], laidByText := true, laidKinds := [.data, .data], laidTests := true, laidLooks := .later }
def MulExactsUptoCardSaid : Prop := Claim7.holds Tryd.pinned (.plain (OpenSpec.upto mulExactsSpec)) mulExactsUptoCard

/-- THE SECOND FORM's CARD OF 'vernierlaw07.MulTurns'. -/
def mulTurnsUptoCard : Claim7 := { stood := { row := mulTurnsUptoRow, standIns := [], harness := (true, "69220bfd62fed5a0fc017544b077ccd71e70ccd8079cac1d38056f25f65da39a"), looks := false }, kinds := [], alts := [], laidByText := true, laidKinds := [.data, .data], laidTests := true, laidLooks := .later }
def MulTurnsUptoCardSaid : Prop := Claim7.holds Tryd.pinned (.plain (OpenSpec.upto mulTurnsSpec)) mulTurnsUptoCard

/-- THE SECOND FORM's CARD OF 'vernierlaw07.MulRises'. -/
def mulRisesUptoCard : Claim7 := { stood := { row := mulRisesUptoRow, standIns := [], harness := (true, "69220bfd62fed5a0fc017544b077ccd71e70ccd8079cac1d38056f25f65da39a"), looks := false }, kinds := [], alts := [], laidByText := true, laidKinds := [.data, .data], laidTests := true, laidLooks := .later }
def MulRisesUptoCardSaid : Prop := Claim7.holds Tryd.pinned (.plain (OpenSpec.upto mulRisesSpec)) mulRisesUptoCard

/-- THE SECOND FORM's CARD OF 'vernierlaw07.MulDoubles'. -/
def mulDoublesUptoCard : Claim7 := { stood := { row := mulDoublesUptoRow, standIns := [], harness := (true, "69220bfd62fed5a0fc017544b077ccd71e70ccd8079cac1d38056f25f65da39a"), looks := false }, kinds := [], alts := [], laidByText := true, laidKinds := [.data, .data], laidTests := true, laidLooks := .later }
def MulDoublesUptoCardSaid : Prop := Claim7.holds Tryd.pinned (.plain (OpenSpec.upto mulDoublesSpec)) mulDoublesUptoCard

/-- THE SECOND FORM's CARD OF 'vernierlaw07.MulBetween'. -/
def mulBetweenUptoCard : Claim7 := { stood := { row := mulBetweenUptoRow, standIns := [], harness := (true, "69220bfd62fed5a0fc017544b077ccd71e70ccd8079cac1d38056f25f65da39a"), looks := false }, kinds := [], alts := [], laidByText := true, laidKinds := [.data, .data], laidTests := true, laidLooks := .later }
def MulBetweenUptoCardSaid : Prop := Claim7.holds Tryd.pinned (.plain (OpenSpec.upto mulBetweenSpec)) mulBetweenUptoCard

/-- THE SECOND FORM's CARD OF 'vernierlaw09.FusedLayers'. -/
def fusedLayersUptoCard : Claim7 := { stood := { row := fusedLayersUptoRow, standIns := [], harness := (true, "69220bfd62fed5a0fc017544b077ccd71e70ccd8079cac1d38056f25f65da39a"), looks := false }, kinds := [], alts := [], laidByText := true, laidKinds := [.data, .data], laidTests := true, laidLooks := .later }
def FusedLayersUptoCardSaid : Prop := Claim7.holds Tryd.pinned (.plain (OpenSpec.upto fusedLayersSpec)) fusedLayersUptoCard

/-- THE SECOND FORM's CARD OF 'vernierlaw09.FusedModes'. -/
def fusedModesUptoCard : Claim7 := { stood := { row := fusedModesUptoRow, standIns := [], harness := (true, "69220bfd62fed5a0fc017544b077ccd71e70ccd8079cac1d38056f25f65da39a"), looks := false }, kinds := [], alts := [], laidByText := true, laidKinds := [.data, .data], laidTests := true, laidLooks := .later }
def FusedModesUptoCardSaid : Prop := Claim7.holds Tryd.pinned (.plain (OpenSpec.upto fusedModesSpec)) fusedModesUptoCard

/-- THE SECOND FORM's CARD OF 'vernierlaw09.FusedSigns'. -/
def fusedSignsUptoCard : Claim7 := { stood := { row := fusedSignsUptoRow, standIns := [], harness := (true, "69220bfd62fed5a0fc017544b077ccd71e70ccd8079cac1d38056f25f65da39a"), looks := false }, kinds := [], alts := [], laidByText := true, laidKinds := [.data, .data], laidTests := true, laidLooks := .later }
def FusedSignsUptoCardSaid : Prop := Claim7.holds Tryd.pinned (.plain (OpenSpec.upto fusedSignsSpec)) fusedSignsUptoCard

/-- THE SECOND FORM's CARD OF 'vernierlaw09.FusedRest'. -/
def fusedRestUptoCard : Claim7 := { stood := { row := fusedRestUptoRow, standIns := [], harness := (true, "69220bfd62fed5a0fc017544b077ccd71e70ccd8079cac1d38056f25f65da39a"), looks := false }, kinds := [], alts := [], laidByText := true, laidKinds := [.data, .data], laidTests := true, laidLooks := .later }
def FusedRestUptoCardSaid : Prop := Claim7.holds Tryd.pinned (.plain (OpenSpec.upto fusedRestSpec)) fusedRestUptoCard

/-- THE SECOND FORM's CARD OF 'vernierlaw09.FusedPlain'. -/
def fusedPlainUptoCard : Claim7 := { stood := { row := fusedPlainUptoRow, standIns := [], harness := (true, "69220bfd62fed5a0fc017544b077ccd71e70ccd8079cac1d38056f25f65da39a"), looks := false }, kinds := [], alts := [], laidByText := true, laidKinds := [.data, .data], laidTests := true, laidLooks := .later }
def FusedPlainUptoCardSaid : Prop := Claim7.holds Tryd.pinned (.plain (OpenSpec.upto fusedPlainSpec)) fusedPlainUptoCard
end Rows
end Go.Proofs.YtcgceigmglikpaaDoor
