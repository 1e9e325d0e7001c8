/- Walks of the document's answer for layer 3: Trim, Digits, Words. -/
import Derived.Outline
import Derived.Test.YtlibhfojfonfjaaGreatDoorPackC
namespace Go.Proofs.YtlibhfojfonfjaaGreatDoor
set_option linter.unusedVariables false
open Go.RowKit

end Go.Proofs.YtlibhfojfonfjaaGreatDoor
