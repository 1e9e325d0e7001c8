/-
  NARROWER THAN 'FOR EVERY INPUT', by the rows' own cells (each row's printed sentence says how): MulMachine: laid · MulMachineSingle: laid · MulExacts: laid · MulTurns: laid · MulRises: laid · MulDoubles: laid · MulBetween: laid · FusedLayers: laid · FusedModes: laid · FusedSigns: laid · FusedRest: laid · FusedPlain: laid.
  DERIVED. THE GIVEN ROWS OF THIS SEAT. 12 by the template 'for every input the law returns true; each argument reads behind the call as it read before'; 0 by the template 'total and deterministic' (their statements: YtcgceigmglikpaaDoorTotals.lean).
  GIVEN WITH THE SEED: the statements are not yours to turn. If you find one false, say at which input.
  Laid BY PROGRAM, IN A SANDBOX (cutbox-rows.mjs): the forced cells as the released guide's own fill.sh prints them over the translation 0ec9a1b9acd3a845… (all of the seat's roots in one cut). By AI agents, Wed Nov 11 2026. No macro, syntax, notation, axiom, sorry.
-/
import Derived.Test.YtcgceigmglikpaaDoorChecked
import GoSem.Claim
import GoSem.ClaimJoined
import GoSem.ClaimMapViews
import Derived.JoinedTies
import Derived.KernelRfl
namespace Go.Proofs.YtcgceigmglikpaaDoor
/- THE CELL 'sum', in the pinned program and in every row, IS THE sha256 OF THE DUMP (.gsa) THAT YtcgceigmglikpaaDoorProg.lean LOADS. Nothing in Lean hashes anything: it is a label: what it is worth is what the hold of that sum in a sandbox is worth. -/
noncomputable def Tryd.pinned : Pinned := { name := "ytcgceigmglikpaadoor", sum := "0ec9a1b9acd3a84550c4b061a331919aac8ed51800e8f0af965051fef8719af4", checked := Tryd.checked }
namespace Rows
def none {H : Type} : Left H := { results := [], args := [] }

/- WHAT THE LISTED PACKAGE-LEVEL VARIABLES READ AS WHEN THE CALL BEGINS. Each datum BY PROGRAM (the guide's laid-datum.mjs) off the statement by which the dump's own 'gosem.cut.vars' lays the variable. In a bare row this is a premise. The card (YtcgceigmglikpaaDoorCards.lean) ties it to the program's text. -/
def laid_math_bits_deBruijn64tab {H : Type} : DataW H := .agg [.lit (.int .u8 0), .lit (.int .u8 1), .lit (.int .u8 56), .lit (.int .u8 2), .lit (.int .u8 57), .lit (.int .u8 49), .lit (.int .u8 28), .lit (.int .u8 3), .lit (.int .u8 61), .lit (.int .u8 58), .lit (.int .u8 42), .lit (.int .u8 50), .lit (.int .u8 38), .lit (.int .u8 29), .lit (.int .u8 17), .lit (.int .u8 4), .lit (.int .u8 62), .lit (.int .u8 47), .lit (.int .u8 59), .lit (.int .u8 36), .lit (.int .u8 45), .lit (.int .u8 43), .lit (.int .u8 51), .lit (.int .u8 22), .lit (.int .u8 53), .lit (.int .u8 39), .lit (.int .u8 33), .lit (.int .u8 30), .lit (.int .u8 24), .lit (.int .u8 18), .lit (.int .u8 12), .lit (.int .u8 5), .lit (.int .u8 63), .lit (.int .u8 55), .lit (.int .u8 48), .lit (.int .u8 27), .lit (.int .u8 60), .lit (.int .u8 41), .lit (.int .u8 37), .lit (.int .u8 16), .lit (.int .u8 46), .lit (.int .u8 35), .lit (.int .u8 44), .lit (.int .u8 21), .lit (.int .u8 52), .lit (.int .u8 32), .lit (.int .u8 23), .lit (.int .u8 11), .lit (.int .u8 54), .lit (.int .u8 26), .lit (.int .u8 40), .lit (.int .u8 15), .lit (.int .u8 34), .lit (.int .u8 20), .lit (.int .u8 31), .lit (.int .u8 10), .lit (.int .u8 25), .lit (.int .u8 14), .lit (.int .u8 19), .lit (.int .u8 9), .lit (.int .u8 13), .lit (.int .u8 8), .lit (.int .u8 7), .lit (.int .u8 6)]
def laid_vernier_format_rows {H : Type} : DataW H := .agg [.agg [.lit (.int .i64 16), .lit (.int .i64 11), .lit (.int .i64 (-14)), .lit (.int .i64 15)], .agg [.lit (.int .i64 16), .lit (.int .i64 8), .lit (.int .i64 (-126)), .lit (.int .i64 127)], .agg [.lit (.int .i64 32), .lit (.int .i64 24), .lit (.int .i64 (-126)), .lit (.int .i64 127)], .agg [.lit (.int .i64 64), .lit (.int .i64 53), .lit (.int .i64 (-1022)), .lit (.int .i64 1023)]]

/-- 'vernierlaw07.MulMachine': WHATEVER THE INPUT: true; the input reads as it did. -/
def mulMachineSpec : ChangeSpec := { name := "mulMachine", fn := fun _ => fun
  | [d1, d2] => { results := [.lit (.bool true)], args := [d1, d2] }
  | _ => none }
def mulMachineRow : OpenClaim := { program := "ytcgceigmglikpaadoor", sum := "0ec9a1b9acd3a84550c4b061a331919aac8ed51800e8f0af965051fef8719af4", func := "vernier/vernierlaw07.MulMachine", spec := "mulMachine", inPlace := ["math/bits.Add64", "math.Float64frombits", "math.Float64bits"], unfollowed := true, recurses := true, named := ["vernier/format.rows", "math/bits.deBruijn64tab"], apart := false, laid := [("math/bits.deBruijn64tab", laid_math_bits_deBruijn64tab), ("vernier/format.rows", laid_vernier_format_rows)] }
def MulMachineSaid : Prop := mulMachineRow.holds Tryd.pinned (OpenSpec.ofChange mulMachineSpec)

/-- ITS FALSE NEIGHBOUR: 'it returns false'. Refute it at one input. -/
def mulMachineWrong : ChangeSpec := { name := "mulMachine", fn := fun _ => fun
  | [d1, d2] => { results := [.lit (.bool false)], args := [d1, d2] }
  | _ => none }
def MulMachineWrongFalsely : Prop := mulMachineRow.holds Tryd.pinned (OpenSpec.ofChange mulMachineWrong)

/-- 'vernierlaw07.MulMachineSingle': WHATEVER THE INPUT: true; the input reads as it did. -/
def mulMachineSingleSpec : ChangeSpec := { name := "mulMachineSingle", fn := fun _ => fun
  | [d1, d2] => { results := [.lit (.bool true)], args := [d1, d2] }
  | _ => none }
def mulMachineSingleRow : OpenClaim := { program := "ytcgceigmglikpaadoor", sum := "0ec9a1b9acd3a84550c4b061a331919aac8ed51800e8f0af965051fef8719af4", func := "vernier/vernierlaw07.MulMachineSingle", spec := "mulMachineSingle", inPlace := ["math/bits.Add64", "math.Float32frombits", "math.Float32bits"], unfollowed := true, recurses := true, named := ["vernier/format.rows", "math/bits.deBruijn64tab"], apart := false, laid := [("math/bits.deBruijn64tab", laid_math_bits_deBruijn64tab), ("vernier/format.rows", laid_vernier_format_rows)] }
def MulMachineSingleSaid : Prop := mulMachineSingleRow.holds Tryd.pinned (OpenSpec.ofChange mulMachineSingleSpec)

/-- ITS FALSE NEIGHBOUR: 'it returns false'. Refute it at one input. -/
def mulMachineSingleWrong : ChangeSpec := { name := "mulMachineSingle", fn := fun _ => fun
  | [d1, d2] => { results := [.lit (.bool false)], args := [d1, d2] }
  | _ => none }
def MulMachineSingleWrongFalsely : Prop := mulMachineSingleRow.holds Tryd.pinned (OpenSpec.ofChange mulMachineSingleWrong)

/-- 'vernierlaw07.MulExacts': WHATEVER THE INPUT: true; the input reads as it did. -/
def mulExactsSpec : ChangeSpec := { name := "mulExacts", fn := fun _ => fun
  | [d] => { results := [.lit (.bool true)], args := [d] }
  | _ => none }
def mulExactsRow : OpenClaim := { program := "ytcgceigmglikpaadoor", sum := "0ec9a1b9acd3a84550c4b061a331919aac8ed51800e8f0af965051fef8719af4", func := "vernier/vernierlaw07.MulExacts", spec := "mulExacts", inPlace := ["math/bits.Add64"], unfollowed := true, recurses := true, named := ["vernier/format.rows", "math/bits.deBruijn64tab"], apart := false, laid := [("math/bits.deBruijn64tab", laid_math_bits_deBruijn64tab), ("vernier/format.rows", laid_vernier_format_rows)] }
def MulExactsSaid : Prop := mulExactsRow.holds Tryd.pinned (OpenSpec.ofChange mulExactsSpec)

/-- ITS FALSE NEIGHBOUR: 'it returns false'. Refute it at one input. -/
def mulExactsWrong : ChangeSpec := { name := "mulExacts", fn := fun _ => fun
  | [d] => { results := [.lit (.bool false)], args := [d] }
  | _ => none }
def MulExactsWrongFalsely : Prop := mulExactsRow.holds Tryd.pinned (OpenSpec.ofChange mulExactsWrong)

/-- 'vernierlaw07.MulTurns': WHATEVER THE INPUT: true; the input reads as it did. -/
def mulTurnsSpec : ChangeSpec := { name := "mulTurns", fn := fun _ => fun
  | [d] => { results := [.lit (.bool true)], args := [d] }
  | _ => none }
def mulTurnsRow : OpenClaim := { program := "ytcgceigmglikpaadoor", sum := "0ec9a1b9acd3a84550c4b061a331919aac8ed51800e8f0af965051fef8719af4", func := "vernier/vernierlaw07.MulTurns", spec := "mulTurns", inPlace := ["math/bits.Add64"], unfollowed := true, recurses := true, named := ["vernier/format.rows", "math/bits.deBruijn64tab"], apart := false, laid := [("math/bits.deBruijn64tab", laid_math_bits_deBruijn64tab), ("vernier/format.rows", laid_vernier_format_rows)] }
def MulTurnsSaid : Prop := mulTurnsRow.holds Tryd.pinned (OpenSpec.ofChange mulTurnsSpec)

/-- ITS FALSE NEIGHBOUR: 'it returns false'. Refute it at one input. -/
def mulTurnsWrong : ChangeSpec := { name := "mulTurns", fn := fun _ => fun
  | [d] => { results := [.lit (.bool false)], args := [d] }
  | _ => none }
def MulTurnsWrongFalsely : Prop := mulTurnsRow.holds Tryd.pinned (OpenSpec.ofChange mulTurnsWrong)

/-- 'vernierlaw07.MulRises': WHATEVER THE INPUT: true; the input reads as it did. -/
def mulRisesSpec : ChangeSpec := { name := "mulRises", fn := fun _ => fun
  | [d1, d2] => { results := [.lit (.bool true)], args := [d1, d2] }
  | _ => none }
def mulRisesRow : OpenClaim := { program := "ytcgceigmglikpaadoor", sum := "0ec9a1b9acd3a84550c4b061a331919aac8ed51800e8f0af965051fef8719af4", func := "vernier/vernierlaw07.MulRises", spec := "mulRises", inPlace := ["math/bits.Add64"], unfollowed := true, recurses := true, named := ["vernier/format.rows", "math/bits.deBruijn64tab"], apart := false, laid := [("math/bits.deBruijn64tab", laid_math_bits_deBruijn64tab), ("vernier/format.rows", laid_vernier_format_rows)] }
def MulRisesSaid : Prop := mulRisesRow.holds Tryd.pinned (OpenSpec.ofChange mulRisesSpec)

/-- ITS FALSE NEIGHBOUR: 'it returns false'. Refute it at one input. -/
def mulRisesWrong : ChangeSpec := { name := "mulRises", fn := fun _ => fun
  | [d1, d2] => { results := [.lit (.bool false)], args := [d1, d2] }
  | _ => none }
def MulRisesWrongFalsely : Prop := mulRisesRow.holds Tryd.pinned (OpenSpec.ofChange mulRisesWrong)

/-- 'vernierlaw07.MulDoubles': WHATEVER THE INPUT: true; the input reads as it did. -/
def mulDoublesSpec : ChangeSpec := { name := "mulDoubles", fn := fun _ => fun
  | [d] => { results := [.lit (.bool true)], args := [d] }
  | _ => none }
def mulDoublesRow : OpenClaim := { program := "ytcgceigmglikpaadoor", sum := "0ec9a1b9acd3a84550c4b061a331919aac8ed51800e8f0af965051fef8719af4", func := "vernier/vernierlaw07.MulDoubles", spec := "mulDoubles", inPlace := ["math/bits.Add64", "math/bits.Sub64"], unfollowed := true, recurses := true, named := ["vernier/format.rows", "math/bits.deBruijn64tab"], apart := false, laid := [("math/bits.deBruijn64tab", laid_math_bits_deBruijn64tab), ("vernier/format.rows", laid_vernier_format_rows)] }
def MulDoublesSaid : Prop := mulDoublesRow.holds Tryd.pinned (OpenSpec.ofChange mulDoublesSpec)

/-- ITS FALSE NEIGHBOUR: 'it returns false'. Refute it at one input. -/
def mulDoublesWrong : ChangeSpec := { name := "mulDoubles", fn := fun _ => fun
  | [d] => { results := [.lit (.bool false)], args := [d] }
  | _ => none }
def MulDoublesWrongFalsely : Prop := mulDoublesRow.holds Tryd.pinned (OpenSpec.ofChange mulDoublesWrong)

/-- 'vernierlaw07.MulBetween': WHATEVER THE INPUT: true; the input reads as it did. -/
def mulBetweenSpec : ChangeSpec := { name := "mulBetween", fn := fun _ => fun
  | [d] => { results := [.lit (.bool true)], args := [d] }
  | _ => none }
def mulBetweenRow : OpenClaim := { program := "ytcgceigmglikpaadoor", sum := "0ec9a1b9acd3a84550c4b061a331919aac8ed51800e8f0af965051fef8719af4", func := "vernier/vernierlaw07.MulBetween", spec := "mulBetween", inPlace := ["math/bits.Add64", "math/bits.Sub64"], unfollowed := true, recurses := true, named := ["vernier/format.rows", "math/bits.deBruijn64tab"], apart := false, laid := [("math/bits.deBruijn64tab", laid_math_bits_deBruijn64tab), ("vernier/format.rows", laid_vernier_format_rows)] }
def MulBetweenSaid : Prop := mulBetweenRow.holds Tryd.pinned (OpenSpec.ofChange mulBetweenSpec)

/-- ITS FALSE NEIGHBOUR: 'it returns false'. Refute it at one input. -/
def mulBetweenWrong : ChangeSpec := { name := "mulBetween", fn := fun _ => fun
  | [d] => { results := [.lit (.bool false)], args := [d] }
  | _ => none }
def MulBetweenWrongFalsely : Prop := mulBetweenRow.holds Tryd.pinned (OpenSpec.ofChange mulBetweenWrong)

/-- 'vernierlaw09.FusedLayers': WHATEVER THE INPUT: true; the input reads as it did. -/
def fusedLayersSpec : ChangeSpec := { name := "fusedLayers", fn := fun _ => fun
  | [d] => { results := [.lit (.bool true)], args := [d] }
  | _ => none }
def fusedLayersRow : OpenClaim := { program := "ytcgceigmglikpaadoor", sum := "0ec9a1b9acd3a84550c4b061a331919aac8ed51800e8f0af965051fef8719af4", func := "vernier/vernierlaw09.FusedLayers", spec := "fusedLayers", inPlace := ["math/bits.Add64", "math/bits.Sub64"], unfollowed := true, recurses := true, named := ["vernier/format.rows", "math/bits.deBruijn64tab"], apart := false, laid := [("math/bits.deBruijn64tab", laid_math_bits_deBruijn64tab), ("vernier/format.rows", laid_vernier_format_rows)] }
def FusedLayersSaid : Prop := fusedLayersRow.holds Tryd.pinned (OpenSpec.ofChange fusedLayersSpec)

/-- ITS FALSE NEIGHBOUR: 'it returns false'. Refute it at one input. -/
def fusedLayersWrong : ChangeSpec := { name := "fusedLayers", fn := fun _ => fun
  | [d] => { results := [.lit (.bool false)], args := [d] }
  | _ => none }
def FusedLayersWrongFalsely : Prop := fusedLayersRow.holds Tryd.pinned (OpenSpec.ofChange fusedLayersWrong)

/-- 'vernierlaw09.FusedModes': WHATEVER THE INPUT: true; the input reads as it did. -/
def fusedModesSpec : ChangeSpec := { name := "fusedModes", fn := fun _ => fun
  | [d] => { results := [.lit (.bool true)], args := [d] }
  | _ => none }
def fusedModesRow : OpenClaim := { program := "ytcgceigmglikpaadoor", sum := "0ec9a1b9acd3a84550c4b061a331919aac8ed51800e8f0af965051fef8719af4", func := "vernier/vernierlaw09.FusedModes", spec := "fusedModes", inPlace := ["math/bits.Add64", "math/bits.Sub64"], unfollowed := true, recurses := true, named := ["vernier/format.rows", "math/bits.deBruijn64tab"], apart := false, laid := [("math/bits.deBruijn64tab", laid_math_bits_deBruijn64tab), ("vernier/format.rows", laid_vernier_format_rows)] }
def FusedModesSaid : Prop := fusedModesRow.holds Tryd.pinned (OpenSpec.ofChange fusedModesSpec)

/-- ITS FALSE NEIGHBOUR: 'it returns false'. Refute it at one input. -/
def fusedModesWrong : ChangeSpec := { name := "fusedModes", fn := fun _ => fun
  | [d] => { results := [.lit (.bool false)], args := [d] }
  | _ => none }
def FusedModesWrongFalsely : Prop := fusedModesRow.holds Tryd.pinned (OpenSpec.ofChange fusedModesWrong)

/-- 'vernierlaw09.FusedSigns': WHATEVER THE INPUT: true; the input reads as it did. -/
def fusedSignsSpec : ChangeSpec := { name := "fusedSigns", fn := fun _ => fun
  | [d] => { results := [.lit (.bool true)], args := [d] }
  | _ => none }
def fusedSignsRow : OpenClaim := { program := "ytcgceigmglikpaadoor", sum := "0ec9a1b9acd3a84550c4b061a331919aac8ed51800e8f0af965051fef8719af4", func := "vernier/vernierlaw09.FusedSigns", spec := "fusedSigns", inPlace := ["math/bits.Add64", "math/bits.Sub64"], unfollowed := true, recurses := true, named := ["vernier/format.rows", "math/bits.deBruijn64tab"], apart := false, laid := [("math/bits.deBruijn64tab", laid_math_bits_deBruijn64tab), ("vernier/format.rows", laid_vernier_format_rows)] }
def FusedSignsSaid : Prop := fusedSignsRow.holds Tryd.pinned (OpenSpec.ofChange fusedSignsSpec)

/-- ITS FALSE NEIGHBOUR: 'it returns false'. Refute it at one input. -/
def fusedSignsWrong : ChangeSpec := { name := "fusedSigns", fn := fun _ => fun
  | [d] => { results := [.lit (.bool false)], args := [d] }
  | _ => none }
def FusedSignsWrongFalsely : Prop := fusedSignsRow.holds Tryd.pinned (OpenSpec.ofChange fusedSignsWrong)

/-- 'vernierlaw09.FusedRest': WHATEVER THE INPUT: true; the input reads as it did. -/
def fusedRestSpec : ChangeSpec := { name := "fusedRest", fn := fun _ => fun
  | [d] => { results := [.lit (.bool true)], args := [d] }
  | _ => none }
def fusedRestRow : OpenClaim := { program := "ytcgceigmglikpaadoor", sum := "0ec9a1b9acd3a84550c4b061a331919aac8ed51800e8f0af965051fef8719af4", func := "vernier/vernierlaw09.FusedRest", spec := "fusedRest", inPlace := ["math/bits.Add64", "math/bits.Sub64"], unfollowed := true, recurses := true, named := ["vernier/format.rows", "math/bits.deBruijn64tab"], apart := false, laid := [("math/bits.deBruijn64tab", laid_math_bits_deBruijn64tab), ("vernier/format.rows", laid_vernier_format_rows)] }
def FusedRestSaid : Prop := fusedRestRow.holds Tryd.pinned (OpenSpec.ofChange fusedRestSpec)

/-- ITS FALSE NEIGHBOUR: 'it returns false'. Refute it at one input. -/
def fusedRestWrong : ChangeSpec := { name := "fusedRest", fn := fun _ => fun
  | [d] => { results := [.lit (.bool false)], args := [d] }
  | _ => none }
def FusedRestWrongFalsely : Prop := fusedRestRow.holds Tryd.pinned (OpenSpec.ofChange fusedRestWrong)

/-- 'vernierlaw09.FusedPlain': WHATEVER THE INPUT: true; the input reads as it did. -/
def fusedPlainSpec : ChangeSpec := { name := "fusedPlain", fn := fun _ => fun
  | [d] => { results := [.lit (.bool true)], args := [d] }
  | _ => none }
def fusedPlainRow : OpenClaim := { program := "ytcgceigmglikpaadoor", sum := "0ec9a1b9acd3a84550c4b061a331919aac8ed51800e8f0af965051fef8719af4", func := "vernier/vernierlaw09.FusedPlain", spec := "fusedPlain", inPlace := ["math/bits.Add64", "math/bits.Sub64"], unfollowed := true, recurses := true, named := ["vernier/format.rows", "math/bits.deBruijn64tab"], apart := false, laid := [("math/bits.deBruijn64tab", laid_math_bits_deBruijn64tab), ("vernier/format.rows", laid_vernier_format_rows)] }
def FusedPlainSaid : Prop := fusedPlainRow.holds Tryd.pinned (OpenSpec.ofChange fusedPlainSpec)

/-- ITS FALSE NEIGHBOUR: 'it returns false'. Refute it at one input. -/
def fusedPlainWrong : ChangeSpec := { name := "fusedPlain", fn := fun _ => fun
  | [d] => { results := [.lit (.bool false)], args := [d] }
  | _ => none }
def FusedPlainWrongFalsely : Prop := fusedPlainRow.holds Tryd.pinned (OpenSpec.ofChange fusedPlainWrong)

/- THE SECOND FORM. 'bulk': how many values and letters a reading holds, each counted each time it is reached (what is shared counts as often as it is met; a slice's spare places count too). A statement '..UptoSaid' is the law's where the arguments, and the package variables that the reading takes, are together of bulk at most 1048576: NARROWER than '..Said'. Prove '..Said' where nothing that the law and all that it calls make is longer than what came in: it says more and counts as full. Else prove '..UptoSaid'. A law counts once. -/
mutual
def uptoBulk {H : Type} : DataW H → Nat
  | .lit (.string bytes) => bytes.length + 1
  | .lit _ => 1
  | .nil => 1
  | .ptr d => uptoBulk d + 1
  | .slice elems spare => uptoBulkAll elems + uptoBulkAll spare + 1
  | .agg parts => uptoBulkAll parts + 1
  | .iface _ d => uptoBulk d + 1
  | .map entries => uptoBulkEntries entries + 1
  | .held _ => 1
def uptoBulkAll {H : Type} : List (DataW H) → Nat
  | [] => 0
  | d :: r => uptoBulk d + uptoBulkAll r
def uptoBulkEntries {H : Type} : List (Lit × DataW H) → Nat
  | [] => 0
  | x :: r => uptoBulkEntry x + uptoBulkEntries r
def uptoBulkEntry {H : Type} : Lit × DataW H → Nat
  | (.string bytes, d) => bytes.length + uptoBulk d + 1
  | (_, d) => uptoBulk d + 1
 end
def uptoSmall : (H : Type) → List (DataW H) → Bool := fun _ ds => decide (uptoBulkAll ds ≤ 1048576)
def OpenSpec.upto (s : _root_.Go.ChangeSpec) : _root_.Go.OpenSpec := { _root_.Go.OpenSpec.ofChange s with cond := some uptoSmall }

/-- 'vernierlaw07.MulMachine', WHERE WHAT IT READS IS OF BULK AT MOST 1048576: true; the input reads as it did. -/
def mulMachineUptoRow : OpenClaim := { program := "ytcgceigmglikpaadoor", sum := "0ec9a1b9acd3a84550c4b061a331919aac8ed51800e8f0af965051fef8719af4", func := "vernier/vernierlaw07.MulMachine", spec := "mulMachine", inPlace := ["math/bits.Add64", "math.Float64frombits", "math.Float64bits"], unfollowed := true, recurses := true, named := ["vernier/format.rows", "math/bits.deBruijn64tab"], apart := false, laid := [("math/bits.deBruijn64tab", laid_math_bits_deBruijn64tab), ("vernier/format.rows", laid_vernier_format_rows)], narrowed := true }
def MulMachineUptoSaid : Prop := mulMachineUptoRow.holds Tryd.pinned (OpenSpec.upto mulMachineSpec)

/-- 'vernierlaw07.MulMachineSingle', WHERE WHAT IT READS IS OF BULK AT MOST 1048576: true; the input reads as it did. -/
def mulMachineSingleUptoRow : OpenClaim := { program := "ytcgceigmglikpaadoor", sum := "0ec9a1b9acd3a84550c4b061a331919aac8ed51800e8f0af965051fef8719af4", func := "vernier/vernierlaw07.MulMachineSingle", spec := "mulMachineSingle", inPlace := ["math/bits.Add64", "math.Float32frombits", "math.Float32bits"], unfollowed := true, recurses := true, named := ["vernier/format.rows", "math/bits.deBruijn64tab"], apart := false, laid := [("math/bits.deBruijn64tab", laid_math_bits_deBruijn64tab), ("vernier/format.rows", laid_vernier_format_rows)], narrowed := true }
def MulMachineSingleUptoSaid : Prop := mulMachineSingleUptoRow.holds Tryd.pinned (OpenSpec.upto mulMachineSingleSpec)

/-- 'vernierlaw07.MulExacts', WHERE WHAT IT READS IS OF BULK AT MOST 1048576: true; the input reads as it did. -/
def mulExactsUptoRow : OpenClaim := { program := "ytcgceigmglikpaadoor", sum := "0ec9a1b9acd3a84550c4b061a331919aac8ed51800e8f0af965051fef8719af4", func := "vernier/vernierlaw07.MulExacts", spec := "mulExacts", inPlace := ["math/bits.Add64"], unfollowed := true, recurses := true, named := ["vernier/format.rows", "math/bits.deBruijn64tab"], apart := false, laid := [("math/bits.deBruijn64tab", laid_math_bits_deBruijn64tab), ("vernier/format.rows", laid_vernier_format_rows)], narrowed := true }
def MulExactsUptoSaid : Prop := mulExactsUptoRow.holds Tryd.pinned (OpenSpec.upto mulExactsSpec)

/-- 'vernierlaw07.MulTurns', WHERE WHAT IT READS IS OF BULK AT MOST 1048576: true; the input reads as it did. -/
def mulTurnsUptoRow : OpenClaim := { program := "ytcgceigmglikpaadoor", sum := "0ec9a1b9acd3a84550c4b061a331919aac8ed51800e8f0af965051fef8719af4", func := "vernier/vernierlaw07.MulTurns", spec := "mulTurns", inPlace := ["math/bits.Add64"], unfollowed := true, recurses := true, named := ["vernier/format.rows", "math/bits.deBruijn64tab"], apart := false, laid := [("math/bits.deBruijn64tab", laid_math_bits_deBruijn64tab), ("vernier/format.rows", laid_vernier_format_rows)], narrowed := true }
def MulTurnsUptoSaid : Prop := mulTurnsUptoRow.holds Tryd.pinned (OpenSpec.upto mulTurnsSpec)

/-- 'vernierlaw07.MulRises', WHERE WHAT IT READS IS OF BULK AT MOST 1048576: true; the input reads as it did. -/
def mulRisesUptoRow : OpenClaim := { program := "ytcgceigmglikpaadoor", sum := "0ec9a1b9acd3a84550c4b061a331919aac8ed51800e8f0af965051fef8719af4", func := "vernier/vernierlaw07.MulRises", spec := "mulRises", inPlace := ["math/bits.Add64"], unfollowed := true, recurses := true, named := ["vernier/format.rows", "math/bits.deBruijn64tab"], apart := false, laid := [("math/bits.deBruijn64tab", laid_math_bits_deBruijn64tab), ("vernier/format.rows", laid_vernier_format_rows)], narrowed := true }
def MulRisesUptoSaid : Prop := mulRisesUptoRow.holds Tryd.pinned (OpenSpec.upto mulRisesSpec)

/-- 'vernierlaw07.MulDoubles', WHERE WHAT IT READS IS OF BULK AT MOST 1048576: true; the input reads as it did. -/
def mulDoublesUptoRow : OpenClaim := { program := "ytcgceigmglikpaadoor", sum := "0ec9a1b9acd3a84550c4b061a331919aac8ed51800e8f0af965051fef8719af4", func := "vernier/vernierlaw07.MulDoubles", spec := "mulDoubles", inPlace := ["math/bits.Add64", "math/bits.Sub64"], unfollowed := true, recurses := true, named := ["vernier/format.rows", "math/bits.deBruijn64tab"], apart := false, laid := [("math/bits.deBruijn64tab", laid_math_bits_deBruijn64tab), ("vernier/format.rows", laid_vernier_format_rows)], narrowed := true }
def MulDoublesUptoSaid : Prop := mulDoublesUptoRow.holds Tryd.pinned (OpenSpec.upto mulDoublesSpec)

/-- 'vernierlaw07.MulBetween', WHERE WHAT IT READS IS OF BULK AT MOST 1048576: true; the input reads as it did. -/
def mulBetweenUptoRow : OpenClaim := { program := "ytcgceigmglikpaadoor", sum := "0ec9a1b9acd3a84550c4b061a331919aac8ed51800e8f0af965051fef8719af4", func := "vernier/vernierlaw07.MulBetween", spec := "mulBetween", inPlace := ["math/bits.Add64", "math/bits.Sub64"], unfollowed := true, recurses := true, named := ["vernier/format.rows", "math/bits.deBruijn64tab"], apart := false, laid := [("math/bits.deBruijn64tab", laid_math_bits_deBruijn64tab), ("vernier/format.rows", laid_vernier_format_rows)], narrowed := true }
def MulBetweenUptoSaid : Prop := mulBetweenUptoRow.holds Tryd.pinned (OpenSpec.upto mulBetweenSpec)

/-- 'vernierlaw09.FusedLayers', WHERE WHAT IT READS IS OF BULK AT MOST 1048576: true; the input reads as it did. -/
def fusedLayersUptoRow : OpenClaim := { program := "ytcgceigmglikpaadoor", sum := "0ec9a1b9acd3a84550c4b061a331919aac8ed51800e8f0af965051fef8719af4", func := "vernier/vernierlaw09.FusedLayers", spec := "fusedLayers", inPlace := ["math/bits.Add64", "math/bits.Sub64"], unfollowed := true, recurses := true, named := ["vernier/format.rows", "math/bits.deBruijn64tab"], apart := false, laid := [("math/bits.deBruijn64tab", laid_math_bits_deBruijn64tab), ("vernier/format.rows", laid_vernier_format_rows)], narrowed := true }
def FusedLayersUptoSaid : Prop := fusedLayersUptoRow.holds Tryd.pinned (OpenSpec.upto fusedLayersSpec)

/-- 'vernierlaw09.FusedModes', WHERE WHAT IT READS IS OF BULK AT MOST 1048576: true; the input reads as it did. -/
def fusedModesUptoRow : OpenClaim := { program := "ytcgceigmglikpaadoor", sum := "0ec9a1b9acd3a84550c4b061a331919aac8ed51800e8f0af965051fef8719af4", func := "vernier/vernierlaw09.FusedModes", spec := "fusedModes", inPlace := ["math/bits.Add64", "math/bits.Sub64"], unfollowed := true, recurses := true, named := ["vernier/format.rows", "math/bits.deBruijn64tab"], apart := false, laid := [("math/bits.deBruijn64tab", laid_math_bits_deBruijn64tab), ("vernier/format.rows", laid_vernier_format_rows)], narrowed := true }
def FusedModesUptoSaid : Prop := fusedModesUptoRow.holds Tryd.pinned (OpenSpec.upto fusedModesSpec)

/-- 'vernierlaw09.FusedSigns', WHERE WHAT IT READS IS OF BULK AT MOST 1048576: true; the input reads as it did. -/
def fusedSignsUptoRow : OpenClaim := { program := "ytcgceigmglikpaadoor", sum := "0ec9a1b9acd3a84550c4b061a331919aac8ed51800e8f0af965051fef8719af4", func := "vernier/vernierlaw09.FusedSigns", spec := "fusedSigns", inPlace := ["math/bits.Add64", "math/bits.Sub64"], unfollowed := true, recurses := true, named := ["vernier/format.rows", "math/bits.deBruijn64tab"], apart := false, laid := [("math/bits.deBruijn64tab", laid_math_bits_deBruijn64tab), ("vernier/format.rows", laid_vernier_format_rows)], narrowed := true }
def FusedSignsUptoSaid : Prop := fusedSignsUptoRow.holds Tryd.pinned (OpenSpec.upto fusedSignsSpec)

/-- 'vernierlaw09.FusedRest', WHERE WHAT IT READS IS OF BULK AT MOST 1048576: true; the input reads as it did. -/
def fusedRestUptoRow : OpenClaim := { program := "ytcgceigmglikpaadoor", sum := "0ec9a1b9acd3a84550c4b061a331919aac8ed51800e8f0af965051fef8719af4", func := "vernier/vernierlaw09.FusedRest", spec := "fusedRest", inPlace := ["math/bits.Add64", "math/bits.Sub64"], unfollowed := true, recurses := true, named := ["vernier/format.rows", "math/bits.deBruijn64tab"], apart := false, laid := [("math/bits.deBruijn64tab", laid_math_bits_deBruijn64tab), ("vernier/format.rows", laid_vernier_format_rows)], narrowed := true }
def FusedRestUptoSaid : Prop := fusedRestUptoRow.holds Tryd.pinned (OpenSpec.upto fusedRestSpec)

/-- 'vernierlaw09.FusedPlain', WHERE WHAT IT READS IS OF BULK AT MOST 1048576: true; the input reads as it did. -/
def fusedPlainUptoRow : OpenClaim := { program := "ytcgceigmglikpaadoor", sum := "0ec9a1b9acd3a84550c4b061a331919aac8ed51800e8f0af965051fef8719af4", func := "vernier/vernierlaw09.FusedPlain", spec := "fusedPlain", inPlace := ["math/bits.Add64", "math/bits.Sub64"], unfollowed := true, recurses := true, named := ["vernier/format.rows", "math/bits.deBruijn64tab"], apart := false, laid := [("math/bits.deBruijn64tab", laid_math_bits_deBruijn64tab), ("vernier/format.rows", laid_vernier_format_rows)], narrowed := true }
def FusedPlainUptoSaid : Prop := fusedPlainUptoRow.holds Tryd.pinned (OpenSpec.upto fusedPlainSpec)

end Rows
end Go.Proofs.YtcgceigmglikpaaDoor
