/-
  NARROWER THAN 'FOR EVERY INPUT', by the rows' own cells (each row's printed sentence says how): DyadSums: laid · DyadOrder: laid · DyadShapes: laid · DyadBounds: laid · DyadRing: laid · DyadInts: laid · DyadMemory: laid · DyadAlls: laid.
  DERIVED. THE GIVEN ROWS OF THIS SEAT. 8 by the template 'for every input the law returns true; each argument reads behind the call as it read before'; 0 by the template 'total and deterministic' (their statements: YtomhmbnpkphcmaaDoorTotals.lean).
  GIVEN WITH THE SEED: the statements are not yours to turn. If you find one false, say at which input.
  Laid BY PROGRAM, IN A SANDBOX (cutbox-rows.mjs): the forced cells as the released guide's own fill.sh prints them over the translation 91824b46e5e754be… (all of the seat's roots in one cut). By AI agents, Wed Nov 11 2026. No macro, syntax, notation, axiom, sorry.
-/
import Derived.Test.YtomhmbnpkphcmaaDoorChecked
import GoSem.Claim
import GoSem.ClaimJoined
import GoSem.ClaimMapViews
import Derived.JoinedTies
import Derived.KernelRfl
namespace Go.Proofs.YtomhmbnpkphcmaaDoor
/- THE CELL 'sum', in the pinned program and in every row, IS THE sha256 OF THE DUMP (.gsa) THAT YtomhmbnpkphcmaaDoorProg.lean LOADS. Nothing in Lean hashes anything: it is a label: what it is worth is what the hold of that sum in a sandbox is worth. -/
noncomputable def Tryd.pinned : Pinned := { name := "ytomhmbnpkphcmaadoor", sum := "91824b46e5e754beecc8227a87820ee8c171ba51309a04e5a7f83356979a443b", checked := Tryd.checked }
namespace Rows
def none {H : Type} : Left H := { results := [], args := [] }

/- WHAT THE LISTED PACKAGE-LEVEL VARIABLES READ AS WHEN THE CALL BEGINS. Each datum BY PROGRAM (the guide's laid-datum.mjs) off the statement by which the dump's own 'gosem.cut.vars' lays the variable. In a bare row this is a premise. The card (YtomhmbnpkphcmaaDoorCards.lean) ties it to the program's text. -/
def laid_math_bits_deBruijn64tab {H : Type} : DataW H := .agg [.lit (.int .u8 0), .lit (.int .u8 1), .lit (.int .u8 56), .lit (.int .u8 2), .lit (.int .u8 57), .lit (.int .u8 49), .lit (.int .u8 28), .lit (.int .u8 3), .lit (.int .u8 61), .lit (.int .u8 58), .lit (.int .u8 42), .lit (.int .u8 50), .lit (.int .u8 38), .lit (.int .u8 29), .lit (.int .u8 17), .lit (.int .u8 4), .lit (.int .u8 62), .lit (.int .u8 47), .lit (.int .u8 59), .lit (.int .u8 36), .lit (.int .u8 45), .lit (.int .u8 43), .lit (.int .u8 51), .lit (.int .u8 22), .lit (.int .u8 53), .lit (.int .u8 39), .lit (.int .u8 33), .lit (.int .u8 30), .lit (.int .u8 24), .lit (.int .u8 18), .lit (.int .u8 12), .lit (.int .u8 5), .lit (.int .u8 63), .lit (.int .u8 55), .lit (.int .u8 48), .lit (.int .u8 27), .lit (.int .u8 60), .lit (.int .u8 41), .lit (.int .u8 37), .lit (.int .u8 16), .lit (.int .u8 46), .lit (.int .u8 35), .lit (.int .u8 44), .lit (.int .u8 21), .lit (.int .u8 52), .lit (.int .u8 32), .lit (.int .u8 23), .lit (.int .u8 11), .lit (.int .u8 54), .lit (.int .u8 26), .lit (.int .u8 40), .lit (.int .u8 15), .lit (.int .u8 34), .lit (.int .u8 20), .lit (.int .u8 31), .lit (.int .u8 10), .lit (.int .u8 25), .lit (.int .u8 14), .lit (.int .u8 19), .lit (.int .u8 9), .lit (.int .u8 13), .lit (.int .u8 8), .lit (.int .u8 7), .lit (.int .u8 6)]

/-- 'vernierlaw03.DyadSums': WHATEVER THE INPUT: true; the input reads as it did. -/
def dyadSumsSpec : ChangeSpec := { name := "dyadSums", fn := fun _ => fun
  | [d] => { results := [.lit (.bool true)], args := [d] }
  | _ => none }
def dyadSumsRow : OpenClaim := { program := "ytomhmbnpkphcmaadoor", sum := "91824b46e5e754beecc8227a87820ee8c171ba51309a04e5a7f83356979a443b", func := "vernier/vernierlaw03.DyadSums", spec := "dyadSums", inPlace := ["math/bits.Add64", "math/bits.Sub64"], named := ["math/bits.deBruijn64tab"], apart := false, laid := [("math/bits.deBruijn64tab", laid_math_bits_deBruijn64tab)] }
def DyadSumsSaid : Prop := dyadSumsRow.holds Tryd.pinned (OpenSpec.ofChange dyadSumsSpec)

/-- ITS FALSE NEIGHBOUR: 'it returns false'. Refute it at one input. -/
def dyadSumsWrong : ChangeSpec := { name := "dyadSums", fn := fun _ => fun
  | [d] => { results := [.lit (.bool false)], args := [d] }
  | _ => none }
def DyadSumsWrongFalsely : Prop := dyadSumsRow.holds Tryd.pinned (OpenSpec.ofChange dyadSumsWrong)

/-- 'vernierlaw03.DyadOrder': WHATEVER THE INPUT: true; the input reads as it did. -/
def dyadOrderSpec : ChangeSpec := { name := "dyadOrder", fn := fun _ => fun
  | [d1, d2, d3, d4] => { results := [.lit (.bool true)], args := [d1, d2, d3, d4] }
  | _ => none }
def dyadOrderRow : OpenClaim := { program := "ytomhmbnpkphcmaadoor", sum := "91824b46e5e754beecc8227a87820ee8c171ba51309a04e5a7f83356979a443b", func := "vernier/vernierlaw03.DyadOrder", spec := "dyadOrder", inPlace := ["math/bits.Add64", "math/bits.Sub64"], named := ["math/bits.deBruijn64tab"], apart := false, laid := [("math/bits.deBruijn64tab", laid_math_bits_deBruijn64tab)] }
def DyadOrderSaid : Prop := dyadOrderRow.holds Tryd.pinned (OpenSpec.ofChange dyadOrderSpec)

/-- ITS FALSE NEIGHBOUR: 'it returns false'. Refute it at one input. -/
def dyadOrderWrong : ChangeSpec := { name := "dyadOrder", fn := fun _ => fun
  | [d1, d2, d3, d4] => { results := [.lit (.bool false)], args := [d1, d2, d3, d4] }
  | _ => none }
def DyadOrderWrongFalsely : Prop := dyadOrderRow.holds Tryd.pinned (OpenSpec.ofChange dyadOrderWrong)

/-- 'vernierlaw03.DyadShapes': WHATEVER THE INPUT: true; the input reads as it did. -/
def dyadShapesSpec : ChangeSpec := { name := "dyadShapes", fn := fun _ => fun
  | [d] => { results := [.lit (.bool true)], args := [d] }
  | _ => none }
def dyadShapesRow : OpenClaim := { program := "ytomhmbnpkphcmaadoor", sum := "91824b46e5e754beecc8227a87820ee8c171ba51309a04e5a7f83356979a443b", func := "vernier/vernierlaw03.DyadShapes", spec := "dyadShapes", inPlace := ["math/bits.Add64", "math/bits.Sub64"], named := ["math/bits.deBruijn64tab"], apart := false, laid := [("math/bits.deBruijn64tab", laid_math_bits_deBruijn64tab)] }
def DyadShapesSaid : Prop := dyadShapesRow.holds Tryd.pinned (OpenSpec.ofChange dyadShapesSpec)

/-- ITS FALSE NEIGHBOUR: 'it returns false'. Refute it at one input. -/
def dyadShapesWrong : ChangeSpec := { name := "dyadShapes", fn := fun _ => fun
  | [d] => { results := [.lit (.bool false)], args := [d] }
  | _ => none }
def DyadShapesWrongFalsely : Prop := dyadShapesRow.holds Tryd.pinned (OpenSpec.ofChange dyadShapesWrong)

/-- 'vernierlaw03.DyadBounds': WHATEVER THE INPUT: true; the input reads as it did. -/
def dyadBoundsSpec : ChangeSpec := { name := "dyadBounds", fn := fun _ => fun
  | [d] => { results := [.lit (.bool true)], args := [d] }
  | _ => none }
def dyadBoundsRow : OpenClaim := { program := "ytomhmbnpkphcmaadoor", sum := "91824b46e5e754beecc8227a87820ee8c171ba51309a04e5a7f83356979a443b", func := "vernier/vernierlaw03.DyadBounds", spec := "dyadBounds", inPlace := ["math/bits.Add64", "math/bits.Sub64"], named := ["math/bits.deBruijn64tab"], apart := false, laid := [("math/bits.deBruijn64tab", laid_math_bits_deBruijn64tab)] }
def DyadBoundsSaid : Prop := dyadBoundsRow.holds Tryd.pinned (OpenSpec.ofChange dyadBoundsSpec)

/-- ITS FALSE NEIGHBOUR: 'it returns false'. Refute it at one input. -/
def dyadBoundsWrong : ChangeSpec := { name := "dyadBounds", fn := fun _ => fun
  | [d] => { results := [.lit (.bool false)], args := [d] }
  | _ => none }
def DyadBoundsWrongFalsely : Prop := dyadBoundsRow.holds Tryd.pinned (OpenSpec.ofChange dyadBoundsWrong)

/-- 'vernierlaw03.DyadRing': WHATEVER THE INPUT: true; the input reads as it did. -/
def dyadRingSpec : ChangeSpec := { name := "dyadRing", fn := fun _ => fun
  | [d1, d2, d3] => { results := [.lit (.bool true)], args := [d1, d2, d3] }
  | _ => none }
def dyadRingRow : OpenClaim := { program := "ytomhmbnpkphcmaadoor", sum := "91824b46e5e754beecc8227a87820ee8c171ba51309a04e5a7f83356979a443b", func := "vernier/vernierlaw03.DyadRing", spec := "dyadRing", inPlace := ["math/bits.Add64", "math/bits.Sub64"], named := ["math/bits.deBruijn64tab"], apart := false, laid := [("math/bits.deBruijn64tab", laid_math_bits_deBruijn64tab)] }
def DyadRingSaid : Prop := dyadRingRow.holds Tryd.pinned (OpenSpec.ofChange dyadRingSpec)

/-- ITS FALSE NEIGHBOUR: 'it returns false'. Refute it at one input. -/
def dyadRingWrong : ChangeSpec := { name := "dyadRing", fn := fun _ => fun
  | [d1, d2, d3] => { results := [.lit (.bool false)], args := [d1, d2, d3] }
  | _ => none }
def DyadRingWrongFalsely : Prop := dyadRingRow.holds Tryd.pinned (OpenSpec.ofChange dyadRingWrong)

/-- 'vernierlaw03.DyadInts': WHATEVER THE INPUT: true; the input reads as it did. -/
def dyadIntsSpec : ChangeSpec := { name := "dyadInts", fn := fun _ => fun
  | [d1, d2] => { results := [.lit (.bool true)], args := [d1, d2] }
  | _ => none }
def dyadIntsRow : OpenClaim := { program := "ytomhmbnpkphcmaadoor", sum := "91824b46e5e754beecc8227a87820ee8c171ba51309a04e5a7f83356979a443b", func := "vernier/vernierlaw03.DyadInts", spec := "dyadInts", inPlace := ["math/bits.Add64", "math/bits.Sub64"], named := ["math/bits.deBruijn64tab"], apart := false, laid := [("math/bits.deBruijn64tab", laid_math_bits_deBruijn64tab)] }
def DyadIntsSaid : Prop := dyadIntsRow.holds Tryd.pinned (OpenSpec.ofChange dyadIntsSpec)

/-- ITS FALSE NEIGHBOUR: 'it returns false'. Refute it at one input. -/
def dyadIntsWrong : ChangeSpec := { name := "dyadInts", fn := fun _ => fun
  | [d1, d2] => { results := [.lit (.bool false)], args := [d1, d2] }
  | _ => none }
def DyadIntsWrongFalsely : Prop := dyadIntsRow.holds Tryd.pinned (OpenSpec.ofChange dyadIntsWrong)

/-- 'vernierlaw03.DyadMemory': WHATEVER THE INPUT: true; the input reads as it did. -/
def dyadMemorySpec : ChangeSpec := { name := "dyadMemory", fn := fun _ => fun
  | [d1, d2, d3] => { results := [.lit (.bool true)], args := [d1, d2, d3] }
  | _ => none }
def dyadMemoryRow : OpenClaim := { program := "ytomhmbnpkphcmaadoor", sum := "91824b46e5e754beecc8227a87820ee8c171ba51309a04e5a7f83356979a443b", func := "vernier/vernierlaw03.DyadMemory", spec := "dyadMemory", inPlace := ["math/bits.Add64", "math/bits.Sub64"], named := ["math/bits.deBruijn64tab"], apart := false, laid := [("math/bits.deBruijn64tab", laid_math_bits_deBruijn64tab)] }
def DyadMemorySaid : Prop := dyadMemoryRow.holds Tryd.pinned (OpenSpec.ofChange dyadMemorySpec)

/-- ITS FALSE NEIGHBOUR: 'it returns false'. Refute it at one input. -/
def dyadMemoryWrong : ChangeSpec := { name := "dyadMemory", fn := fun _ => fun
  | [d1, d2, d3] => { results := [.lit (.bool false)], args := [d1, d2, d3] }
  | _ => none }
def DyadMemoryWrongFalsely : Prop := dyadMemoryRow.holds Tryd.pinned (OpenSpec.ofChange dyadMemoryWrong)

/-- 'vernierlaw03.DyadAlls': WHATEVER THE INPUT: true; the input reads as it did. -/
def dyadAllsSpec : ChangeSpec := { name := "dyadAlls", fn := fun _ => fun
  | [d] => { results := [.lit (.bool true)], args := [d] }
  | _ => none }
def dyadAllsRow : OpenClaim := { program := "ytomhmbnpkphcmaadoor", sum := "91824b46e5e754beecc8227a87820ee8c171ba51309a04e5a7f83356979a443b", func := "vernier/vernierlaw03.DyadAlls", spec := "dyadAlls", inPlace := ["math/bits.Add64", "math/bits.Sub64"], named := ["math/bits.deBruijn64tab"], apart := false, laid := [("math/bits.deBruijn64tab", laid_math_bits_deBruijn64tab)] }
def DyadAllsSaid : Prop := dyadAllsRow.holds Tryd.pinned (OpenSpec.ofChange dyadAllsSpec)

/-- ITS FALSE NEIGHBOUR: 'it returns false'. Refute it at one input. -/
def dyadAllsWrong : ChangeSpec := { name := "dyadAlls", fn := fun _ => fun
  | [d] => { results := [.lit (.bool false)], args := [d] }
  | _ => none }
def DyadAllsWrongFalsely : Prop := dyadAllsRow.holds Tryd.pinned (OpenSpec.ofChange dyadAllsWrong)

/- THE SECOND FORM. 'bulk': how many values and letters a reading holds, each counted each time it is reached (what is shared counts as often as it is met; a slice's spare places count too). A statement '..UptoSaid' is the law's where the arguments, and the package variables that the reading takes, are together of bulk at most 1048576: NARROWER than '..Said'. Prove '..Said' where nothing that the law and all that it calls make is longer than what came in: it says more and counts as full. Else prove '..UptoSaid'. A law counts once. -/
mutual
def uptoBulk {H : Type} : DataW H → Nat
  | .lit (.string bytes) => bytes.length + 1
  | .lit _ => 1
  | .nil => 1
  | .ptr d => uptoBulk d + 1
  | .slice elems spare => uptoBulkAll elems + uptoBulkAll spare + 1
  | .agg parts => uptoBulkAll parts + 1
  | .iface _ d => uptoBulk d + 1
  | .map entries => uptoBulkEntries entries + 1
  | .held _ => 1
def uptoBulkAll {H : Type} : List (DataW H) → Nat
  | [] => 0
  | d :: r => uptoBulk d + uptoBulkAll r
def uptoBulkEntries {H : Type} : List (Lit × DataW H) → Nat
  | [] => 0
  | x :: r => uptoBulkEntry x + uptoBulkEntries r
def uptoBulkEntry {H : Type} : Lit × DataW H → Nat
  | (.string bytes, d) => bytes.length + uptoBulk d + 1
  | (_, d) => uptoBulk d + 1
 end
def uptoSmall : (H : Type) → List (DataW H) → Bool := fun _ ds => decide (uptoBulkAll ds ≤ 1048576)
def OpenSpec.upto (s : _root_.Go.ChangeSpec) : _root_.Go.OpenSpec := { _root_.Go.OpenSpec.ofChange s with cond := some uptoSmall }

/-- 'vernierlaw03.DyadSums', WHERE WHAT IT READS IS OF BULK AT MOST 1048576: true; the input reads as it did. -/
def dyadSumsUptoRow : OpenClaim := { program := "ytomhmbnpkphcmaadoor", sum := "91824b46e5e754beecc8227a87820ee8c171ba51309a04e5a7f83356979a443b", func := "vernier/vernierlaw03.DyadSums", spec := "dyadSums", inPlace := ["math/bits.Add64", "math/bits.Sub64"], named := ["math/bits.deBruijn64tab"], apart := false, laid := [("math/bits.deBruijn64tab", laid_math_bits_deBruijn64tab)], narrowed := true }
def DyadSumsUptoSaid : Prop := dyadSumsUptoRow.holds Tryd.pinned (OpenSpec.upto dyadSumsSpec)

/-- 'vernierlaw03.DyadOrder', WHERE WHAT IT READS IS OF BULK AT MOST 1048576: true; the input reads as it did. -/
def dyadOrderUptoRow : OpenClaim := { program := "ytomhmbnpkphcmaadoor", sum := "91824b46e5e754beecc8227a87820ee8c171ba51309a04e5a7f83356979a443b", func := "vernier/vernierlaw03.DyadOrder", spec := "dyadOrder", inPlace := ["math/bits.Add64", "math/bits.Sub64"], named := ["math/bits.deBruijn64tab"], apart := false, laid := [("math/bits.deBruijn64tab", laid_math_bits_deBruijn64tab)], narrowed := true }
def DyadOrderUptoSaid : Prop := dyadOrderUptoRow.holds Tryd.pinned (OpenSpec.upto dyadOrderSpec)

/-- 'vernierlaw03.DyadShapes', WHERE WHAT IT READS IS OF BULK AT MOST 1048576: true; the input reads as it did. -/
def dyadShapesUptoRow : OpenClaim := { program := "ytomhmbnpkphcmaadoor", sum := "91824b46e5e754beecc8227a87820ee8c171ba51309a04e5a7f83356979a443b", func := "vernier/vernierlaw03.DyadShapes", spec := "dyadShapes", inPlace := ["math/bits.Add64", "math/bits.Sub64"], named := ["math/bits.deBruijn64tab"], apart := false, laid := [("math/bits.deBruijn64tab", laid_math_bits_deBruijn64tab)], narrowed := true }
def DyadShapesUptoSaid : Prop := dyadShapesUptoRow.holds Tryd.pinned (OpenSpec.upto dyadShapesSpec)

/-- 'vernierlaw03.DyadBounds', WHERE WHAT IT READS IS OF BULK AT MOST 1048576: true; the input reads as it did. -/
def dyadBoundsUptoRow : OpenClaim := { program := "ytomhmbnpkphcmaadoor", sum := "91824b46e5e754beecc8227a87820ee8c171ba51309a04e5a7f83356979a443b", func := "vernier/vernierlaw03.DyadBounds", spec := "dyadBounds", inPlace := ["math/bits.Add64", "math/bits.Sub64"], named := ["math/bits.deBruijn64tab"], apart := false, laid := [("math/bits.deBruijn64tab", laid_math_bits_deBruijn64tab)], narrowed := true }
def DyadBoundsUptoSaid : Prop := dyadBoundsUptoRow.holds Tryd.pinned (OpenSpec.upto dyadBoundsSpec)

/-- 'vernierlaw03.DyadRing', WHERE WHAT IT READS IS OF BULK AT MOST 1048576: true; the input reads as it did. -/
def dyadRingUptoRow : OpenClaim := { program := "ytomhmbnpkphcmaadoor", sum := "91824b46e5e754beecc8227a87820ee8c171ba51309a04e5a7f83356979a443b", func := "vernier/vernierlaw03.DyadRing", spec := "dyadRing", inPlace := ["math/bits.Add64", "math/bits.Sub64"], named := ["math/bits.deBruijn64tab"], apart := false, laid := [("math/bits.deBruijn64tab", laid_math_bits_deBruijn64tab)], narrowed := true }
def DyadRingUptoSaid : Prop := dyadRingUptoRow.holds Tryd.pinned (OpenSpec.upto dyadRingSpec)

/-- 'vernierlaw03.DyadInts', WHERE WHAT IT READS IS OF BULK AT MOST 1048576: true; the input reads as it did. -/
def dyadIntsUptoRow : OpenClaim := { program := "ytomhmbnpkphcmaadoor", sum := "91824b46e5e754beecc8227a87820ee8c171ba51309a04e5a7f83356979a443b", func := "vernier/vernierlaw03.DyadInts", spec := "dyadInts", inPlace := ["math/bits.Add64", "math/bits.Sub64"], named := ["math/bits.deBruijn64tab"], apart := false, laid := [("math/bits.deBruijn64tab", laid_math_bits_deBruijn64tab)], narrowed := true }
def DyadIntsUptoSaid : Prop := dyadIntsUptoRow.holds Tryd.pinned (OpenSpec.upto dyadIntsSpec)

/-- 'vernierlaw03.DyadMemory', WHERE WHAT IT READS IS OF BULK AT MOST 1048576: true; the input reads as it did. -/
def dyadMemoryUptoRow : OpenClaim := { program := "ytomhmbnpkphcmaadoor", sum := "91824b46e5e754beecc8227a87820ee8c171ba51309a04e5a7f83356979a443b", func := "vernier/vernierlaw03.DyadMemory", spec := "dyadMemory", inPlace := ["math/bits.Add64", "math/bits.Sub64"], named := ["math/bits.deBruijn64tab"], apart := false, laid := [("math/bits.deBruijn64tab", laid_math_bits_deBruijn64tab)], narrowed := true }
def DyadMemoryUptoSaid : Prop := dyadMemoryUptoRow.holds Tryd.pinned (OpenSpec.upto dyadMemorySpec)

/-- 'vernierlaw03.DyadAlls', WHERE WHAT IT READS IS OF BULK AT MOST 1048576: true; the input reads as it did. -/
def dyadAllsUptoRow : OpenClaim := { program := "ytomhmbnpkphcmaadoor", sum := "91824b46e5e754beecc8227a87820ee8c171ba51309a04e5a7f83356979a443b", func := "vernier/vernierlaw03.DyadAlls", spec := "dyadAlls", inPlace := ["math/bits.Add64", "math/bits.Sub64"], named := ["math/bits.deBruijn64tab"], apart := false, laid := [("math/bits.deBruijn64tab", laid_math_bits_deBruijn64tab)], narrowed := true }
def DyadAllsUptoSaid : Prop := dyadAllsUptoRow.holds Tryd.pinned (OpenSpec.upto dyadAllsSpec)

end Rows
end Go.Proofs.YtomhmbnpkphcmaaDoor
