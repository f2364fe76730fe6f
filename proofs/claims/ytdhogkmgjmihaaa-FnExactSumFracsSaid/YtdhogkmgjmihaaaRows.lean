/-
  No cell of these rows narrows 'for every input' (looked for: loops, veiled, ifaces, maps, wideKeys, modest, calm, conditions, laid).
  DERIVED. THE GIVEN ROWS OF THIS SEAT. 12 by the template 'for every input the law returns true; each argument reads behind the call as it read before'; 0 by the template 'total and deterministic' (their statements: YtdhogkmgjmihaaaTotals.lean).
  GIVEN WITH THE SEED: the statements are not yours to turn. If you find one false, say at which input.
  Laid BY PROGRAM, IN A SANDBOX (cutbox-rows.mjs): the forced cells as the released guide's own fill.sh prints them over the translation 0a32dc6f5158e525… (all of the seat's roots in one cut). By AI agents, Wed Nov 11 2026. No macro, syntax, notation, axiom, sorry.
-/
import Derived.Test.YtdhogkmgjmihaaaChecked
import GoSem.Claim
import GoSem.ClaimJoined
import GoSem.ClaimMapViews
import Derived.JoinedTies
import Derived.KernelRfl
namespace Go.Proofs.Ytdhogkmgjmihaaa
/- THE CELL 'sum', in the pinned program and in every row, IS THE sha256 OF THE DUMP (.gsa) THAT YtdhogkmgjmihaaaProg.lean LOADS. Nothing in Lean hashes anything: it is a label: what it is worth is what the hold of that sum in a sandbox is worth. -/
noncomputable def Try.pinned : Pinned := { name := "ytdhogkmgjmihaaa", sum := "0a32dc6f5158e525ab0b34718f30a7741af1bfe3ced95528c785dce42b504743", checked := Try.checked }
namespace Rows
def none {H : Type} : Left H := { results := [], args := [] }

/-- 'laws.FnExactConstants': WHATEVER THE INPUT: true; the input reads as it did. -/
def fnExactConstantsSpec : ChangeSpec := { name := "fnExactConstants", fn := fun _ => fun
  | [] => { results := [.lit (.bool true)], args := [] }
  | _ => none }
def fnExactConstantsRow : OpenClaim := { program := "ytdhogkmgjmihaaa", sum := "0a32dc6f5158e525ab0b34718f30a7741af1bfe3ced95528c785dce42b504743", func := "loop.example/g00908/laws.FnExactConstants", spec := "fnExactConstants", apart := false }
def FnExactConstantsSaid : Prop := fnExactConstantsRow.holds Try.pinned (OpenSpec.ofChange fnExactConstantsSpec)

/-- ITS FALSE NEIGHBOUR: 'it returns false'. Refute it at one input. -/
def fnExactConstantsWrong : ChangeSpec := { name := "fnExactConstants", fn := fun _ => fun
  | [] => { results := [.lit (.bool false)], args := [] }
  | _ => none }
def FnExactConstantsWrongFalsely : Prop := fnExactConstantsRow.holds Try.pinned (OpenSpec.ofChange fnExactConstantsWrong)

/-- 'laws.FnExactIsFrac': WHATEVER THE INPUT: true; the input reads as it did. -/
def fnExactIsFracSpec : ChangeSpec := { name := "fnExactIsFrac", fn := fun _ => fun
  | [d] => { results := [.lit (.bool true)], args := [d] }
  | _ => none }
def fnExactIsFracRow : OpenClaim := { program := "ytdhogkmgjmihaaa", sum := "0a32dc6f5158e525ab0b34718f30a7741af1bfe3ced95528c785dce42b504743", func := "loop.example/g00908/laws.FnExactIsFrac", spec := "fnExactIsFrac", apart := false }
def FnExactIsFracSaid : Prop := fnExactIsFracRow.holds Try.pinned (OpenSpec.ofChange fnExactIsFracSpec)

/-- ITS FALSE NEIGHBOUR: 'it returns false'. Refute it at one input. -/
def fnExactIsFracWrong : ChangeSpec := { name := "fnExactIsFrac", fn := fun _ => fun
  | [d] => { results := [.lit (.bool false)], args := [d] }
  | _ => none }
def FnExactIsFracWrongFalsely : Prop := fnExactIsFracRow.holds Try.pinned (OpenSpec.ofChange fnExactIsFracWrong)

/-- 'laws.FnExactFloorFrac': WHATEVER THE INPUT: true; the input reads as it did. -/
def fnExactFloorFracSpec : ChangeSpec := { name := "fnExactFloorFrac", fn := fun _ => fun
  | [d] => { results := [.lit (.bool true)], args := [d] }
  | _ => none }
def fnExactFloorFracRow : OpenClaim := { program := "ytdhogkmgjmihaaa", sum := "0a32dc6f5158e525ab0b34718f30a7741af1bfe3ced95528c785dce42b504743", func := "loop.example/g00908/laws.FnExactFloorFrac", spec := "fnExactFloorFrac", apart := false }
def FnExactFloorFracSaid : Prop := fnExactFloorFracRow.holds Try.pinned (OpenSpec.ofChange fnExactFloorFracSpec)

/-- ITS FALSE NEIGHBOUR: 'it returns false'. Refute it at one input. -/
def fnExactFloorFracWrong : ChangeSpec := { name := "fnExactFloorFrac", fn := fun _ => fun
  | [d] => { results := [.lit (.bool false)], args := [d] }
  | _ => none }
def FnExactFloorFracWrongFalsely : Prop := fnExactFloorFracRow.holds Try.pinned (OpenSpec.ofChange fnExactFloorFracWrong)

/-- 'laws.FnExactCompareFrac': WHATEVER THE INPUT: true; the input reads as it did. -/
def fnExactCompareFracSpec : ChangeSpec := { name := "fnExactCompareFrac", fn := fun _ => fun
  | [d1, d2] => { results := [.lit (.bool true)], args := [d1, d2] }
  | _ => none }
def fnExactCompareFracRow : OpenClaim := { program := "ytdhogkmgjmihaaa", sum := "0a32dc6f5158e525ab0b34718f30a7741af1bfe3ced95528c785dce42b504743", func := "loop.example/g00908/laws.FnExactCompareFrac", spec := "fnExactCompareFrac", apart := false }
def FnExactCompareFracSaid : Prop := fnExactCompareFracRow.holds Try.pinned (OpenSpec.ofChange fnExactCompareFracSpec)

/-- ITS FALSE NEIGHBOUR: 'it returns false'. Refute it at one input. -/
def fnExactCompareFracWrong : ChangeSpec := { name := "fnExactCompareFrac", fn := fun _ => fun
  | [d1, d2] => { results := [.lit (.bool false)], args := [d1, d2] }
  | _ => none }
def FnExactCompareFracWrongFalsely : Prop := fnExactCompareFracRow.holds Try.pinned (OpenSpec.ofChange fnExactCompareFracWrong)

/-- 'laws.FnExactMakeFrac': WHATEVER THE INPUT: true; the input reads as it did. -/
def fnExactMakeFracSpec : ChangeSpec := { name := "fnExactMakeFrac", fn := fun _ => fun
  | [d1, d2] => { results := [.lit (.bool true)], args := [d1, d2] }
  | _ => none }
def fnExactMakeFracRow : OpenClaim := { program := "ytdhogkmgjmihaaa", sum := "0a32dc6f5158e525ab0b34718f30a7741af1bfe3ced95528c785dce42b504743", func := "loop.example/g00908/laws.FnExactMakeFrac", spec := "fnExactMakeFrac", apart := false }
def FnExactMakeFracSaid : Prop := fnExactMakeFracRow.holds Try.pinned (OpenSpec.ofChange fnExactMakeFracSpec)

/-- ITS FALSE NEIGHBOUR: 'it returns false'. Refute it at one input. -/
def fnExactMakeFracWrong : ChangeSpec := { name := "fnExactMakeFrac", fn := fun _ => fun
  | [d1, d2] => { results := [.lit (.bool false)], args := [d1, d2] }
  | _ => none }
def FnExactMakeFracWrongFalsely : Prop := fnExactMakeFracRow.holds Try.pinned (OpenSpec.ofChange fnExactMakeFracWrong)

/-- 'laws.FnExactRoundFrac': WHATEVER THE INPUT: true; the input reads as it did. -/
def fnExactRoundFracSpec : ChangeSpec := { name := "fnExactRoundFrac", fn := fun _ => fun
  | [d] => { results := [.lit (.bool true)], args := [d] }
  | _ => none }
def fnExactRoundFracRow : OpenClaim := { program := "ytdhogkmgjmihaaa", sum := "0a32dc6f5158e525ab0b34718f30a7741af1bfe3ced95528c785dce42b504743", func := "loop.example/g00908/laws.FnExactRoundFrac", spec := "fnExactRoundFrac", apart := false }
def FnExactRoundFracSaid : Prop := fnExactRoundFracRow.holds Try.pinned (OpenSpec.ofChange fnExactRoundFracSpec)

/-- ITS FALSE NEIGHBOUR: 'it returns false'. Refute it at one input. -/
def fnExactRoundFracWrong : ChangeSpec := { name := "fnExactRoundFrac", fn := fun _ => fun
  | [d] => { results := [.lit (.bool false)], args := [d] }
  | _ => none }
def FnExactRoundFracWrongFalsely : Prop := fnExactRoundFracRow.holds Try.pinned (OpenSpec.ofChange fnExactRoundFracWrong)

/-- 'laws.FnExactAddFrac': WHATEVER THE INPUT: true; the input reads as it did. -/
def fnExactAddFracSpec : ChangeSpec := { name := "fnExactAddFrac", fn := fun _ => fun
  | [d1, d2] => { results := [.lit (.bool true)], args := [d1, d2] }
  | _ => none }
def fnExactAddFracRow : OpenClaim := { program := "ytdhogkmgjmihaaa", sum := "0a32dc6f5158e525ab0b34718f30a7741af1bfe3ced95528c785dce42b504743", func := "loop.example/g00908/laws.FnExactAddFrac", spec := "fnExactAddFrac", apart := false }
def FnExactAddFracSaid : Prop := fnExactAddFracRow.holds Try.pinned (OpenSpec.ofChange fnExactAddFracSpec)

/-- ITS FALSE NEIGHBOUR: 'it returns false'. Refute it at one input. -/
def fnExactAddFracWrong : ChangeSpec := { name := "fnExactAddFrac", fn := fun _ => fun
  | [d1, d2] => { results := [.lit (.bool false)], args := [d1, d2] }
  | _ => none }
def FnExactAddFracWrongFalsely : Prop := fnExactAddFracRow.holds Try.pinned (OpenSpec.ofChange fnExactAddFracWrong)

/-- 'laws.FnExactMulFrac': WHATEVER THE INPUT: true; the input reads as it did. -/
def fnExactMulFracSpec : ChangeSpec := { name := "fnExactMulFrac", fn := fun _ => fun
  | [d1, d2] => { results := [.lit (.bool true)], args := [d1, d2] }
  | _ => none }
def fnExactMulFracRow : OpenClaim := { program := "ytdhogkmgjmihaaa", sum := "0a32dc6f5158e525ab0b34718f30a7741af1bfe3ced95528c785dce42b504743", func := "loop.example/g00908/laws.FnExactMulFrac", spec := "fnExactMulFrac", apart := false }
def FnExactMulFracSaid : Prop := fnExactMulFracRow.holds Try.pinned (OpenSpec.ofChange fnExactMulFracSpec)

/-- ITS FALSE NEIGHBOUR: 'it returns false'. Refute it at one input. -/
def fnExactMulFracWrong : ChangeSpec := { name := "fnExactMulFrac", fn := fun _ => fun
  | [d1, d2] => { results := [.lit (.bool false)], args := [d1, d2] }
  | _ => none }
def FnExactMulFracWrongFalsely : Prop := fnExactMulFracRow.holds Try.pinned (OpenSpec.ofChange fnExactMulFracWrong)

/-- 'laws.FnExactSubFrac': WHATEVER THE INPUT: true; the input reads as it did. -/
def fnExactSubFracSpec : ChangeSpec := { name := "fnExactSubFrac", fn := fun _ => fun
  | [d1, d2] => { results := [.lit (.bool true)], args := [d1, d2] }
  | _ => none }
def fnExactSubFracRow : OpenClaim := { program := "ytdhogkmgjmihaaa", sum := "0a32dc6f5158e525ab0b34718f30a7741af1bfe3ced95528c785dce42b504743", func := "loop.example/g00908/laws.FnExactSubFrac", spec := "fnExactSubFrac", apart := false }
def FnExactSubFracSaid : Prop := fnExactSubFracRow.holds Try.pinned (OpenSpec.ofChange fnExactSubFracSpec)

/-- ITS FALSE NEIGHBOUR: 'it returns false'. Refute it at one input. -/
def fnExactSubFracWrong : ChangeSpec := { name := "fnExactSubFrac", fn := fun _ => fun
  | [d1, d2] => { results := [.lit (.bool false)], args := [d1, d2] }
  | _ => none }
def FnExactSubFracWrongFalsely : Prop := fnExactSubFracRow.holds Try.pinned (OpenSpec.ofChange fnExactSubFracWrong)

/-- 'laws.FnExactDivFrac': WHATEVER THE INPUT: true; the input reads as it did. -/
def fnExactDivFracSpec : ChangeSpec := { name := "fnExactDivFrac", fn := fun _ => fun
  | [d1, d2] => { results := [.lit (.bool true)], args := [d1, d2] }
  | _ => none }
def fnExactDivFracRow : OpenClaim := { program := "ytdhogkmgjmihaaa", sum := "0a32dc6f5158e525ab0b34718f30a7741af1bfe3ced95528c785dce42b504743", func := "loop.example/g00908/laws.FnExactDivFrac", spec := "fnExactDivFrac", apart := false }
def FnExactDivFracSaid : Prop := fnExactDivFracRow.holds Try.pinned (OpenSpec.ofChange fnExactDivFracSpec)

/-- ITS FALSE NEIGHBOUR: 'it returns false'. Refute it at one input. -/
def fnExactDivFracWrong : ChangeSpec := { name := "fnExactDivFrac", fn := fun _ => fun
  | [d1, d2] => { results := [.lit (.bool false)], args := [d1, d2] }
  | _ => none }
def FnExactDivFracWrongFalsely : Prop := fnExactDivFracRow.holds Try.pinned (OpenSpec.ofChange fnExactDivFracWrong)

/-- 'laws.FnExactPowFrac': WHATEVER THE INPUT: true; the input reads as it did. -/
def fnExactPowFracSpec : ChangeSpec := { name := "fnExactPowFrac", fn := fun _ => fun
  | [d1, d2] => { results := [.lit (.bool true)], args := [d1, d2] }
  | _ => none }
def fnExactPowFracRow : OpenClaim := { program := "ytdhogkmgjmihaaa", sum := "0a32dc6f5158e525ab0b34718f30a7741af1bfe3ced95528c785dce42b504743", func := "loop.example/g00908/laws.FnExactPowFrac", spec := "fnExactPowFrac", apart := false }
def FnExactPowFracSaid : Prop := fnExactPowFracRow.holds Try.pinned (OpenSpec.ofChange fnExactPowFracSpec)

/-- ITS FALSE NEIGHBOUR: 'it returns false'. Refute it at one input. -/
def fnExactPowFracWrong : ChangeSpec := { name := "fnExactPowFrac", fn := fun _ => fun
  | [d1, d2] => { results := [.lit (.bool false)], args := [d1, d2] }
  | _ => none }
def FnExactPowFracWrongFalsely : Prop := fnExactPowFracRow.holds Try.pinned (OpenSpec.ofChange fnExactPowFracWrong)

/-- 'laws.FnExactSumFracs': WHATEVER THE INPUT: true; the input reads as it did. -/
def fnExactSumFracsSpec : ChangeSpec := { name := "fnExactSumFracs", fn := fun _ => fun
  | [d] => { results := [.lit (.bool true)], args := [d] }
  | _ => none }
def fnExactSumFracsRow : OpenClaim := { program := "ytdhogkmgjmihaaa", sum := "0a32dc6f5158e525ab0b34718f30a7741af1bfe3ced95528c785dce42b504743", func := "loop.example/g00908/laws.FnExactSumFracs", spec := "fnExactSumFracs", apart := false }
def FnExactSumFracsSaid : Prop := fnExactSumFracsRow.holds Try.pinned (OpenSpec.ofChange fnExactSumFracsSpec)

/-- ITS FALSE NEIGHBOUR: 'it returns false'. Refute it at one input. -/
def fnExactSumFracsWrong : ChangeSpec := { name := "fnExactSumFracs", fn := fun _ => fun
  | [d] => { results := [.lit (.bool false)], args := [d] }
  | _ => none }
def FnExactSumFracsWrongFalsely : Prop := fnExactSumFracsRow.holds Try.pinned (OpenSpec.ofChange fnExactSumFracsWrong)

/- THE SECOND FORM. 'bulk': how many values and letters a reading holds, each counted each time it is reached (what is shared counts as often as it is met; a slice's spare places count too). A statement '..UptoSaid' is the law's where the arguments, and the package variables that the reading takes, are together of bulk at most 1048576: NARROWER than '..Said'. Prove '..Said' where nothing that the law and all that it calls make is longer than what came in: it says more and counts as full. Else prove '..UptoSaid'. A law counts once. -/
mutual
def uptoBulk {H : Type} : DataW H → Nat
  | .lit (.string bytes) => bytes.length + 1
  | .lit _ => 1
  | .nil => 1
  | .ptr d => uptoBulk d + 1
  | .slice elems spare => uptoBulkAll elems + uptoBulkAll spare + 1
  | .agg parts => uptoBulkAll parts + 1
  | .iface _ d => uptoBulk d + 1
  | .map entries => uptoBulkEntries entries + 1
  | .held _ => 1
def uptoBulkAll {H : Type} : List (DataW H) → Nat
  | [] => 0
  | d :: r => uptoBulk d + uptoBulkAll r
def uptoBulkEntries {H : Type} : List (Lit × DataW H) → Nat
  | [] => 0
  | x :: r => uptoBulkEntry x + uptoBulkEntries r
def uptoBulkEntry {H : Type} : Lit × DataW H → Nat
  | (.string bytes, d) => bytes.length + uptoBulk d + 1
  | (_, d) => uptoBulk d + 1
 end
def uptoSmall : (H : Type) → List (DataW H) → Bool := fun _ ds => decide (uptoBulkAll ds ≤ 1048576)
def OpenSpec.upto (s : _root_.Go.ChangeSpec) : _root_.Go.OpenSpec := { _root_.Go.OpenSpec.ofChange s with cond := some uptoSmall }

/-- 'laws.FnExactConstants', WHERE WHAT IT READS IS OF BULK AT MOST 1048576: true; the input reads as it did. -/
def fnExactConstantsUptoRow : OpenClaim := { program := "ytdhogkmgjmihaaa", sum := "0a32dc6f5158e525ab0b34718f30a7741af1bfe3ced95528c785dce42b504743", func := "loop.example/g00908/laws.FnExactConstants", spec := "fnExactConstants", apart := false, narrowed := true }
def FnExactConstantsUptoSaid : Prop := fnExactConstantsUptoRow.holds Try.pinned (OpenSpec.upto fnExactConstantsSpec)

/-- 'laws.FnExactIsFrac', WHERE WHAT IT READS IS OF BULK AT MOST 1048576: true; the input reads as it did. -/
def fnExactIsFracUptoRow : OpenClaim := { program := "ytdhogkmgjmihaaa", sum := "0a32dc6f5158e525ab0b34718f30a7741af1bfe3ced95528c785dce42b504743", func := "loop.example/g00908/laws.FnExactIsFrac", spec := "fnExactIsFrac", apart := false, narrowed := true }
def FnExactIsFracUptoSaid : Prop := fnExactIsFracUptoRow.holds Try.pinned (OpenSpec.upto fnExactIsFracSpec)

/-- 'laws.FnExactFloorFrac', WHERE WHAT IT READS IS OF BULK AT MOST 1048576: true; the input reads as it did. -/
def fnExactFloorFracUptoRow : OpenClaim := { program := "ytdhogkmgjmihaaa", sum := "0a32dc6f5158e525ab0b34718f30a7741af1bfe3ced95528c785dce42b504743", func := "loop.example/g00908/laws.FnExactFloorFrac", spec := "fnExactFloorFrac", apart := false, narrowed := true }
def FnExactFloorFracUptoSaid : Prop := fnExactFloorFracUptoRow.holds Try.pinned (OpenSpec.upto fnExactFloorFracSpec)

/-- 'laws.FnExactCompareFrac', WHERE WHAT IT READS IS OF BULK AT MOST 1048576: true; the input reads as it did. -/
def fnExactCompareFracUptoRow : OpenClaim := { program := "ytdhogkmgjmihaaa", sum := "0a32dc6f5158e525ab0b34718f30a7741af1bfe3ced95528c785dce42b504743", func := "loop.example/g00908/laws.FnExactCompareFrac", spec := "fnExactCompareFrac", apart := false, narrowed := true }
def FnExactCompareFracUptoSaid : Prop := fnExactCompareFracUptoRow.holds Try.pinned (OpenSpec.upto fnExactCompareFracSpec)

/-- 'laws.FnExactMakeFrac', WHERE WHAT IT READS IS OF BULK AT MOST 1048576: true; the input reads as it did. -/
def fnExactMakeFracUptoRow : OpenClaim := { program := "ytdhogkmgjmihaaa", sum := "0a32dc6f5158e525ab0b34718f30a7741af1bfe3ced95528c785dce42b504743", func := "loop.example/g00908/laws.FnExactMakeFrac", spec := "fnExactMakeFrac", apart := false, narrowed := true }
def FnExactMakeFracUptoSaid : Prop := fnExactMakeFracUptoRow.holds Try.pinned (OpenSpec.upto fnExactMakeFracSpec)

/-- 'laws.FnExactRoundFrac', WHERE WHAT IT READS IS OF BULK AT MOST 1048576: true; the input reads as it did. -/
def fnExactRoundFracUptoRow : OpenClaim := { program := "ytdhogkmgjmihaaa", sum := "0a32dc6f5158e525ab0b34718f30a7741af1bfe3ced95528c785dce42b504743", func := "loop.example/g00908/laws.FnExactRoundFrac", spec := "fnExactRoundFrac", apart := false, narrowed := true }
def FnExactRoundFracUptoSaid : Prop := fnExactRoundFracUptoRow.holds Try.pinned (OpenSpec.upto fnExactRoundFracSpec)

/-- 'laws.FnExactAddFrac', WHERE WHAT IT READS IS OF BULK AT MOST 1048576: true; the input reads as it did. -/
def fnExactAddFracUptoRow : OpenClaim := { program := "ytdhogkmgjmihaaa", sum := "0a32dc6f5158e525ab0b34718f30a7741af1bfe3ced95528c785dce42b504743", func := "loop.example/g00908/laws.FnExactAddFrac", spec := "fnExactAddFrac", apart := false, narrowed := true }
def FnExactAddFracUptoSaid : Prop := fnExactAddFracUptoRow.holds Try.pinned (OpenSpec.upto fnExactAddFracSpec)

/-- 'laws.FnExactMulFrac', WHERE WHAT IT READS IS OF BULK AT MOST 1048576: true; the input reads as it did. -/
def fnExactMulFracUptoRow : OpenClaim := { program := "ytdhogkmgjmihaaa", sum := "0a32dc6f5158e525ab0b34718f30a7741af1bfe3ced95528c785dce42b504743", func := "loop.example/g00908/laws.FnExactMulFrac", spec := "fnExactMulFrac", apart := false, narrowed := true }
def FnExactMulFracUptoSaid : Prop := fnExactMulFracUptoRow.holds Try.pinned (OpenSpec.upto fnExactMulFracSpec)

/-- 'laws.FnExactSubFrac', WHERE WHAT IT READS IS OF BULK AT MOST 1048576: true; the input reads as it did. -/
def fnExactSubFracUptoRow : OpenClaim := { program := "ytdhogkmgjmihaaa", sum := "0a32dc6f5158e525ab0b34718f30a7741af1bfe3ced95528c785dce42b504743", func := "loop.example/g00908/laws.FnExactSubFrac", spec := "fnExactSubFrac", apart := false, narrowed := true }
def FnExactSubFracUptoSaid : Prop := fnExactSubFracUptoRow.holds Try.pinned (OpenSpec.upto fnExactSubFracSpec)

/-- 'laws.FnExactDivFrac', WHERE WHAT IT READS IS OF BULK AT MOST 1048576: true; the input reads as it did. -/
def fnExactDivFracUptoRow : OpenClaim := { program := "ytdhogkmgjmihaaa", sum := "0a32dc6f5158e525ab0b34718f30a7741af1bfe3ced95528c785dce42b504743", func := "loop.example/g00908/laws.FnExactDivFrac", spec := "fnExactDivFrac", apart := false, narrowed := true }
def FnExactDivFracUptoSaid : Prop := fnExactDivFracUptoRow.holds Try.pinned (OpenSpec.upto fnExactDivFracSpec)

/-- 'laws.FnExactPowFrac', WHERE WHAT IT READS IS OF BULK AT MOST 1048576: true; the input reads as it did. -/
def fnExactPowFracUptoRow : OpenClaim := { program := "ytdhogkmgjmihaaa", sum := "0a32dc6f5158e525ab0b34718f30a7741af1bfe3ced95528c785dce42b504743", func := "loop.example/g00908/laws.FnExactPowFrac", spec := "fnExactPowFrac", apart := false, narrowed := true }
def FnExactPowFracUptoSaid : Prop := fnExactPowFracUptoRow.holds Try.pinned (OpenSpec.upto fnExactPowFracSpec)

/-- 'laws.FnExactSumFracs', WHERE WHAT IT READS IS OF BULK AT MOST 1048576: true; the input reads as it did. -/
def fnExactSumFracsUptoRow : OpenClaim := { program := "ytdhogkmgjmihaaa", sum := "0a32dc6f5158e525ab0b34718f30a7741af1bfe3ced95528c785dce42b504743", func := "loop.example/g00908/laws.FnExactSumFracs", spec := "fnExactSumFracs", apart := false, narrowed := true }
def FnExactSumFracsUptoSaid : Prop := fnExactSumFracsUptoRow.holds Try.pinned (OpenSpec.upto fnExactSumFracsSpec)

end Rows
end Go.Proofs.Ytdhogkmgjmihaaa
