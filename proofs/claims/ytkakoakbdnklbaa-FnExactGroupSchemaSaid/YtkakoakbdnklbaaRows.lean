/-
  No cell of these rows narrows 'for every input' (looked for: loops, veiled, ifaces, maps, wideKeys, modest, calm, conditions, laid).
  DERIVED. THE GIVEN ROWS OF THIS SEAT. 9 by the template 'for every input the law returns true; each argument reads behind the call as it read before'; 0 by the template 'total and deterministic' (their statements: YtkakoakbdnklbaaTotals.lean).
  GIVEN WITH THE SEED: the statements are not yours to turn. If you find one false, say at which input.
  Laid BY PROGRAM, IN A SANDBOX (cutbox-rows.mjs): the forced cells as the released guide's own fill.sh prints them over the translation 2eebb38c9c0b3ff7… (all of the seat's roots in one cut). By AI agents, Wed Nov 11 2026. No macro, syntax, notation, axiom, sorry.
-/
import Derived.Test.YtkakoakbdnklbaaChecked
import GoSem.Claim
import GoSem.ClaimJoined
import GoSem.ClaimMapViews
import Derived.JoinedTies
import Derived.KernelRfl
namespace Go.Proofs.Ytkakoakbdnklbaa
/- THE CELL 'sum', in the pinned program and in every row, IS THE sha256 OF THE DUMP (.gsa) THAT YtkakoakbdnklbaaProg.lean LOADS. Nothing in Lean hashes anything: it is a label: what it is worth is what the hold of that sum in a sandbox is worth. -/
noncomputable def Try.pinned : Pinned := { name := "ytkakoakbdnklbaa", sum := "2eebb38c9c0b3ff78a47bcca8af7f85414e5ee8e38e1629eaf76d895af50e4b4", checked := Try.checked }
namespace Rows
def none {H : Type} : Left H := { results := [], args := [] }

/-- 'laws.FnExactIsSchema': WHATEVER THE INPUT: true; the input reads as it did. -/
def fnExactIsSchemaSpec : ChangeSpec := { name := "fnExactIsSchema", fn := fun _ => fun
  | [d] => { results := [.lit (.bool true)], args := [d] }
  | _ => none }
def fnExactIsSchemaRow : OpenClaim := { program := "ytkakoakbdnklbaa", sum := "2eebb38c9c0b3ff78a47bcca8af7f85414e5ee8e38e1629eaf76d895af50e4b4", func := "loop.example/g00908/laws.FnExactIsSchema", spec := "fnExactIsSchema", apart := false }
def FnExactIsSchemaSaid : Prop := fnExactIsSchemaRow.holds Try.pinned (OpenSpec.ofChange fnExactIsSchemaSpec)

/-- ITS FALSE NEIGHBOUR: 'it returns false'. Refute it at one input. -/
def fnExactIsSchemaWrong : ChangeSpec := { name := "fnExactIsSchema", fn := fun _ => fun
  | [d] => { results := [.lit (.bool false)], args := [d] }
  | _ => none }
def FnExactIsSchemaWrongFalsely : Prop := fnExactIsSchemaRow.holds Try.pinned (OpenSpec.ofChange fnExactIsSchemaWrong)

/-- 'laws.FnExactCombinationCount': WHATEVER THE INPUT: true; the input reads as it did. -/
def fnExactCombinationCountSpec : ChangeSpec := { name := "fnExactCombinationCount", fn := fun _ => fun
  | [d] => { results := [.lit (.bool true)], args := [d] }
  | _ => none }
def fnExactCombinationCountRow : OpenClaim := { program := "ytkakoakbdnklbaa", sum := "2eebb38c9c0b3ff78a47bcca8af7f85414e5ee8e38e1629eaf76d895af50e4b4", func := "loop.example/g00908/laws.FnExactCombinationCount", spec := "fnExactCombinationCount", apart := false }
def FnExactCombinationCountSaid : Prop := fnExactCombinationCountRow.holds Try.pinned (OpenSpec.ofChange fnExactCombinationCountSpec)

/-- ITS FALSE NEIGHBOUR: 'it returns false'. Refute it at one input. -/
def fnExactCombinationCountWrong : ChangeSpec := { name := "fnExactCombinationCount", fn := fun _ => fun
  | [d] => { results := [.lit (.bool false)], args := [d] }
  | _ => none }
def FnExactCombinationCountWrongFalsely : Prop := fnExactCombinationCountRow.holds Try.pinned (OpenSpec.ofChange fnExactCombinationCountWrong)

/-- 'laws.FnExactVariableIndex': WHATEVER THE INPUT: true; the input reads as it did. -/
def fnExactVariableIndexSpec : ChangeSpec := { name := "fnExactVariableIndex", fn := fun _ => fun
  | [d1, d2] => { results := [.lit (.bool true)], args := [d1, d2] }
  | _ => none }
def fnExactVariableIndexRow : OpenClaim := { program := "ytkakoakbdnklbaa", sum := "2eebb38c9c0b3ff78a47bcca8af7f85414e5ee8e38e1629eaf76d895af50e4b4", func := "loop.example/g00908/laws.FnExactVariableIndex", spec := "fnExactVariableIndex", unfollowed := true, recurses := true, apart := false }
def FnExactVariableIndexSaid : Prop := fnExactVariableIndexRow.holds Try.pinned (OpenSpec.ofChange fnExactVariableIndexSpec)

/-- ITS FALSE NEIGHBOUR: 'it returns false'. Refute it at one input. -/
def fnExactVariableIndexWrong : ChangeSpec := { name := "fnExactVariableIndex", fn := fun _ => fun
  | [d1, d2] => { results := [.lit (.bool false)], args := [d1, d2] }
  | _ => none }
def FnExactVariableIndexWrongFalsely : Prop := fnExactVariableIndexRow.holds Try.pinned (OpenSpec.ofChange fnExactVariableIndexWrong)

/-- 'laws.FnExactCombinationIndex': WHATEVER THE INPUT: true; the input reads as it did. -/
def fnExactCombinationIndexSpec : ChangeSpec := { name := "fnExactCombinationIndex", fn := fun _ => fun
  | [d1, d2] => { results := [.lit (.bool true)], args := [d1, d2] }
  | _ => none }
def fnExactCombinationIndexRow : OpenClaim := { program := "ytkakoakbdnklbaa", sum := "2eebb38c9c0b3ff78a47bcca8af7f85414e5ee8e38e1629eaf76d895af50e4b4", func := "loop.example/g00908/laws.FnExactCombinationIndex", spec := "fnExactCombinationIndex", apart := false }
def FnExactCombinationIndexSaid : Prop := fnExactCombinationIndexRow.holds Try.pinned (OpenSpec.ofChange fnExactCombinationIndexSpec)

/-- ITS FALSE NEIGHBOUR: 'it returns false'. Refute it at one input. -/
def fnExactCombinationIndexWrong : ChangeSpec := { name := "fnExactCombinationIndex", fn := fun _ => fun
  | [d1, d2] => { results := [.lit (.bool false)], args := [d1, d2] }
  | _ => none }
def FnExactCombinationIndexWrongFalsely : Prop := fnExactCombinationIndexRow.holds Try.pinned (OpenSpec.ofChange fnExactCombinationIndexWrong)

/-- 'laws.FnExactValueDistance': WHATEVER THE INPUT: true; the input reads as it did. -/
def fnExactValueDistanceSpec : ChangeSpec := { name := "fnExactValueDistance", fn := fun _ => fun
  | [d1, d2, d3] => { results := [.lit (.bool true)], args := [d1, d2, d3] }
  | _ => none }
def fnExactValueDistanceRow : OpenClaim := { program := "ytkakoakbdnklbaa", sum := "2eebb38c9c0b3ff78a47bcca8af7f85414e5ee8e38e1629eaf76d895af50e4b4", func := "loop.example/g00908/laws.FnExactValueDistance", spec := "fnExactValueDistance", apart := false }
def FnExactValueDistanceSaid : Prop := fnExactValueDistanceRow.holds Try.pinned (OpenSpec.ofChange fnExactValueDistanceSpec)

/-- ITS FALSE NEIGHBOUR: 'it returns false'. Refute it at one input. -/
def fnExactValueDistanceWrong : ChangeSpec := { name := "fnExactValueDistance", fn := fun _ => fun
  | [d1, d2, d3] => { results := [.lit (.bool false)], args := [d1, d2, d3] }
  | _ => none }
def FnExactValueDistanceWrongFalsely : Prop := fnExactValueDistanceRow.holds Try.pinned (OpenSpec.ofChange fnExactValueDistanceWrong)

/-- 'laws.FnExactCombinationAt': WHATEVER THE INPUT: true; the input reads as it did. -/
def fnExactCombinationAtSpec : ChangeSpec := { name := "fnExactCombinationAt", fn := fun _ => fun
  | [d1, d2] => { results := [.lit (.bool true)], args := [d1, d2] }
  | _ => none }
def fnExactCombinationAtRow : OpenClaim := { program := "ytkakoakbdnklbaa", sum := "2eebb38c9c0b3ff78a47bcca8af7f85414e5ee8e38e1629eaf76d895af50e4b4", func := "loop.example/g00908/laws.FnExactCombinationAt", spec := "fnExactCombinationAt", apart := false }
def FnExactCombinationAtSaid : Prop := fnExactCombinationAtRow.holds Try.pinned (OpenSpec.ofChange fnExactCombinationAtSpec)

/-- ITS FALSE NEIGHBOUR: 'it returns false'. Refute it at one input. -/
def fnExactCombinationAtWrong : ChangeSpec := { name := "fnExactCombinationAt", fn := fun _ => fun
  | [d1, d2] => { results := [.lit (.bool false)], args := [d1, d2] }
  | _ => none }
def FnExactCombinationAtWrongFalsely : Prop := fnExactCombinationAtRow.holds Try.pinned (OpenSpec.ofChange fnExactCombinationAtWrong)

/-- 'laws.FnExactIsGrouping': WHATEVER THE INPUT: true; the input reads as it did. -/
def fnExactIsGroupingSpec : ChangeSpec := { name := "fnExactIsGrouping", fn := fun _ => fun
  | [d1, d2] => { results := [.lit (.bool true)], args := [d1, d2] }
  | _ => none }
def fnExactIsGroupingRow : OpenClaim := { program := "ytkakoakbdnklbaa", sum := "2eebb38c9c0b3ff78a47bcca8af7f85414e5ee8e38e1629eaf76d895af50e4b4", func := "loop.example/g00908/laws.FnExactIsGrouping", spec := "fnExactIsGrouping", apart := false }
def FnExactIsGroupingSaid : Prop := fnExactIsGroupingRow.holds Try.pinned (OpenSpec.ofChange fnExactIsGroupingSpec)

/-- ITS FALSE NEIGHBOUR: 'it returns false'. Refute it at one input. -/
def fnExactIsGroupingWrong : ChangeSpec := { name := "fnExactIsGrouping", fn := fun _ => fun
  | [d1, d2] => { results := [.lit (.bool false)], args := [d1, d2] }
  | _ => none }
def FnExactIsGroupingWrongFalsely : Prop := fnExactIsGroupingRow.holds Try.pinned (OpenSpec.ofChange fnExactIsGroupingWrong)

/-- 'laws.FnExactGroupSchema': WHATEVER THE INPUT: true; the input reads as it did. -/
def fnExactGroupSchemaSpec : ChangeSpec := { name := "fnExactGroupSchema", fn := fun _ => fun
  | [d1, d2] => { results := [.lit (.bool true)], args := [d1, d2] }
  | _ => none }
def fnExactGroupSchemaRow : OpenClaim := { program := "ytkakoakbdnklbaa", sum := "2eebb38c9c0b3ff78a47bcca8af7f85414e5ee8e38e1629eaf76d895af50e4b4", func := "loop.example/g00908/laws.FnExactGroupSchema", spec := "fnExactGroupSchema", apart := false }
def FnExactGroupSchemaSaid : Prop := fnExactGroupSchemaRow.holds Try.pinned (OpenSpec.ofChange fnExactGroupSchemaSpec)

/-- ITS FALSE NEIGHBOUR: 'it returns false'. Refute it at one input. -/
def fnExactGroupSchemaWrong : ChangeSpec := { name := "fnExactGroupSchema", fn := fun _ => fun
  | [d1, d2] => { results := [.lit (.bool false)], args := [d1, d2] }
  | _ => none }
def FnExactGroupSchemaWrongFalsely : Prop := fnExactGroupSchemaRow.holds Try.pinned (OpenSpec.ofChange fnExactGroupSchemaWrong)

/-- 'laws.FnExactGroupValues': WHATEVER THE INPUT: true; the input reads as it did. -/
def fnExactGroupValuesSpec : ChangeSpec := { name := "fnExactGroupValues", fn := fun _ => fun
  | [d1, d2, d3] => { results := [.lit (.bool true)], args := [d1, d2, d3] }
  | _ => none }
def fnExactGroupValuesRow : OpenClaim := { program := "ytkakoakbdnklbaa", sum := "2eebb38c9c0b3ff78a47bcca8af7f85414e5ee8e38e1629eaf76d895af50e4b4", func := "loop.example/g00908/laws.FnExactGroupValues", spec := "fnExactGroupValues", apart := false }
def FnExactGroupValuesSaid : Prop := fnExactGroupValuesRow.holds Try.pinned (OpenSpec.ofChange fnExactGroupValuesSpec)

/-- ITS FALSE NEIGHBOUR: 'it returns false'. Refute it at one input. -/
def fnExactGroupValuesWrong : ChangeSpec := { name := "fnExactGroupValues", fn := fun _ => fun
  | [d1, d2, d3] => { results := [.lit (.bool false)], args := [d1, d2, d3] }
  | _ => none }
def FnExactGroupValuesWrongFalsely : Prop := fnExactGroupValuesRow.holds Try.pinned (OpenSpec.ofChange fnExactGroupValuesWrong)

/- THE SECOND FORM. 'bulk': how many values and letters a reading holds, each counted each time it is reached (what is shared counts as often as it is met; a slice's spare places count too). A statement '..UptoSaid' is the law's where the arguments, and the package variables that the reading takes, are together of bulk at most 1048576: NARROWER than '..Said'. Prove '..Said' where nothing that the law and all that it calls make is longer than what came in: it says more and counts as full. Else prove '..UptoSaid'. A law counts once. -/
mutual
def uptoBulk {H : Type} : DataW H → Nat
  | .lit (.string bytes) => bytes.length + 1
  | .lit _ => 1
  | .nil => 1
  | .ptr d => uptoBulk d + 1
  | .slice elems spare => uptoBulkAll elems + uptoBulkAll spare + 1
  | .agg parts => uptoBulkAll parts + 1
  | .iface _ d => uptoBulk d + 1
  | .map entries => uptoBulkEntries entries + 1
  | .held _ => 1
def uptoBulkAll {H : Type} : List (DataW H) → Nat
  | [] => 0
  | d :: r => uptoBulk d + uptoBulkAll r
def uptoBulkEntries {H : Type} : List (Lit × DataW H) → Nat
  | [] => 0
  | x :: r => uptoBulkEntry x + uptoBulkEntries r
def uptoBulkEntry {H : Type} : Lit × DataW H → Nat
  | (.string bytes, d) => bytes.length + uptoBulk d + 1
  | (_, d) => uptoBulk d + 1
 end
def uptoSmall : (H : Type) → List (DataW H) → Bool := fun _ ds => decide (uptoBulkAll ds ≤ 1048576)
def OpenSpec.upto (s : _root_.Go.ChangeSpec) : _root_.Go.OpenSpec := { _root_.Go.OpenSpec.ofChange s with cond := some uptoSmall }

/-- 'laws.FnExactIsSchema', WHERE WHAT IT READS IS OF BULK AT MOST 1048576: true; the input reads as it did. -/
def fnExactIsSchemaUptoRow : OpenClaim := { program := "ytkakoakbdnklbaa", sum := "2eebb38c9c0b3ff78a47bcca8af7f85414e5ee8e38e1629eaf76d895af50e4b4", func := "loop.example/g00908/laws.FnExactIsSchema", spec := "fnExactIsSchema", apart := false, narrowed := true }
def FnExactIsSchemaUptoSaid : Prop := fnExactIsSchemaUptoRow.holds Try.pinned (OpenSpec.upto fnExactIsSchemaSpec)

/-- 'laws.FnExactCombinationCount', WHERE WHAT IT READS IS OF BULK AT MOST 1048576: true; the input reads as it did. -/
def fnExactCombinationCountUptoRow : OpenClaim := { program := "ytkakoakbdnklbaa", sum := "2eebb38c9c0b3ff78a47bcca8af7f85414e5ee8e38e1629eaf76d895af50e4b4", func := "loop.example/g00908/laws.FnExactCombinationCount", spec := "fnExactCombinationCount", apart := false, narrowed := true }
def FnExactCombinationCountUptoSaid : Prop := fnExactCombinationCountUptoRow.holds Try.pinned (OpenSpec.upto fnExactCombinationCountSpec)

/-- 'laws.FnExactVariableIndex', WHERE WHAT IT READS IS OF BULK AT MOST 1048576: true; the input reads as it did. -/
def fnExactVariableIndexUptoRow : OpenClaim := { program := "ytkakoakbdnklbaa", sum := "2eebb38c9c0b3ff78a47bcca8af7f85414e5ee8e38e1629eaf76d895af50e4b4", func := "loop.example/g00908/laws.FnExactVariableIndex", spec := "fnExactVariableIndex", unfollowed := true, recurses := true, apart := false, narrowed := true }
def FnExactVariableIndexUptoSaid : Prop := fnExactVariableIndexUptoRow.holds Try.pinned (OpenSpec.upto fnExactVariableIndexSpec)

/-- 'laws.FnExactCombinationIndex', WHERE WHAT IT READS IS OF BULK AT MOST 1048576: true; the input reads as it did. -/
def fnExactCombinationIndexUptoRow : OpenClaim := { program := "ytkakoakbdnklbaa", sum := "2eebb38c9c0b3ff78a47bcca8af7f85414e5ee8e38e1629eaf76d895af50e4b4", func := "loop.example/g00908/laws.FnExactCombinationIndex", spec := "fnExactCombinationIndex", apart := false, narrowed := true }
def FnExactCombinationIndexUptoSaid : Prop := fnExactCombinationIndexUptoRow.holds Try.pinned (OpenSpec.upto fnExactCombinationIndexSpec)

/-- 'laws.FnExactValueDistance', WHERE WHAT IT READS IS OF BULK AT MOST 1048576: true; the input reads as it did. -/
def fnExactValueDistanceUptoRow : OpenClaim := { program := "ytkakoakbdnklbaa", sum := "2eebb38c9c0b3ff78a47bcca8af7f85414e5ee8e38e1629eaf76d895af50e4b4", func := "loop.example/g00908/laws.FnExactValueDistance", spec := "fnExactValueDistance", apart := false, narrowed := true }
def FnExactValueDistanceUptoSaid : Prop := fnExactValueDistanceUptoRow.holds Try.pinned (OpenSpec.upto fnExactValueDistanceSpec)

/-- 'laws.FnExactCombinationAt', WHERE WHAT IT READS IS OF BULK AT MOST 1048576: true; the input reads as it did. -/
def fnExactCombinationAtUptoRow : OpenClaim := { program := "ytkakoakbdnklbaa", sum := "2eebb38c9c0b3ff78a47bcca8af7f85414e5ee8e38e1629eaf76d895af50e4b4", func := "loop.example/g00908/laws.FnExactCombinationAt", spec := "fnExactCombinationAt", apart := false, narrowed := true }
def FnExactCombinationAtUptoSaid : Prop := fnExactCombinationAtUptoRow.holds Try.pinned (OpenSpec.upto fnExactCombinationAtSpec)

/-- 'laws.FnExactIsGrouping', WHERE WHAT IT READS IS OF BULK AT MOST 1048576: true; the input reads as it did. -/
def fnExactIsGroupingUptoRow : OpenClaim := { program := "ytkakoakbdnklbaa", sum := "2eebb38c9c0b3ff78a47bcca8af7f85414e5ee8e38e1629eaf76d895af50e4b4", func := "loop.example/g00908/laws.FnExactIsGrouping", spec := "fnExactIsGrouping", apart := false, narrowed := true }
def FnExactIsGroupingUptoSaid : Prop := fnExactIsGroupingUptoRow.holds Try.pinned (OpenSpec.upto fnExactIsGroupingSpec)

/-- 'laws.FnExactGroupSchema', WHERE WHAT IT READS IS OF BULK AT MOST 1048576: true; the input reads as it did. -/
def fnExactGroupSchemaUptoRow : OpenClaim := { program := "ytkakoakbdnklbaa", sum := "2eebb38c9c0b3ff78a47bcca8af7f85414e5ee8e38e1629eaf76d895af50e4b4", func := "loop.example/g00908/laws.FnExactGroupSchema", spec := "fnExactGroupSchema", apart := false, narrowed := true }
def FnExactGroupSchemaUptoSaid : Prop := fnExactGroupSchemaUptoRow.holds Try.pinned (OpenSpec.upto fnExactGroupSchemaSpec)

/-- 'laws.FnExactGroupValues', WHERE WHAT IT READS IS OF BULK AT MOST 1048576: true; the input reads as it did. -/
def fnExactGroupValuesUptoRow : OpenClaim := { program := "ytkakoakbdnklbaa", sum := "2eebb38c9c0b3ff78a47bcca8af7f85414e5ee8e38e1629eaf76d895af50e4b4", func := "loop.example/g00908/laws.FnExactGroupValues", spec := "fnExactGroupValues", apart := false, narrowed := true }
def FnExactGroupValuesUptoSaid : Prop := fnExactGroupValuesUptoRow.holds Try.pinned (OpenSpec.upto fnExactGroupValuesSpec)

end Rows
end Go.Proofs.Ytkakoakbdnklbaa
