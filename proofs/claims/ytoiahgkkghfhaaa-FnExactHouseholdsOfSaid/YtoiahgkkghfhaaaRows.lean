/-
  No cell of these rows narrows 'for every input' (looked for: loops, veiled, ifaces, maps, wideKeys, modest, calm, conditions, laid).
  DERIVED. THE GIVEN ROWS OF THIS SEAT. 9 by the template 'for every input the law returns true; each argument reads behind the call as it read before'; 0 by the template 'total and deterministic' (their statements: YtoiahgkkghfhaaaTotals.lean).
  GIVEN WITH THE SEED: the statements are not yours to turn. If you find one false, say at which input.
  Laid BY PROGRAM, IN A SANDBOX (cutbox-rows.mjs): the forced cells as the released guide's own fill.sh prints them over the translation c4f0072857fe5f90… (all of the seat's roots in one cut). By AI agents, Wed Nov 11 2026. No macro, syntax, notation, axiom, sorry.
-/
import Derived.Test.YtoiahgkkghfhaaaChecked
import GoSem.Claim
import GoSem.ClaimJoined
import GoSem.ClaimMapViews
import Derived.JoinedTies
import Derived.KernelRfl
namespace Go.Proofs.Ytoiahgkkghfhaaa
/- THE CELL 'sum', in the pinned program and in every row, IS THE sha256 OF THE DUMP (.gsa) THAT YtoiahgkkghfhaaaProg.lean LOADS. Nothing in Lean hashes anything: it is a label: what it is worth is what the hold of that sum in a sandbox is worth. -/
noncomputable def Try.pinned : Pinned := { name := "ytoiahgkkghfhaaa", sum := "c4f0072857fe5f9092d3da09c1ca89a29aa515badef0249b15bc62aa135ce2fd", checked := Try.checked }
namespace Rows
def none {H : Type} : Left H := { results := [], args := [] }

/-- 'laws.FnExactIsRecord': WHATEVER THE INPUT: true; the input reads as it did. -/
def fnExactIsRecordSpec : ChangeSpec := { name := "fnExactIsRecord", fn := fun _ => fun
  | [d1, d2] => { results := [.lit (.bool true)], args := [d1, d2] }
  | _ => none }
def fnExactIsRecordRow : OpenClaim := { program := "ytoiahgkkghfhaaa", sum := "c4f0072857fe5f9092d3da09c1ca89a29aa515badef0249b15bc62aa135ce2fd", func := "loop.example/g00908/laws.FnExactIsRecord", spec := "fnExactIsRecord", apart := false }
def FnExactIsRecordSaid : Prop := fnExactIsRecordRow.holds Try.pinned (OpenSpec.ofChange fnExactIsRecordSpec)

/-- ITS FALSE NEIGHBOUR: 'it returns false'. Refute it at one input. -/
def fnExactIsRecordWrong : ChangeSpec := { name := "fnExactIsRecord", fn := fun _ => fun
  | [d1, d2] => { results := [.lit (.bool false)], args := [d1, d2] }
  | _ => none }
def FnExactIsRecordWrongFalsely : Prop := fnExactIsRecordRow.holds Try.pinned (OpenSpec.ofChange fnExactIsRecordWrong)

/-- 'laws.FnExactIsData': WHATEVER THE INPUT: true; the input reads as it did. -/
def fnExactIsDataSpec : ChangeSpec := { name := "fnExactIsData", fn := fun _ => fun
  | [d1, d2] => { results := [.lit (.bool true)], args := [d1, d2] }
  | _ => none }
def fnExactIsDataRow : OpenClaim := { program := "ytoiahgkkghfhaaa", sum := "c4f0072857fe5f9092d3da09c1ca89a29aa515badef0249b15bc62aa135ce2fd", func := "loop.example/g00908/laws.FnExactIsData", spec := "fnExactIsData", apart := false }
def FnExactIsDataSaid : Prop := fnExactIsDataRow.holds Try.pinned (OpenSpec.ofChange fnExactIsDataSpec)

/-- ITS FALSE NEIGHBOUR: 'it returns false'. Refute it at one input. -/
def fnExactIsDataWrong : ChangeSpec := { name := "fnExactIsData", fn := fun _ => fun
  | [d1, d2] => { results := [.lit (.bool false)], args := [d1, d2] }
  | _ => none }
def FnExactIsDataWrongFalsely : Prop := fnExactIsDataRow.holds Try.pinned (OpenSpec.ofChange fnExactIsDataWrong)

/-- 'laws.FnExactCompareRecords': WHATEVER THE INPUT: true; the input reads as it did. -/
def fnExactCompareRecordsSpec : ChangeSpec := { name := "fnExactCompareRecords", fn := fun _ => fun
  | [d1, d2] => { results := [.lit (.bool true)], args := [d1, d2] }
  | _ => none }
def fnExactCompareRecordsRow : OpenClaim := { program := "ytoiahgkkghfhaaa", sum := "c4f0072857fe5f9092d3da09c1ca89a29aa515badef0249b15bc62aa135ce2fd", func := "loop.example/g00908/laws.FnExactCompareRecords", spec := "fnExactCompareRecords", apart := false }
def FnExactCompareRecordsSaid : Prop := fnExactCompareRecordsRow.holds Try.pinned (OpenSpec.ofChange fnExactCompareRecordsSpec)

/-- ITS FALSE NEIGHBOUR: 'it returns false'. Refute it at one input. -/
def fnExactCompareRecordsWrong : ChangeSpec := { name := "fnExactCompareRecords", fn := fun _ => fun
  | [d1, d2] => { results := [.lit (.bool false)], args := [d1, d2] }
  | _ => none }
def FnExactCompareRecordsWrongFalsely : Prop := fnExactCompareRecordsRow.holds Try.pinned (OpenSpec.ofChange fnExactCompareRecordsWrong)

/-- 'laws.FnExactReplaceValues': WHATEVER THE INPUT: true; the input reads as it did. -/
def fnExactReplaceValuesSpec : ChangeSpec := { name := "fnExactReplaceValues", fn := fun _ => fun
  | [d1, d2, d3] => { results := [.lit (.bool true)], args := [d1, d2, d3] }
  | _ => none }
def fnExactReplaceValuesRow : OpenClaim := { program := "ytoiahgkkghfhaaa", sum := "c4f0072857fe5f9092d3da09c1ca89a29aa515badef0249b15bc62aa135ce2fd", func := "loop.example/g00908/laws.FnExactReplaceValues", spec := "fnExactReplaceValues", apart := false }
def FnExactReplaceValuesSaid : Prop := fnExactReplaceValuesRow.holds Try.pinned (OpenSpec.ofChange fnExactReplaceValuesSpec)

/-- ITS FALSE NEIGHBOUR: 'it returns false'. Refute it at one input. -/
def fnExactReplaceValuesWrong : ChangeSpec := { name := "fnExactReplaceValues", fn := fun _ => fun
  | [d1, d2, d3] => { results := [.lit (.bool false)], args := [d1, d2, d3] }
  | _ => none }
def FnExactReplaceValuesWrongFalsely : Prop := fnExactReplaceValuesRow.holds Try.pinned (OpenSpec.ofChange fnExactReplaceValuesWrong)

/-- 'laws.FnExactRemoveRecord': WHATEVER THE INPUT: true; the input reads as it did. -/
def fnExactRemoveRecordSpec : ChangeSpec := { name := "fnExactRemoveRecord", fn := fun _ => fun
  | [d1, d2, d3] => { results := [.lit (.bool true)], args := [d1, d2, d3] }
  | _ => none }
def fnExactRemoveRecordRow : OpenClaim := { program := "ytoiahgkkghfhaaa", sum := "c4f0072857fe5f9092d3da09c1ca89a29aa515badef0249b15bc62aa135ce2fd", func := "loop.example/g00908/laws.FnExactRemoveRecord", spec := "fnExactRemoveRecord", apart := false }
def FnExactRemoveRecordSaid : Prop := fnExactRemoveRecordRow.holds Try.pinned (OpenSpec.ofChange fnExactRemoveRecordSpec)

/-- ITS FALSE NEIGHBOUR: 'it returns false'. Refute it at one input. -/
def fnExactRemoveRecordWrong : ChangeSpec := { name := "fnExactRemoveRecord", fn := fun _ => fun
  | [d1, d2, d3] => { results := [.lit (.bool false)], args := [d1, d2, d3] }
  | _ => none }
def FnExactRemoveRecordWrongFalsely : Prop := fnExactRemoveRecordRow.holds Try.pinned (OpenSpec.ofChange fnExactRemoveRecordWrong)

/-- 'laws.FnExactGroupData': WHATEVER THE INPUT: true; the input reads as it did. -/
def fnExactGroupDataSpec : ChangeSpec := { name := "fnExactGroupData", fn := fun _ => fun
  | [d1, d2, d3] => { results := [.lit (.bool true)], args := [d1, d2, d3] }
  | _ => none }
def fnExactGroupDataRow : OpenClaim := { program := "ytoiahgkkghfhaaa", sum := "c4f0072857fe5f9092d3da09c1ca89a29aa515badef0249b15bc62aa135ce2fd", func := "loop.example/g00908/laws.FnExactGroupData", spec := "fnExactGroupData", apart := false }
def FnExactGroupDataSaid : Prop := fnExactGroupDataRow.holds Try.pinned (OpenSpec.ofChange fnExactGroupDataSpec)

/-- ITS FALSE NEIGHBOUR: 'it returns false'. Refute it at one input. -/
def fnExactGroupDataWrong : ChangeSpec := { name := "fnExactGroupData", fn := fun _ => fun
  | [d1, d2, d3] => { results := [.lit (.bool false)], args := [d1, d2, d3] }
  | _ => none }
def FnExactGroupDataWrongFalsely : Prop := fnExactGroupDataRow.holds Try.pinned (OpenSpec.ofChange fnExactGroupDataWrong)

/-- 'laws.FnExactHouseholdsOf': WHATEVER THE INPUT: true; the input reads as it did. -/
def fnExactHouseholdsOfSpec : ChangeSpec := { name := "fnExactHouseholdsOf", fn := fun _ => fun
  | [d1, d2] => { results := [.lit (.bool true)], args := [d1, d2] }
  | _ => none }
def fnExactHouseholdsOfRow : OpenClaim := { program := "ytoiahgkkghfhaaa", sum := "c4f0072857fe5f9092d3da09c1ca89a29aa515badef0249b15bc62aa135ce2fd", func := "loop.example/g00908/laws.FnExactHouseholdsOf", spec := "fnExactHouseholdsOf", inPlace := ["slices.overlaps[loop.example/g00908/impl.Household]"], unfollowed := true, recurses := true, apart := false }
def FnExactHouseholdsOfSaid : Prop := fnExactHouseholdsOfRow.holds Try.pinned (OpenSpec.ofChange fnExactHouseholdsOfSpec)

/-- ITS FALSE NEIGHBOUR: 'it returns false'. Refute it at one input. -/
def fnExactHouseholdsOfWrong : ChangeSpec := { name := "fnExactHouseholdsOf", fn := fun _ => fun
  | [d1, d2] => { results := [.lit (.bool false)], args := [d1, d2] }
  | _ => none }
def FnExactHouseholdsOfWrongFalsely : Prop := fnExactHouseholdsOfRow.holds Try.pinned (OpenSpec.ofChange fnExactHouseholdsOfWrong)

/-- 'laws.FnExactSortData': WHATEVER THE INPUT: true; the input reads as it did. -/
def fnExactSortDataSpec : ChangeSpec := { name := "fnExactSortData", fn := fun _ => fun
  | [d1, d2] => { results := [.lit (.bool true)], args := [d1, d2] }
  | _ => none }
def fnExactSortDataRow : OpenClaim := { program := "ytoiahgkkghfhaaa", sum := "c4f0072857fe5f9092d3da09c1ca89a29aa515badef0249b15bc62aa135ce2fd", func := "loop.example/g00908/laws.FnExactSortData", spec := "fnExactSortData", unfollowed := true, recurses := true, apart := false }
def FnExactSortDataSaid : Prop := fnExactSortDataRow.holds Try.pinned (OpenSpec.ofChange fnExactSortDataSpec)

/-- ITS FALSE NEIGHBOUR: 'it returns false'. Refute it at one input. -/
def fnExactSortDataWrong : ChangeSpec := { name := "fnExactSortData", fn := fun _ => fun
  | [d1, d2] => { results := [.lit (.bool false)], args := [d1, d2] }
  | _ => none }
def FnExactSortDataWrongFalsely : Prop := fnExactSortDataRow.holds Try.pinned (OpenSpec.ofChange fnExactSortDataWrong)

/-- 'laws.FnExactSameData': WHATEVER THE INPUT: true; the input reads as it did. -/
def fnExactSameDataSpec : ChangeSpec := { name := "fnExactSameData", fn := fun _ => fun
  | [d1, d2, d3] => { results := [.lit (.bool true)], args := [d1, d2, d3] }
  | _ => none }
def fnExactSameDataRow : OpenClaim := { program := "ytoiahgkkghfhaaa", sum := "c4f0072857fe5f9092d3da09c1ca89a29aa515badef0249b15bc62aa135ce2fd", func := "loop.example/g00908/laws.FnExactSameData", spec := "fnExactSameData", unfollowed := true, recurses := true, apart := false }
def FnExactSameDataSaid : Prop := fnExactSameDataRow.holds Try.pinned (OpenSpec.ofChange fnExactSameDataSpec)

/-- ITS FALSE NEIGHBOUR: 'it returns false'. Refute it at one input. -/
def fnExactSameDataWrong : ChangeSpec := { name := "fnExactSameData", fn := fun _ => fun
  | [d1, d2, d3] => { results := [.lit (.bool false)], args := [d1, d2, d3] }
  | _ => none }
def FnExactSameDataWrongFalsely : Prop := fnExactSameDataRow.holds Try.pinned (OpenSpec.ofChange fnExactSameDataWrong)

/- THE SECOND FORM. 'bulk': how many values and letters a reading holds, each counted each time it is reached (what is shared counts as often as it is met; a slice's spare places count too). A statement '..UptoSaid' is the law's where the arguments, and the package variables that the reading takes, are together of bulk at most 1048576: NARROWER than '..Said'. Prove '..Said' where nothing that the law and all that it calls make is longer than what came in: it says more and counts as full. Else prove '..UptoSaid'. A law counts once. -/
mutual
def uptoBulk {H : Type} : DataW H → Nat
  | .lit (.string bytes) => bytes.length + 1
  | .lit _ => 1
  | .nil => 1
  | .ptr d => uptoBulk d + 1
  | .slice elems spare => uptoBulkAll elems + uptoBulkAll spare + 1
  | .agg parts => uptoBulkAll parts + 1
  | .iface _ d => uptoBulk d + 1
  | .map entries => uptoBulkEntries entries + 1
  | .held _ => 1
def uptoBulkAll {H : Type} : List (DataW H) → Nat
  | [] => 0
  | d :: r => uptoBulk d + uptoBulkAll r
def uptoBulkEntries {H : Type} : List (Lit × DataW H) → Nat
  | [] => 0
  | x :: r => uptoBulkEntry x + uptoBulkEntries r
def uptoBulkEntry {H : Type} : Lit × DataW H → Nat
  | (.string bytes, d) => bytes.length + uptoBulk d + 1
  | (_, d) => uptoBulk d + 1
 end
def uptoSmall : (H : Type) → List (DataW H) → Bool := fun _ ds => decide (uptoBulkAll ds ≤ 1048576)
def OpenSpec.upto (s : _root_.Go.ChangeSpec) : _root_.Go.OpenSpec := { _root_.Go.OpenSpec.ofChange s with cond := some uptoSmall }

/-- 'laws.FnExactIsRecord', WHERE WHAT IT READS IS OF BULK AT MOST 1048576: true; the input reads as it did. -/
def fnExactIsRecordUptoRow : OpenClaim := { program := "ytoiahgkkghfhaaa", sum := "c4f0072857fe5f9092d3da09c1ca89a29aa515badef0249b15bc62aa135ce2fd", func := "loop.example/g00908/laws.FnExactIsRecord", spec := "fnExactIsRecord", apart := false, narrowed := true }
def FnExactIsRecordUptoSaid : Prop := fnExactIsRecordUptoRow.holds Try.pinned (OpenSpec.upto fnExactIsRecordSpec)

/-- 'laws.FnExactIsData', WHERE WHAT IT READS IS OF BULK AT MOST 1048576: true; the input reads as it did. -/
def fnExactIsDataUptoRow : OpenClaim := { program := "ytoiahgkkghfhaaa", sum := "c4f0072857fe5f9092d3da09c1ca89a29aa515badef0249b15bc62aa135ce2fd", func := "loop.example/g00908/laws.FnExactIsData", spec := "fnExactIsData", apart := false, narrowed := true }
def FnExactIsDataUptoSaid : Prop := fnExactIsDataUptoRow.holds Try.pinned (OpenSpec.upto fnExactIsDataSpec)

/-- 'laws.FnExactCompareRecords', WHERE WHAT IT READS IS OF BULK AT MOST 1048576: true; the input reads as it did. -/
def fnExactCompareRecordsUptoRow : OpenClaim := { program := "ytoiahgkkghfhaaa", sum := "c4f0072857fe5f9092d3da09c1ca89a29aa515badef0249b15bc62aa135ce2fd", func := "loop.example/g00908/laws.FnExactCompareRecords", spec := "fnExactCompareRecords", apart := false, narrowed := true }
def FnExactCompareRecordsUptoSaid : Prop := fnExactCompareRecordsUptoRow.holds Try.pinned (OpenSpec.upto fnExactCompareRecordsSpec)

/-- 'laws.FnExactReplaceValues', WHERE WHAT IT READS IS OF BULK AT MOST 1048576: true; the input reads as it did. -/
def fnExactReplaceValuesUptoRow : OpenClaim := { program := "ytoiahgkkghfhaaa", sum := "c4f0072857fe5f9092d3da09c1ca89a29aa515badef0249b15bc62aa135ce2fd", func := "loop.example/g00908/laws.FnExactReplaceValues", spec := "fnExactReplaceValues", apart := false, narrowed := true }
def FnExactReplaceValuesUptoSaid : Prop := fnExactReplaceValuesUptoRow.holds Try.pinned (OpenSpec.upto fnExactReplaceValuesSpec)

/-- 'laws.FnExactRemoveRecord', WHERE WHAT IT READS IS OF BULK AT MOST 1048576: true; the input reads as it did. -/
def fnExactRemoveRecordUptoRow : OpenClaim := { program := "ytoiahgkkghfhaaa", sum := "c4f0072857fe5f9092d3da09c1ca89a29aa515badef0249b15bc62aa135ce2fd", func := "loop.example/g00908/laws.FnExactRemoveRecord", spec := "fnExactRemoveRecord", apart := false, narrowed := true }
def FnExactRemoveRecordUptoSaid : Prop := fnExactRemoveRecordUptoRow.holds Try.pinned (OpenSpec.upto fnExactRemoveRecordSpec)

/-- 'laws.FnExactGroupData', WHERE WHAT IT READS IS OF BULK AT MOST 1048576: true; the input reads as it did. -/
def fnExactGroupDataUptoRow : OpenClaim := { program := "ytoiahgkkghfhaaa", sum := "c4f0072857fe5f9092d3da09c1ca89a29aa515badef0249b15bc62aa135ce2fd", func := "loop.example/g00908/laws.FnExactGroupData", spec := "fnExactGroupData", apart := false, narrowed := true }
def FnExactGroupDataUptoSaid : Prop := fnExactGroupDataUptoRow.holds Try.pinned (OpenSpec.upto fnExactGroupDataSpec)

/-- 'laws.FnExactHouseholdsOf', WHERE WHAT IT READS IS OF BULK AT MOST 1048576: true; the input reads as it did. -/
def fnExactHouseholdsOfUptoRow : OpenClaim := { program := "ytoiahgkkghfhaaa", sum := "c4f0072857fe5f9092d3da09c1ca89a29aa515badef0249b15bc62aa135ce2fd", func := "loop.example/g00908/laws.FnExactHouseholdsOf", spec := "fnExactHouseholdsOf", inPlace := ["slices.overlaps[loop.example/g00908/impl.Household]"], unfollowed := true, recurses := true, apart := false, narrowed := true }
def FnExactHouseholdsOfUptoSaid : Prop := fnExactHouseholdsOfUptoRow.holds Try.pinned (OpenSpec.upto fnExactHouseholdsOfSpec)

/-- 'laws.FnExactSortData', WHERE WHAT IT READS IS OF BULK AT MOST 1048576: true; the input reads as it did. -/
def fnExactSortDataUptoRow : OpenClaim := { program := "ytoiahgkkghfhaaa", sum := "c4f0072857fe5f9092d3da09c1ca89a29aa515badef0249b15bc62aa135ce2fd", func := "loop.example/g00908/laws.FnExactSortData", spec := "fnExactSortData", unfollowed := true, recurses := true, apart := false, narrowed := true }
def FnExactSortDataUptoSaid : Prop := fnExactSortDataUptoRow.holds Try.pinned (OpenSpec.upto fnExactSortDataSpec)

/-- 'laws.FnExactSameData', WHERE WHAT IT READS IS OF BULK AT MOST 1048576: true; the input reads as it did. -/
def fnExactSameDataUptoRow : OpenClaim := { program := "ytoiahgkkghfhaaa", sum := "c4f0072857fe5f9092d3da09c1ca89a29aa515badef0249b15bc62aa135ce2fd", func := "loop.example/g00908/laws.FnExactSameData", spec := "fnExactSameData", unfollowed := true, recurses := true, apart := false, narrowed := true }
def FnExactSameDataUptoSaid : Prop := fnExactSameDataUptoRow.holds Try.pinned (OpenSpec.upto fnExactSameDataSpec)

end Rows
end Go.Proofs.Ytoiahgkkghfhaaa
