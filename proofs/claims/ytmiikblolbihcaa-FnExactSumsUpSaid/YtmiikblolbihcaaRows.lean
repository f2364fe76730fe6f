/-
  No cell of these rows narrows 'for every input' (looked for: loops, veiled, ifaces, maps, wideKeys, modest, calm, conditions, laid).
  DERIVED. THE GIVEN ROWS OF THIS SEAT. 10 by the template 'for every input the law returns true; each argument reads behind the call as it read before'; 0 by the template 'total and deterministic' (their statements: YtmiikblolbihcaaTotals.lean).
  GIVEN WITH THE SEED: the statements are not yours to turn. If you find one false, say at which input.
  Laid BY PROGRAM, IN A SANDBOX (cutbox-rows.mjs): the forced cells as the released guide's own fill.sh prints them over the translation 94b94a7168ad85aa… (all of the seat's roots in one cut). By AI agents, Wed Nov 11 2026. No macro, syntax, notation, axiom, sorry.
-/
import Derived.Test.YtmiikblolbihcaaChecked
import GoSem.Claim
import GoSem.ClaimJoined
import GoSem.ClaimMapViews
import Derived.JoinedTies
import Derived.KernelRfl
namespace Go.Proofs.Ytmiikblolbihcaa
/- THE CELL 'sum', in the pinned program and in every row, IS THE sha256 OF THE DUMP (.gsa) THAT YtmiikblolbihcaaProg.lean LOADS. Nothing in Lean hashes anything: it is a label: what it is worth is what the hold of that sum in a sandbox is worth. -/
noncomputable def Try.pinned : Pinned := { name := "ytmiikblolbihcaa", sum := "94b94a7168ad85aa668df109d78a24fa929effe80cfe97dd1152cc10233cd2bf", checked := Try.checked }
namespace Rows
def none {H : Type} : Left H := { results := [], args := [] }

/-- 'laws.FnExactIsGeo': WHATEVER THE INPUT: true; the input reads as it did. -/
def fnExactIsGeoSpec : ChangeSpec := { name := "fnExactIsGeo", fn := fun _ => fun
  | [d] => { results := [.lit (.bool true)], args := [d] }
  | _ => none }
def fnExactIsGeoRow : OpenClaim := { program := "ytmiikblolbihcaa", sum := "94b94a7168ad85aa668df109d78a24fa929effe80cfe97dd1152cc10233cd2bf", func := "loop.example/g00908/laws.FnExactIsGeo", spec := "fnExactIsGeo", apart := false }
def FnExactIsGeoSaid : Prop := fnExactIsGeoRow.holds Try.pinned (OpenSpec.ofChange fnExactIsGeoSpec)

/-- ITS FALSE NEIGHBOUR: 'it returns false'. Refute it at one input. -/
def fnExactIsGeoWrong : ChangeSpec := { name := "fnExactIsGeo", fn := fun _ => fun
  | [d] => { results := [.lit (.bool false)], args := [d] }
  | _ => none }
def FnExactIsGeoWrongFalsely : Prop := fnExactIsGeoRow.holds Try.pinned (OpenSpec.ofChange fnExactIsGeoWrong)

/-- 'laws.FnExactDepthOf': WHATEVER THE INPUT: true; the input reads as it did. -/
def fnExactDepthOfSpec : ChangeSpec := { name := "fnExactDepthOf", fn := fun _ => fun
  | [d1, d2] => { results := [.lit (.bool true)], args := [d1, d2] }
  | _ => none }
def fnExactDepthOfRow : OpenClaim := { program := "ytmiikblolbihcaa", sum := "94b94a7168ad85aa668df109d78a24fa929effe80cfe97dd1152cc10233cd2bf", func := "loop.example/g00908/laws.FnExactDepthOf", spec := "fnExactDepthOf", apart := false }
def FnExactDepthOfSaid : Prop := fnExactDepthOfRow.holds Try.pinned (OpenSpec.ofChange fnExactDepthOfSpec)

/-- ITS FALSE NEIGHBOUR: 'it returns false'. Refute it at one input. -/
def fnExactDepthOfWrong : ChangeSpec := { name := "fnExactDepthOf", fn := fun _ => fun
  | [d1, d2] => { results := [.lit (.bool false)], args := [d1, d2] }
  | _ => none }
def FnExactDepthOfWrongFalsely : Prop := fnExactDepthOfRow.holds Try.pinned (OpenSpec.ofChange fnExactDepthOfWrong)

/-- 'laws.FnExactMeetOf': WHATEVER THE INPUT: true; the input reads as it did. -/
def fnExactMeetOfSpec : ChangeSpec := { name := "fnExactMeetOf", fn := fun _ => fun
  | [d1, d2, d3] => { results := [.lit (.bool true)], args := [d1, d2, d3] }
  | _ => none }
def fnExactMeetOfRow : OpenClaim := { program := "ytmiikblolbihcaa", sum := "94b94a7168ad85aa668df109d78a24fa929effe80cfe97dd1152cc10233cd2bf", func := "loop.example/g00908/laws.FnExactMeetOf", spec := "fnExactMeetOf", apart := false }
def FnExactMeetOfSaid : Prop := fnExactMeetOfRow.holds Try.pinned (OpenSpec.ofChange fnExactMeetOfSpec)

/-- ITS FALSE NEIGHBOUR: 'it returns false'. Refute it at one input. -/
def fnExactMeetOfWrong : ChangeSpec := { name := "fnExactMeetOf", fn := fun _ => fun
  | [d1, d2, d3] => { results := [.lit (.bool false)], args := [d1, d2, d3] }
  | _ => none }
def FnExactMeetOfWrongFalsely : Prop := fnExactMeetOfRow.holds Try.pinned (OpenSpec.ofChange fnExactMeetOfWrong)

/-- 'laws.FnExactChildrenOf': WHATEVER THE INPUT: true; the input reads as it did. -/
def fnExactChildrenOfSpec : ChangeSpec := { name := "fnExactChildrenOf", fn := fun _ => fun
  | [d1, d2] => { results := [.lit (.bool true)], args := [d1, d2] }
  | _ => none }
def fnExactChildrenOfRow : OpenClaim := { program := "ytmiikblolbihcaa", sum := "94b94a7168ad85aa668df109d78a24fa929effe80cfe97dd1152cc10233cd2bf", func := "loop.example/g00908/laws.FnExactChildrenOf", spec := "fnExactChildrenOf", apart := false }
def FnExactChildrenOfSaid : Prop := fnExactChildrenOfRow.holds Try.pinned (OpenSpec.ofChange fnExactChildrenOfSpec)

/-- ITS FALSE NEIGHBOUR: 'it returns false'. Refute it at one input. -/
def fnExactChildrenOfWrong : ChangeSpec := { name := "fnExactChildrenOf", fn := fun _ => fun
  | [d1, d2] => { results := [.lit (.bool false)], args := [d1, d2] }
  | _ => none }
def FnExactChildrenOfWrongFalsely : Prop := fnExactChildrenOfRow.holds Try.pinned (OpenSpec.ofChange fnExactChildrenOfWrong)

/-- 'laws.FnExactPathTo': WHATEVER THE INPUT: true; the input reads as it did. -/
def fnExactPathToSpec : ChangeSpec := { name := "fnExactPathTo", fn := fun _ => fun
  | [d1, d2] => { results := [.lit (.bool true)], args := [d1, d2] }
  | _ => none }
def fnExactPathToRow : OpenClaim := { program := "ytmiikblolbihcaa", sum := "94b94a7168ad85aa668df109d78a24fa929effe80cfe97dd1152cc10233cd2bf", func := "loop.example/g00908/laws.FnExactPathTo", spec := "fnExactPathTo", apart := false }
def FnExactPathToSaid : Prop := fnExactPathToRow.holds Try.pinned (OpenSpec.ofChange fnExactPathToSpec)

/-- ITS FALSE NEIGHBOUR: 'it returns false'. Refute it at one input. -/
def fnExactPathToWrong : ChangeSpec := { name := "fnExactPathTo", fn := fun _ => fun
  | [d1, d2] => { results := [.lit (.bool false)], args := [d1, d2] }
  | _ => none }
def FnExactPathToWrongFalsely : Prop := fnExactPathToRow.holds Try.pinned (OpenSpec.ofChange fnExactPathToWrong)

/-- 'laws.FnExactAncestorAt': WHATEVER THE INPUT: true; the input reads as it did. -/
def fnExactAncestorAtSpec : ChangeSpec := { name := "fnExactAncestorAt", fn := fun _ => fun
  | [d1, d2, d3] => { results := [.lit (.bool true)], args := [d1, d2, d3] }
  | _ => none }
def fnExactAncestorAtRow : OpenClaim := { program := "ytmiikblolbihcaa", sum := "94b94a7168ad85aa668df109d78a24fa929effe80cfe97dd1152cc10233cd2bf", func := "loop.example/g00908/laws.FnExactAncestorAt", spec := "fnExactAncestorAt", apart := false }
def FnExactAncestorAtSaid : Prop := fnExactAncestorAtRow.holds Try.pinned (OpenSpec.ofChange fnExactAncestorAtSpec)

/-- ITS FALSE NEIGHBOUR: 'it returns false'. Refute it at one input. -/
def fnExactAncestorAtWrong : ChangeSpec := { name := "fnExactAncestorAt", fn := fun _ => fun
  | [d1, d2, d3] => { results := [.lit (.bool false)], args := [d1, d2, d3] }
  | _ => none }
def FnExactAncestorAtWrongFalsely : Prop := fnExactAncestorAtRow.holds Try.pinned (OpenSpec.ofChange fnExactAncestorAtWrong)

/-- 'laws.FnExactLevelOf': WHATEVER THE INPUT: true; the input reads as it did. -/
def fnExactLevelOfSpec : ChangeSpec := { name := "fnExactLevelOf", fn := fun _ => fun
  | [d1, d2] => { results := [.lit (.bool true)], args := [d1, d2] }
  | _ => none }
def fnExactLevelOfRow : OpenClaim := { program := "ytmiikblolbihcaa", sum := "94b94a7168ad85aa668df109d78a24fa929effe80cfe97dd1152cc10233cd2bf", func := "loop.example/g00908/laws.FnExactLevelOf", spec := "fnExactLevelOf", apart := false }
def FnExactLevelOfSaid : Prop := fnExactLevelOfRow.holds Try.pinned (OpenSpec.ofChange fnExactLevelOfSpec)

/-- ITS FALSE NEIGHBOUR: 'it returns false'. Refute it at one input. -/
def fnExactLevelOfWrong : ChangeSpec := { name := "fnExactLevelOf", fn := fun _ => fun
  | [d1, d2] => { results := [.lit (.bool false)], args := [d1, d2] }
  | _ => none }
def FnExactLevelOfWrongFalsely : Prop := fnExactLevelOfRow.holds Try.pinned (OpenSpec.ofChange fnExactLevelOfWrong)

/-- 'laws.FnExactLeavesOf': WHATEVER THE INPUT: true; the input reads as it did. -/
def fnExactLeavesOfSpec : ChangeSpec := { name := "fnExactLeavesOf", fn := fun _ => fun
  | [d] => { results := [.lit (.bool true)], args := [d] }
  | _ => none }
def fnExactLeavesOfRow : OpenClaim := { program := "ytmiikblolbihcaa", sum := "94b94a7168ad85aa668df109d78a24fa929effe80cfe97dd1152cc10233cd2bf", func := "loop.example/g00908/laws.FnExactLeavesOf", spec := "fnExactLeavesOf", apart := false }
def FnExactLeavesOfSaid : Prop := fnExactLeavesOfRow.holds Try.pinned (OpenSpec.ofChange fnExactLeavesOfSpec)

/-- ITS FALSE NEIGHBOUR: 'it returns false'. Refute it at one input. -/
def fnExactLeavesOfWrong : ChangeSpec := { name := "fnExactLeavesOf", fn := fun _ => fun
  | [d] => { results := [.lit (.bool false)], args := [d] }
  | _ => none }
def FnExactLeavesOfWrongFalsely : Prop := fnExactLeavesOfRow.holds Try.pinned (OpenSpec.ofChange fnExactLeavesOfWrong)

/-- 'laws.FnExactSumsUp': WHATEVER THE INPUT: true; the input reads as it did. -/
def fnExactSumsUpSpec : ChangeSpec := { name := "fnExactSumsUp", fn := fun _ => fun
  | [d1, d2] => { results := [.lit (.bool true)], args := [d1, d2] }
  | _ => none }
def fnExactSumsUpRow : OpenClaim := { program := "ytmiikblolbihcaa", sum := "94b94a7168ad85aa668df109d78a24fa929effe80cfe97dd1152cc10233cd2bf", func := "loop.example/g00908/laws.FnExactSumsUp", spec := "fnExactSumsUp", apart := false }
def FnExactSumsUpSaid : Prop := fnExactSumsUpRow.holds Try.pinned (OpenSpec.ofChange fnExactSumsUpSpec)

/-- ITS FALSE NEIGHBOUR: 'it returns false'. Refute it at one input. -/
def fnExactSumsUpWrong : ChangeSpec := { name := "fnExactSumsUp", fn := fun _ => fun
  | [d1, d2] => { results := [.lit (.bool false)], args := [d1, d2] }
  | _ => none }
def FnExactSumsUpWrongFalsely : Prop := fnExactSumsUpRow.holds Try.pinned (OpenSpec.ofChange fnExactSumsUpWrong)

/-- 'laws.FnExactIsUniform': WHATEVER THE INPUT: true; the input reads as it did. -/
def fnExactIsUniformSpec : ChangeSpec := { name := "fnExactIsUniform", fn := fun _ => fun
  | [d] => { results := [.lit (.bool true)], args := [d] }
  | _ => none }
def fnExactIsUniformRow : OpenClaim := { program := "ytmiikblolbihcaa", sum := "94b94a7168ad85aa668df109d78a24fa929effe80cfe97dd1152cc10233cd2bf", func := "loop.example/g00908/laws.FnExactIsUniform", spec := "fnExactIsUniform", apart := false }
def FnExactIsUniformSaid : Prop := fnExactIsUniformRow.holds Try.pinned (OpenSpec.ofChange fnExactIsUniformSpec)

/-- ITS FALSE NEIGHBOUR: 'it returns false'. Refute it at one input. -/
def fnExactIsUniformWrong : ChangeSpec := { name := "fnExactIsUniform", fn := fun _ => fun
  | [d] => { results := [.lit (.bool false)], args := [d] }
  | _ => none }
def FnExactIsUniformWrongFalsely : Prop := fnExactIsUniformRow.holds Try.pinned (OpenSpec.ofChange fnExactIsUniformWrong)

/- THE SECOND FORM. 'bulk': how many values and letters a reading holds, each counted each time it is reached (what is shared counts as often as it is met; a slice's spare places count too). A statement '..UptoSaid' is the law's where the arguments, and the package variables that the reading takes, are together of bulk at most 1048576: NARROWER than '..Said'. Prove '..Said' where nothing that the law and all that it calls make is longer than what came in: it says more and counts as full. Else prove '..UptoSaid'. A law counts once. -/
mutual
def uptoBulk {H : Type} : DataW H → Nat
  | .lit (.string bytes) => bytes.length + 1
  | .lit _ => 1
  | .nil => 1
  | .ptr d => uptoBulk d + 1
  | .slice elems spare => uptoBulkAll elems + uptoBulkAll spare + 1
  | .agg parts => uptoBulkAll parts + 1
  | .iface _ d => uptoBulk d + 1
  | .map entries => uptoBulkEntries entries + 1
  | .held _ => 1
def uptoBulkAll {H : Type} : List (DataW H) → Nat
  | [] => 0
  | d :: r => uptoBulk d + uptoBulkAll r
def uptoBulkEntries {H : Type} : List (Lit × DataW H) → Nat
  | [] => 0
  | x :: r => uptoBulkEntry x + uptoBulkEntries r
def uptoBulkEntry {H : Type} : Lit × DataW H → Nat
  | (.string bytes, d) => bytes.length + uptoBulk d + 1
  | (_, d) => uptoBulk d + 1
 end
def uptoSmall : (H : Type) → List (DataW H) → Bool := fun _ ds => decide (uptoBulkAll ds ≤ 1048576)
def OpenSpec.upto (s : _root_.Go.ChangeSpec) : _root_.Go.OpenSpec := { _root_.Go.OpenSpec.ofChange s with cond := some uptoSmall }

/-- 'laws.FnExactIsGeo', WHERE WHAT IT READS IS OF BULK AT MOST 1048576: true; the input reads as it did. -/
def fnExactIsGeoUptoRow : OpenClaim := { program := "ytmiikblolbihcaa", sum := "94b94a7168ad85aa668df109d78a24fa929effe80cfe97dd1152cc10233cd2bf", func := "loop.example/g00908/laws.FnExactIsGeo", spec := "fnExactIsGeo", apart := false, narrowed := true }
def FnExactIsGeoUptoSaid : Prop := fnExactIsGeoUptoRow.holds Try.pinned (OpenSpec.upto fnExactIsGeoSpec)

/-- 'laws.FnExactDepthOf', WHERE WHAT IT READS IS OF BULK AT MOST 1048576: true; the input reads as it did. -/
def fnExactDepthOfUptoRow : OpenClaim := { program := "ytmiikblolbihcaa", sum := "94b94a7168ad85aa668df109d78a24fa929effe80cfe97dd1152cc10233cd2bf", func := "loop.example/g00908/laws.FnExactDepthOf", spec := "fnExactDepthOf", apart := false, narrowed := true }
def FnExactDepthOfUptoSaid : Prop := fnExactDepthOfUptoRow.holds Try.pinned (OpenSpec.upto fnExactDepthOfSpec)

/-- 'laws.FnExactMeetOf', WHERE WHAT IT READS IS OF BULK AT MOST 1048576: true; the input reads as it did. -/
def fnExactMeetOfUptoRow : OpenClaim := { program := "ytmiikblolbihcaa", sum := "94b94a7168ad85aa668df109d78a24fa929effe80cfe97dd1152cc10233cd2bf", func := "loop.example/g00908/laws.FnExactMeetOf", spec := "fnExactMeetOf", apart := false, narrowed := true }
def FnExactMeetOfUptoSaid : Prop := fnExactMeetOfUptoRow.holds Try.pinned (OpenSpec.upto fnExactMeetOfSpec)

/-- 'laws.FnExactChildrenOf', WHERE WHAT IT READS IS OF BULK AT MOST 1048576: true; the input reads as it did. -/
def fnExactChildrenOfUptoRow : OpenClaim := { program := "ytmiikblolbihcaa", sum := "94b94a7168ad85aa668df109d78a24fa929effe80cfe97dd1152cc10233cd2bf", func := "loop.example/g00908/laws.FnExactChildrenOf", spec := "fnExactChildrenOf", apart := false, narrowed := true }
def FnExactChildrenOfUptoSaid : Prop := fnExactChildrenOfUptoRow.holds Try.pinned (OpenSpec.upto fnExactChildrenOfSpec)

/-- 'laws.FnExactPathTo', WHERE WHAT IT READS IS OF BULK AT MOST 1048576: true; the input reads as it did. -/
def fnExactPathToUptoRow : OpenClaim := { program := "ytmiikblolbihcaa", sum := "94b94a7168ad85aa668df109d78a24fa929effe80cfe97dd1152cc10233cd2bf", func := "loop.example/g00908/laws.FnExactPathTo", spec := "fnExactPathTo", apart := false, narrowed := true }
def FnExactPathToUptoSaid : Prop := fnExactPathToUptoRow.holds Try.pinned (OpenSpec.upto fnExactPathToSpec)

/-- 'laws.FnExactAncestorAt', WHERE WHAT IT READS IS OF BULK AT MOST 1048576: true; the input reads as it did. -/
def fnExactAncestorAtUptoRow : OpenClaim := { program := "ytmiikblolbihcaa", sum := "94b94a7168ad85aa668df109d78a24fa929effe80cfe97dd1152cc10233cd2bf", func := "loop.example/g00908/laws.FnExactAncestorAt", spec := "fnExactAncestorAt", apart := false, narrowed := true }
def FnExactAncestorAtUptoSaid : Prop := fnExactAncestorAtUptoRow.holds Try.pinned (OpenSpec.upto fnExactAncestorAtSpec)

/-- 'laws.FnExactLevelOf', WHERE WHAT IT READS IS OF BULK AT MOST 1048576: true; the input reads as it did. -/
def fnExactLevelOfUptoRow : OpenClaim := { program := "ytmiikblolbihcaa", sum := "94b94a7168ad85aa668df109d78a24fa929effe80cfe97dd1152cc10233cd2bf", func := "loop.example/g00908/laws.FnExactLevelOf", spec := "fnExactLevelOf", apart := false, narrowed := true }
def FnExactLevelOfUptoSaid : Prop := fnExactLevelOfUptoRow.holds Try.pinned (OpenSpec.upto fnExactLevelOfSpec)

/-- 'laws.FnExactLeavesOf', WHERE WHAT IT READS IS OF BULK AT MOST 1048576: true; the input reads as it did. -/
def fnExactLeavesOfUptoRow : OpenClaim := { program := "ytmiikblolbihcaa", sum := "94b94a7168ad85aa668df109d78a24fa929effe80cfe97dd1152cc10233cd2bf", func := "loop.example/g00908/laws.FnExactLeavesOf", spec := "fnExactLeavesOf", apart := false, narrowed := true }
def FnExactLeavesOfUptoSaid : Prop := fnExactLeavesOfUptoRow.holds Try.pinned (OpenSpec.upto fnExactLeavesOfSpec)

/-- 'laws.FnExactSumsUp', WHERE WHAT IT READS IS OF BULK AT MOST 1048576: true; the input reads as it did. -/
def fnExactSumsUpUptoRow : OpenClaim := { program := "ytmiikblolbihcaa", sum := "94b94a7168ad85aa668df109d78a24fa929effe80cfe97dd1152cc10233cd2bf", func := "loop.example/g00908/laws.FnExactSumsUp", spec := "fnExactSumsUp", apart := false, narrowed := true }
def FnExactSumsUpUptoSaid : Prop := fnExactSumsUpUptoRow.holds Try.pinned (OpenSpec.upto fnExactSumsUpSpec)

/-- 'laws.FnExactIsUniform', WHERE WHAT IT READS IS OF BULK AT MOST 1048576: true; the input reads as it did. -/
def fnExactIsUniformUptoRow : OpenClaim := { program := "ytmiikblolbihcaa", sum := "94b94a7168ad85aa668df109d78a24fa929effe80cfe97dd1152cc10233cd2bf", func := "loop.example/g00908/laws.FnExactIsUniform", spec := "fnExactIsUniform", apart := false, narrowed := true }
def FnExactIsUniformUptoSaid : Prop := fnExactIsUniformUptoRow.holds Try.pinned (OpenSpec.upto fnExactIsUniformSpec)

end Rows
end Go.Proofs.Ytmiikblolbihcaa
