/-
  NARROWER THAN 'FOR EVERY INPUT', by the rows' own cells (each row's printed sentence says how): FnExactFracText: laid · FnExactSchemaText: laid · FnExactGeoText: laid · FnExactParseGeo: laid · FnExactDataText: laid · FnExactParseData: laid.
  DERIVED. THE GIVEN ROWS OF THIS SEAT. 6 by the template 'for every input the law returns true; each argument reads behind the call as it read before'; 0 by the template 'total and deterministic' (their statements: YtinagijpcfealaaDoorTotals.lean).
  GIVEN WITH THE SEED: the statements are not yours to turn. If you find one false, say at which input.
  Laid BY PROGRAM, IN A SANDBOX (cutbox-rows.mjs): the forced cells as the released guide's own fill.sh prints them over the translation b8527324a488a6f6… (all of the seat's roots in one cut). By AI agents, Wed Nov 11 2026. No macro, syntax, notation, axiom, sorry.
-/
import Derived.Test.YtinagijpcfealaaDoorChecked
import GoSem.PinnedTables
import GoSem.Claim
import GoSem.ClaimJoined
import GoSem.ClaimMapViews
import Derived.JoinedTies
import Derived.KernelRfl
namespace Go.Proofs.YtinagijpcfealaaDoor
/- THE CELL 'sum', in the pinned program and in every row, IS THE sha256 OF THE DUMP (.gsa) THAT YtinagijpcfealaaDoorProg.lean LOADS. Nothing in Lean hashes anything: it is a label: what it is worth is what the hold of that sum in a sandbox is worth. -/
noncomputable def Tryd.pinned : Pinned := { name := "ytinagijpcfealaadoor", sum := "b8527324a488a6f63f55ea7bd4323063391a3f4bd546f232935d7671942a14f6", checked := Tryd.checked }
namespace Rows
def none {H : Type} : Left H := { results := [], args := [] }

/- WHAT THE LISTED PACKAGE-LEVEL VARIABLES READ AS WHEN THE CALL BEGINS. Each datum BY PROGRAM (the guide's laid-datum.mjs) off the statement by which the dump's own 'gosem.cut.vars' lays the variable. In a bare row this is a premise. The card (YtinagijpcfealaaDoorCards.lean) ties it to the program's text. -/
def laid_math_bits_deBruijn32tab {H : Type} : DataW H := .agg [.lit (.int .u8 0), .lit (.int .u8 1), .lit (.int .u8 28), .lit (.int .u8 2), .lit (.int .u8 29), .lit (.int .u8 14), .lit (.int .u8 24), .lit (.int .u8 3), .lit (.int .u8 30), .lit (.int .u8 22), .lit (.int .u8 20), .lit (.int .u8 15), .lit (.int .u8 25), .lit (.int .u8 17), .lit (.int .u8 4), .lit (.int .u8 8), .lit (.int .u8 31), .lit (.int .u8 27), .lit (.int .u8 13), .lit (.int .u8 23), .lit (.int .u8 21), .lit (.int .u8 19), .lit (.int .u8 16), .lit (.int .u8 7), .lit (.int .u8 26), .lit (.int .u8 12), .lit (.int .u8 18), .lit (.int .u8 6), .lit (.int .u8 11), .lit (.int .u8 5), .lit (.int .u8 10), .lit (.int .u8 9)]
def laid_math_bits_deBruijn64tab {H : Type} : DataW H := .agg [.lit (.int .u8 0), .lit (.int .u8 1), .lit (.int .u8 56), .lit (.int .u8 2), .lit (.int .u8 57), .lit (.int .u8 49), .lit (.int .u8 28), .lit (.int .u8 3), .lit (.int .u8 61), .lit (.int .u8 58), .lit (.int .u8 42), .lit (.int .u8 50), .lit (.int .u8 38), .lit (.int .u8 29), .lit (.int .u8 17), .lit (.int .u8 4), .lit (.int .u8 62), .lit (.int .u8 47), .lit (.int .u8 59), .lit (.int .u8 36), .lit (.int .u8 45), .lit (.int .u8 43), .lit (.int .u8 51), .lit (.int .u8 22), .lit (.int .u8 53), .lit (.int .u8 39), .lit (.int .u8 33), .lit (.int .u8 30), .lit (.int .u8 24), .lit (.int .u8 18), .lit (.int .u8 12), .lit (.int .u8 5), .lit (.int .u8 63), .lit (.int .u8 55), .lit (.int .u8 48), .lit (.int .u8 27), .lit (.int .u8 60), .lit (.int .u8 41), .lit (.int .u8 37), .lit (.int .u8 16), .lit (.int .u8 46), .lit (.int .u8 35), .lit (.int .u8 44), .lit (.int .u8 21), .lit (.int .u8 52), .lit (.int .u8 32), .lit (.int .u8 23), .lit (.int .u8 11), .lit (.int .u8 54), .lit (.int .u8 26), .lit (.int .u8 40), .lit (.int .u8 15), .lit (.int .u8 34), .lit (.int .u8 20), .lit (.int .u8 31), .lit (.int .u8 10), .lit (.int .u8 25), .lit (.int .u8 14), .lit (.int .u8 19), .lit (.int .u8 9), .lit (.int .u8 13), .lit (.int .u8 8), .lit (.int .u8 7), .lit (.int .u8 6)]
def laid_internal_strconv_uint64pow10 {H : Type} : DataW H := .agg [.lit (.int .u64 1), .lit (.int .u64 10), .lit (.int .u64 100), .lit (.int .u64 1000), .lit (.int .u64 10000), .lit (.int .u64 100000), .lit (.int .u64 1000000), .lit (.int .u64 10000000), .lit (.int .u64 100000000), .lit (.int .u64 1000000000), .lit (.int .u64 10000000000), .lit (.int .u64 100000000000), .lit (.int .u64 1000000000000), .lit (.int .u64 10000000000000), .lit (.int .u64 100000000000000), .lit (.int .u64 1000000000000000), .lit (.int .u64 10000000000000000), .lit (.int .u64 100000000000000000), .lit (.int .u64 1000000000000000000), .lit (.int .u64 10000000000000000000)]
def laid_unicode_utf8_acceptRanges {H : Type} : DataW H := .agg [.agg [.lit (.int .u8 128), .lit (.int .u8 191)], .agg [.lit (.int .u8 160), .lit (.int .u8 191)], .agg [.lit (.int .u8 128), .lit (.int .u8 159)], .agg [.lit (.int .u8 144), .lit (.int .u8 191)], .agg [.lit (.int .u8 128), .lit (.int .u8 143)], .agg [.lit (.int .u8 0), .lit (.int .u8 0)], .agg [.lit (.int .u8 0), .lit (.int .u8 0)], .agg [.lit (.int .u8 0), .lit (.int .u8 0)], .agg [.lit (.int .u8 0), .lit (.int .u8 0)], .agg [.lit (.int .u8 0), .lit (.int .u8 0)], .agg [.lit (.int .u8 0), .lit (.int .u8 0)], .agg [.lit (.int .u8 0), .lit (.int .u8 0)], .agg [.lit (.int .u8 0), .lit (.int .u8 0)], .agg [.lit (.int .u8 0), .lit (.int .u8 0)], .agg [.lit (.int .u8 0), .lit (.int .u8 0)], .agg [.lit (.int .u8 0), .lit (.int .u8 0)]]
/-- One of Go's own tables, pinned by name: the form's constant. -/
def laid_unicode_utf8_first : DataW Unit := Go.Pinned.utf8First

/-- 'laws.FnExactFracText': WHATEVER THE INPUT: true; the input reads as it did. -/
def fnExactFracTextSpec : ChangeSpec := { name := "fnExactFracText", fn := fun _ => fun
  | [d] => { results := [.lit (.bool true)], args := [d] }
  | _ => none }
def fnExactFracTextRow : OpenClaim := { program := "ytinagijpcfealaadoor", sum := "b8527324a488a6f63f55ea7bd4323063391a3f4bd546f232935d7671942a14f6", func := "loop.example/g00908/laws.FnExactFracText", spec := "fnExactFracText", recurses := true, named := ["internal/strconv.uint64pow10", "math/bits.deBruijn32tab", "math/bits.deBruijn64tab"], apart := false, laid := [("math/bits.deBruijn32tab", laid_math_bits_deBruijn32tab), ("math/bits.deBruijn64tab", laid_math_bits_deBruijn64tab), ("internal/strconv.uint64pow10", laid_internal_strconv_uint64pow10)] }
def FnExactFracTextSaid : Prop := fnExactFracTextRow.holds Tryd.pinned (OpenSpec.ofChange fnExactFracTextSpec)

/-- ITS FALSE NEIGHBOUR: 'it returns false'. Refute it at one input. -/
def fnExactFracTextWrong : ChangeSpec := { name := "fnExactFracText", fn := fun _ => fun
  | [d] => { results := [.lit (.bool false)], args := [d] }
  | _ => none }
def FnExactFracTextWrongFalsely : Prop := fnExactFracTextRow.holds Tryd.pinned (OpenSpec.ofChange fnExactFracTextWrong)

/-- 'laws.FnExactSchemaText': WHATEVER THE INPUT: true; the input reads as it did. -/
def fnExactSchemaTextSpec : ChangeSpec := { name := "fnExactSchemaText", fn := fun _ => fun
  | [d] => { results := [.lit (.bool true)], args := [d] }
  | _ => none }
def fnExactSchemaTextRow : OpenClaim := { program := "ytinagijpcfealaadoor", sum := "b8527324a488a6f63f55ea7bd4323063391a3f4bd546f232935d7671942a14f6", func := "loop.example/g00908/laws.FnExactSchemaText", spec := "fnExactSchemaText", inPlace := ["internal/abi.NoEscape", "internal/bytealg.MakeNoZero"], recurses := true, named := ["internal/strconv.uint64pow10", "math/bits.deBruijn32tab", "math/bits.deBruijn64tab"], apart := false, laid := [("math/bits.deBruijn32tab", laid_math_bits_deBruijn32tab), ("math/bits.deBruijn64tab", laid_math_bits_deBruijn64tab), ("internal/strconv.uint64pow10", laid_internal_strconv_uint64pow10)] }
def FnExactSchemaTextSaid : Prop := fnExactSchemaTextRow.holds Tryd.pinned (OpenSpec.ofChange fnExactSchemaTextSpec)

/-- ITS FALSE NEIGHBOUR: 'it returns false'. Refute it at one input. -/
def fnExactSchemaTextWrong : ChangeSpec := { name := "fnExactSchemaText", fn := fun _ => fun
  | [d] => { results := [.lit (.bool false)], args := [d] }
  | _ => none }
def FnExactSchemaTextWrongFalsely : Prop := fnExactSchemaTextRow.holds Tryd.pinned (OpenSpec.ofChange fnExactSchemaTextWrong)

/-- 'laws.FnExactGeoText': WHATEVER THE INPUT: true; the input reads as it did. -/
def fnExactGeoTextSpec : ChangeSpec := { name := "fnExactGeoText", fn := fun _ => fun
  | [d] => { results := [.lit (.bool true)], args := [d] }
  | _ => none }
def fnExactGeoTextRow : OpenClaim := { program := "ytinagijpcfealaadoor", sum := "b8527324a488a6f63f55ea7bd4323063391a3f4bd546f232935d7671942a14f6", func := "loop.example/g00908/laws.FnExactGeoText", spec := "fnExactGeoText", inPlace := ["internal/abi.NoEscape", "internal/bytealg.MakeNoZero"], recurses := true, named := ["internal/strconv.uint64pow10", "math/bits.deBruijn32tab", "math/bits.deBruijn64tab"], apart := false, laid := [("math/bits.deBruijn32tab", laid_math_bits_deBruijn32tab), ("math/bits.deBruijn64tab", laid_math_bits_deBruijn64tab), ("internal/strconv.uint64pow10", laid_internal_strconv_uint64pow10)] }
def FnExactGeoTextSaid : Prop := fnExactGeoTextRow.holds Tryd.pinned (OpenSpec.ofChange fnExactGeoTextSpec)

/-- ITS FALSE NEIGHBOUR: 'it returns false'. Refute it at one input. -/
def fnExactGeoTextWrong : ChangeSpec := { name := "fnExactGeoText", fn := fun _ => fun
  | [d] => { results := [.lit (.bool false)], args := [d] }
  | _ => none }
def FnExactGeoTextWrongFalsely : Prop := fnExactGeoTextRow.holds Tryd.pinned (OpenSpec.ofChange fnExactGeoTextWrong)

/-- 'laws.FnExactParseGeo': WHATEVER THE INPUT: true; the input reads as it did. -/
def fnExactParseGeoSpec : ChangeSpec := { name := "fnExactParseGeo", fn := fun _ => fun
  | [d] => { results := [.lit (.bool true)], args := [d] }
  | _ => none }
def fnExactParseGeoRow : OpenClaim := { program := "ytinagijpcfealaadoor", sum := "b8527324a488a6f63f55ea7bd4323063391a3f4bd546f232935d7671942a14f6", func := "loop.example/g00908/laws.FnExactParseGeo", spec := "fnExactParseGeo", inPlace := ["internal/abi.NoEscape", "internal/bytealg.MakeNoZero"], recurses := true, named := ["internal/strconv.uint64pow10", "math/bits.deBruijn32tab", "math/bits.deBruijn64tab"], apart := false, laid := [("math/bits.deBruijn32tab", laid_math_bits_deBruijn32tab), ("math/bits.deBruijn64tab", laid_math_bits_deBruijn64tab), ("internal/strconv.uint64pow10", laid_internal_strconv_uint64pow10)] }
def FnExactParseGeoSaid : Prop := fnExactParseGeoRow.holds Tryd.pinned (OpenSpec.ofChange fnExactParseGeoSpec)

/-- ITS FALSE NEIGHBOUR: 'it returns false'. Refute it at one input. -/
def fnExactParseGeoWrong : ChangeSpec := { name := "fnExactParseGeo", fn := fun _ => fun
  | [d] => { results := [.lit (.bool false)], args := [d] }
  | _ => none }
def FnExactParseGeoWrongFalsely : Prop := fnExactParseGeoRow.holds Tryd.pinned (OpenSpec.ofChange fnExactParseGeoWrong)

/-- 'laws.FnExactDataText': WHATEVER THE INPUT: true; the input reads as it did. -/
def fnExactDataTextSpec : ChangeSpec := { name := "fnExactDataText", fn := fun _ => fun
  | [d1, d2] => { results := [.lit (.bool true)], args := [d1, d2] }
  | _ => none }
def fnExactDataTextRow : OpenClaim := { program := "ytinagijpcfealaadoor", sum := "b8527324a488a6f63f55ea7bd4323063391a3f4bd546f232935d7671942a14f6", func := "loop.example/g00908/laws.FnExactDataText", spec := "fnExactDataText", inPlace := ["internal/abi.NoEscape"], recurses := true, named := ["internal/strconv.uint64pow10", "math/bits.deBruijn32tab", "math/bits.deBruijn64tab"], apart := false, laid := [("math/bits.deBruijn32tab", laid_math_bits_deBruijn32tab), ("math/bits.deBruijn64tab", laid_math_bits_deBruijn64tab), ("internal/strconv.uint64pow10", laid_internal_strconv_uint64pow10)] }
def FnExactDataTextSaid : Prop := fnExactDataTextRow.holds Tryd.pinned (OpenSpec.ofChange fnExactDataTextSpec)

/-- ITS FALSE NEIGHBOUR: 'it returns false'. Refute it at one input. -/
def fnExactDataTextWrong : ChangeSpec := { name := "fnExactDataText", fn := fun _ => fun
  | [d1, d2] => { results := [.lit (.bool false)], args := [d1, d2] }
  | _ => none }
def FnExactDataTextWrongFalsely : Prop := fnExactDataTextRow.holds Tryd.pinned (OpenSpec.ofChange fnExactDataTextWrong)

/-- 'laws.FnExactParseData': WHATEVER THE INPUT: true; the input reads as it did. -/
def fnExactParseDataSpec : ChangeSpec := { name := "fnExactParseData", fn := fun _ => fun
  | [d1, d2] => { results := [.lit (.bool true)], args := [d1, d2] }
  | _ => none }
def fnExactParseDataRow : OpenClaim := { program := "ytinagijpcfealaadoor", sum := "b8527324a488a6f63f55ea7bd4323063391a3f4bd546f232935d7671942a14f6", func := "loop.example/g00908/laws.FnExactParseData", spec := "fnExactParseData", inPlace := ["internal/bytealg.IndexByteString", "internal/bytealg.IndexString", "internal/bytealg.CountString"], recurses := true, named := ["internal/bytealg.MaxLen", "unicode/utf8.first", "unicode/utf8.acceptRanges"], apart := false, laid := [("unicode/utf8.acceptRanges", laid_unicode_utf8_acceptRanges), ("unicode/utf8.first", laid_unicode_utf8_first)] }
def FnExactParseDataSaid : Prop := fnExactParseDataRow.holds Tryd.pinned (OpenSpec.ofChange fnExactParseDataSpec)

/-- ITS FALSE NEIGHBOUR: 'it returns false'. Refute it at one input. -/
def fnExactParseDataWrong : ChangeSpec := { name := "fnExactParseData", fn := fun _ => fun
  | [d1, d2] => { results := [.lit (.bool false)], args := [d1, d2] }
  | _ => none }
def FnExactParseDataWrongFalsely : Prop := fnExactParseDataRow.holds Tryd.pinned (OpenSpec.ofChange fnExactParseDataWrong)

/- THE SECOND FORM. 'bulk': how many values and letters a reading holds, each counted each time it is reached (what is shared counts as often as it is met; a slice's spare places count too). A statement '..UptoSaid' is the law's where the arguments, and the package variables that the reading takes, are together of bulk at most 1048576: NARROWER than '..Said'. Prove '..Said' where nothing that the law and all that it calls make is longer than what came in: it says more and counts as full. Else prove '..UptoSaid'. A law counts once. -/
mutual
def uptoBulk {H : Type} : DataW H → Nat
  | .lit (.string bytes) => bytes.length + 1
  | .lit _ => 1
  | .nil => 1
  | .ptr d => uptoBulk d + 1
  | .slice elems spare => uptoBulkAll elems + uptoBulkAll spare + 1
  | .agg parts => uptoBulkAll parts + 1
  | .iface _ d => uptoBulk d + 1
  | .map entries => uptoBulkEntries entries + 1
  | .held _ => 1
def uptoBulkAll {H : Type} : List (DataW H) → Nat
  | [] => 0
  | d :: r => uptoBulk d + uptoBulkAll r
def uptoBulkEntries {H : Type} : List (Lit × DataW H) → Nat
  | [] => 0
  | x :: r => uptoBulkEntry x + uptoBulkEntries r
def uptoBulkEntry {H : Type} : Lit × DataW H → Nat
  | (.string bytes, d) => bytes.length + uptoBulk d + 1
  | (_, d) => uptoBulk d + 1
 end
def uptoSmall : (H : Type) → List (DataW H) → Bool := fun _ ds => decide (uptoBulkAll ds ≤ 1048576)
def OpenSpec.upto (s : _root_.Go.ChangeSpec) : _root_.Go.OpenSpec := { _root_.Go.OpenSpec.ofChange s with cond := some uptoSmall }

/-- 'laws.FnExactFracText', WHERE WHAT IT READS IS OF BULK AT MOST 1048576: true; the input reads as it did. -/
def fnExactFracTextUptoRow : OpenClaim := { program := "ytinagijpcfealaadoor", sum := "b8527324a488a6f63f55ea7bd4323063391a3f4bd546f232935d7671942a14f6", func := "loop.example/g00908/laws.FnExactFracText", spec := "fnExactFracText", recurses := true, named := ["internal/strconv.uint64pow10", "math/bits.deBruijn32tab", "math/bits.deBruijn64tab"], apart := false, laid := [("math/bits.deBruijn32tab", laid_math_bits_deBruijn32tab), ("math/bits.deBruijn64tab", laid_math_bits_deBruijn64tab), ("internal/strconv.uint64pow10", laid_internal_strconv_uint64pow10)], narrowed := true }
def FnExactFracTextUptoSaid : Prop := fnExactFracTextUptoRow.holds Tryd.pinned (OpenSpec.upto fnExactFracTextSpec)

/-- 'laws.FnExactSchemaText', WHERE WHAT IT READS IS OF BULK AT MOST 1048576: true; the input reads as it did. -/
def fnExactSchemaTextUptoRow : OpenClaim := { program := "ytinagijpcfealaadoor", sum := "b8527324a488a6f63f55ea7bd4323063391a3f4bd546f232935d7671942a14f6", func := "loop.example/g00908/laws.FnExactSchemaText", spec := "fnExactSchemaText", inPlace := ["internal/abi.NoEscape", "internal/bytealg.MakeNoZero"], recurses := true, named := ["internal/strconv.uint64pow10", "math/bits.deBruijn32tab", "math/bits.deBruijn64tab"], apart := false, laid := [("math/bits.deBruijn32tab", laid_math_bits_deBruijn32tab), ("math/bits.deBruijn64tab", laid_math_bits_deBruijn64tab), ("internal/strconv.uint64pow10", laid_internal_strconv_uint64pow10)], narrowed := true }
def FnExactSchemaTextUptoSaid : Prop := fnExactSchemaTextUptoRow.holds Tryd.pinned (OpenSpec.upto fnExactSchemaTextSpec)

/-- 'laws.FnExactGeoText', WHERE WHAT IT READS IS OF BULK AT MOST 1048576: true; the input reads as it did. -/
def fnExactGeoTextUptoRow : OpenClaim := { program := "ytinagijpcfealaadoor", sum := "b8527324a488a6f63f55ea7bd4323063391a3f4bd546f232935d7671942a14f6", func := "loop.example/g00908/laws.FnExactGeoText", spec := "fnExactGeoText", inPlace := ["internal/abi.NoEscape", "internal/bytealg.MakeNoZero"], recurses := true, named := ["internal/strconv.uint64pow10", "math/bits.deBruijn32tab", "math/bits.deBruijn64tab"], apart := false, laid := [("math/bits.deBruijn32tab", laid_math_bits_deBruijn32tab), ("math/bits.deBruijn64tab", laid_math_bits_deBruijn64tab), ("internal/strconv.uint64pow10", laid_internal_strconv_uint64pow10)], narrowed := true }
def FnExactGeoTextUptoSaid : Prop := fnExactGeoTextUptoRow.holds Tryd.pinned (OpenSpec.upto fnExactGeoTextSpec)

/-- 'laws.FnExactParseGeo', WHERE WHAT IT READS IS OF BULK AT MOST 1048576: true; the input reads as it did. -/
def fnExactParseGeoUptoRow : OpenClaim := { program := "ytinagijpcfealaadoor", sum := "b8527324a488a6f63f55ea7bd4323063391a3f4bd546f232935d7671942a14f6", func := "loop.example/g00908/laws.FnExactParseGeo", spec := "fnExactParseGeo", inPlace := ["internal/abi.NoEscape", "internal/bytealg.MakeNoZero"], recurses := true, named := ["internal/strconv.uint64pow10", "math/bits.deBruijn32tab", "math/bits.deBruijn64tab"], apart := false, laid := [("math/bits.deBruijn32tab", laid_math_bits_deBruijn32tab), ("math/bits.deBruijn64tab", laid_math_bits_deBruijn64tab), ("internal/strconv.uint64pow10", laid_internal_strconv_uint64pow10)], narrowed := true }
def FnExactParseGeoUptoSaid : Prop := fnExactParseGeoUptoRow.holds Tryd.pinned (OpenSpec.upto fnExactParseGeoSpec)

/-- 'laws.FnExactDataText', WHERE WHAT IT READS IS OF BULK AT MOST 1048576: true; the input reads as it did. -/
def fnExactDataTextUptoRow : OpenClaim := { program := "ytinagijpcfealaadoor", sum := "b8527324a488a6f63f55ea7bd4323063391a3f4bd546f232935d7671942a14f6", func := "loop.example/g00908/laws.FnExactDataText", spec := "fnExactDataText", inPlace := ["internal/abi.NoEscape"], recurses := true, named := ["internal/strconv.uint64pow10", "math/bits.deBruijn32tab", "math/bits.deBruijn64tab"], apart := false, laid := [("math/bits.deBruijn32tab", laid_math_bits_deBruijn32tab), ("math/bits.deBruijn64tab", laid_math_bits_deBruijn64tab), ("internal/strconv.uint64pow10", laid_internal_strconv_uint64pow10)], narrowed := true }
def FnExactDataTextUptoSaid : Prop := fnExactDataTextUptoRow.holds Tryd.pinned (OpenSpec.upto fnExactDataTextSpec)

/-- 'laws.FnExactParseData', WHERE WHAT IT READS IS OF BULK AT MOST 1048576: true; the input reads as it did. -/
def fnExactParseDataUptoRow : OpenClaim := { program := "ytinagijpcfealaadoor", sum := "b8527324a488a6f63f55ea7bd4323063391a3f4bd546f232935d7671942a14f6", func := "loop.example/g00908/laws.FnExactParseData", spec := "fnExactParseData", inPlace := ["internal/bytealg.IndexByteString", "internal/bytealg.IndexString", "internal/bytealg.CountString"], recurses := true, named := ["internal/bytealg.MaxLen", "unicode/utf8.first", "unicode/utf8.acceptRanges"], apart := false, laid := [("unicode/utf8.acceptRanges", laid_unicode_utf8_acceptRanges), ("unicode/utf8.first", laid_unicode_utf8_first)], narrowed := true }
def FnExactParseDataUptoSaid : Prop := fnExactParseDataUptoRow.holds Tryd.pinned (OpenSpec.upto fnExactParseDataSpec)

end Rows
end Go.Proofs.YtinagijpcfealaaDoor
