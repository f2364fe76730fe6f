/-
  DERIVED. GIVEN WITH THE SEED: THE CARDS: each row of YtinagijpcfealaaDoorRows.lean that lists a variable, with what it lists TIED to the program's text (the seventh form; the later family's looks); each row that meets fmt, with fmt's text TOLD by the authors' own Lean function (tested against real Go, not proved from fmt's source: count such statements apart). THE CARD IS WHAT COUNTS. Prove the row's statement (the work); the ties are given (YtinagijpcfealaaDoorTie.lean); close each card by the builder's one call (the guide's Derived/Test/ToyasCard.lean, 'card_holds'). Laid BY PROGRAM, IN A SANDBOX (cutbox-door.mjs). By AI agents, Wed Nov 11 2026. No macro, syntax, notation, axiom, sorry.
-/
import Derived.Test.YtinagijpcfealaaDoorRows
import GoSem.ClaimSeven
namespace Go.Proofs.YtinagijpcfealaaDoor
namespace Rows

/-- THE TIED CARD OF 'laws.FnExactFracText'. -/
def fnExactFracTextCard : Claim7 := { stood := { row := fnExactFracTextRow, standIns := [], harness := (true, "f9d2874d5948f25629159dc1e76fa7fa883f7d7fe5e25bb423d8c669435421b2"), looks := false }, kinds := [], alts := [], laidByText := true, laidKinds := [.data, .data, .data], laidTests := true, laidLooks := .later }
def FnExactFracTextCardSaid : Prop := Claim7.holds Tryd.pinned (.plain (OpenSpec.ofChange fnExactFracTextSpec)) fnExactFracTextCard

/-- THE TIED CARD OF 'laws.FnExactSchemaText'. -/
def fnExactSchemaTextCard : Claim7 := { stood := { row := fnExactSchemaTextRow, standIns := [], harness := (true, "f9d2874d5948f25629159dc1e76fa7fa883f7d7fe5e25bb423d8c669435421b2"), looks := false }, kinds := [], alts := [], laidByText := true, laidKinds := [.data, .data, .data], laidTests := true, laidLooks := .later }
def FnExactSchemaTextCardSaid : Prop := Claim7.holds Tryd.pinned (.plain (OpenSpec.ofChange fnExactSchemaTextSpec)) fnExactSchemaTextCard

/-- THE TIED CARD OF 'laws.FnExactGeoText'. -/
def fnExactGeoTextCard : Claim7 := { stood := { row := fnExactGeoTextRow, standIns := [], harness := (true, "f9d2874d5948f25629159dc1e76fa7fa883f7d7fe5e25bb423d8c669435421b2"), looks := false }, kinds := [], alts := [], laidByText := true, laidKinds := [.data, .data, .data], laidTests := true, laidLooks := .later }
def FnExactGeoTextCardSaid : Prop := Claim7.holds Tryd.pinned (.plain (OpenSpec.ofChange fnExactGeoTextSpec)) fnExactGeoTextCard

/-- THE TIED CARD OF 'laws.FnExactParseGeo'. -/
def fnExactParseGeoCard : Claim7 := { stood := { row := fnExactParseGeoRow, standIns := [], harness := (true, "f9d2874d5948f25629159dc1e76fa7fa883f7d7fe5e25bb423d8c669435421b2"), looks := false }, kinds := [], alts := [], laidByText := true, laidKinds := [.data, .data, .data], laidTests := true, laidLooks := .later }
def FnExactParseGeoCardSaid : Prop := Claim7.holds Tryd.pinned (.plain (OpenSpec.ofChange fnExactParseGeoSpec)) fnExactParseGeoCard

/-- THE TIED CARD OF 'laws.FnExactDataText'. -/
def fnExactDataTextCard : Claim7 := { stood := { row := fnExactDataTextRow, standIns := [], harness := (true, "f9d2874d5948f25629159dc1e76fa7fa883f7d7fe5e25bb423d8c669435421b2"), looks := false }, kinds := [], alts := [], laidByText := true, laidKinds := [.data, .data, .data], laidTests := true, laidLooks := .later }
def FnExactDataTextCardSaid : Prop := Claim7.holds Tryd.pinned (.plain (OpenSpec.ofChange fnExactDataTextSpec)) fnExactDataTextCard

/-- THE TIED CARD OF 'laws.FnExactParseData'. -/
def fnExactParseDataCard : Claim7 := { stood := { row := fnExactParseDataRow, standIns := [], harness := (true, "f9d2874d5948f25629159dc1e76fa7fa883f7d7fe5e25bb423d8c669435421b2"), looks := false }, kinds := [], alts := [], laidByText := true, laidKinds := [.data, .pinned], laidTests := true, laidLooks := .later }
def FnExactParseDataCardSaid : Prop := Claim7.holds Tryd.pinned (.plain (OpenSpec.ofChange fnExactParseDataSpec)) fnExactParseDataCard

/-- THE SECOND FORM's CARD OF 'laws.FnExactFracText'. -/
def fnExactFracTextUptoCard : Claim7 := { stood := { row := fnExactFracTextUptoRow, standIns := [], harness := (true, "f9d2874d5948f25629159dc1e76fa7fa883f7d7fe5e25bb423d8c669435421b2"), looks := false }, kinds := [], alts := [], laidByText := true, laidKinds := [.data, .data, .data], laidTests := true, laidLooks := .later }
def FnExactFracTextUptoCardSaid : Prop := Claim7.holds Tryd.pinned (.plain (OpenSpec.upto fnExactFracTextSpec)) fnExactFracTextUptoCard

/-- THE SECOND FORM's CARD OF 'laws.FnExactSchemaText'. -/
def fnExactSchemaTextUptoCard : Claim7 := { stood := { row := fnExactSchemaTextUptoRow, standIns := [], harness := (true, "f9d2874d5948f25629159dc1e76fa7fa883f7d7fe5e25bb423d8c669435421b2"), looks := false }, kinds := [], alts := [], laidByText := true, laidKinds := [.data, .data, .data], laidTests := true, laidLooks := .later }
def FnExactSchemaTextUptoCardSaid : Prop := Claim7.holds Tryd.pinned (.plain (OpenSpec.upto fnExactSchemaTextSpec)) fnExactSchemaTextUptoCard

/-- THE SECOND FORM's CARD OF 'laws.FnExactGeoText'. -/
def fnExactGeoTextUptoCard : Claim7 := { stood := { row := fnExactGeoTextUptoRow, standIns := [], harness := (true, "f9d2874d5948f25629159dc1e76fa7fa883f7d7fe5e25bb423d8c669435421b2"), looks := false }, kinds := [], alts := [], laidByText := true, laidKinds := [.data, .data, .data], laidTests := true, laidLooks := .later }
def FnExactGeoTextUptoCardSaid : Prop := Claim7.holds Tryd.pinned (.plain (OpenSpec.upto fnExactGeoTextSpec)) fnExactGeoTextUptoCard

/-- THE SECOND FORM's CARD OF 'laws.FnExactParseGeo'. -/
def fnExactParseGeoUptoCard : Claim7 := { stood := { row := fnExactParseGeoUptoRow, standIns := [], harness := (true, "f9d2874d5948f25629159dc1e76fa7fa883f7d7fe5e25bb423d8c669435421b2"), looks := false }, kinds := [], alts := [], laidByText := true, laidKinds := [.data, .data, .data], laidTests := true, laidLooks := .later }
def FnExactParseGeoUptoCardSaid : Prop := Claim7.holds Tryd.pinned (.plain (OpenSpec.upto fnExactParseGeoSpec)) fnExactParseGeoUptoCard

/-- THE SECOND FORM's CARD OF 'laws.FnExactDataText'. -/
def fnExactDataTextUptoCard : Claim7 := { stood := { row := fnExactDataTextUptoRow, standIns := [], harness := (true, "f9d2874d5948f25629159dc1e76fa7fa883f7d7fe5e25bb423d8c669435421b2"), looks := false }, kinds := [], alts := [], laidByText := true, laidKinds := [.data, .data, .data], laidTests := true, laidLooks := .later }
def FnExactDataTextUptoCardSaid : Prop := Claim7.holds Tryd.pinned (.plain (OpenSpec.upto fnExactDataTextSpec)) fnExactDataTextUptoCard

/-- THE SECOND FORM's CARD OF 'laws.FnExactParseData'. -/
def fnExactParseDataUptoCard : Claim7 := { stood := { row := fnExactParseDataUptoRow, standIns := [], harness := (true, "f9d2874d5948f25629159dc1e76fa7fa883f7d7fe5e25bb423d8c669435421b2"), looks := false }, kinds := [], alts := [], laidByText := true, laidKinds := [.data, .pinned], laidTests := true, laidLooks := .later }
def FnExactParseDataUptoCardSaid : Prop := Claim7.holds Tryd.pinned (.plain (OpenSpec.upto fnExactParseDataSpec)) fnExactParseDataUptoCard
end Rows
end Go.Proofs.YtinagijpcfealaaDoor
