/-
  DERIVED. GIVEN WITH THE SEED: THE CARDS: each row of YtagbpjegdfhmpaaDoorRows.lean that lists a variable, with what it lists TIED to the program's text (the seventh form; the later family's looks); each row that meets fmt, with fmt's text TOLD by the authors' own Lean function (tested against real Go, not proved from fmt's source: count such statements apart). THE CARD IS WHAT COUNTS. Prove the row's statement (the work); the ties are given (YtagbpjegdfhmpaaDoorTie.lean); close each card by the builder's one call (the guide's Derived/Test/ToyasCard.lean, 'card_holds'). Laid BY PROGRAM, IN A SANDBOX (cutbox-door.mjs). By AI agents, Wed Nov 11 2026. No macro, syntax, notation, axiom, sorry.
-/
import Derived.Test.YtagbpjegdfhmpaaDoorRows
import GoSem.ClaimSeven
namespace Go.Proofs.YtagbpjegdfhmpaaDoor
namespace Rows

/-- THE TIED CARD OF 'musterlaw09.RecordsNames'. -/
def recordsNamesCard : Claim7 := { stood := { row := recordsNamesRow, standIns := [], harness := (true, "f4804e388255ced0bbf48bf69e4f9e88b54a1f3c945c4a93b1a895f5ba1a4d2d"), looks := true }, kinds := [], alts := [], laidByText := true, laidKinds := [.data, .data, .data, .data, .sentinel, .sentinel, .pinned], laidTests := true, laidLooks := .later }
def RecordsNamesCardSaid : Prop := Claim7.holds Tryd.pinned (.plain (OpenSpec.ofChange recordsNamesSpec)) recordsNamesCard

/-- THE TIED CARD OF 'musterlaw09.RecordsLabels'. -/
def recordsLabelsCard : Claim7 := { stood := { row := recordsLabelsRow, standIns := [], harness := (true, "f4804e388255ced0bbf48bf69e4f9e88b54a1f3c945c4a93b1a895f5ba1a4d2d"), looks := true }, kinds := [], alts := [], laidByText := true, laidKinds := [.data, .data, .data, .data, .sentinel, .sentinel, .pinned], laidTests := true, laidLooks := .later }
def RecordsLabelsCardSaid : Prop := Claim7.holds Tryd.pinned (.plain (OpenSpec.ofChange recordsLabelsSpec)) recordsLabelsCard

/-- THE TIED CARD OF 'musterlaw09.RecordsRows'. -/
def recordsRowsCard : Claim7 := { stood := { row := recordsRowsRow, standIns := [], harness := (true, "f4804e388255ced0bbf48bf69e4f9e88b54a1f3c945c4a93b1a895f5ba1a4d2d"), looks := true }, kinds := [], alts := [], laidByText := true, laidKinds := [.data, .data, .data, .data, .sentinel, .sentinel, .pinned], laidTests := true, laidLooks := .later }
def RecordsRowsCardSaid : Prop := Claim7.holds Tryd.pinned (.plain (OpenSpec.ofChange recordsRowsSpec)) recordsRowsCard

/-- THE TIED CARD OF 'musterlaw06.SchemaNames'. -/
def schemaNamesCard : Claim7 := { stood := { row := schemaNamesRow, standIns := [], harness := (true, "f4804e388255ced0bbf48bf69e4f9e88b54a1f3c945c4a93b1a895f5ba1a4d2d"), looks := true }, kinds := [], alts := [], laidByText := true, laidKinds := [.data, .widerDeep, .pinned], laidTests := true, laidLooks := .later }
def SchemaNamesCardSaid : Prop := Claim7.holds Tryd.pinned (.plain (OpenSpec.ofChange schemaNamesSpec)) schemaNamesCard

/-- THE TIED CARD OF 'musterlaw06.SchemaJoins'. -/
def schemaJoinsCard : Claim7 := { stood := { row := schemaJoinsRow, standIns := [], harness := (true, "f4804e388255ced0bbf48bf69e4f9e88b54a1f3c945c4a93b1a895f5ba1a4d2d"), looks := true }, kinds := [], alts := [], laidByText := true, laidKinds := [.data, .widerDeep, .pinned], laidTests := true, laidLooks := .later }
def SchemaJoinsCardSaid : Prop := Claim7.holds Tryd.pinned (.plain (OpenSpec.ofChange schemaJoinsSpec)) schemaJoinsCard

/-- THE TIED CARD OF 'musterlaw06.SchemaApart'. -/
def schemaApartCard : Claim7 := { stood := { row := schemaApartRow, standIns := [], harness := (true, "f4804e388255ced0bbf48bf69e4f9e88b54a1f3c945c4a93b1a895f5ba1a4d2d"), looks := true }, kinds := [], alts := [], laidByText := true, laidKinds := [.data, .widerDeep, .pinned], laidTests := true, laidLooks := .later }
def SchemaApartCardSaid : Prop := Claim7.holds Tryd.pinned (.plain (OpenSpec.ofChange schemaApartSpec)) schemaApartCard

/-- THE TIED CARD OF 'musterlaw09.RecordsFixes'. -/
def recordsFixesCard : Claim7 := { stood := { row := recordsFixesRow, standIns := [], harness := (true, "f4804e388255ced0bbf48bf69e4f9e88b54a1f3c945c4a93b1a895f5ba1a4d2d"), looks := true }, kinds := [], alts := [], laidByText := true, laidKinds := [.data, .data, .data, .data, .sentinel, .sentinel, .pinned], laidTests := true, laidLooks := .later }
def RecordsFixesCardSaid : Prop := Claim7.holds Tryd.pinned (.plain (OpenSpec.ofChange recordsFixesSpec)) recordsFixesCard

/-- THE SECOND FORM's CARD OF 'musterlaw09.RecordsNames'. -/
def recordsNamesUptoCard : Claim7 := { stood := { row := recordsNamesUptoRow, standIns := [], harness := (true, "f4804e388255ced0bbf48bf69e4f9e88b54a1f3c945c4a93b1a895f5ba1a4d2d"), looks := true }, kinds := [], alts := [], laidByText := true, laidKinds := [.data, .data, .data, .data, .sentinel, .sentinel, .pinned], laidTests := true, laidLooks := .later }
def RecordsNamesUptoCardSaid : Prop := Claim7.holds Tryd.pinned (.plain (OpenSpec.upto recordsNamesSpec)) recordsNamesUptoCard

/-- THE SECOND FORM's CARD OF 'musterlaw09.RecordsLabels'. -/
def recordsLabelsUptoCard : Claim7 := { stood := { row := recordsLabelsUptoRow, standIns := [], harness := (true, "f4804e388255ced0bbf48bf69e4f9e88b54a1f3c945c4a93b1a895f5ba1a4d2d"), looks := true }, kinds := [], alts := [], laidByText := true, laidKinds := [.data, .data, .data, .data, .sentinel, .sentinel, .pinned], laidTests := true, laidLooks := .later }
def RecordsLabelsUptoCardSaid : Prop := Claim7.holds Tryd.pinned (.plain (OpenSpec.upto recordsLabelsSpec)) recordsLabelsUptoCard

/-- THE SECOND FORM's CARD OF 'musterlaw09.RecordsRows'. -/
def recordsRowsUptoCard : Claim7 := { stood := { row := recordsRowsUptoRow, standIns := [], harness := (true, "f4804e388255ced0bbf48bf69e4f9e88b54a1f3c945c4a93b1a895f5ba1a4d2d"), looks := true }, kinds := [], alts := [], laidByText := true, laidKinds := [.data, .data, .data, .data, .sentinel, .sentinel, .pinned], laidTests := true, laidLooks := .later }
def RecordsRowsUptoCardSaid : Prop := Claim7.holds Tryd.pinned (.plain (OpenSpec.upto recordsRowsSpec)) recordsRowsUptoCard

/-- THE SECOND FORM's CARD OF 'musterlaw06.SchemaNames'. -/
def schemaNamesUptoCard : Claim7 := { stood := { row := schemaNamesUptoRow, standIns := [], harness := (true, "f4804e388255ced0bbf48bf69e4f9e88b54a1f3c945c4a93b1a895f5ba1a4d2d"), looks := true }, kinds := [], alts := [], laidByText := true, laidKinds := [.data, .widerDeep, .pinned], laidTests := true, laidLooks := .later }
def SchemaNamesUptoCardSaid : Prop := Claim7.holds Tryd.pinned (.plain (OpenSpec.upto schemaNamesSpec)) schemaNamesUptoCard

/-- THE SECOND FORM's CARD OF 'musterlaw06.SchemaJoins'. -/
def schemaJoinsUptoCard : Claim7 := { stood := { row := schemaJoinsUptoRow, standIns := [], harness := (true, "f4804e388255ced0bbf48bf69e4f9e88b54a1f3c945c4a93b1a895f5ba1a4d2d"), looks := true }, kinds := [], alts := [], laidByText := true, laidKinds := [.data, .widerDeep, .pinned], laidTests := true, laidLooks := .later }
def SchemaJoinsUptoCardSaid : Prop := Claim7.holds Tryd.pinned (.plain (OpenSpec.upto schemaJoinsSpec)) schemaJoinsUptoCard

/-- THE SECOND FORM's CARD OF 'musterlaw06.SchemaApart'. -/
def schemaApartUptoCard : Claim7 := { stood := { row := schemaApartUptoRow, standIns := [], harness := (true, "f4804e388255ced0bbf48bf69e4f9e88b54a1f3c945c4a93b1a895f5ba1a4d2d"), looks := true }, kinds := [], alts := [], laidByText := true, laidKinds := [.data, .widerDeep, .pinned], laidTests := true, laidLooks := .later }
def SchemaApartUptoCardSaid : Prop := Claim7.holds Tryd.pinned (.plain (OpenSpec.upto schemaApartSpec)) schemaApartUptoCard

/-- THE SECOND FORM's CARD OF 'musterlaw09.RecordsFixes'. -/
def recordsFixesUptoCard : Claim7 := { stood := { row := recordsFixesUptoRow, standIns := [], harness := (true, "f4804e388255ced0bbf48bf69e4f9e88b54a1f3c945c4a93b1a895f5ba1a4d2d"), looks := true }, kinds := [], alts := [], laidByText := true, laidKinds := [.data, .data, .data, .data, .sentinel, .sentinel, .pinned], laidTests := true, laidLooks := .later }
def RecordsFixesUptoCardSaid : Prop := Claim7.holds Tryd.pinned (.plain (OpenSpec.upto recordsFixesSpec)) recordsFixesUptoCard
end Rows
end Go.Proofs.YtagbpjegdfhmpaaDoor
