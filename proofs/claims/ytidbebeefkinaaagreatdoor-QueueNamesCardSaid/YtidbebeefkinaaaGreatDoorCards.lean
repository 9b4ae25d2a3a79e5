/-
  DERIVED. GIVEN WITH THE SEED: THE CARDS: each row of YtidbebeefkinaaaGreatDoorRows.lean that lists a variable, with what it lists TIED to the program's text (the seventh form; the later family's looks); each row that meets fmt, with fmt's text TOLD by the authors' own Lean function (tested against real Go, not proved from fmt's source: count such statements apart). THE CARD IS WHAT COUNTS. Prove the row's statement (the work); the ties are given (YtidbebeefkinaaaGreatDoorTie.lean); close each card by the builder's one call (the guide's Derived/Test/ToyasCard.lean, 'card_holds'). Laid BY PROGRAM, IN A SANDBOX (cutbox-door.mjs). By AI agents, Wed Nov 11 2026. No macro, syntax, notation, axiom, sorry.
-/
import Derived.Test.YtidbebeefkinaaaGreatDoorRows
import GoSem.ClaimSeven
namespace Go.Proofs.YtidbebeefkinaaaGreatDoor
namespace Rows

/-- THE TIED CARD OF 'musterlaw09.RecordsSchema'. -/
def recordsSchemaCard : Claim7 := { stood := { row := recordsSchemaRow, standIns := [], harness := (true, "0ad5e2ce367a5abd429cc31577b99a09b0767f01df941744390ddc6611dc1883"), looks := true }, kinds := [], alts := [], laidByText := true, laidKinds := [.data, .widerDeep, .pinned], laidTests := true, laidLooks := .later }
def RecordsSchemaCardSaid : Prop := Claim7.holds Tryz.pinned (.plain (OpenSpec.ofChange recordsSchemaSpec)) recordsSchemaCard

/-- THE TIED CARD OF 'musterlaw09.RecordsFit'. -/
def recordsFitCard : Claim7 := { stood := { row := recordsFitRow, standIns := [], harness := (true, "0ad5e2ce367a5abd429cc31577b99a09b0767f01df941744390ddc6611dc1883"), looks := true }, kinds := [], alts := [], laidByText := true, laidKinds := [.data, .data, .data, .data, .sentinel, .sentinel, .widerDeep, .pinned], laidTests := true, laidLooks := .later }
def RecordsFitCardSaid : Prop := Claim7.holds Tryz.pinned (.plain (OpenSpec.ofChange recordsFitSpec)) recordsFitCard

/-- THE TIED CARD OF 'musterlaw08.StoreNames'. -/
def storeNamesCard : Claim7 := { stood := { row := storeNamesRow, standIns := [], harness := (true, "0ad5e2ce367a5abd429cc31577b99a09b0767f01df941744390ddc6611dc1883"), looks := true }, kinds := [], alts := [], laidByText := true, laidKinds := [.data, .widerDeep, .pinned], laidTests := true, laidLooks := .later }
def StoreNamesCardSaid : Prop := Claim7.holds Tryz.pinned (.plain (OpenSpec.ofChange storeNamesSpec)) storeNamesCard

/-- THE TIED CARD OF 'musterlaw10.CatalogNames'. -/
def catalogNamesCard : Claim7 := { stood := { row := catalogNamesRow, standIns := [], harness := (true, "0ad5e2ce367a5abd429cc31577b99a09b0767f01df941744390ddc6611dc1883"), looks := true }, kinds := [], alts := [], laidByText := true, laidKinds := [.data, .data, .data, .data, .sentinel, .sentinel, .widerDeep, .pinned], laidTests := true, laidLooks := .later }
def CatalogNamesCardSaid : Prop := Claim7.holds Tryz.pinned (.plain (OpenSpec.ofChange catalogNamesSpec)) catalogNamesCard

/-- THE TIED CARD OF 'musterlaw12.QueueNames'. -/
def queueNamesCard : Claim7 := { stood := { row := queueNamesRow, standIns := [], harness := (true, "0ad5e2ce367a5abd429cc31577b99a09b0767f01df941744390ddc6611dc1883"), looks := true }, kinds := [], alts := [], laidByText := true, laidKinds := [.data, .data, .data, .data, .sentinel, .sentinel, .sentinel, .sentinel, .widerDeep, .pinned], laidTests := true, laidLooks := .later }
def QueueNamesCardSaid : Prop := Claim7.holds Tryz.pinned (.plain (OpenSpec.ofChange queueNamesSpec)) queueNamesCard

/-- THE SECOND FORM's CARD OF 'musterlaw09.RecordsSchema'. -/
def recordsSchemaUptoCard : Claim7 := { stood := { row := recordsSchemaUptoRow, standIns := [], harness := (true, "0ad5e2ce367a5abd429cc31577b99a09b0767f01df941744390ddc6611dc1883"), looks := true }, kinds := [], alts := [], laidByText := true, laidKinds := [.data, .widerDeep, .pinned], laidTests := true, laidLooks := .later }
def RecordsSchemaUptoCardSaid : Prop := Claim7.holds Tryz.pinned (.plain (OpenSpec.upto recordsSchemaSpec)) recordsSchemaUptoCard

/-- THE SECOND FORM's CARD OF 'musterlaw09.RecordsFit'. -/
def recordsFitUptoCard : Claim7 := { stood := { row := recordsFitUptoRow, standIns := [], harness := (true, "0ad5e2ce367a5abd429cc31577b99a09b0767f01df941744390ddc6611dc1883"), looks := true }, kinds := [], alts := [], laidByText := true, laidKinds := [.data, .data, .data, .data, .sentinel, .sentinel, .widerDeep, .pinned], laidTests := true, laidLooks := .later }
def RecordsFitUptoCardSaid : Prop := Claim7.holds Tryz.pinned (.plain (OpenSpec.upto recordsFitSpec)) recordsFitUptoCard

/-- THE SECOND FORM's CARD OF 'musterlaw08.StoreNames'. -/
def storeNamesUptoCard : Claim7 := { stood := { row := storeNamesUptoRow, standIns := [], harness := (true, "0ad5e2ce367a5abd429cc31577b99a09b0767f01df941744390ddc6611dc1883"), looks := true }, kinds := [], alts := [], laidByText := true, laidKinds := [.data, .widerDeep, .pinned], laidTests := true, laidLooks := .later }
def StoreNamesUptoCardSaid : Prop := Claim7.holds Tryz.pinned (.plain (OpenSpec.upto storeNamesSpec)) storeNamesUptoCard

/-- THE SECOND FORM's CARD OF 'musterlaw10.CatalogNames'. -/
def catalogNamesUptoCard : Claim7 := { stood := { row := catalogNamesUptoRow, standIns := [], harness := (true, "0ad5e2ce367a5abd429cc31577b99a09b0767f01df941744390ddc6611dc1883"), looks := true }, kinds := [], alts := [], laidByText := true, laidKinds := [.data, .data, .data, .data, .sentinel, .sentinel, .widerDeep, .pinned], laidTests := true, laidLooks := .later }
def CatalogNamesUptoCardSaid : Prop := Claim7.holds Tryz.pinned (.plain (OpenSpec.upto catalogNamesSpec)) catalogNamesUptoCard

/-- THE SECOND FORM's CARD OF 'musterlaw12.QueueNames'. -/
def queueNamesUptoCard : Claim7 := { stood := { row := queueNamesUptoRow, standIns := [], harness := (true, "0ad5e2ce367a5abd429cc31577b99a09b0767f01df941744390ddc6611dc1883"), looks := true }, kinds := [], alts := [], laidByText := true, laidKinds := [.data, .data, .data, .data, .sentinel, .sentinel, .sentinel, .sentinel, .widerDeep, .pinned], laidTests := true, laidLooks := .later }
def QueueNamesUptoCardSaid : Prop := Claim7.holds Tryz.pinned (.plain (OpenSpec.upto queueNamesSpec)) queueNamesUptoCard
end Rows
end Go.Proofs.YtidbebeefkinaaaGreatDoor
