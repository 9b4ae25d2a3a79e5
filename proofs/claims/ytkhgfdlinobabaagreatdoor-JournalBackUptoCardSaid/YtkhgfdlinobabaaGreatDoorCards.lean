/-
  DERIVED. GIVEN WITH THE SEED: THE CARDS: each row of YtkhgfdlinobabaaGreatDoorRows.lean that lists a variable, with what it lists TIED to the program's text (the seventh form; the later family's looks); each row that meets fmt, with fmt's text TOLD by the authors' own Lean function (tested against real Go, not proved from fmt's source: count such statements apart). THE CARD IS WHAT COUNTS. Prove the row's statement (the work); the ties are given (YtkhgfdlinobabaaGreatDoorTie.lean); close each card by the builder's one call (the guide's Derived/Test/ToyasCard.lean, 'card_holds'). Laid BY PROGRAM, IN A SANDBOX (cutbox-door.mjs). By AI agents, Wed Nov 11 2026. No macro, syntax, notation, axiom, sorry.
-/
import Derived.Test.YtkhgfdlinobabaaGreatDoorRows
import GoSem.ClaimSeven
namespace Go.Proofs.YtkhgfdlinobabaaGreatDoor
namespace Rows

/-- THE TIED CARD OF 'musterlaw13.JournalEncodes'. -/
def journalEncodesCard : Claim7 := { stood := { row := journalEncodesRow, standIns := [], harness := (true, "3b1b15e63433dda42ee213f4a16fa930e69a257d004ed945919f7cd89c159ebf"), looks := true }, kinds := [], alts := [], laidByText := true, laidKinds := [.data, .data, .data, .data, .sentinel, .sentinel, .pinned], laidTests := true, laidLooks := .later }
def JournalEncodesCardSaid : Prop := Claim7.holds Tryz.pinned (.plain (OpenSpec.ofChange journalEncodesSpec)) journalEncodesCard

/-- THE TIED CARD OF 'musterlaw13.JournalRuns'. -/
def journalRunsCard : Claim7 := { stood := { row := journalRunsRow, standIns := [], harness := (true, "3b1b15e63433dda42ee213f4a16fa930e69a257d004ed945919f7cd89c159ebf"), looks := true }, kinds := [], alts := [], laidByText := true, laidKinds := [.data, .data, .data, .data, .sentinel, .sentinel, .pinned], laidTests := true, laidLooks := .later }
def JournalRunsCardSaid : Prop := Claim7.holds Tryz.pinned (.plain (OpenSpec.ofChange journalRunsSpec)) journalRunsCard

/-- THE TIED CARD OF 'musterlaw13.JournalDecodes'. -/
def journalDecodesCard : Claim7 := { stood := { row := journalDecodesRow, standIns := [], harness := (true, "3b1b15e63433dda42ee213f4a16fa930e69a257d004ed945919f7cd89c159ebf"), looks := true }, kinds := [], alts := [], laidByText := true, laidKinds := [.data, .data, .data, .data, .sentinel, .sentinel, .pinned], laidTests := true, laidLooks := .later }
def JournalDecodesCardSaid : Prop := Claim7.holds Tryz.pinned (.plain (OpenSpec.ofChange journalDecodesSpec)) journalDecodesCard

/-- THE TIED CARD OF 'musterlaw13.JournalBack'. -/
def journalBackCard : Claim7 := { stood := { row := journalBackRow, standIns := [], harness := (true, "3b1b15e63433dda42ee213f4a16fa930e69a257d004ed945919f7cd89c159ebf"), looks := true }, kinds := [], alts := [], laidByText := true, laidKinds := [.data, .data, .data, .data, .sentinel, .sentinel, .pinned], laidTests := true, laidLooks := .later }
def JournalBackCardSaid : Prop := Claim7.holds Tryz.pinned (.plain (OpenSpec.ofChange journalBackSpec)) journalBackCard

/-- THE SECOND FORM's CARD OF 'musterlaw13.JournalEncodes'. -/
def journalEncodesUptoCard : Claim7 := { stood := { row := journalEncodesUptoRow, standIns := [], harness := (true, "3b1b15e63433dda42ee213f4a16fa930e69a257d004ed945919f7cd89c159ebf"), looks := true }, kinds := [], alts := [], laidByText := true, laidKinds := [.data, .data, .data, .data, .sentinel, .sentinel, .pinned], laidTests := true, laidLooks := .later }
def JournalEncodesUptoCardSaid : Prop := Claim7.holds Tryz.pinned (.plain (OpenSpec.upto journalEncodesSpec)) journalEncodesUptoCard

/-- THE SECOND FORM's CARD OF 'musterlaw13.JournalRuns'. -/
def journalRunsUptoCard : Claim7 := { stood := { row := journalRunsUptoRow, standIns := [], harness := (true, "3b1b15e63433dda42ee213f4a16fa930e69a257d004ed945919f7cd89c159ebf"), looks := true }, kinds := [], alts := [], laidByText := true, laidKinds := [.data, .data, .data, .data, .sentinel, .sentinel, .pinned], laidTests := true, laidLooks := .later }
def JournalRunsUptoCardSaid : Prop := Claim7.holds Tryz.pinned (.plain (OpenSpec.upto journalRunsSpec)) journalRunsUptoCard

/-- THE SECOND FORM's CARD OF 'musterlaw13.JournalDecodes'. -/
def journalDecodesUptoCard : Claim7 := { stood := { row := journalDecodesUptoRow, standIns := [], harness := (true, "3b1b15e63433dda42ee213f4a16fa930e69a257d004ed945919f7cd89c159ebf"), looks := true }, kinds := [], alts := [], laidByText := true, laidKinds := [.data, .data, .data, .data, .sentinel, .sentinel, .pinned], laidTests := true, laidLooks := .later }
def JournalDecodesUptoCardSaid : Prop := Claim7.holds Tryz.pinned (.plain (OpenSpec.upto journalDecodesSpec)) journalDecodesUptoCard

/-- THE SECOND FORM's CARD OF 'musterlaw13.JournalBack'. -/
def journalBackUptoCard : Claim7 := { stood := { row := journalBackUptoRow, standIns := [], harness := (true, "3b1b15e63433dda42ee213f4a16fa930e69a257d004ed945919f7cd89c159ebf"), looks := true }, kinds := [], alts := [], laidByText := true, laidKinds := [.data, .data, .data, .data, .sentinel, .sentinel, .pinned], laidTests := true, laidLooks := .later }
def JournalBackUptoCardSaid : Prop := Claim7.holds Tryz.pinned (.plain (OpenSpec.upto journalBackSpec)) journalBackUptoCard
end Rows
end Go.Proofs.YtkhgfdlinobabaaGreatDoor
