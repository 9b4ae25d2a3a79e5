/-
  DERIVED. GIVEN WITH THE SEED: THE CARDS: each row of YtkhgfdlinobabaaDoorRows.lean that lists a variable, with what it lists TIED to the program's text (the seventh form; the later family's looks); each row that meets fmt, with fmt's text TOLD by the authors' own Lean function (tested against real Go, not proved from fmt's source: count such statements apart). THE CARD IS WHAT COUNTS. Prove the row's statement (the work); the ties are given (YtkhgfdlinobabaaDoorTie.lean); close each card by the builder's one call (the guide's Derived/Test/ToyasCard.lean, 'card_holds'). Laid BY PROGRAM, IN A SANDBOX (cutbox-door.mjs). By AI agents, Wed Nov 11 2026. No macro, syntax, notation, axiom, sorry.
-/
import Derived.Test.YtkhgfdlinobabaaDoorRows
import GoSem.ClaimSeven
namespace Go.Proofs.YtkhgfdlinobabaaDoor
namespace Rows

/-- THE TIED CARD OF 'musterlaw13.JournalNames'. -/
def journalNamesCard : Claim7 := { stood := { row := journalNamesRow, standIns := [], harness := (true, "d2db0c72649cd3b9ebe882f3a054d422b58a36ec1bfa6a3e5948a97bb70a6490"), looks := true }, kinds := [], alts := [], laidByText := true, laidKinds := [.data, .data, .data, .data, .sentinel, .sentinel, .pinned], laidTests := true, laidLooks := .later }
def JournalNamesCardSaid : Prop := Claim7.holds Tryd.pinned (.plain (OpenSpec.ofChange journalNamesSpec)) journalNamesCard

/-- THE TIED CARD OF 'musterlaw13.JournalSums'. -/
def journalSumsCard : Claim7 := { stood := { row := journalSumsRow, standIns := [], harness := (true, "d2db0c72649cd3b9ebe882f3a054d422b58a36ec1bfa6a3e5948a97bb70a6490"), looks := true }, kinds := [], alts := [], laidByText := true, laidKinds := [.data, .data, .data, .data, .sentinel, .sentinel, .pinned], laidTests := true, laidLooks := .later }
def JournalSumsCardSaid : Prop := Claim7.holds Tryd.pinned (.plain (OpenSpec.ofChange journalSumsSpec)) journalSumsCard

/-- THE TIED CARD OF 'musterlaw13.JournalTells'. -/
def journalTellsCard : Claim7 := { stood := { row := journalTellsRow, standIns := [], harness := (true, "d2db0c72649cd3b9ebe882f3a054d422b58a36ec1bfa6a3e5948a97bb70a6490"), looks := true }, kinds := [], alts := [], laidByText := true, laidKinds := [.data, .data, .data, .data, .sentinel, .sentinel, .pinned], laidTests := true, laidLooks := .later }
def JournalTellsCardSaid : Prop := Claim7.holds Tryd.pinned (.plain (OpenSpec.ofChange journalTellsSpec)) journalTellsCard

/-- THE SECOND FORM's CARD OF 'musterlaw13.JournalNames'. -/
def journalNamesUptoCard : Claim7 := { stood := { row := journalNamesUptoRow, standIns := [], harness := (true, "d2db0c72649cd3b9ebe882f3a054d422b58a36ec1bfa6a3e5948a97bb70a6490"), looks := true }, kinds := [], alts := [], laidByText := true, laidKinds := [.data, .data, .data, .data, .sentinel, .sentinel, .pinned], laidTests := true, laidLooks := .later }
def JournalNamesUptoCardSaid : Prop := Claim7.holds Tryd.pinned (.plain (OpenSpec.upto journalNamesSpec)) journalNamesUptoCard

/-- THE SECOND FORM's CARD OF 'musterlaw13.JournalSums'. -/
def journalSumsUptoCard : Claim7 := { stood := { row := journalSumsUptoRow, standIns := [], harness := (true, "d2db0c72649cd3b9ebe882f3a054d422b58a36ec1bfa6a3e5948a97bb70a6490"), looks := true }, kinds := [], alts := [], laidByText := true, laidKinds := [.data, .data, .data, .data, .sentinel, .sentinel, .pinned], laidTests := true, laidLooks := .later }
def JournalSumsUptoCardSaid : Prop := Claim7.holds Tryd.pinned (.plain (OpenSpec.upto journalSumsSpec)) journalSumsUptoCard

/-- THE SECOND FORM's CARD OF 'musterlaw13.JournalTells'. -/
def journalTellsUptoCard : Claim7 := { stood := { row := journalTellsUptoRow, standIns := [], harness := (true, "d2db0c72649cd3b9ebe882f3a054d422b58a36ec1bfa6a3e5948a97bb70a6490"), looks := true }, kinds := [], alts := [], laidByText := true, laidKinds := [.data, .data, .data, .data, .sentinel, .sentinel, .pinned], laidTests := true, laidLooks := .later }
def JournalTellsUptoCardSaid : Prop := Claim7.holds Tryd.pinned (.plain (OpenSpec.upto journalTellsSpec)) journalTellsUptoCard
end Rows
end Go.Proofs.YtkhgfdlinobabaaDoor
