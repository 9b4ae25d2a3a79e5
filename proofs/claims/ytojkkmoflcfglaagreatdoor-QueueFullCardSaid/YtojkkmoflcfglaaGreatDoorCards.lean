/-
  DERIVED. GIVEN WITH THE SEED: THE CARDS: each row of YtojkkmoflcfglaaGreatDoorRows.lean that lists a variable, with what it lists TIED to the program's text (the seventh form; the later family's looks); each row that meets fmt, with fmt's text TOLD by the authors' own Lean function (tested against real Go, not proved from fmt's source: count such statements apart). THE CARD IS WHAT COUNTS. Prove the row's statement (the work); the ties are given (YtojkkmoflcfglaaGreatDoorTie.lean); close each card by the builder's one call (the guide's Derived/Test/ToyasCard.lean, 'card_holds'). Laid BY PROGRAM, IN A SANDBOX (cutbox-door.mjs). By AI agents, Wed Nov 11 2026. No macro, syntax, notation, axiom, sorry.
-/
import Derived.Test.YtojkkmoflcfglaaGreatDoorRows
import GoSem.ClaimSeven
namespace Go.Proofs.YtojkkmoflcfglaaGreatDoor
namespace Rows

/-- THE TIED CARD OF 'musterlaw12.QueueFull'. -/
def queueFullCard : Claim7 := { stood := { row := queueFullRow, standIns := [], harness := (true, "05e8f0fdad1ccf2523e6725e0667120372d380b86a82c5beb6d578e2a314a4ae"), looks := true }, kinds := [], alts := [], laidByText := true, laidKinds := [.data, .data, .data, .data, .sentinel, .sentinel, .sentinel, .sentinel, .widerDeep, .pinned], laidTests := true, laidLooks := .later }
def QueueFullCardSaid : Prop := Claim7.holds Tryz.pinned (.plain (OpenSpec.ofChange queueFullSpec)) queueFullCard

/-- THE SECOND FORM's CARD OF 'musterlaw12.QueueFull'. -/
def queueFullUptoCard : Claim7 := { stood := { row := queueFullUptoRow, standIns := [], harness := (true, "05e8f0fdad1ccf2523e6725e0667120372d380b86a82c5beb6d578e2a314a4ae"), looks := true }, kinds := [], alts := [], laidByText := true, laidKinds := [.data, .data, .data, .data, .sentinel, .sentinel, .sentinel, .sentinel, .widerDeep, .pinned], laidTests := true, laidLooks := .later }
def QueueFullUptoCardSaid : Prop := Claim7.holds Tryz.pinned (.plain (OpenSpec.upto queueFullSpec)) queueFullUptoCard
end Rows
end Go.Proofs.YtojkkmoflcfglaaGreatDoor
