/-
  DERIVED. GIVEN WITH THE SEED: THE CARDS: each row of YtejnegabdjpipaaGreatDoorRows.lean that lists a variable, with what it lists TIED to the program's text (the seventh form; the later family's looks); each row that meets fmt, with fmt's text TOLD by the authors' own Lean function (tested against real Go, not proved from fmt's source: count such statements apart). THE CARD IS WHAT COUNTS. Prove the row's statement (the work); the ties are given (YtejnegabdjpipaaGreatDoorTie.lean); close each card by the builder's one call (the guide's Derived/Test/ToyasCard.lean, 'card_holds'). Laid BY PROGRAM, IN A SANDBOX (cutbox-door.mjs). By AI agents, Wed Nov 11 2026. No macro, syntax, notation, axiom, sorry.
-/
import Derived.Test.YtejnegabdjpipaaGreatDoorRows
import GoSem.ClaimSeven
namespace Go.Proofs.YtejnegabdjpipaaGreatDoor
namespace Rows

/-- THE TIED CARD OF 'musterlaw08.StoreUnique'. -/
def storeUniqueCard : Claim7 := { stood := { row := storeUniqueRow, standIns := [], harness := (true, "e31cf098d8fb14aa026c713ab476ab316f40edcdc5eb680f65b504747b0e18fc"), looks := true }, kinds := [], alts := [], laidByText := true, laidKinds := [.data, .widerDeep, .pinned], laidTests := true, laidLooks := .later }
def StoreUniqueCardSaid : Prop := Claim7.holds Tryz.pinned (.plain (OpenSpec.ofChange storeUniqueSpec)) storeUniqueCard

/-- THE SECOND FORM's CARD OF 'musterlaw08.StoreUnique'. -/
def storeUniqueUptoCard : Claim7 := { stood := { row := storeUniqueUptoRow, standIns := [], harness := (true, "e31cf098d8fb14aa026c713ab476ab316f40edcdc5eb680f65b504747b0e18fc"), looks := true }, kinds := [], alts := [], laidByText := true, laidKinds := [.data, .widerDeep, .pinned], laidTests := true, laidLooks := .later }
def StoreUniqueUptoCardSaid : Prop := Claim7.holds Tryz.pinned (.plain (OpenSpec.upto storeUniqueSpec)) storeUniqueUptoCard
end Rows
end Go.Proofs.YtejnegabdjpipaaGreatDoor
