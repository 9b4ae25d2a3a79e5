/- A closed fact of the row of StoreNames: recurses. -/
import Derived.Test.YtidbebeefkinaaaGreatDoorRows
import Derived.Test.YtidbebeefkinaaaGreatDoorChecked
import Derived.ProofKit
import Derived.JoinedOf
import Derived.Deep.DeepHandedRow
namespace Go.Proofs.YtidbebeefkinaaaGreatDoor.storeNames
open Go.ChangeShapes Go.WideShapes Go.ChangeAt Go.RowKit
theorem fact_recurses : (Rows.storeNamesRow.recurses == Tryz.pinned.checked.prog.recurses 5) = true := by kernel_rfl
end Go.Proofs.YtidbebeefkinaaaGreatDoor.storeNames
