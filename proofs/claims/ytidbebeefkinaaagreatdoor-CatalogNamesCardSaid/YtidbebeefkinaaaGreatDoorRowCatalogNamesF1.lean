/- A closed fact of the row of CatalogNames: inPlace. -/
import Derived.Test.YtidbebeefkinaaaGreatDoorRows
import Derived.Test.YtidbebeefkinaaaGreatDoorChecked
import Derived.ProofKit
import Derived.JoinedOf
import Derived.Deep.DeepHandedRow
namespace Go.Proofs.YtidbebeefkinaaaGreatDoor.catalogNames
open Go.ChangeShapes Go.WideShapes Go.ChangeAt Go.RowKit
theorem fact_inPlace : (Rows.catalogNamesRow.inPlace == Tryz.pinned.checked.prog.inPlace 6) = true := by kernel_rfl
end Go.Proofs.YtidbebeefkinaaaGreatDoor.catalogNames
