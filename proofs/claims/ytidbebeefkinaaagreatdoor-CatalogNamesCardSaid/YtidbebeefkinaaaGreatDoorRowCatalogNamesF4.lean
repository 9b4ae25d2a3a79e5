/- A closed fact of the row of CatalogNames: named. -/
import Derived.Test.YtidbebeefkinaaaGreatDoorRows
import Derived.Test.YtidbebeefkinaaaGreatDoorChecked
import Derived.ProofKit
import Derived.JoinedOf
import Derived.Deep.DeepHandedRow
namespace Go.Proofs.YtidbebeefkinaaaGreatDoor.catalogNames
open Go.ChangeShapes Go.WideShapes Go.ChangeAt Go.RowKit
theorem fact_named : (Rows.catalogNamesRow.named == Tryz.pinned.checked.prog.varsNamed 6) = true := by kernel_rfl
end Go.Proofs.YtidbebeefkinaaaGreatDoor.catalogNames
