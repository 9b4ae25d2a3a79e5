/- A closed fact of the row of CatalogNames: mapsRowedF. -/
import Derived.Test.YtidbebeefkinaaaGreatDoorRows
import Derived.Test.YtidbebeefkinaaaGreatDoorChecked
import Derived.ProofKit
import Derived.JoinedOf
import Derived.Deep.DeepHandedRow
namespace Go.Proofs.YtidbebeefkinaaaGreatDoor.catalogNames
open Go.ChangeShapes Go.WideShapes Go.ChangeAt Go.RowKit
theorem fact_mapsRowedF : mapsRowed Tryz.pinned.checked.prog = true := by kernel_rfl
end Go.Proofs.YtidbebeefkinaaaGreatDoor.catalogNames
