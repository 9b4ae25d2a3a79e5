/- A closed fact of the row of RecordsSchema: unfollowed. -/
import Derived.Test.YtidbebeefkinaaaGreatDoorRows
import Derived.Test.YtidbebeefkinaaaGreatDoorChecked
import Derived.ProofKit
import Derived.JoinedOf
import Derived.Deep.DeepHandedRow
namespace Go.Proofs.YtidbebeefkinaaaGreatDoor.recordsSchema
open Go.ChangeShapes Go.WideShapes Go.ChangeAt Go.RowKit
theorem fact_unfollowed : (Rows.recordsSchemaRow.unfollowed == Tryz.pinned.checked.prog.unfollowed 3) = true := by kernel_rfl
end Go.Proofs.YtidbebeefkinaaaGreatDoor.recordsSchema
