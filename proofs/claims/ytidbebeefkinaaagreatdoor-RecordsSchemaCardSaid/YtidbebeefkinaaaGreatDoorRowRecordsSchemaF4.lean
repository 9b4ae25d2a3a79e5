/- A closed fact of the row of RecordsSchema: named. -/
import Derived.Test.YtidbebeefkinaaaGreatDoorRows
import Derived.Test.YtidbebeefkinaaaGreatDoorChecked
import Derived.ProofKit
import Derived.JoinedOf
import Derived.Deep.DeepHandedRow
namespace Go.Proofs.YtidbebeefkinaaaGreatDoor.recordsSchema
open Go.ChangeShapes Go.WideShapes Go.ChangeAt Go.RowKit
theorem fact_named : (Rows.recordsSchemaRow.named == Tryz.pinned.checked.prog.varsNamed 3) = true := by kernel_rfl
end Go.Proofs.YtidbebeefkinaaaGreatDoor.recordsSchema
