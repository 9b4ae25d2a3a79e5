/- A closed fact of the row of QueueNames: stops. -/
import Derived.Test.YtidbebeefkinaaaGreatDoorRows
import Derived.Test.YtidbebeefkinaaaGreatDoorChecked
import Derived.ProofKit
import Derived.JoinedOf
import Derived.Deep.DeepHandedRow
namespace Go.Proofs.YtidbebeefkinaaaGreatDoor.queueNames
open Go.ChangeShapes Go.WideShapes Go.ChangeAt Go.RowKit
theorem fact_stops : (Tryz.pinned.checked.prog.stops == []) = true := by kernel_rfl
end Go.Proofs.YtidbebeefkinaaaGreatDoor.queueNames
