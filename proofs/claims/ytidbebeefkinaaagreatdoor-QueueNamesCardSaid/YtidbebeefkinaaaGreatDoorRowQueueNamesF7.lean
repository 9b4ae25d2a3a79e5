/- A closed fact of the row of QueueNames: laidOutF. -/
import Derived.Test.YtidbebeefkinaaaGreatDoorRows
import Derived.Test.YtidbebeefkinaaaGreatDoorChecked
import Derived.ProofKit
import Derived.JoinedOf
import Derived.Deep.DeepHandedRow
namespace Go.Proofs.YtidbebeefkinaaaGreatDoor.queueNames
open Go.ChangeShapes Go.WideShapes Go.ChangeAt Go.RowKit
theorem fact_laidOutF : laidOutB Tryz.pinned.checked.prog = true := by kernel_rfl
end Go.Proofs.YtidbebeefkinaaaGreatDoor.queueNames
