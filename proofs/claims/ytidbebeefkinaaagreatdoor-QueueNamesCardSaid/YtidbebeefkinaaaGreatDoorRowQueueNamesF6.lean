/- A closed fact of the row of QueueNames: stopKnobs. -/
import Derived.Test.YtidbebeefkinaaaGreatDoorRows
import Derived.Test.YtidbebeefkinaaaGreatDoorChecked
import Derived.ProofKit
import Derived.JoinedOf
import Derived.Deep.DeepHandedRow
namespace Go.Proofs.YtidbebeefkinaaaGreatDoor.queueNames
open Go.ChangeShapes Go.WideShapes Go.ChangeAt Go.RowKit
theorem fact_stopKnobs : (Tryz.pinned.checked.prog.stopKnobs == []) = true := by kernel_rfl
end Go.Proofs.YtidbebeefkinaaaGreatDoor.queueNames
