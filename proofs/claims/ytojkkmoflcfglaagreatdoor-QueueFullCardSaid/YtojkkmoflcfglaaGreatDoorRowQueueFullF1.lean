/- A closed fact of the row of QueueFull: inPlace. -/
import Derived.Test.YtojkkmoflcfglaaGreatDoorRows
import Derived.Test.YtojkkmoflcfglaaGreatDoorChecked
import Derived.ProofKit
import Derived.JoinedOf
import Derived.Deep.DeepHandedRow
namespace Go.Proofs.YtojkkmoflcfglaaGreatDoor.queueFull
open Go.ChangeShapes Go.WideShapes Go.ChangeAt Go.RowKit
theorem fact_inPlace : (Rows.queueFullRow.inPlace == Tryz.pinned.checked.prog.inPlace 3) = true := by kernel_rfl
end Go.Proofs.YtojkkmoflcfglaaGreatDoor.queueFull
