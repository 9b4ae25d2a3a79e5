/- A closed fact of the row of QueueFull: laidOutF. -/
import Derived.Test.YtojkkmoflcfglaaGreatDoorRows
import Derived.Test.YtojkkmoflcfglaaGreatDoorChecked
import Derived.ProofKit
import Derived.JoinedOf
import Derived.Deep.DeepHandedRow
namespace Go.Proofs.YtojkkmoflcfglaaGreatDoor.queueFull
open Go.ChangeShapes Go.WideShapes Go.ChangeAt Go.RowKit
theorem fact_laidOutF : laidOutB Tryz.pinned.checked.prog = true := by kernel_rfl
end Go.Proofs.YtojkkmoflcfglaaGreatDoor.queueFull
