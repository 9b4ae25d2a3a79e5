/- The row of QueueFull: its closed facts, joined. -/
import Derived.Test.YtojkkmoflcfglaaGreatDoorRowQueueFullF1
import Derived.Test.YtojkkmoflcfglaaGreatDoorRowQueueFullF2
import Derived.Test.YtojkkmoflcfglaaGreatDoorRowQueueFullF3
import Derived.Test.YtojkkmoflcfglaaGreatDoorRowQueueFullF4
import Derived.Test.YtojkkmoflcfglaaGreatDoorRowQueueFullF5
import Derived.Test.YtojkkmoflcfglaaGreatDoorRowQueueFullF6
import Derived.Test.YtojkkmoflcfglaaGreatDoorRowQueueFullF7
import Derived.Test.YtojkkmoflcfglaaGreatDoorRowQueueFullF8
import Derived.Test.YtojkkmoflcfglaaGreatDoorRows
import Derived.Test.YtojkkmoflcfglaaGreatDoorChecked
import Derived.ProofKit
import Derived.JoinedOf
import Derived.Deep.DeepHandedRow
namespace Go.Proofs.YtojkkmoflcfglaaGreatDoor.queueFull
open Go.ChangeShapes Go.WideShapes Go.ChangeAt Go.RowKit
set_option maxRecDepth 100000 in
theorem facts : joinedFacts Tryz.pinned.checked.prog 3 Tryz.f3 (OpenSpec.ofChange Rows.queueFullSpec).bare Rows.queueFullRow = true := by
  unfold joinedFacts
  rw [fact_inPlace, fact_unfollowed, fact_recurses, fact_named, fact_stops, fact_stopKnobs, fact_laidOutF, fact_mapsRowedF]
  kernel_rfl
end Go.Proofs.YtojkkmoflcfglaaGreatDoor.queueFull
