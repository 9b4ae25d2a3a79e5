/- The row of QueueNames: its closed facts, joined. -/
import Derived.Test.YtidbebeefkinaaaGreatDoorRowQueueNamesF1
import Derived.Test.YtidbebeefkinaaaGreatDoorRowQueueNamesF2
import Derived.Test.YtidbebeefkinaaaGreatDoorRowQueueNamesF3
import Derived.Test.YtidbebeefkinaaaGreatDoorRowQueueNamesF4
import Derived.Test.YtidbebeefkinaaaGreatDoorRowQueueNamesF5
import Derived.Test.YtidbebeefkinaaaGreatDoorRowQueueNamesF6
import Derived.Test.YtidbebeefkinaaaGreatDoorRowQueueNamesF7
import Derived.Test.YtidbebeefkinaaaGreatDoorRowQueueNamesF8
import Derived.Test.YtidbebeefkinaaaGreatDoorRows
import Derived.Test.YtidbebeefkinaaaGreatDoorChecked
import Derived.ProofKit
import Derived.JoinedOf
import Derived.Deep.DeepHandedRow
namespace Go.Proofs.YtidbebeefkinaaaGreatDoor.queueNames
open Go.ChangeShapes Go.WideShapes Go.ChangeAt Go.RowKit
set_option maxRecDepth 100000 in
theorem facts : joinedFacts Tryz.pinned.checked.prog 7 Tryz.f7 (OpenSpec.ofChange Rows.queueNamesSpec).bare Rows.queueNamesRow = true := by
  unfold joinedFacts
  rw [fact_inPlace, fact_unfollowed, fact_recurses, fact_named, fact_stops, fact_stopKnobs, fact_laidOutF, fact_mapsRowedF]
  kernel_rfl
end Go.Proofs.YtidbebeefkinaaaGreatDoor.queueNames
