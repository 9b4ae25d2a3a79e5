/- The row of StoreNames: its closed facts, joined. -/
import Derived.Test.YtidbebeefkinaaaGreatDoorRowStoreNamesF1
import Derived.Test.YtidbebeefkinaaaGreatDoorRowStoreNamesF2
import Derived.Test.YtidbebeefkinaaaGreatDoorRowStoreNamesF3
import Derived.Test.YtidbebeefkinaaaGreatDoorRowStoreNamesF4
import Derived.Test.YtidbebeefkinaaaGreatDoorRowStoreNamesF5
import Derived.Test.YtidbebeefkinaaaGreatDoorRowStoreNamesF6
import Derived.Test.YtidbebeefkinaaaGreatDoorRowStoreNamesF7
import Derived.Test.YtidbebeefkinaaaGreatDoorRowStoreNamesF8
import Derived.Test.YtidbebeefkinaaaGreatDoorRows
import Derived.Test.YtidbebeefkinaaaGreatDoorChecked
import Derived.ProofKit
import Derived.JoinedOf
import Derived.Deep.DeepHandedRow
namespace Go.Proofs.YtidbebeefkinaaaGreatDoor.storeNames
open Go.ChangeShapes Go.WideShapes Go.ChangeAt Go.RowKit
set_option maxRecDepth 100000 in
theorem facts : joinedFacts Tryz.pinned.checked.prog 5 Tryz.f5 (OpenSpec.ofChange Rows.storeNamesSpec).bare Rows.storeNamesRow = true := by
  unfold joinedFacts
  rw [fact_inPlace, fact_unfollowed, fact_recurses, fact_named, fact_stops, fact_stopKnobs, fact_laidOutF, fact_mapsRowedF]
  kernel_rfl
end Go.Proofs.YtidbebeefkinaaaGreatDoor.storeNames
