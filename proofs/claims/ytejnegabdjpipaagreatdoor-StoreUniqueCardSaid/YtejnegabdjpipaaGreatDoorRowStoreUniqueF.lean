/- The row of StoreUnique: its closed facts, joined. -/
import Derived.Test.YtejnegabdjpipaaGreatDoorRowStoreUniqueF1
import Derived.Test.YtejnegabdjpipaaGreatDoorRowStoreUniqueF2
import Derived.Test.YtejnegabdjpipaaGreatDoorRowStoreUniqueF3
import Derived.Test.YtejnegabdjpipaaGreatDoorRowStoreUniqueF4
import Derived.Test.YtejnegabdjpipaaGreatDoorRowStoreUniqueF5
import Derived.Test.YtejnegabdjpipaaGreatDoorRowStoreUniqueF6
import Derived.Test.YtejnegabdjpipaaGreatDoorRowStoreUniqueF7
import Derived.Test.YtejnegabdjpipaaGreatDoorRowStoreUniqueF8
import Derived.Test.YtejnegabdjpipaaGreatDoorRows
import Derived.Test.YtejnegabdjpipaaGreatDoorChecked
import Derived.ProofKit
import Derived.JoinedOf
import Derived.Deep.DeepHandedRow
namespace Go.Proofs.YtejnegabdjpipaaGreatDoor.storeUnique
open Go.ChangeShapes Go.WideShapes Go.ChangeAt Go.RowKit
set_option maxRecDepth 100000 in
theorem facts : joinedFacts Tryz.pinned.checked.prog 3 Tryz.f3 (OpenSpec.ofChange Rows.storeUniqueSpec).bare Rows.storeUniqueRow = true := by
  unfold joinedFacts
  rw [fact_inPlace, fact_unfollowed, fact_recurses, fact_named, fact_stops, fact_stopKnobs, fact_laidOutF, fact_mapsRowedF]
  kernel_rfl
end Go.Proofs.YtejnegabdjpipaaGreatDoor.storeUnique
