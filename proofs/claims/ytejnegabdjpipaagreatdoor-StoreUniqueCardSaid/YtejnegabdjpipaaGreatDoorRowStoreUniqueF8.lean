/- A closed fact of the row of StoreUnique: mapsRowedF. -/
import Derived.Test.YtejnegabdjpipaaGreatDoorRows
import Derived.Test.YtejnegabdjpipaaGreatDoorChecked
import Derived.ProofKit
import Derived.JoinedOf
import Derived.Deep.DeepHandedRow
namespace Go.Proofs.YtejnegabdjpipaaGreatDoor.storeUnique
open Go.ChangeShapes Go.WideShapes Go.ChangeAt Go.RowKit
theorem fact_mapsRowedF : mapsRowed Tryz.pinned.checked.prog = true := by kernel_rfl
end Go.Proofs.YtejnegabdjpipaaGreatDoor.storeUnique
