/- A closed fact of the row of StoreUnique: recurses. -/
import Derived.Test.YtejnegabdjpipaaGreatDoorRows
import Derived.Test.YtejnegabdjpipaaGreatDoorChecked
import Derived.ProofKit
import Derived.JoinedOf
import Derived.Deep.DeepHandedRow
namespace Go.Proofs.YtejnegabdjpipaaGreatDoor.storeUnique
open Go.ChangeShapes Go.WideShapes Go.ChangeAt Go.RowKit
theorem fact_recurses : (Rows.storeUniqueRow.recurses == Tryz.pinned.checked.prog.recurses 3) = true := by kernel_rfl
end Go.Proofs.YtejnegabdjpipaaGreatDoor.storeUnique
