/- The row of CatalogNames: its closed facts, joined. -/
import Derived.Test.YtidbebeefkinaaaGreatDoorRowCatalogNamesF1
import Derived.Test.YtidbebeefkinaaaGreatDoorRowCatalogNamesF2
import Derived.Test.YtidbebeefkinaaaGreatDoorRowCatalogNamesF3
import Derived.Test.YtidbebeefkinaaaGreatDoorRowCatalogNamesF4
import Derived.Test.YtidbebeefkinaaaGreatDoorRowCatalogNamesF5
import Derived.Test.YtidbebeefkinaaaGreatDoorRowCatalogNamesF6
import Derived.Test.YtidbebeefkinaaaGreatDoorRowCatalogNamesF7
import Derived.Test.YtidbebeefkinaaaGreatDoorRowCatalogNamesF8
import Derived.Test.YtidbebeefkinaaaGreatDoorRows
import Derived.Test.YtidbebeefkinaaaGreatDoorChecked
import Derived.ProofKit
import Derived.JoinedOf
import Derived.Deep.DeepHandedRow
namespace Go.Proofs.YtidbebeefkinaaaGreatDoor.catalogNames
open Go.ChangeShapes Go.WideShapes Go.ChangeAt Go.RowKit
set_option maxRecDepth 100000 in
theorem facts : joinedFacts Tryz.pinned.checked.prog 6 Tryz.f6 (OpenSpec.ofChange Rows.catalogNamesSpec).bare Rows.catalogNamesRow = true := by
  unfold joinedFacts
  rw [fact_inPlace, fact_unfollowed, fact_recurses, fact_named, fact_stops, fact_stopKnobs, fact_laidOutF, fact_mapsRowedF]
  kernel_rfl
end Go.Proofs.YtidbebeefkinaaaGreatDoor.catalogNames
