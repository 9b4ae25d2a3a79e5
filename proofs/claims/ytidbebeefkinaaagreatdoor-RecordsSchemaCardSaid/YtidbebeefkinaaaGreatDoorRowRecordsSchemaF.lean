/- The row of RecordsSchema: its closed facts, joined. -/
import Derived.Test.YtidbebeefkinaaaGreatDoorRowRecordsSchemaF1
import Derived.Test.YtidbebeefkinaaaGreatDoorRowRecordsSchemaF2
import Derived.Test.YtidbebeefkinaaaGreatDoorRowRecordsSchemaF3
import Derived.Test.YtidbebeefkinaaaGreatDoorRowRecordsSchemaF4
import Derived.Test.YtidbebeefkinaaaGreatDoorRowRecordsSchemaF5
import Derived.Test.YtidbebeefkinaaaGreatDoorRowRecordsSchemaF6
import Derived.Test.YtidbebeefkinaaaGreatDoorRowRecordsSchemaF7
import Derived.Test.YtidbebeefkinaaaGreatDoorRowRecordsSchemaF8
import Derived.Test.YtidbebeefkinaaaGreatDoorRows
import Derived.Test.YtidbebeefkinaaaGreatDoorChecked
import Derived.ProofKit
import Derived.JoinedOf
import Derived.Deep.DeepHandedRow
namespace Go.Proofs.YtidbebeefkinaaaGreatDoor.recordsSchema
open Go.ChangeShapes Go.WideShapes Go.ChangeAt Go.RowKit
set_option maxRecDepth 100000 in
theorem facts : joinedFacts Tryz.pinned.checked.prog 3 Tryz.f3 (OpenSpec.ofChange Rows.recordsSchemaSpec).bare Rows.recordsSchemaRow = true := by
  unfold joinedFacts
  rw [fact_inPlace, fact_unfollowed, fact_recurses, fact_named, fact_stops, fact_stopKnobs, fact_laidOutF, fact_mapsRowedF]
  kernel_rfl
end Go.Proofs.YtidbebeefkinaaaGreatDoor.recordsSchema
