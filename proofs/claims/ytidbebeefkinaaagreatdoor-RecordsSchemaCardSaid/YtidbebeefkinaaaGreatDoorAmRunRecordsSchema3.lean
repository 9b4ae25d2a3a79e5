/- musterlaw09.RecordsSchema: stage 3. -/
import Derived.Test.YtidbebeefkinaaaGreatDoorAmRunRecordsSchema0
import Derived.KernelRfl
namespace Go.Proofs.YtidbebeefkinaaaGreatDoor.RunRecordsSchema
open Go.RowKit
set_option maxRecDepth 100000 in
theorem ran3 : AM.stageA cfg 100000 items2 [0] [2] s2 = some (.ret, s3) := by kernel_rfl
end Go.Proofs.YtidbebeefkinaaaGreatDoor.RunRecordsSchema
