/- musterlaw09.RecordsSchema: stage 2. -/
import Derived.Test.YtidbebeefkinaaaGreatDoorAmRunRecordsSchema0
import Derived.KernelRfl
namespace Go.Proofs.YtidbebeefkinaaaGreatDoor.RunRecordsSchema
open Go.RowKit
set_option maxRecDepth 100000 in
theorem ran2 : AM.stageA cfg 100000 (items1.take 1) [2, 3, 1, 4, 0] [2, 5587, 5601, 5546, 5410, 5347, 5265, 5424, 5201, 4823, 4764, 4837, 4700, 4330, 4344, 4289, 5463, 5607, 4002, 4013, 3841, 3597, 3412, 3161, 3607, 2912, 2277, 2103, 2287, 1854, 1233, 1244, 1074, 3693, 4029] s1 = some (.norm, s2) := by kernel_rfl
end Go.Proofs.YtidbebeefkinaaaGreatDoor.RunRecordsSchema
