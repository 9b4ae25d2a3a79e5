/- musterlaw09.RecordsSchema: stage 1. -/
import Derived.Test.YtidbebeefkinaaaGreatDoorAmRunRecordsSchema0
import Derived.KernelRfl
namespace Go.Proofs.YtidbebeefkinaaaGreatDoor.RunRecordsSchema
open Go.RowKit
set_option maxRecDepth 100000 in
theorem ran1 : AM.stageA cfg 100000 (items0.take 2) [2, 3, 1, 0] [2, 4002, 4013, 3841, 3597, 3412, 3161, 3607, 2912, 2277, 2103, 2287, 1854, 1233, 1244, 1074, 3693, 4029] s0 = some (.norm, s1) := by kernel_rfl
end Go.Proofs.YtidbebeefkinaaaGreatDoor.RunRecordsSchema
