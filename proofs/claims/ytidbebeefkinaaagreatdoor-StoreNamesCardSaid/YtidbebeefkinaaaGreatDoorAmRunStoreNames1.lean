/- musterlaw08.StoreNames: stage 1. -/
import Derived.Test.YtidbebeefkinaaaGreatDoorAmRunStoreNames0
import Derived.KernelRfl
namespace Go.Proofs.YtidbebeefkinaaaGreatDoor.RunStoreNames
open Go.RowKit
set_option maxRecDepth 100000 in
theorem ran1 : AM.stageA cfg 100000 items0 [0] [2] s0 = some (.ret, s1) := by kernel_rfl
end Go.Proofs.YtidbebeefkinaaaGreatDoor.RunStoreNames
