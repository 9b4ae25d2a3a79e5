/- musterlaw08.storeAlive: stage 5. -/
import Derived.Test.YtidbebeefkinaaaGreatDoorAmRunStoreAlive0
import Derived.KernelRfl
namespace Go.Proofs.YtidbebeefkinaaaGreatDoor.RunStoreAlive
open Go.RowKit
set_option maxRecDepth 100000 in
theorem ran5 : AM.stageA cfg 100000 items4 [0] [2] s4 = some (.ret, s5) := by kernel_rfl
end Go.Proofs.YtidbebeefkinaaaGreatDoor.RunStoreAlive
