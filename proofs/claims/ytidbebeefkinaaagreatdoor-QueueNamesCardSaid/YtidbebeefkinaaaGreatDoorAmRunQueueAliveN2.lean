/- musterlaw12.queueAlive: a stage. -/
import Derived.Test.YtidbebeefkinaaaGreatDoorAmRunQueueAliveDN
import Derived.KernelRfl
namespace Go.Proofs.YtidbebeefkinaaaGreatDoor.RunQueueAlive
open Go.RowKit
set_option maxRecDepth 100000 in
theorem ran_N2 : AM.stageA cfg0 [] 100000 (items_N0.take 3) [([3, 0, 2], [402, 401, 2, 1, 0, 4054, 4055, 4056, 4057, 4051, 4045, 4040, 4008, 4019, 3847, 3603, 3418, 3167, 3613, 2918, 2283, 2109, 2293, 1860, 1239, 1250, 1080, 3699, 4043, 404])] s_N = some [(.norm, s_N2_0)] := by kernel_rfl
end Go.Proofs.YtidbebeefkinaaaGreatDoor.RunQueueAlive
