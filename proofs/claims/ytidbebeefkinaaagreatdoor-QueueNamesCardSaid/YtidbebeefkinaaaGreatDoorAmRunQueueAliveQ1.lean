/- musterlaw12.queueAlive: a stage. -/
import Derived.Test.YtidbebeefkinaaaGreatDoorAmRunQueueAliveDQ
import Derived.KernelRfl
namespace Go.Proofs.YtidbebeefkinaaaGreatDoor.RunQueueAlive
open Go.RowKit
set_option maxRecDepth 100000 in
theorem ran_Q1 : AM.stageA cfg0 [] 100000 items_Q0 [([2], [2, 1, 0, 401, 402])] s_Q = some [(.ret, s_Q1_0)] := by kernel_rfl
end Go.Proofs.YtidbebeefkinaaaGreatDoor.RunQueueAlive
