/- musterlaw12.queueAlive: a stage. -/
import Derived.Test.YtidbebeefkinaaaGreatDoorAmRunQueueAliveDQ
import Derived.KernelRfl
namespace Go.Proofs.YtidbebeefkinaaaGreatDoor.RunQueueAlive
open Go.RowKit
set_option maxRecDepth 100000 in
theorem ends_Q : AM.leavesL cfg0 100000 Tryz.f70 outs_Q1 [[2, 1, 0, 401, 402]] = some memo_Q.outs := by kernel_rfl
end Go.Proofs.YtidbebeefkinaaaGreatDoor.RunQueueAlive
