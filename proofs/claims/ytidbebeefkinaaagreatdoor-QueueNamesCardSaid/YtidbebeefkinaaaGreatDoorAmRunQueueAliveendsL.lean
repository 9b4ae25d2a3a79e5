/- musterlaw12.queueAlive: a stage. -/
import Derived.Test.YtidbebeefkinaaaGreatDoorAmRunQueueAliveDL
import Derived.KernelRfl
namespace Go.Proofs.YtidbebeefkinaaaGreatDoor.RunQueueAlive
open Go.RowKit
set_option maxRecDepth 100000 in
theorem ends_L : AM.leavesL cfg2 100000 Tryz.f24 outs_L10 [[2, 1, 0]] = some [(.bool true, ⟨.n (some (.row ⟨[.iface 432 (.ptr 390 0)], 59, 1, 0, false, true, true⟩)) (.n (some (.row ⟨[.iface 432 (.ptr 391 0)], 59, 1, 0, false, true, true⟩)) .lf .lf) (.n (some (.row ⟨[.str [], .str [116, 101, 120, 116], .str [110, 117, 109], .str [108, 105, 115, 116]], 86, 4, 0, false, true, true⟩)) .lf .lf), 14188⟩)] := by kernel_rfl
end Go.Proofs.YtidbebeefkinaaaGreatDoor.RunQueueAlive
