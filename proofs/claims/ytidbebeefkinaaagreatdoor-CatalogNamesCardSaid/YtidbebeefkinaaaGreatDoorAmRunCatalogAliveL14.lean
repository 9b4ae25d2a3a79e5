/- musterlaw10.catalogAlive: a stage. -/
import Derived.Test.YtidbebeefkinaaaGreatDoorAmRunCatalogAliveDL
import Derived.KernelRfl
namespace Go.Proofs.YtidbebeefkinaaaGreatDoor.RunCatalogAlive
open Go.RowKit
set_option maxRecDepth 100000 in
theorem ran_L14 : AM.stageA cfg2 [65] 100000 items_L13 [([0], [2])] s_L13_0 = some [(.ret, s_L14_0)] := by kernel_rfl
end Go.Proofs.YtidbebeefkinaaaGreatDoor.RunCatalogAlive
