/- musterlaw10.catalogAlive: a stage. -/
import Derived.Test.YtidbebeefkinaaaGreatDoorAmRunCatalogAliveDN
import Derived.KernelRfl
namespace Go.Proofs.YtidbebeefkinaaaGreatDoor.RunCatalogAlive
open Go.RowKit
set_option maxRecDepth 100000 in
theorem ran_N1 : AM.stageA cfg0 [] 100000 (items_N0.take 3) [([3, 0, 2], [2, 4051, 4052, 4053, 4054, 4048, 4042, 4037, 4005, 4016, 3844, 3600, 3415, 3164, 3610, 2915, 2280, 2106, 2290, 1857, 1236, 1247, 1077, 3696, 4040, 401])] s_N = some [(.norm, s_N1_0)] := by kernel_rfl
end Go.Proofs.YtidbebeefkinaaaGreatDoor.RunCatalogAlive
