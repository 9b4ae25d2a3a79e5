/- musterlaw10.catalogAlive: a stage. -/
import Derived.Test.YtidbebeefkinaaaGreatDoorAmRunCatalogAliveDL
import Derived.KernelRfl
namespace Go.Proofs.YtidbebeefkinaaaGreatDoor.RunCatalogAlive
open Go.RowKit
set_option maxRecDepth 100000 in
theorem ran_L13 : AM.stageA cfg2 [65] 100000 (items_L10.take 2) [([36, 3, 0], [2, 13789, 13790, 13910, 13911, 5886, 5887, 5728, 5729, 5619, 5721, 5880, 14105, 14106, 13767, 13768, 13254, 13760, 14103, 12161, 12162, 11822, 11823, 11308, 11815, 12159, 6853, 6854, 6688, 6689, 6572, 6681, 6847, 13909, 13906, 10241, 10242, 10197, 10198, 10064, 10190, 10235, 13788, 13785, 14115, 4037, 4005, 4016, 3844, 3600, 3415, 3164, 3610, 2915, 2280, 2106, 2290, 1857, 1236, 1247, 1077, 3696, 14559, 14560])] s_L10_1 = some [(.norm, s_L13_0)] := by kernel_rfl
end Go.Proofs.YtidbebeefkinaaaGreatDoor.RunCatalogAlive
