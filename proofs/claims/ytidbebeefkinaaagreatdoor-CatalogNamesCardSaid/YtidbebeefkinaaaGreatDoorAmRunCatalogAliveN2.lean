/- musterlaw10.catalogAlive: a stage. -/
import Derived.Test.YtidbebeefkinaaaGreatDoorAmRunCatalogAliveDN
import Derived.KernelRfl
namespace Go.Proofs.YtidbebeefkinaaaGreatDoor.RunCatalogAlive
open Go.RowKit
set_option maxRecDepth 100000 in
theorem ran_N2 : AM.stageA cfg0 [] 100000 (items_N1.take 3) [([4, 3, 2], [2, 4040, 401, 4112, 7661, 7662, 7781, 7782, 5886, 5887, 5728, 5729, 5619, 5721, 5880, 4911, 4912, 4871, 4872, 4766, 4864, 5852, 7804, 7805, 7639, 7640, 7523, 7632, 7798, 6853, 6854, 6688, 6689, 6572, 6681, 6847, 7806, 7777, 7660, 7657, 7807, 4051, 4052, 4053, 4054, 4048, 4042, 4113, 4037, 4005, 4016, 3844, 3600, 3415, 3164, 3610, 2915, 2280, 2106, 2290, 1857, 1236, 1247, 1077, 3696, 4125])] s_N1_0 = some [(.norm, s_N2_0)] := by kernel_rfl
end Go.Proofs.YtidbebeefkinaaaGreatDoor.RunCatalogAlive
