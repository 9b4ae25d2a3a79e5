/- Stage W13. -/
import Derived.Test.YtejnegabdjpipaaGreatDoorAmRunStoreUniqueDM
import Derived.KernelRfl
namespace Go.Proofs.YtejnegabdjpipaaGreatDoor.RunStoreUnique
open Go.RowKit
set_option maxRecDepth 100000 in
theorem ran_W13 : AM.stageA cfgF [] 100000 (items_W0.take 6) [([7, 9, 0, 2, 1, 6], [0, 962, 963, 964, 965, 959, 953, 948, 917, 747, 927, 594, 462, 951])] s_W = some [(.norm, s_W13_0)] := by kernel_rfl
end Go.Proofs.YtejnegabdjpipaaGreatDoor.RunStoreUnique
