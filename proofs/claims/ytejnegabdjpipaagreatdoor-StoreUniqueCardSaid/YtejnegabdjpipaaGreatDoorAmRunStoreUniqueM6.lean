/- Stage M6. -/
import Derived.Test.YtejnegabdjpipaaGreatDoorAmRunStoreUniqueDM
import Derived.KernelRfl
namespace Go.Proofs.YtejnegabdjpipaaGreatDoor.RunStoreUnique
open Go.RowKit
set_option maxRecDepth 100000 in
theorem ran_M6 : AM.stageA cfgF [] 100000 (items_M0.take 6) [([7, 9, 0, 2, 1, 6], [0, 962, 963, 964, 965, 959, 953, 948, 917, 747, 927, 594, 462, 951])] s_M = some [(.norm, s_M6_0)] := by kernel_rfl
end Go.Proofs.YtejnegabdjpipaaGreatDoor.RunStoreUnique
