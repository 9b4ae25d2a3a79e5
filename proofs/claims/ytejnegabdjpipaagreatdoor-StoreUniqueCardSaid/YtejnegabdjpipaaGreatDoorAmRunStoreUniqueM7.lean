/- Stage M7. -/
import Derived.Test.YtejnegabdjpipaaGreatDoorAmRunStoreUniqueDM
import Derived.KernelRfl
namespace Go.Proofs.YtejnegabdjpipaaGreatDoor.RunStoreUnique
open Go.RowKit
set_option maxRecDepth 100000 in
theorem ran_M7 : AM.stageA cfgF [] 100000 (items_M6.take 8) [([10, 12, 9, 2, 11, 0, 7, 1, 6], [0, 951, 1007, 1008, 1010, 1011, 989, 2242, 2243, 2317, 2318, 2340, 2341, 2220, 2221, 2213, 2334, 2154, 2155, 2114, 2115, 2040, 2025, 2009, 2107, 2306, 2342, 2315, 2241, 2238, 2344, 962, 963, 964, 965, 959, 953, 990, 948, 917, 747, 927, 594, 462, 1002])] s_M6_0 = some [(.norm, s_M7_0)] := by kernel_rfl
end Go.Proofs.YtejnegabdjpipaaGreatDoor.RunStoreUnique
