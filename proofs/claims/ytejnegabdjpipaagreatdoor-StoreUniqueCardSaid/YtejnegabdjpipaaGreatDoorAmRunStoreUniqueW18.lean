/- Stage W18. -/
import Derived.Test.YtejnegabdjpipaaGreatDoorAmRunStoreUniqueDM
import Derived.KernelRfl
namespace Go.Proofs.YtejnegabdjpipaaGreatDoor.RunStoreUnique
open Go.RowKit
set_option maxRecDepth 100000 in
theorem ran_W18 : AM.stageA cfgF [] 100000 (items_W17.take 3) [([10, 7, 24, 9, 15, 16, 1, 19, 20, 12, 6], [0, 1010, 1011, 4582, 4567, 4551, 4585, 2242, 2243, 2317, 2318, 2340, 2341, 2220, 2221, 2213, 2334, 2154, 2155, 2114, 2115, 2040, 2025, 2009, 2107, 2306, 2342, 2315, 2241, 2238, 2344, 4043, 951, 989, 7015, 7016, 7090, 7091, 7113, 7114, 6993, 6994, 6986, 7107, 6927, 6928, 6885, 6886, 6811, 6796, 6780, 6878, 7079, 7115, 7088, 7014, 7011, 7117, 962, 963, 964, 965, 959, 953, 990, 948, 917, 747, 927, 594, 462, 1002])] s_W17_0 = some [(.norm, s_W18_0)] := by kernel_rfl
end Go.Proofs.YtejnegabdjpipaaGreatDoor.RunStoreUnique
