/- Stage L3. -/
import Derived.Test.YtejnegabdjpipaaGreatDoorAmRunStoreUniqueDL
import Derived.KernelRfl
namespace Go.Proofs.YtejnegabdjpipaaGreatDoor.RunStoreUnique
open Go.RowKit
set_option maxRecDepth 100000 in
theorem ran_L3 : AM.stageA cfg0 [] 100000 (items_L2.take 3) [([4, 1, 6, 3, 0], [0, 1283, 1321, 5819, 5820, 5901, 5902, 5922, 5923, 5797, 5798, 5790, 5916, 5703, 5704, 5726, 5727, 5504, 5505, 5497, 5720, 5433, 5434, 5313, 5314, 5306, 5692, 5728, 5701, 5243, 5244, 5203, 5204, 5126, 5083, 5196, 5399, 5924, 5897, 5818, 5815, 5925, 1294, 1295, 1296, 1297, 1291, 1285, 1322, 1280, 1249, 992, 820, 1259, 661, 461, 1334])] s_L2_0 = some [(.norm, s_L3_0)] := by kernel_rfl
end Go.Proofs.YtejnegabdjpipaaGreatDoor.RunStoreUnique
