/- Stage L2. -/
import Derived.Test.YtejnegabdjpipaaGreatDoorAmRunStoreUniqueDL
import Derived.KernelRfl
namespace Go.Proofs.YtejnegabdjpipaaGreatDoor.RunStoreUnique
open Go.RowKit
set_option maxRecDepth 100000 in
theorem ran_L2 : AM.stageA cfg0 [] 100000 (items_L1.take 3) [([4, 3, 1, 0], [0, 1283, 1321, 1294, 1295, 1296, 1297, 1291, 1285, 1322, 1280, 1249, 992, 820, 1259, 661, 461, 1334])] s_L1_0 = some [(.norm, s_L2_0)] := by kernel_rfl
end Go.Proofs.YtejnegabdjpipaaGreatDoor.RunStoreUnique
