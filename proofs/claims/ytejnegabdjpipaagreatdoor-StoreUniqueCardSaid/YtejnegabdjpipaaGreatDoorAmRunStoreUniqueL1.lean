/- Stage L1. -/
import Derived.Test.YtejnegabdjpipaaGreatDoorAmRunStoreUniqueDL
import Derived.KernelRfl
namespace Go.Proofs.YtejnegabdjpipaaGreatDoor.RunStoreUnique
open Go.RowKit
set_option maxRecDepth 100000 in
theorem ran_L1 : AM.stageA cfg0 [] 100000 (items_L0.take 2) [([1, 2, 3, 0], [0, 1294, 1295, 1296, 1297, 1291, 1285, 1280, 1249, 992, 820, 1259, 661, 461, 1283])] s_L = some [(.norm, s_L1_0)] := by kernel_rfl
end Go.Proofs.YtejnegabdjpipaaGreatDoor.RunStoreUnique
