/- Stage W19. -/
import Derived.Test.YtejnegabdjpipaaGreatDoorAmRunStoreUniqueDM
import Derived.KernelRfl
namespace Go.Proofs.YtejnegabdjpipaaGreatDoor.RunStoreUnique
open Go.RowKit
set_option maxRecDepth 100000 in
theorem ran_W19 : AM.stageA cfgF [] 100000 items_W18 [([6], [0])] s_W18_0 = some [(.ret, s_W19_0)] := by kernel_rfl
end Go.Proofs.YtejnegabdjpipaaGreatDoor.RunStoreUnique
