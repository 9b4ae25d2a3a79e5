/- Stage L5. -/
import Derived.Test.YtejnegabdjpipaaGreatDoorAmRunStoreUniqueDL
import Derived.KernelRfl
namespace Go.Proofs.YtejnegabdjpipaaGreatDoor.RunStoreUnique
open Go.RowKit
set_option maxRecDepth 100000 in
theorem ran_L5 : AM.stageA cfg0 [] 100000 items_L4 [([0], [0])] s_L4_0 = some [(.ret, s_L5_0)] := by kernel_rfl
set_option maxRecDepth 100000 in
theorem ends_L : AM.leavesL cfg0 100000 Tryz.f4 [(.ret, s_L5_0)] [[0]] = some [(.bool true, ⟨.n (some (.row ⟨[.str [], .str [116, 101, 120, 116], .str [110, 117, 109], .str [108, 105, 115, 116]], 181, 4, 0, false, true, true⟩)) .lf .lf, 6826⟩)] := by kernel_rfl
end Go.Proofs.YtejnegabdjpipaaGreatDoor.RunStoreUnique
