/- storeAlive: the stages joined. -/
import Derived.Test.YtejnegabdjpipaaGreatDoorAmRunStoreUniqueL1
import Derived.Test.YtejnegabdjpipaaGreatDoorAmRunStoreUniqueL2
import Derived.Test.YtejnegabdjpipaaGreatDoorAmRunStoreUniqueL3
import Derived.Test.YtejnegabdjpipaaGreatDoorAmRunStoreUniqueL4
import Derived.Test.YtejnegabdjpipaaGreatDoorAmRunStoreUniqueL5
import Derived.KernelRfl
namespace Go.Proofs.YtejnegabdjpipaaGreatDoor.RunStoreUnique
open Go.RowKit
set_option maxRecDepth 100000
theorem goes_L5 : AM.Goes cfg0 items_L4 s_L4_0 [(.ret, s_L5_0)] := AM.stage Tryz.checked.mixed (AM.named_ok named) ran_L5
theorem goes_L4 : AM.Goes cfg0 items_L3 s_L3_0 [(.ret, s_L5_0)] := AM.goes_split (k := 4) (AM.stage Tryz.checked.mixed (AM.named_ok named) ran_L4) goes_L5
theorem goes_L3 : AM.Goes cfg0 items_L2 s_L2_0 [(.ret, s_L5_0)] := AM.goes_split (k := 3) (AM.stage Tryz.checked.mixed (AM.named_ok named) ran_L3) goes_L4
theorem goes_L2 : AM.Goes cfg0 items_L1 s_L1_0 [(.ret, s_L5_0)] := AM.goes_split (k := 3) (AM.stage Tryz.checked.mixed (AM.named_ok named) ran_L2) goes_L3
theorem goes_L1 : AM.Goes cfg0 items_L0 s_L [(.ret, s_L5_0)] := AM.goes_split (k := 2) (AM.stage Tryz.checked.mixed (AM.named_ok named) ran_L1) goes_L2
theorem calls_of (w : World) (R : Facts w) : Calls Tryz.prog 4 #[] w fun e w' => e = .returned (.bool true) ∧ Below w.heap.size w w' :=
  AM.goes_calls (C := cfg0) Tryz.checked.mixed externs named Tryz.func4 (c := body_L) (by kernel_rfl) goes_L1 ends_L (by kernel_rfl) w R (fun w' hb _ => AM.move_rel R hb) (fun _ => AM.noMemo rfl)
end Go.Proofs.YtejnegabdjpipaaGreatDoor.RunStoreUnique
