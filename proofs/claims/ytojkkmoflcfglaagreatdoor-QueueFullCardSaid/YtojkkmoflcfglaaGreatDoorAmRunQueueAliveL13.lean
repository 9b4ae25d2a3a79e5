/- musterlaw12.queueAlive: stages. -/
import Derived.Test.YtojkkmoflcfglaaGreatDoorAmRunQueueAliveDL
import Derived.KernelRfl
namespace Go.Proofs.YtojkkmoflcfglaaGreatDoor.RunQueueAlive
open Go.RowKit
set_option maxRecDepth 100000 in
theorem ran_L13 : AM.stageA cfg2 [] 100000 (items_L12.take 1) [([1, 3, 4, 5, 6, 7, 8, 0], [8659, 8615, 8604, 8589, 8588, 8567, 8449, 8406, 8260, 8261, 8380, 8381, 8403, 8404, 8397, 8405, 8376, 8259, 8256, 8238, 8239, 8231, 8122, 7452, 7453, 7446, 7287, 7288, 7280, 7171, 6485, 6486, 6479, 6451, 6327, 6328, 6320, 6218, 5511, 5510, 5470, 5471, 5463, 5365, 4641, 4636, 4604, 4615, 4443, 4199, 4014, 3763, 4209, 3514, 2879, 2705, 2889, 2456, 1835, 1846, 1676, 4295, 4639, 1000, 2, 1, 0, 8642, 401, 8605, 402])] s_L12_0 = some [(.norm, s_L13_0)] := by kernel_rfl
set_option maxRecDepth 100000 in
theorem ran_L14 : AM.stageA cfg2 [] 100000 items_L13 [([0], [8659, 8642, 8615, 8604, 8589, 8588, 8567, 8449, 8406, 8260, 8261, 8380, 8381, 8403, 8404, 8397, 8405, 8376, 8259, 8256, 8238, 8239, 8231, 8122, 7452, 7453, 7446, 7287, 7288, 7280, 7171, 6485, 6486, 6479, 6451, 6327, 6328, 6320, 6218, 5511, 5510, 5470, 5471, 5463, 5365, 4641, 4636, 4604, 4615, 4443, 4199, 4014, 3763, 4209, 3514, 2879, 2705, 2889, 2456, 1835, 1846, 1676, 4295, 4639, 1000, 8605, 402, 401, 2, 1, 0])] s_L13_0 = some [(.ret, s_L14_0)] := by kernel_rfl
set_option maxRecDepth 100000 in
theorem ends_L : AM.leavesL cfg2 100000 Tryz.f4 outs_L9 [[2, 1, 0]] = some [(.bool true, ⟨.n (some (.row ⟨[.iface 438 (.ptr 390 0)], 29, 1, 0, false, true, true⟩)) (.n (some (.row ⟨[.iface 438 (.ptr 391 0)], 29, 1, 0, false, true, true⟩)) .lf .lf) (.n (some (.row ⟨[.str [], .str [116, 101, 120, 116], .str [110, 117, 109], .str [108, 105, 115, 116]], 64, 4, 0, false, true, true⟩)) .lf .lf), 36101⟩)] := by kernel_rfl
end Go.Proofs.YtojkkmoflcfglaaGreatDoor.RunQueueAlive
