/- musterlaw12.queueAlive: stages. -/
import Derived.Test.YtojkkmoflcfglaaGreatDoorAmRunQueueAliveDN
import Derived.KernelRfl
namespace Go.Proofs.YtojkkmoflcfglaaGreatDoor.RunQueueAlive
open Go.RowKit
set_option maxRecDepth 100000 in
theorem ran_N1 : AM.stageA cfg0 [] 100000 (items_N0.take 3) [([3, 0, 2], [2, 1, 0, 4650, 4651, 4652, 4653, 4647, 4641, 4636, 4604, 4615, 4443, 4199, 4014, 3763, 4209, 3514, 2879, 2705, 2889, 2456, 1835, 1846, 1676, 4295, 4639, 1000])] s_N = some [(.norm, s_N1_0)] := by kernel_rfl
set_option maxRecDepth 100000 in
theorem ran_N3 : AM.stageA cfg0 [] 100000 items_N2 [([2], [2, 1, 0, 8260, 8261, 8380, 8381, 6485, 6486, 6327, 6328, 6218, 6320, 6479, 5510, 5511, 5470, 5471, 5365, 5463, 6451, 8403, 8404, 8238, 8239, 8122, 8231, 8397, 7452, 7453, 7287, 7288, 7171, 7280, 7446, 8405, 8376, 8259, 8256, 8406, 8449, 4641, 4636, 4604, 4615, 4443, 4199, 4014, 3763, 4209, 3514, 2879, 2705, 2889, 2456, 1835, 1846, 1676, 4295, 4639, 1000])] s_N2_0 = some [(.ret, s_N3_0)] := by kernel_rfl
set_option maxRecDepth 100000 in
theorem ends_N : AM.leavesL cfg0 100000 Tryz.f6 outs_N1 [[2, 1, 0, 8260, 8261, 8380, 8381, 6485, 6486, 6327, 6328, 6218, 6320, 6479, 5510, 5511, 5470, 5471, 5365, 5463, 6451, 8403, 8404, 8238, 8239, 8122, 8231, 8397, 7452, 7453, 7287, 7288, 7171, 7280, 7446, 8405, 8376, 8259, 8256, 8406, 8449, 4641, 4636, 4604, 4615, 4443, 4199, 4014, 3763, 4209, 3514, 2879, 2705, 2889, 2456, 1835, 1846, 1676, 4295, 4639, 1000]] = some memo_N.outs := by kernel_rfl
end Go.Proofs.YtojkkmoflcfglaaGreatDoor.RunQueueAlive
