/- musterlaw12.queueAlive: stages. -/
import Derived.Test.YtojkkmoflcfglaaGreatDoorAmRunQueueAliveDA
import Derived.KernelRfl
namespace Go.Proofs.YtojkkmoflcfglaaGreatDoor.RunQueueAlive
open Go.RowKit
set_option maxRecDepth 100000 in
theorem ran_A7 : AM.stageA cfg0 [] 100000 items_A6 [([4], [8589, 8449, 8406, 8260, 8261, 8380, 8381, 8403, 8404, 8397, 8405, 8376, 8259, 8256, 8238, 8239, 8231, 8122, 6451, 5511, 5510, 5470, 5471, 5463, 5365, 2, 1, 0, 35315, 35316, 35436, 35437, 6485, 6486, 6327, 6328, 6218, 6320, 6479, 33685, 33686, 33347, 33348, 32834, 33340, 33683, 35632, 35633, 35293, 35294, 34779, 35286, 35630, 7452, 7453, 7287, 7288, 7171, 7280, 7446, 35435, 35432, 31768, 31769, 31724, 31725, 31591, 31717, 31762, 35314, 35311, 35642, 35725, 4641, 4636, 4604, 4615, 4443, 4199, 4014, 3763, 4209, 3514, 2879, 2705, 2889, 2456, 1835, 1846, 1676, 4295, 4639, 1000, 30000])] s_A6_0 = some [(.ret, s_A7_0)] := by kernel_rfl
end Go.Proofs.YtojkkmoflcfglaaGreatDoor.RunQueueAlive
