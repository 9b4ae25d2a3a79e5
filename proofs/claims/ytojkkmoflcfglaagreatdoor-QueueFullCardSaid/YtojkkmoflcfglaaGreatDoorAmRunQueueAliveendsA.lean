/- musterlaw12.queueAlive: stages. -/
import Derived.Test.YtojkkmoflcfglaaGreatDoorAmRunQueueAliveDA
import Derived.KernelRfl
namespace Go.Proofs.YtojkkmoflcfglaaGreatDoor.RunQueueAlive
open Go.RowKit
set_option maxRecDepth 100000 in
theorem ends_A : AM.leavesL cfg0 100000 Tryz.f25 outs_A4 [[0, 1, 2, 1000, 1676, 1835, 1846, 2456, 2705, 2879, 2889, 3514, 3763, 4014, 4199, 4209, 4295, 4443, 4604, 4615, 4636, 4639, 4641, 5365, 5463, 5470, 5471, 5510, 5511, 6218, 6320, 6327, 6328, 6451, 6479, 6485, 6486, 7171, 7280, 7287, 7288, 7446, 7452, 7453, 8122, 8231, 8238, 8239, 8256, 8259, 8260, 8261, 8376, 8380, 8381, 8397, 8403, 8404, 8405, 8406, 8449, 8589], [0, 1, 2, 1000, 1676, 1835, 1846, 2456, 2705, 2879, 2889, 3514, 3763, 4014, 4199, 4209, 4295, 4443, 4604, 4615, 4636, 4639, 4641, 5365, 5463, 5470, 5471, 5510, 5511, 6218, 6320, 6327, 6328, 6451, 6479, 6485, 6486, 7171, 7280, 7287, 7288, 7446, 7452, 7453, 8122, 8231, 8238, 8239, 8256, 8259, 8260, 8261, 8376, 8380, 8381, 8397, 8403, 8404, 8405, 8406, 8449, 8589]] = some [r_A, r_A] := by kernel_rfl
end Go.Proofs.YtojkkmoflcfglaaGreatDoor.RunQueueAlive
