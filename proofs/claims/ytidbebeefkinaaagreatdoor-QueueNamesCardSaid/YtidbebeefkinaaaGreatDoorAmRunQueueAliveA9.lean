/- musterlaw12.queueAlive: a stage. -/
import Derived.Test.YtidbebeefkinaaaGreatDoorAmRunQueueAliveDA
import Derived.KernelRfl
namespace Go.Proofs.YtidbebeefkinaaaGreatDoor.RunQueueAlive
open Go.RowKit
set_option maxRecDepth 100000 in
theorem ran_A9 : AM.stageA cfg0 [] 100000 items_A7 [([4], [8063, 8046, 8019, 8008, 7993, 7992, 7971, 7853, 7810, 7664, 7665, 7784, 7785, 7807, 7808, 7801, 7809, 7780, 7663, 7660, 7642, 7643, 7635, 7526, 5855, 4915, 4914, 4874, 4875, 4867, 4769, 8009, 402, 401, 2, 1, 0, 13403, 13404, 13524, 13525, 5889, 5890, 5731, 5732, 5622, 5724, 5883, 13719, 13720, 13381, 13382, 12868, 13374, 13717, 11775, 11776, 11436, 11437, 10922, 11429, 11773, 6856, 6857, 6691, 6692, 6575, 6684, 6850, 13523, 13520, 9855, 9856, 9811, 9812, 9678, 9804, 9849, 13402, 13399, 13729, 13812, 4045, 4040, 4008, 4019, 3847, 3603, 3418, 3167, 3613, 2918, 2283, 2109, 2293, 1860, 1239, 1250, 1080, 3699, 4043, 404, 8087])] s_A7_1 = some [(.ret, s_A9_0)] := by kernel_rfl
end Go.Proofs.YtidbebeefkinaaaGreatDoor.RunQueueAlive
