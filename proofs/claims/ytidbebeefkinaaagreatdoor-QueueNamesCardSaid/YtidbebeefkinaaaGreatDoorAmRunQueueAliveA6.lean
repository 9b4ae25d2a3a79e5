/- musterlaw12.queueAlive: a stage. -/
import Derived.Test.YtidbebeefkinaaaGreatDoorAmRunQueueAliveDA
import Derived.KernelRfl
namespace Go.Proofs.YtidbebeefkinaaaGreatDoor.RunQueueAlive
open Go.RowKit
set_option maxRecDepth 100000 in
theorem ran_A6 : AM.stageA cfg0 [] 100000 (items_A5.take 4) [([97, 6, 8, 4], [8063, 8046, 8019, 8008, 7993, 7992, 7971, 8009, 402, 401, 2, 1, 0, 4043, 404, 8087, 8604, 8605, 8586, 9833, 9834, 9855, 9856, 9811, 9812, 9678, 9804, 9849, 9857, 9829, 9858, 7664, 7665, 7784, 7785, 5889, 5890, 5731, 5732, 5622, 5724, 5883, 4914, 4915, 4874, 4875, 4769, 4867, 5855, 7807, 7808, 7642, 7643, 7526, 7635, 7801, 6856, 6857, 6691, 6692, 6575, 6684, 6850, 7809, 7780, 7663, 7660, 7810, 7853, 4045, 8587, 4040, 4008, 4019, 3847, 3603, 3418, 3167, 3613, 2918, 2283, 2109, 2293, 1860, 1239, 1250, 1080, 3699, 8599, 9897])] s_A5_0 = some [(.norm, s_A6_0)] := by kernel_rfl
end Go.Proofs.YtidbebeefkinaaaGreatDoor.RunQueueAlive
