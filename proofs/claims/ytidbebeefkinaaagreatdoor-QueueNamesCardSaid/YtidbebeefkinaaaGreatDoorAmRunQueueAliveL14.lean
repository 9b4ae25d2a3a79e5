/- musterlaw12.queueAlive: a stage. -/
import Derived.Test.YtidbebeefkinaaaGreatDoorAmRunQueueAliveDL
import Derived.KernelRfl
namespace Go.Proofs.YtidbebeefkinaaaGreatDoor.RunQueueAlive
open Go.RowKit
set_option maxRecDepth 100000 in
theorem ran_L14 : AM.stageA cfg2 [] 100000 (items_L13.take 1) [([1, 3, 4, 5, 6, 7, 8, 0], [8063, 8019, 8008, 7993, 7992, 7971, 7853, 7810, 7664, 7665, 7784, 7785, 7807, 7808, 7801, 7809, 7780, 7663, 7660, 7642, 7643, 7635, 7526, 6856, 6857, 6850, 6691, 6692, 6684, 6575, 5889, 5890, 5883, 5855, 5731, 5732, 5724, 5622, 4915, 4914, 4874, 4875, 4867, 4769, 4045, 4040, 4008, 4019, 3847, 3603, 3418, 3167, 3613, 2918, 2283, 2109, 2293, 1860, 1239, 1250, 1080, 3699, 4043, 404, 2, 1, 0, 8046, 401, 8009, 402])] s_L13_0 = some [(.norm, s_L14_0)] := by kernel_rfl
end Go.Proofs.YtidbebeefkinaaaGreatDoor.RunQueueAlive
