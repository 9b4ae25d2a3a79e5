/- musterlaw08.storeAlive: stage 1. -/
import Derived.Test.YtidbebeefkinaaaGreatDoorAmRunStoreAlive0
import Derived.KernelRfl
namespace Go.Proofs.YtidbebeefkinaaaGreatDoor.RunStoreAlive
open Go.RowKit
set_option maxRecDepth 100000 in
theorem ran1 : AM.stageA cfg 100000 (items0.take 2) [1, 2, 3, 0] [2, 1294, 1295, 1296, 1297, 1291, 1285, 1280, 1249, 992, 820, 1259, 661, 461, 1283] s0 = some (.norm, s1) := by kernel_rfl
end Go.Proofs.YtidbebeefkinaaaGreatDoor.RunStoreAlive
