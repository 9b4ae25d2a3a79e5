/- musterlaw08.storeAlive: stage 2. -/
import Derived.Test.YtidbebeefkinaaaGreatDoorAmRunStoreAlive0
import Derived.KernelRfl
namespace Go.Proofs.YtidbebeefkinaaaGreatDoor.RunStoreAlive
open Go.RowKit
set_option maxRecDepth 100000 in
theorem ran2 : AM.stageA cfg 100000 (items1.take 3) [4, 3, 1, 0] [2, 1283, 1321, 1294, 1295, 1296, 1297, 1291, 1285, 1322, 1280, 1249, 992, 820, 1259, 661, 461, 1334] s1 = some (.norm, s2) := by kernel_rfl
end Go.Proofs.YtidbebeefkinaaaGreatDoor.RunStoreAlive
