/- QueueFull: some of its rounds. -/
import Derived.Test.YtojkkmoflcfglaaGreatDoorAmRunQueueAliveF
import Derived.KernelRfl
namespace Go.Proofs.YtojkkmoflcfglaaGreatDoor.RunQueueAlive
open Go.RowKit
set_option maxRecDepth 100000 in
theorem round1_0 : Round1 0 := by unfold Round1; kernel_rfl
set_option maxRecDepth 100000 in
theorem round1_1 : Round1 1 := by unfold Round1; kernel_rfl
set_option maxRecDepth 100000 in
theorem ends_1 : Ends 1 := ⟨by kernel_rfl, by kernel_rfl, by kernel_rfl, by kernel_rfl, by kernel_rfl, by kernel_rfl, by kernel_rfl, by kernel_rfl⟩
set_option maxRecDepth 100000 in
theorem round1_2 : Round1 2 := by unfold Round1; kernel_rfl
set_option maxRecDepth 100000 in
theorem ends_2 : Ends 2 := ⟨by kernel_rfl, by kernel_rfl, by kernel_rfl, by kernel_rfl, by kernel_rfl, by kernel_rfl, by kernel_rfl, by kernel_rfl⟩
set_option maxRecDepth 100000 in
theorem round1_3 : Round1 3 := by unfold Round1; kernel_rfl
set_option maxRecDepth 100000 in
theorem ends_3 : Ends 3 := ⟨by kernel_rfl, by kernel_rfl, by kernel_rfl, by kernel_rfl, by kernel_rfl, by kernel_rfl, by kernel_rfl, by kernel_rfl⟩
set_option maxRecDepth 100000 in
theorem round1_4 : Round1 4 := by unfold Round1; kernel_rfl
set_option maxRecDepth 100000 in
theorem ends_4 : Ends 4 := ⟨by kernel_rfl, by kernel_rfl, by kernel_rfl, by kernel_rfl, by kernel_rfl, by kernel_rfl, by kernel_rfl, by kernel_rfl⟩
set_option maxRecDepth 100000 in
theorem round1_5 : Round1 5 := by unfold Round1; kernel_rfl
set_option maxRecDepth 100000 in
theorem ends_5 : Ends 5 := ⟨by kernel_rfl, by kernel_rfl, by kernel_rfl, by kernel_rfl, by kernel_rfl, by kernel_rfl, by kernel_rfl, by kernel_rfl⟩
set_option maxRecDepth 100000 in
theorem round1_6 : Round1 6 := by unfold Round1; kernel_rfl
set_option maxRecDepth 100000 in
theorem ends_6 : Ends 6 := ⟨by kernel_rfl, by kernel_rfl, by kernel_rfl, by kernel_rfl, by kernel_rfl, by kernel_rfl, by kernel_rfl, by kernel_rfl⟩
set_option maxRecDepth 100000 in
theorem round1_7 : Round1 7 := by unfold Round1; kernel_rfl
set_option maxRecDepth 100000 in
theorem ends_7 : Ends 7 := ⟨by kernel_rfl, by kernel_rfl, by kernel_rfl, by kernel_rfl, by kernel_rfl, by kernel_rfl, by kernel_rfl, by kernel_rfl⟩
set_option maxRecDepth 100000 in
theorem round1_8 : Round1 8 := by unfold Round1; kernel_rfl
set_option maxRecDepth 100000 in
theorem ends_8 : Ends 8 := ⟨by kernel_rfl, by kernel_rfl, by kernel_rfl, by kernel_rfl, by kernel_rfl, by kernel_rfl, by kernel_rfl, by kernel_rfl⟩
set_option maxRecDepth 100000 in
theorem round1_9 : Round1 9 := by unfold Round1; kernel_rfl
set_option maxRecDepth 100000 in
theorem ends_9 : Ends 9 := ⟨by kernel_rfl, by kernel_rfl, by kernel_rfl, by kernel_rfl, by kernel_rfl, by kernel_rfl, by kernel_rfl, by kernel_rfl⟩
set_option maxRecDepth 100000 in
theorem round1_10 : Round1 10 := by unfold Round1; kernel_rfl
set_option maxRecDepth 100000 in
theorem ends_10 : Ends 10 := ⟨by kernel_rfl, by kernel_rfl, by kernel_rfl, by kernel_rfl, by kernel_rfl, by kernel_rfl, by kernel_rfl, by kernel_rfl⟩
set_option maxRecDepth 100000 in
theorem round1_11 : Round1 11 := by unfold Round1; kernel_rfl
set_option maxRecDepth 100000 in
theorem ends_11 : Ends 11 := ⟨by kernel_rfl, by kernel_rfl, by kernel_rfl, by kernel_rfl, by kernel_rfl, by kernel_rfl, by kernel_rfl, by kernel_rfl⟩
set_option maxRecDepth 100000 in
theorem round1_12 : Round1 12 := by unfold Round1; kernel_rfl
set_option maxRecDepth 100000 in
theorem ends_12 : Ends 12 := ⟨by kernel_rfl, by kernel_rfl, by kernel_rfl, by kernel_rfl, by kernel_rfl, by kernel_rfl, by kernel_rfl, by kernel_rfl⟩
set_option maxRecDepth 100000 in
theorem round1_13 : Round1 13 := by unfold Round1; kernel_rfl
set_option maxRecDepth 100000 in
theorem ends_13 : Ends 13 := ⟨by kernel_rfl, by kernel_rfl, by kernel_rfl, by kernel_rfl, by kernel_rfl, by kernel_rfl, by kernel_rfl, by kernel_rfl⟩
set_option maxRecDepth 100000 in
theorem round1_14 : Round1 14 := by unfold Round1; kernel_rfl
set_option maxRecDepth 100000 in
theorem ends_14 : Ends 14 := ⟨by kernel_rfl, by kernel_rfl, by kernel_rfl, by kernel_rfl, by kernel_rfl, by kernel_rfl, by kernel_rfl, by kernel_rfl⟩
set_option maxRecDepth 100000 in
theorem round1_15 : Round1 15 := by unfold Round1; kernel_rfl
set_option maxRecDepth 100000 in
theorem ends_15 : Ends 15 := ⟨by kernel_rfl, by kernel_rfl, by kernel_rfl, by kernel_rfl, by kernel_rfl, by kernel_rfl, by kernel_rfl, by kernel_rfl⟩
set_option maxRecDepth 100000 in
theorem round1_16 : Round1 16 := by unfold Round1; kernel_rfl
set_option maxRecDepth 100000 in
theorem ends_16 : Ends 16 := ⟨by kernel_rfl, by kernel_rfl, by kernel_rfl, by kernel_rfl, by kernel_rfl, by kernel_rfl, by kernel_rfl, by kernel_rfl⟩
end Go.Proofs.YtojkkmoflcfglaaGreatDoor.RunQueueAlive
