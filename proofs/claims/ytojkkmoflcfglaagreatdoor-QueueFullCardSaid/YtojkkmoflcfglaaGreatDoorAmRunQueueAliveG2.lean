/- QueueFull: some of its rounds. -/
import Derived.Test.YtojkkmoflcfglaaGreatDoorAmRunQueueAliveF
import Derived.KernelRfl
namespace Go.Proofs.YtojkkmoflcfglaaGreatDoor.RunQueueAlive
open Go.RowKit
set_option maxRecDepth 100000 in
theorem round1_17 : Round1 17 := by unfold Round1; kernel_rfl
set_option maxRecDepth 100000 in
theorem ends_17 : Ends 17 := ⟨by kernel_rfl, by kernel_rfl, by kernel_rfl, by kernel_rfl, by kernel_rfl, by kernel_rfl, by kernel_rfl, by kernel_rfl⟩
set_option maxRecDepth 100000 in
theorem round1_18 : Round1 18 := by unfold Round1; kernel_rfl
set_option maxRecDepth 100000 in
theorem ends_18 : Ends 18 := ⟨by kernel_rfl, by kernel_rfl, by kernel_rfl, by kernel_rfl, by kernel_rfl, by kernel_rfl, by kernel_rfl, by kernel_rfl⟩
set_option maxRecDepth 100000 in
theorem round1_19 : Round1 19 := by unfold Round1; kernel_rfl
set_option maxRecDepth 100000 in
theorem ends_19 : Ends 19 := ⟨by kernel_rfl, by kernel_rfl, by kernel_rfl, by kernel_rfl, by kernel_rfl, by kernel_rfl, by kernel_rfl, by kernel_rfl⟩
set_option maxRecDepth 100000 in
theorem round1_20 : Round1 20 := by unfold Round1; kernel_rfl
set_option maxRecDepth 100000 in
theorem ends_20 : Ends 20 := ⟨by kernel_rfl, by kernel_rfl, by kernel_rfl, by kernel_rfl, by kernel_rfl, by kernel_rfl, by kernel_rfl, by kernel_rfl⟩
set_option maxRecDepth 100000 in
theorem round1_21 : Round1 21 := by unfold Round1; kernel_rfl
set_option maxRecDepth 100000 in
theorem ends_21 : Ends 21 := ⟨by kernel_rfl, by kernel_rfl, by kernel_rfl, by kernel_rfl, by kernel_rfl, by kernel_rfl, by kernel_rfl, by kernel_rfl⟩
set_option maxRecDepth 100000 in
theorem round1_22 : Round1 22 := by unfold Round1; kernel_rfl
set_option maxRecDepth 100000 in
theorem ends_22 : Ends 22 := ⟨by kernel_rfl, by kernel_rfl, by kernel_rfl, by kernel_rfl, by kernel_rfl, by kernel_rfl, by kernel_rfl, by kernel_rfl⟩
set_option maxRecDepth 100000 in
theorem round1_23 : Round1 23 := by unfold Round1; kernel_rfl
set_option maxRecDepth 100000 in
theorem ends_23 : Ends 23 := ⟨by kernel_rfl, by kernel_rfl, by kernel_rfl, by kernel_rfl, by kernel_rfl, by kernel_rfl, by kernel_rfl, by kernel_rfl⟩
set_option maxRecDepth 100000 in
theorem round1_24 : Round1 24 := by unfold Round1; kernel_rfl
set_option maxRecDepth 100000 in
theorem ends_24 : Ends 24 := ⟨by kernel_rfl, by kernel_rfl, by kernel_rfl, by kernel_rfl, by kernel_rfl, by kernel_rfl, by kernel_rfl, by kernel_rfl⟩
set_option maxRecDepth 100000 in
theorem round1_25 : Round1 25 := by unfold Round1; kernel_rfl
set_option maxRecDepth 100000 in
theorem ends_25 : Ends 25 := ⟨by kernel_rfl, by kernel_rfl, by kernel_rfl, by kernel_rfl, by kernel_rfl, by kernel_rfl, by kernel_rfl, by kernel_rfl⟩
set_option maxRecDepth 100000 in
theorem round1_26 : Round1 26 := by unfold Round1; kernel_rfl
set_option maxRecDepth 100000 in
theorem ends_26 : Ends 26 := ⟨by kernel_rfl, by kernel_rfl, by kernel_rfl, by kernel_rfl, by kernel_rfl, by kernel_rfl, by kernel_rfl, by kernel_rfl⟩
set_option maxRecDepth 100000 in
theorem round1_27 : Round1 27 := by unfold Round1; kernel_rfl
set_option maxRecDepth 100000 in
theorem ends_27 : Ends 27 := ⟨by kernel_rfl, by kernel_rfl, by kernel_rfl, by kernel_rfl, by kernel_rfl, by kernel_rfl, by kernel_rfl, by kernel_rfl⟩
set_option maxRecDepth 100000 in
theorem round1_28 : Round1 28 := by unfold Round1; kernel_rfl
set_option maxRecDepth 100000 in
theorem ends_28 : Ends 28 := ⟨by kernel_rfl, by kernel_rfl, by kernel_rfl, by kernel_rfl, by kernel_rfl, by kernel_rfl, by kernel_rfl, by kernel_rfl⟩
set_option maxRecDepth 100000 in
theorem round1_29 : Round1 29 := by unfold Round1; kernel_rfl
set_option maxRecDepth 100000 in
theorem ends_29 : Ends 29 := ⟨by kernel_rfl, by kernel_rfl, by kernel_rfl, by kernel_rfl, by kernel_rfl, by kernel_rfl, by kernel_rfl, by kernel_rfl⟩
set_option maxRecDepth 100000 in
theorem round1_30 : Round1 30 := by unfold Round1; kernel_rfl
set_option maxRecDepth 100000 in
theorem ends_30 : Ends 30 := ⟨by kernel_rfl, by kernel_rfl, by kernel_rfl, by kernel_rfl, by kernel_rfl, by kernel_rfl, by kernel_rfl, by kernel_rfl⟩
set_option maxRecDepth 100000 in
theorem round1_31 : Round1 31 := by unfold Round1; kernel_rfl
set_option maxRecDepth 100000 in
theorem ends_31 : Ends 31 := ⟨by kernel_rfl, by kernel_rfl, by kernel_rfl, by kernel_rfl, by kernel_rfl, by kernel_rfl, by kernel_rfl, by kernel_rfl⟩
set_option maxRecDepth 100000 in
theorem round1_32 : Round1 32 := by unfold Round1; kernel_rfl
set_option maxRecDepth 100000 in
theorem ends_32 : Ends 32 := ⟨by kernel_rfl, by kernel_rfl, by kernel_rfl, by kernel_rfl, by kernel_rfl, by kernel_rfl, by kernel_rfl, by kernel_rfl⟩
set_option maxRecDepth 100000 in
theorem round1_33 : Round1 33 := by unfold Round1; kernel_rfl
set_option maxRecDepth 100000 in
theorem ends_33 : Ends 33 := ⟨by kernel_rfl, by kernel_rfl, by kernel_rfl, by kernel_rfl, by kernel_rfl, by kernel_rfl, by kernel_rfl, by kernel_rfl⟩
end Go.Proofs.YtojkkmoflcfglaaGreatDoor.RunQueueAlive
