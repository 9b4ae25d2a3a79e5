/- QueueFull: some of its rounds. -/
import Derived.Test.YtojkkmoflcfglaaGreatDoorAmRunQueueAliveF
import Derived.KernelRfl
namespace Go.Proofs.YtojkkmoflcfglaaGreatDoor.RunQueueAlive
open Go.RowKit
set_option maxRecDepth 100000 in
theorem round1_34 : Round1 34 := by unfold Round1; kernel_rfl
set_option maxRecDepth 100000 in
theorem ends_34 : Ends 34 := ⟨by kernel_rfl, by kernel_rfl, by kernel_rfl, by kernel_rfl, by kernel_rfl, by kernel_rfl, by kernel_rfl, by kernel_rfl⟩
set_option maxRecDepth 100000 in
theorem round1_35 : Round1 35 := by unfold Round1; kernel_rfl
set_option maxRecDepth 100000 in
theorem ends_35 : Ends 35 := ⟨by kernel_rfl, by kernel_rfl, by kernel_rfl, by kernel_rfl, by kernel_rfl, by kernel_rfl, by kernel_rfl, by kernel_rfl⟩
set_option maxRecDepth 100000 in
theorem round1_36 : Round1 36 := by unfold Round1; kernel_rfl
set_option maxRecDepth 100000 in
theorem ends_36 : Ends 36 := ⟨by kernel_rfl, by kernel_rfl, by kernel_rfl, by kernel_rfl, by kernel_rfl, by kernel_rfl, by kernel_rfl, by kernel_rfl⟩
set_option maxRecDepth 100000 in
theorem round1_37 : Round1 37 := by unfold Round1; kernel_rfl
set_option maxRecDepth 100000 in
theorem ends_37 : Ends 37 := ⟨by kernel_rfl, by kernel_rfl, by kernel_rfl, by kernel_rfl, by kernel_rfl, by kernel_rfl, by kernel_rfl, by kernel_rfl⟩
set_option maxRecDepth 100000 in
theorem round1_38 : Round1 38 := by unfold Round1; kernel_rfl
set_option maxRecDepth 100000 in
theorem ends_38 : Ends 38 := ⟨by kernel_rfl, by kernel_rfl, by kernel_rfl, by kernel_rfl, by kernel_rfl, by kernel_rfl, by kernel_rfl, by kernel_rfl⟩
set_option maxRecDepth 100000 in
theorem round1_39 : Round1 39 := by unfold Round1; kernel_rfl
set_option maxRecDepth 100000 in
theorem ends_39 : Ends 39 := ⟨by kernel_rfl, by kernel_rfl, by kernel_rfl, by kernel_rfl, by kernel_rfl, by kernel_rfl, by kernel_rfl, by kernel_rfl⟩
set_option maxRecDepth 100000 in
theorem round1_40 : Round1 40 := by unfold Round1; kernel_rfl
set_option maxRecDepth 100000 in
theorem ends_40 : Ends 40 := ⟨by kernel_rfl, by kernel_rfl, by kernel_rfl, by kernel_rfl, by kernel_rfl, by kernel_rfl, by kernel_rfl, by kernel_rfl⟩
set_option maxRecDepth 100000 in
theorem round1_41 : Round1 41 := by unfold Round1; kernel_rfl
set_option maxRecDepth 100000 in
theorem ends_41 : Ends 41 := ⟨by kernel_rfl, by kernel_rfl, by kernel_rfl, by kernel_rfl, by kernel_rfl, by kernel_rfl, by kernel_rfl, by kernel_rfl⟩
set_option maxRecDepth 100000 in
theorem round1_42 : Round1 42 := by unfold Round1; kernel_rfl
set_option maxRecDepth 100000 in
theorem ends_42 : Ends 42 := ⟨by kernel_rfl, by kernel_rfl, by kernel_rfl, by kernel_rfl, by kernel_rfl, by kernel_rfl, by kernel_rfl, by kernel_rfl⟩
set_option maxRecDepth 100000 in
theorem round1_43 : Round1 43 := by unfold Round1; kernel_rfl
set_option maxRecDepth 100000 in
theorem ends_43 : Ends 43 := ⟨by kernel_rfl, by kernel_rfl, by kernel_rfl, by kernel_rfl, by kernel_rfl, by kernel_rfl, by kernel_rfl, by kernel_rfl⟩
set_option maxRecDepth 100000 in
theorem round1_44 : Round1 44 := by unfold Round1; kernel_rfl
set_option maxRecDepth 100000 in
theorem ends_44 : Ends 44 := ⟨by kernel_rfl, by kernel_rfl, by kernel_rfl, by kernel_rfl, by kernel_rfl, by kernel_rfl, by kernel_rfl, by kernel_rfl⟩
set_option maxRecDepth 100000 in
theorem round1_45 : Round1 45 := by unfold Round1; kernel_rfl
set_option maxRecDepth 100000 in
theorem ends_45 : Ends 45 := ⟨by kernel_rfl, by kernel_rfl, by kernel_rfl, by kernel_rfl, by kernel_rfl, by kernel_rfl, by kernel_rfl, by kernel_rfl⟩
set_option maxRecDepth 100000 in
theorem round1_46 : Round1 46 := by unfold Round1; kernel_rfl
set_option maxRecDepth 100000 in
theorem ends_46 : Ends 46 := ⟨by kernel_rfl, by kernel_rfl, by kernel_rfl, by kernel_rfl, by kernel_rfl, by kernel_rfl, by kernel_rfl, by kernel_rfl⟩
set_option maxRecDepth 100000 in
theorem round1_47 : Round1 47 := by unfold Round1; kernel_rfl
set_option maxRecDepth 100000 in
theorem ends_47 : Ends 47 := ⟨by kernel_rfl, by kernel_rfl, by kernel_rfl, by kernel_rfl, by kernel_rfl, by kernel_rfl, by kernel_rfl, by kernel_rfl⟩
set_option maxRecDepth 100000 in
theorem round1_48 : Round1 48 := by unfold Round1; kernel_rfl
set_option maxRecDepth 100000 in
theorem ends_48 : Ends 48 := ⟨by kernel_rfl, by kernel_rfl, by kernel_rfl, by kernel_rfl, by kernel_rfl, by kernel_rfl, by kernel_rfl, by kernel_rfl⟩
set_option maxRecDepth 100000 in
theorem round1_49 : Round1 49 := by unfold Round1; kernel_rfl
set_option maxRecDepth 100000 in
theorem ends_49 : Ends 49 := ⟨by kernel_rfl, by kernel_rfl, by kernel_rfl, by kernel_rfl, by kernel_rfl, by kernel_rfl, by kernel_rfl, by kernel_rfl⟩
set_option maxRecDepth 100000 in
theorem round1_50 : Round1 50 := by unfold Round1; kernel_rfl
set_option maxRecDepth 100000 in
theorem ends_50 : Ends 50 := ⟨by kernel_rfl, by kernel_rfl, by kernel_rfl, by kernel_rfl, by kernel_rfl, by kernel_rfl, by kernel_rfl, by kernel_rfl⟩
end Go.Proofs.YtojkkmoflcfglaaGreatDoor.RunQueueAlive
