/- QueueFull: some of its rounds. -/
import Derived.Test.YtojkkmoflcfglaaGreatDoorAmRunQueueAliveF
import Derived.KernelRfl
namespace Go.Proofs.YtojkkmoflcfglaaGreatDoor.RunQueueAlive
open Go.RowKit
set_option maxRecDepth 100000 in
theorem round1_68 : Round1 68 := by unfold Round1; kernel_rfl
set_option maxRecDepth 100000 in
theorem ends_68 : Ends 68 := ⟨by kernel_rfl, by kernel_rfl, by kernel_rfl, by kernel_rfl, by kernel_rfl, by kernel_rfl, by kernel_rfl, by kernel_rfl⟩
set_option maxRecDepth 100000 in
theorem round1_69 : Round1 69 := by unfold Round1; kernel_rfl
set_option maxRecDepth 100000 in
theorem ends_69 : Ends 69 := ⟨by kernel_rfl, by kernel_rfl, by kernel_rfl, by kernel_rfl, by kernel_rfl, by kernel_rfl, by kernel_rfl, by kernel_rfl⟩
set_option maxRecDepth 100000 in
theorem round1_70 : Round1 70 := by unfold Round1; kernel_rfl
set_option maxRecDepth 100000 in
theorem ends_70 : Ends 70 := ⟨by kernel_rfl, by kernel_rfl, by kernel_rfl, by kernel_rfl, by kernel_rfl, by kernel_rfl, by kernel_rfl, by kernel_rfl⟩
set_option maxRecDepth 100000 in
theorem round1_71 : Round1 71 := by unfold Round1; kernel_rfl
set_option maxRecDepth 100000 in
theorem ends_71 : Ends 71 := ⟨by kernel_rfl, by kernel_rfl, by kernel_rfl, by kernel_rfl, by kernel_rfl, by kernel_rfl, by kernel_rfl, by kernel_rfl⟩
set_option maxRecDepth 100000 in
theorem round1_72 : Round1 72 := by unfold Round1; kernel_rfl
set_option maxRecDepth 100000 in
theorem ends_72 : Ends 72 := ⟨by kernel_rfl, by kernel_rfl, by kernel_rfl, by kernel_rfl, by kernel_rfl, by kernel_rfl, by kernel_rfl, by kernel_rfl⟩
set_option maxRecDepth 100000 in
theorem round1_73 : Round1 73 := by unfold Round1; kernel_rfl
set_option maxRecDepth 100000 in
theorem ends_73 : Ends 73 := ⟨by kernel_rfl, by kernel_rfl, by kernel_rfl, by kernel_rfl, by kernel_rfl, by kernel_rfl, by kernel_rfl, by kernel_rfl⟩
set_option maxRecDepth 100000 in
theorem round1_74 : Round1 74 := by unfold Round1; kernel_rfl
set_option maxRecDepth 100000 in
theorem ends_74 : Ends 74 := ⟨by kernel_rfl, by kernel_rfl, by kernel_rfl, by kernel_rfl, by kernel_rfl, by kernel_rfl, by kernel_rfl, by kernel_rfl⟩
set_option maxRecDepth 100000 in
theorem round1_75 : Round1 75 := by unfold Round1; kernel_rfl
set_option maxRecDepth 100000 in
theorem ends_75 : Ends 75 := ⟨by kernel_rfl, by kernel_rfl, by kernel_rfl, by kernel_rfl, by kernel_rfl, by kernel_rfl, by kernel_rfl, by kernel_rfl⟩
set_option maxRecDepth 100000 in
theorem round1_76 : Round1 76 := by unfold Round1; kernel_rfl
set_option maxRecDepth 100000 in
theorem ends_76 : Ends 76 := ⟨by kernel_rfl, by kernel_rfl, by kernel_rfl, by kernel_rfl, by kernel_rfl, by kernel_rfl, by kernel_rfl, by kernel_rfl⟩
set_option maxRecDepth 100000 in
theorem round1_77 : Round1 77 := by unfold Round1; kernel_rfl
set_option maxRecDepth 100000 in
theorem ends_77 : Ends 77 := ⟨by kernel_rfl, by kernel_rfl, by kernel_rfl, by kernel_rfl, by kernel_rfl, by kernel_rfl, by kernel_rfl, by kernel_rfl⟩
set_option maxRecDepth 100000 in
theorem round1_78 : Round1 78 := by unfold Round1; kernel_rfl
set_option maxRecDepth 100000 in
theorem ends_78 : Ends 78 := ⟨by kernel_rfl, by kernel_rfl, by kernel_rfl, by kernel_rfl, by kernel_rfl, by kernel_rfl, by kernel_rfl, by kernel_rfl⟩
set_option maxRecDepth 100000 in
theorem round1_79 : Round1 79 := by unfold Round1; kernel_rfl
set_option maxRecDepth 100000 in
theorem ends_79 : Ends 79 := ⟨by kernel_rfl, by kernel_rfl, by kernel_rfl, by kernel_rfl, by kernel_rfl, by kernel_rfl, by kernel_rfl, by kernel_rfl⟩
set_option maxRecDepth 100000 in
theorem round1_80 : Round1 80 := by unfold Round1; kernel_rfl
set_option maxRecDepth 100000 in
theorem ends_80 : Ends 80 := ⟨by kernel_rfl, by kernel_rfl, by kernel_rfl, by kernel_rfl, by kernel_rfl, by kernel_rfl, by kernel_rfl, by kernel_rfl⟩
set_option maxRecDepth 100000 in
theorem round1_81 : Round1 81 := by unfold Round1; kernel_rfl
set_option maxRecDepth 100000 in
theorem ends_81 : Ends 81 := ⟨by kernel_rfl, by kernel_rfl, by kernel_rfl, by kernel_rfl, by kernel_rfl, by kernel_rfl, by kernel_rfl, by kernel_rfl⟩
set_option maxRecDepth 100000 in
theorem round1_82 : Round1 82 := by unfold Round1; kernel_rfl
set_option maxRecDepth 100000 in
theorem ends_82 : Ends 82 := ⟨by kernel_rfl, by kernel_rfl, by kernel_rfl, by kernel_rfl, by kernel_rfl, by kernel_rfl, by kernel_rfl, by kernel_rfl⟩
set_option maxRecDepth 100000 in
theorem round1_83 : Round1 83 := by unfold Round1; kernel_rfl
set_option maxRecDepth 100000 in
theorem ends_83 : Ends 83 := ⟨by kernel_rfl, by kernel_rfl, by kernel_rfl, by kernel_rfl, by kernel_rfl, by kernel_rfl, by kernel_rfl, by kernel_rfl⟩
set_option maxRecDepth 100000 in
theorem round1_84 : Round1 84 := by unfold Round1; kernel_rfl
set_option maxRecDepth 100000 in
theorem ends_84 : Ends 84 := ⟨by kernel_rfl, by kernel_rfl, by kernel_rfl, by kernel_rfl, by kernel_rfl, by kernel_rfl, by kernel_rfl, by kernel_rfl⟩
end Go.Proofs.YtojkkmoflcfglaaGreatDoor.RunQueueAlive
