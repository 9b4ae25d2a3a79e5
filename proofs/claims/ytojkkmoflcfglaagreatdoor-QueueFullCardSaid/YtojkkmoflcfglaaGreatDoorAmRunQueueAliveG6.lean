/- QueueFull: some of its rounds. -/
import Derived.Test.YtojkkmoflcfglaaGreatDoorAmRunQueueAliveF
import Derived.KernelRfl
namespace Go.Proofs.YtojkkmoflcfglaaGreatDoor.RunQueueAlive
open Go.RowKit
set_option maxRecDepth 100000 in
theorem round1_85 : Round1 85 := by unfold Round1; kernel_rfl
set_option maxRecDepth 100000 in
theorem ends_85 : Ends 85 := ⟨by kernel_rfl, by kernel_rfl, by kernel_rfl, by kernel_rfl, by kernel_rfl, by kernel_rfl, by kernel_rfl, by kernel_rfl⟩
set_option maxRecDepth 100000 in
theorem round1_86 : Round1 86 := by unfold Round1; kernel_rfl
set_option maxRecDepth 100000 in
theorem ends_86 : Ends 86 := ⟨by kernel_rfl, by kernel_rfl, by kernel_rfl, by kernel_rfl, by kernel_rfl, by kernel_rfl, by kernel_rfl, by kernel_rfl⟩
set_option maxRecDepth 100000 in
theorem round1_87 : Round1 87 := by unfold Round1; kernel_rfl
set_option maxRecDepth 100000 in
theorem ends_87 : Ends 87 := ⟨by kernel_rfl, by kernel_rfl, by kernel_rfl, by kernel_rfl, by kernel_rfl, by kernel_rfl, by kernel_rfl, by kernel_rfl⟩
set_option maxRecDepth 100000 in
theorem round1_88 : Round1 88 := by unfold Round1; kernel_rfl
set_option maxRecDepth 100000 in
theorem ends_88 : Ends 88 := ⟨by kernel_rfl, by kernel_rfl, by kernel_rfl, by kernel_rfl, by kernel_rfl, by kernel_rfl, by kernel_rfl, by kernel_rfl⟩
set_option maxRecDepth 100000 in
theorem round1_89 : Round1 89 := by unfold Round1; kernel_rfl
set_option maxRecDepth 100000 in
theorem ends_89 : Ends 89 := ⟨by kernel_rfl, by kernel_rfl, by kernel_rfl, by kernel_rfl, by kernel_rfl, by kernel_rfl, by kernel_rfl, by kernel_rfl⟩
set_option maxRecDepth 100000 in
theorem round1_90 : Round1 90 := by unfold Round1; kernel_rfl
set_option maxRecDepth 100000 in
theorem ends_90 : Ends 90 := ⟨by kernel_rfl, by kernel_rfl, by kernel_rfl, by kernel_rfl, by kernel_rfl, by kernel_rfl, by kernel_rfl, by kernel_rfl⟩
set_option maxRecDepth 100000 in
theorem round1_91 : Round1 91 := by unfold Round1; kernel_rfl
set_option maxRecDepth 100000 in
theorem ends_91 : Ends 91 := ⟨by kernel_rfl, by kernel_rfl, by kernel_rfl, by kernel_rfl, by kernel_rfl, by kernel_rfl, by kernel_rfl, by kernel_rfl⟩
set_option maxRecDepth 100000 in
theorem round1_92 : Round1 92 := by unfold Round1; kernel_rfl
set_option maxRecDepth 100000 in
theorem ends_92 : Ends 92 := ⟨by kernel_rfl, by kernel_rfl, by kernel_rfl, by kernel_rfl, by kernel_rfl, by kernel_rfl, by kernel_rfl, by kernel_rfl⟩
set_option maxRecDepth 100000 in
theorem round1_93 : Round1 93 := by unfold Round1; kernel_rfl
set_option maxRecDepth 100000 in
theorem ends_93 : Ends 93 := ⟨by kernel_rfl, by kernel_rfl, by kernel_rfl, by kernel_rfl, by kernel_rfl, by kernel_rfl, by kernel_rfl, by kernel_rfl⟩
set_option maxRecDepth 100000 in
theorem round1_94 : Round1 94 := by unfold Round1; kernel_rfl
set_option maxRecDepth 100000 in
theorem ends_94 : Ends 94 := ⟨by kernel_rfl, by kernel_rfl, by kernel_rfl, by kernel_rfl, by kernel_rfl, by kernel_rfl, by kernel_rfl, by kernel_rfl⟩
set_option maxRecDepth 100000 in
theorem round1_95 : Round1 95 := by unfold Round1; kernel_rfl
set_option maxRecDepth 100000 in
theorem ends_95 : Ends 95 := ⟨by kernel_rfl, by kernel_rfl, by kernel_rfl, by kernel_rfl, by kernel_rfl, by kernel_rfl, by kernel_rfl, by kernel_rfl⟩
set_option maxRecDepth 100000 in
theorem round1_96 : Round1 96 := by unfold Round1; kernel_rfl
set_option maxRecDepth 100000 in
theorem ends_96 : Ends 96 := ⟨by kernel_rfl, by kernel_rfl, by kernel_rfl, by kernel_rfl, by kernel_rfl, by kernel_rfl, by kernel_rfl, by kernel_rfl⟩
set_option maxRecDepth 100000 in
theorem round1_97 : Round1 97 := by unfold Round1; kernel_rfl
set_option maxRecDepth 100000 in
theorem ends_97 : Ends 97 := ⟨by kernel_rfl, by kernel_rfl, by kernel_rfl, by kernel_rfl, by kernel_rfl, by kernel_rfl, by kernel_rfl, by kernel_rfl⟩
set_option maxRecDepth 100000 in
theorem round1_98 : Round1 98 := by unfold Round1; kernel_rfl
set_option maxRecDepth 100000 in
theorem ends_98 : Ends 98 := ⟨by kernel_rfl, by kernel_rfl, by kernel_rfl, by kernel_rfl, by kernel_rfl, by kernel_rfl, by kernel_rfl, by kernel_rfl⟩
set_option maxRecDepth 100000 in
theorem round1_99 : Round1 99 := by unfold Round1; kernel_rfl
set_option maxRecDepth 100000 in
theorem ends_99 : Ends 99 := ⟨by kernel_rfl, by kernel_rfl, by kernel_rfl, by kernel_rfl, by kernel_rfl, by kernel_rfl, by kernel_rfl, by kernel_rfl⟩
set_option maxRecDepth 100000 in
theorem ends_100 : Ends 100 := ⟨by kernel_rfl, by kernel_rfl, by kernel_rfl, by kernel_rfl, by kernel_rfl, by kernel_rfl, by kernel_rfl, by kernel_rfl⟩
end Go.Proofs.YtojkkmoflcfglaaGreatDoor.RunQueueAlive
