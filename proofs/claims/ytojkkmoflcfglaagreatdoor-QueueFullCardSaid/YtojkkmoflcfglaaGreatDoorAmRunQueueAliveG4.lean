/- QueueFull: some of its rounds. -/
import Derived.Test.YtojkkmoflcfglaaGreatDoorAmRunQueueAliveF
import Derived.KernelRfl
namespace Go.Proofs.YtojkkmoflcfglaaGreatDoor.RunQueueAlive
open Go.RowKit
set_option maxRecDepth 100000 in
theorem round1_51 : Round1 51 := by unfold Round1; kernel_rfl
set_option maxRecDepth 100000 in
theorem ends_51 : Ends 51 := ⟨by kernel_rfl, by kernel_rfl, by kernel_rfl, by kernel_rfl, by kernel_rfl, by kernel_rfl, by kernel_rfl, by kernel_rfl⟩
set_option maxRecDepth 100000 in
theorem round1_52 : Round1 52 := by unfold Round1; kernel_rfl
set_option maxRecDepth 100000 in
theorem ends_52 : Ends 52 := ⟨by kernel_rfl, by kernel_rfl, by kernel_rfl, by kernel_rfl, by kernel_rfl, by kernel_rfl, by kernel_rfl, by kernel_rfl⟩
set_option maxRecDepth 100000 in
theorem round1_53 : Round1 53 := by unfold Round1; kernel_rfl
set_option maxRecDepth 100000 in
theorem ends_53 : Ends 53 := ⟨by kernel_rfl, by kernel_rfl, by kernel_rfl, by kernel_rfl, by kernel_rfl, by kernel_rfl, by kernel_rfl, by kernel_rfl⟩
set_option maxRecDepth 100000 in
theorem round1_54 : Round1 54 := by unfold Round1; kernel_rfl
set_option maxRecDepth 100000 in
theorem ends_54 : Ends 54 := ⟨by kernel_rfl, by kernel_rfl, by kernel_rfl, by kernel_rfl, by kernel_rfl, by kernel_rfl, by kernel_rfl, by kernel_rfl⟩
set_option maxRecDepth 100000 in
theorem round1_55 : Round1 55 := by unfold Round1; kernel_rfl
set_option maxRecDepth 100000 in
theorem ends_55 : Ends 55 := ⟨by kernel_rfl, by kernel_rfl, by kernel_rfl, by kernel_rfl, by kernel_rfl, by kernel_rfl, by kernel_rfl, by kernel_rfl⟩
set_option maxRecDepth 100000 in
theorem round1_56 : Round1 56 := by unfold Round1; kernel_rfl
set_option maxRecDepth 100000 in
theorem ends_56 : Ends 56 := ⟨by kernel_rfl, by kernel_rfl, by kernel_rfl, by kernel_rfl, by kernel_rfl, by kernel_rfl, by kernel_rfl, by kernel_rfl⟩
set_option maxRecDepth 100000 in
theorem round1_57 : Round1 57 := by unfold Round1; kernel_rfl
set_option maxRecDepth 100000 in
theorem ends_57 : Ends 57 := ⟨by kernel_rfl, by kernel_rfl, by kernel_rfl, by kernel_rfl, by kernel_rfl, by kernel_rfl, by kernel_rfl, by kernel_rfl⟩
set_option maxRecDepth 100000 in
theorem round1_58 : Round1 58 := by unfold Round1; kernel_rfl
set_option maxRecDepth 100000 in
theorem ends_58 : Ends 58 := ⟨by kernel_rfl, by kernel_rfl, by kernel_rfl, by kernel_rfl, by kernel_rfl, by kernel_rfl, by kernel_rfl, by kernel_rfl⟩
set_option maxRecDepth 100000 in
theorem round1_59 : Round1 59 := by unfold Round1; kernel_rfl
set_option maxRecDepth 100000 in
theorem ends_59 : Ends 59 := ⟨by kernel_rfl, by kernel_rfl, by kernel_rfl, by kernel_rfl, by kernel_rfl, by kernel_rfl, by kernel_rfl, by kernel_rfl⟩
set_option maxRecDepth 100000 in
theorem round1_60 : Round1 60 := by unfold Round1; kernel_rfl
set_option maxRecDepth 100000 in
theorem ends_60 : Ends 60 := ⟨by kernel_rfl, by kernel_rfl, by kernel_rfl, by kernel_rfl, by kernel_rfl, by kernel_rfl, by kernel_rfl, by kernel_rfl⟩
set_option maxRecDepth 100000 in
theorem round1_61 : Round1 61 := by unfold Round1; kernel_rfl
set_option maxRecDepth 100000 in
theorem ends_61 : Ends 61 := ⟨by kernel_rfl, by kernel_rfl, by kernel_rfl, by kernel_rfl, by kernel_rfl, by kernel_rfl, by kernel_rfl, by kernel_rfl⟩
set_option maxRecDepth 100000 in
theorem round1_62 : Round1 62 := by unfold Round1; kernel_rfl
set_option maxRecDepth 100000 in
theorem ends_62 : Ends 62 := ⟨by kernel_rfl, by kernel_rfl, by kernel_rfl, by kernel_rfl, by kernel_rfl, by kernel_rfl, by kernel_rfl, by kernel_rfl⟩
set_option maxRecDepth 100000 in
theorem round1_63 : Round1 63 := by unfold Round1; kernel_rfl
set_option maxRecDepth 100000 in
theorem ends_63 : Ends 63 := ⟨by kernel_rfl, by kernel_rfl, by kernel_rfl, by kernel_rfl, by kernel_rfl, by kernel_rfl, by kernel_rfl, by kernel_rfl⟩
set_option maxRecDepth 100000 in
theorem round1_64 : Round1 64 := by unfold Round1; kernel_rfl
set_option maxRecDepth 100000 in
theorem ends_64 : Ends 64 := ⟨by kernel_rfl, by kernel_rfl, by kernel_rfl, by kernel_rfl, by kernel_rfl, by kernel_rfl, by kernel_rfl, by kernel_rfl⟩
set_option maxRecDepth 100000 in
theorem round1_65 : Round1 65 := by unfold Round1; kernel_rfl
set_option maxRecDepth 100000 in
theorem ends_65 : Ends 65 := ⟨by kernel_rfl, by kernel_rfl, by kernel_rfl, by kernel_rfl, by kernel_rfl, by kernel_rfl, by kernel_rfl, by kernel_rfl⟩
set_option maxRecDepth 100000 in
theorem round1_66 : Round1 66 := by unfold Round1; kernel_rfl
set_option maxRecDepth 100000 in
theorem ends_66 : Ends 66 := ⟨by kernel_rfl, by kernel_rfl, by kernel_rfl, by kernel_rfl, by kernel_rfl, by kernel_rfl, by kernel_rfl, by kernel_rfl⟩
set_option maxRecDepth 100000 in
theorem round1_67 : Round1 67 := by unfold Round1; kernel_rfl
set_option maxRecDepth 100000 in
theorem ends_67 : Ends 67 := ⟨by kernel_rfl, by kernel_rfl, by kernel_rfl, by kernel_rfl, by kernel_rfl, by kernel_rfl, by kernel_rfl, by kernel_rfl⟩
end Go.Proofs.YtojkkmoflcfglaaGreatDoor.RunQueueAlive
