/- StoreUnique: the law answers true for every input. -/
import Derived.Test.YtejnegabdjpipaaGreatDoorCards
import Derived.Test.YtejnegabdjpipaaGreatDoorTie
import Derived.Test.YtejnegabdjpipaaGreatDoorGLaidStoreUnique
import Derived.Test.YtejnegabdjpipaaGreatDoorAmRunStoreUniqueH
import Derived.WalkKit
import Derived.ProofKit
import Derived.OpenShut
import Derived.ShutString
import Derived.Below
import Derived.SizedLaws
import Derived.Deep.DeepHandedRow
import Derived.Test.YtejnegabdjpipaaGreatDoorRowStoreUniqueA
import Derived.Test.YtejnegabdjpipaaGreatDoorRowStoreUniqueF
namespace Go.Proofs.YtejnegabdjpipaaGreatDoor.storeUnique
open Go.ChangeShapes Go.WideShapes Go.ChangeAt Go.RowKit Go.Proofs.YtejnegabdjpipaaGreatDoor.G
open Go.ChangeMaps (open_string shut_string)
set_option linter.unusedVariables false
theorem said : Rows.StoreUniqueSaid :=
  OpenClaim.holds_of_cond 3 Tryz.f3 rfl rfl rfl rfl rfl rfl rfl ⟨rfl, rfl, rfl, rfl, rfl⟩ rfl rfl rfl rfl rfl (by kernel_rfl) Tryz.func3 facts
    (of_decide_eq_true (by kernel_rfl)) (by unfold Func.isWrapper; first | (rw [if_pos (by decide +kernel)]; kernel_rfl) | (rw [if_neg (by decide +kernel)]; exact ⟨rfl, rfl⟩))
    (fun os started H enc _ F => by rw [OpenClaim.pre_eq_preRow]; exact lifted os started H enc F)
end Go.Proofs.YtejnegabdjpipaaGreatDoor.storeUnique
