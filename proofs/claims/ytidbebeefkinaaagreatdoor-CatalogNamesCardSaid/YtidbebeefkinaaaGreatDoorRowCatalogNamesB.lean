/- CatalogNames: the law answers true for every input. -/
import Derived.Test.YtidbebeefkinaaaGreatDoorCards
import Derived.Test.YtidbebeefkinaaaGreatDoorTie
import Derived.Test.YtidbebeefkinaaaGreatDoorGLaidCatalogNames
import Derived.Test.YtidbebeefkinaaaGreatDoorAmRunCatalogNames
import Derived.WalkKit
import Derived.ProofKit
import Derived.OpenShut
import Derived.ShutString
import Derived.Below
import Derived.SizedLaws
import Derived.Deep.DeepHandedRow
import Derived.Test.YtidbebeefkinaaaGreatDoorRowCatalogNamesA
import Derived.Test.YtidbebeefkinaaaGreatDoorRowCatalogNamesF
namespace Go.Proofs.YtidbebeefkinaaaGreatDoor.catalogNames
open Go.ChangeShapes Go.WideShapes Go.ChangeAt Go.RowKit Go.Proofs.YtidbebeefkinaaaGreatDoor.G
open Go.ChangeMaps (open_string shut_string)
set_option linter.unusedVariables false
theorem said : Rows.CatalogNamesSaid :=
  OpenClaim.holds_of_cond 6 Tryz.f6 rfl rfl rfl rfl rfl rfl rfl ⟨rfl, rfl, rfl, rfl, rfl⟩ rfl rfl rfl rfl rfl (by kernel_rfl) Tryz.func6 facts
    (of_decide_eq_true (by kernel_rfl)) (by unfold Func.isWrapper; first | (rw [if_pos (by decide +kernel)]; kernel_rfl) | (rw [if_neg (by decide +kernel)]; exact ⟨rfl, rfl⟩))
    (fun os started H enc _ F => by rw [OpenClaim.pre_eq_preRow]; exact lifted os started H enc F)
end Go.Proofs.YtidbebeefkinaaaGreatDoor.catalogNames
