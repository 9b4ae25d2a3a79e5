/- CatalogNames: the law answers true for every input. -/
import Derived.Test.YtidbebeefkinaaaGreatDoorCards
import Derived.Test.YtidbebeefkinaaaGreatDoorTie
import Derived.Test.YtidbebeefkinaaaGreatDoorGLaidCatalogNames
import Derived.Test.YtidbebeefkinaaaGreatDoorAmRunCatalogNames
import Derived.WalkKit
import Derived.ProofKit
import Derived.OpenShut
import Derived.ShutString
import Derived.Below
import Derived.SizedLaws
import Derived.Deep.DeepHandedRow
import Derived.Test.YtidbebeefkinaaaGreatDoorRowCatalogNamesB
namespace Go.Proofs.YtidbebeefkinaaaGreatDoor.catalogNames
open Go.ChangeShapes Go.WideShapes Go.ChangeAt Go.RowKit Go.Proofs.YtidbebeefkinaaaGreatDoor.G
open Go.ChangeMaps (open_string shut_string)
set_option linter.unusedVariables false
/-- No parameter wants a stand-in; the program's own looks are on: what the card asks. -/
theorem plain (f : FuncId) (fn : Func) (hf : Tryz.pinned.checked.prog.funcNamed "muster/musterlaw10.CatalogNames" = some f) (hfn : Tryz.pinned.checked.prog.funcs[f]? = some fn) :
    true = Tryz.pinned.checked.prog.looks [] ∧ ∀ (j : Nat) t, fn.params[j]? = some t → Tryz.pinned.checked.prog.wantsStandIn t = false := by
  obtain rfl : f = 6 := Option.some.inj ((show Tryz.prog.funcNamed "muster/musterlaw10.CatalogNames" = some 6 by kernel_rfl).symm.trans hf) |>.symm
  obtain rfl : fn = Tryz.f6 := (Option.some.inj (Tryz.func6.symm.trans hfn)).symm
  refine ⟨by kernel_rfl, fun j t ht => ?_⟩
  rw [Tryz.params6] at ht
  simp at ht
theorem card : Rows.CatalogNamesCardSaid :=
  Claim7.holds_tied_plain_at .later [] _ _ _ _ said (fun _ h => by cases h) (by kernel_rfl) (fun _ h => by cases h) catalogNames_row_tie rfl ⟨rfl, rfl⟩ (by kernel_rfl) rfl plain (by kernel_rfl)
end Go.Proofs.YtidbebeefkinaaaGreatDoor.catalogNames
namespace Go.Proofs.YtidbebeefkinaaaGreatDoor
/-- The statement, under a short name, for the claim. -/
theorem catalogNames_holds : Rows.CatalogNamesCardSaid := catalogNames.card
end Go.Proofs.YtidbebeefkinaaaGreatDoor
