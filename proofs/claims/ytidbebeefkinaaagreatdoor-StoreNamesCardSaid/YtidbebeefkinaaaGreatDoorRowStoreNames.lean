/- StoreNames: the law answers true for every input. -/
import Derived.Test.YtidbebeefkinaaaGreatDoorCards
import Derived.Test.YtidbebeefkinaaaGreatDoorTie
import Derived.Test.YtidbebeefkinaaaGreatDoorGLaidStoreNames
import Derived.Test.YtidbebeefkinaaaGreatDoorAmRunStoreNames
import Derived.WalkKit
import Derived.ProofKit
import Derived.OpenShut
import Derived.ShutString
import Derived.Below
import Derived.SizedLaws
import Derived.Deep.DeepHandedRow
import Derived.Test.YtidbebeefkinaaaGreatDoorRowStoreNamesB
namespace Go.Proofs.YtidbebeefkinaaaGreatDoor.storeNames
open Go.ChangeShapes Go.WideShapes Go.ChangeAt Go.RowKit Go.Proofs.YtidbebeefkinaaaGreatDoor.G
open Go.ChangeMaps (open_string shut_string)
set_option linter.unusedVariables false
/-- No parameter wants a stand-in; the program's own looks are on: what the card asks. -/
theorem plain (f : FuncId) (fn : Func) (hf : Tryz.pinned.checked.prog.funcNamed "muster/musterlaw08.StoreNames" = some f) (hfn : Tryz.pinned.checked.prog.funcs[f]? = some fn) :
    true = Tryz.pinned.checked.prog.looks [] ∧ ∀ (j : Nat) t, fn.params[j]? = some t → Tryz.pinned.checked.prog.wantsStandIn t = false := by
  obtain rfl : f = 5 := Option.some.inj ((show Tryz.prog.funcNamed "muster/musterlaw08.StoreNames" = some 5 by kernel_rfl).symm.trans hf) |>.symm
  obtain rfl : fn = Tryz.f5 := (Option.some.inj (Tryz.func5.symm.trans hfn)).symm
  refine ⟨by kernel_rfl, fun j t ht => ?_⟩
  rw [Tryz.params5] at ht
  simp at ht
theorem card : Rows.StoreNamesCardSaid :=
  Claim7.holds_tied_plain_at .later [] _ _ _ _ said (fun _ h => by cases h) (by kernel_rfl) (fun _ h => by cases h) storeNames_row_tie rfl ⟨rfl, rfl⟩ (by kernel_rfl) rfl plain (by kernel_rfl)
end Go.Proofs.YtidbebeefkinaaaGreatDoor.storeNames
namespace Go.Proofs.YtidbebeefkinaaaGreatDoor
/-- The statement, under a short name, for the claim. -/
theorem storeNames_holds : Rows.StoreNamesCardSaid := storeNames.card
end Go.Proofs.YtidbebeefkinaaaGreatDoor
