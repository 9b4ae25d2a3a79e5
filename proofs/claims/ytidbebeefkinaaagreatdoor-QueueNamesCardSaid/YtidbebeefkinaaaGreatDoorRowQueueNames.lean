/- QueueNames: the law answers true for every input. -/
import Derived.Test.YtidbebeefkinaaaGreatDoorCards
import Derived.Test.YtidbebeefkinaaaGreatDoorTie
import Derived.Test.YtidbebeefkinaaaGreatDoorGLaidQueueNames
import Derived.Test.YtidbebeefkinaaaGreatDoorAmRunQueueNames
import Derived.WalkKit
import Derived.ProofKit
import Derived.OpenShut
import Derived.ShutString
import Derived.Below
import Derived.SizedLaws
import Derived.Deep.DeepHandedRow
import Derived.Test.YtidbebeefkinaaaGreatDoorRowQueueNamesB
namespace Go.Proofs.YtidbebeefkinaaaGreatDoor.queueNames
open Go.ChangeShapes Go.WideShapes Go.ChangeAt Go.RowKit Go.Proofs.YtidbebeefkinaaaGreatDoor.G
open Go.ChangeMaps (open_string shut_string)
set_option linter.unusedVariables false
/-- No parameter wants a stand-in; the program's own looks are on: what the card asks. -/
theorem plain (f : FuncId) (fn : Func) (hf : Tryz.pinned.checked.prog.funcNamed "muster/musterlaw12.QueueNames" = some f) (hfn : Tryz.pinned.checked.prog.funcs[f]? = some fn) :
    true = Tryz.pinned.checked.prog.looks [] ∧ ∀ (j : Nat) t, fn.params[j]? = some t → Tryz.pinned.checked.prog.wantsStandIn t = false := by
  obtain rfl : f = 7 := Option.some.inj ((show Tryz.prog.funcNamed "muster/musterlaw12.QueueNames" = some 7 by kernel_rfl).symm.trans hf) |>.symm
  obtain rfl : fn = Tryz.f7 := (Option.some.inj (Tryz.func7.symm.trans hfn)).symm
  refine ⟨by kernel_rfl, fun j t ht => ?_⟩
  rw [Tryz.params7] at ht
  simp at ht
theorem card : Rows.QueueNamesCardSaid :=
  Claim7.holds_tied_plain_at .later [] _ _ _ _ said (fun _ h => by cases h) (by kernel_rfl) (fun _ h => by cases h) queueNames_row_tie rfl ⟨rfl, rfl⟩ (by kernel_rfl) rfl plain (by kernel_rfl)
end Go.Proofs.YtidbebeefkinaaaGreatDoor.queueNames
namespace Go.Proofs.YtidbebeefkinaaaGreatDoor
/-- The statement, under a short name, for the claim. -/
theorem queueNames_holds : Rows.QueueNamesCardSaid := queueNames.card
end Go.Proofs.YtidbebeefkinaaaGreatDoor
