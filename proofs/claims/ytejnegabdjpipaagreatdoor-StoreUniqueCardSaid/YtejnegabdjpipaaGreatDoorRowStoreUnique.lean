/- StoreUnique: the law answers true for every input. -/
import Derived.Test.YtejnegabdjpipaaGreatDoorCards
import Derived.Test.YtejnegabdjpipaaGreatDoorTie
import Derived.Test.YtejnegabdjpipaaGreatDoorGLaidStoreUnique
import Derived.Test.YtejnegabdjpipaaGreatDoorAmRunStoreUniqueH
import Derived.WalkKit
import Derived.ProofKit
import Derived.OpenShut
import Derived.ShutString
import Derived.Below
import Derived.SizedLaws
import Derived.Deep.DeepHandedRow
import Derived.Test.YtejnegabdjpipaaGreatDoorRowStoreUniqueB
namespace Go.Proofs.YtejnegabdjpipaaGreatDoor.storeUnique
open Go.ChangeShapes Go.WideShapes Go.ChangeAt Go.RowKit Go.Proofs.YtejnegabdjpipaaGreatDoor.G
open Go.ChangeMaps (open_string shut_string)
set_option linter.unusedVariables false
/-- No parameter wants a stand-in; the program's own looks are on: what the card asks. -/
theorem plain (f : FuncId) (fn : Func) (hf : Tryz.pinned.checked.prog.funcNamed "muster/musterlaw08.StoreUnique" = some f) (hfn : Tryz.pinned.checked.prog.funcs[f]? = some fn) :
    true = Tryz.pinned.checked.prog.looks [] ∧ ∀ (j : Nat) t, fn.params[j]? = some t → Tryz.pinned.checked.prog.wantsStandIn t = false := by
  obtain rfl : f = 3 := Option.some.inj ((show Tryz.prog.funcNamed "muster/musterlaw08.StoreUnique" = some 3 by kernel_rfl).symm.trans hf) |>.symm
  obtain rfl : fn = Tryz.f3 := (Option.some.inj (Tryz.func3.symm.trans hfn)).symm
  refine ⟨by kernel_rfl, fun j t ht => ?_⟩
  rw [Tryz.params3] at ht
  have hm : t ∈ #[9, 9, 22] := Array.mem_of_getElem? ht
  have hall : (#[9, 9, 22] : Array TypeId).all (fun t => Tryz.prog.wantsStandIn t == false) = true := by kernel_rfl
  have := Array.all_eq_true_iff_forall_mem.1 hall t hm
  exact beq_iff_eq.1 this
theorem card : Rows.StoreUniqueCardSaid :=
  Claim7.holds_tied_plain_at .later [] _ _ _ _ said (fun _ h => by cases h) (by kernel_rfl) (fun _ h => by cases h) storeUnique_row_tie rfl ⟨rfl, rfl⟩ (by kernel_rfl) rfl plain (by kernel_rfl)
end Go.Proofs.YtejnegabdjpipaaGreatDoor.storeUnique
namespace Go.Proofs.YtejnegabdjpipaaGreatDoor
/-- The statement, under a short name, for the claim. -/
theorem storeUnique_holds : Rows.StoreUniqueCardSaid := storeUnique.card
end Go.Proofs.YtejnegabdjpipaaGreatDoor
