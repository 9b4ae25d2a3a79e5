/- A world for the witness: the listed variables are laid. -/
import Derived.Test.YtejnegabdjpipaaGreatDoorRows
import Derived.Test.YtejnegabdjpipaaGreatDoorChecked
import Derived.ProofKit
import Derived.LaidSub
import Derived.Lib.LaidTab
import Derived.Deep.DeepHandedRow
import Derived.Deep.DeepWitnessRowRef
namespace Go.Proofs.YtejnegabdjpipaaGreatDoor.G
open Go.ChangeShapes Go.WideShapes Go.ChangeAt Go.RowKit

theorem own : ownKnob Tryz.prog.godebug = none := by kernel_rfl
theorem laidOut : laidOutB Tryz.prog = true := by kernel_rfl
/-- Plain data as cells. -/
def litVals : DataW Unit → List Value
  | .lit (.int k n) => [.int k n]
  | .lit (.bool b) => [.bool b]
  | .lit (.string l) => [.string ⟨l.toArray⟩]
  | .agg ps => litAll ps
  | _ => []
where litAll : List (DataW Unit) → List Value
  | [] => []
  | d :: r => litVals d ++ litAll r
/-- The settled world with the listed variables laid. -/
noncomputable def laidWorld (os : Os) : World :=
  let w0 := World.settled Tryz.prog os
  let put (h : Array Obj) (g : Nat) (cs : Array Value) : Array Obj := h.modify g fun
    | .cells _ t frozen => .cells cs t frozen
    | o => o
  { w0 with heap := put (put (put (w0.heap) 2 (litVals Rows.laid_unicode_utf8_acceptRanges).toArray) 0 (litVals Rows.laid_muster_schema_kinds).toArray) 1 (litVals Rows.laid_unicode_utf8_first).toArray }
set_option maxRecDepth 100000 in
theorem laid_met (os : Os) (args : Array Value) : laidMet Tryz.prog Rows.storeUniqueRow.laid ((laidWorld os).forCall (fun _ _ => 0) ⟨#[], args, []⟩).memory :=
  laidMet_of_run' 10 (by kernel_rfl) (by kernel_rfl)
end Go.Proofs.YtejnegabdjpipaaGreatDoor.G
