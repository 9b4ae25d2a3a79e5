/- A world for the witness: the listed variables are laid. -/
import Derived.Test.YtojkkmoflcfglaaGreatDoorRows
import Derived.Test.YtojkkmoflcfglaaGreatDoorChecked
import Derived.ProofKit
import Derived.LaidSub
import Derived.Lib.LaidTab
import Derived.Deep.DeepHandedRow
import Derived.Deep.DeepWitnessRowRef
namespace Go.Proofs.YtojkkmoflcfglaaGreatDoor.G
open Go.ChangeShapes Go.WideShapes Go.ChangeAt Go.RowKit

theorem own : ownKnob Tryz.prog.godebug = none := by kernel_rfl
theorem laidOut : laidOutB Tryz.prog = true := by kernel_rfl
/-- Plain data as cells. -/
def litVals : DataW Unit → List Value
  | .lit (.int k n) => [.int k n]
  | .lit (.bool b) => [.bool b]
  | .lit (.string l) => [.string ⟨l.toArray⟩]
  | .agg ps => litAll ps
  | _ => []
where litAll : List (DataW Unit) → List Value
  | [] => []
  | d :: r => litVals d ++ litAll r
/-- The settled world with the listed variables laid. -/
noncomputable def laidWorld (os : Os) : World :=
  let N := (World.settled Tryz.prog os).heap.size
  let w0 := World.holding Tryz.prog os ⟨#[.cells #[.string ⟨#[118, 97, 108, 117, 101, 32, 111, 117, 116, 32, 111, 102, 32, 114, 97, 110, 103, 101]⟩] 440, .cells #[.string ⟨#[105, 110, 118, 97, 108, 105, 100, 32, 115, 121, 110, 116, 97, 120]⟩] 440, .cells #[.string ⟨#[102, 117, 108, 108]⟩] 440, .cells #[.string ⟨#[99, 108, 111, 115, 101, 100]⟩] 440], #[], []⟩
  let put (h : Array Obj) (g : Nat) (cs : Array Value) : Array Obj := h.modify g fun
    | .cells _ t frozen => .cells cs t frozen
    | o => o
  { w0 with heap := put (put (put (put (put (put (put (put (put (put (w0.heap) 9 (litVals Rows.laid_math_bits_deBruijn32tab).toArray) 10 (litVals Rows.laid_math_bits_deBruijn64tab).toArray) 8 (litVals Rows.laid_internal_strconv_uint64pow10).toArray) 5 (litVals Rows.laid_unicode_utf8_acceptRanges).toArray) 7 #[.iface 438 (.pointer (some ⟨N + 0, 0, none⟩))]) 6 #[.iface 438 (.pointer (some ⟨N + 1, 0, none⟩))]) 0 #[.iface 438 (.pointer (some ⟨N + 2, 0, none⟩))]) 1 #[.iface 438 (.pointer (some ⟨N + 3, 0, none⟩))]) 2 (litVals Rows.laid_muster_schema_kinds).toArray) 4 (litVals Rows.laid_unicode_utf8_first).toArray }
set_option maxRecDepth 100000 in
theorem laid_met (os : Os) (args : Array Value) : laidMet Tryz.prog Rows.queueFullRow.laid ((laidWorld os).forCall (fun _ _ => 0) ⟨#[], args, []⟩).memory :=
  laidMet_of_run' 10 (by kernel_rfl) (by kernel_rfl)
end Go.Proofs.YtojkkmoflcfglaaGreatDoor.G
