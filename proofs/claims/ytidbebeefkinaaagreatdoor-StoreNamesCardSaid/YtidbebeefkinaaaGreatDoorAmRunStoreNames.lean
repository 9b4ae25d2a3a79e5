/- musterlaw08.StoreNames: the stages joined. -/
import Derived.Test.YtidbebeefkinaaaGreatDoorAmRunStoreNames0
import Derived.Test.YtidbebeefkinaaaGreatDoorAmRunStoreNames1
import Derived.KernelRfl
namespace Go.Proofs.YtidbebeefkinaaaGreatDoor.RunStoreNames
open Go.RowKit
theorem goes0 : AM.Goes cfg items0 s0 .ret s1 := AM.stage Tryz.checked.mixed (AM.named_ok named) ran1
theorem calls_of (w : World) (R : Facts w) : Calls Tryz.prog 5 #[] w fun e w' => e = .returned (.bool true) ∧ Below w.heap.size w w' :=
  AM.goes_calls (C := cfg) Tryz.checked.mixed externs named Tryz.func5 (c := body) (by kernel_rfl) goes0 (by kernel_rfl) w R (fun w' hb _ => AM.move_rel R hb)
theorem calls (w : World) (h : laidMetH Tryz.prog Rows.storeNamesRow.laid w) (hsh : w.ShapedOpen Tryz.prog) : Calls Tryz.prog 5 #[] w fun e w' => e = .returned (.bool true) ∧ Below w.heap.size w w' := calls_of w (rel h hsh)
end Go.Proofs.YtidbebeefkinaaaGreatDoor.RunStoreNames
