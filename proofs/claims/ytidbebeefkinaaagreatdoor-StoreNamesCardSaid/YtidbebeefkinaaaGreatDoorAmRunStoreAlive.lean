/- musterlaw08.storeAlive: the stages joined. -/
import Derived.Test.YtidbebeefkinaaaGreatDoorAmRunStoreAlive0
import Derived.Test.YtidbebeefkinaaaGreatDoorAmRunStoreAlive1
import Derived.Test.YtidbebeefkinaaaGreatDoorAmRunStoreAlive2
import Derived.Test.YtidbebeefkinaaaGreatDoorAmRunStoreAlive3
import Derived.Test.YtidbebeefkinaaaGreatDoorAmRunStoreAlive4
import Derived.Test.YtidbebeefkinaaaGreatDoorAmRunStoreAlive5
import Derived.KernelRfl
namespace Go.Proofs.YtidbebeefkinaaaGreatDoor.RunStoreAlive
open Go.RowKit
theorem goes4 : AM.Goes cfg items4 s4 .ret s5 := AM.stage Tryz.checked.mixed (AM.named_ok named) ran5
theorem goes3 : AM.Goes cfg items3 s3 .ret s5 := AM.goes_split (k := 4) (AM.stage Tryz.checked.mixed (AM.named_ok named) ran4) goes4
theorem goes2 : AM.Goes cfg items2 s2 .ret s5 := AM.goes_split (k := 3) (AM.stage Tryz.checked.mixed (AM.named_ok named) ran3) goes3
theorem goes1 : AM.Goes cfg items1 s1 .ret s5 := AM.goes_split (k := 3) (AM.stage Tryz.checked.mixed (AM.named_ok named) ran2) goes2
theorem goes0 : AM.Goes cfg items0 s0 .ret s5 := AM.goes_split (k := 2) (AM.stage Tryz.checked.mixed (AM.named_ok named) ran1) goes1
theorem calls_of (w : World) (R : Facts w) : Calls Tryz.prog 22 #[] w fun e w' => e = .returned (.bool true) ∧ Below w.heap.size w w' :=
  AM.goes_calls (C := cfg) Tryz.checked.mixed externs named Tryz.func22 (c := body) (by kernel_rfl) goes0 (by kernel_rfl) w R (fun w' hb _ => AM.move_rel R hb)
theorem calls (w : World) (h : laidMetH Tryz.prog Rows.storeNamesRow.laid w) (hsh : w.ShapedOpen Tryz.prog) : Calls Tryz.prog 22 #[] w fun e w' => e = .returned (.bool true) ∧ Below w.heap.size w w' := calls_of w (rel h hsh)
end Go.Proofs.YtidbebeefkinaaaGreatDoor.RunStoreAlive
