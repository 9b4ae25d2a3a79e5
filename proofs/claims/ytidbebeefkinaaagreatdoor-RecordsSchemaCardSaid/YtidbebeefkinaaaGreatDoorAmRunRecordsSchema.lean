/- musterlaw09.RecordsSchema: the stages joined. -/
import Derived.Test.YtidbebeefkinaaaGreatDoorAmRunRecordsSchema0
import Derived.Test.YtidbebeefkinaaaGreatDoorAmRunRecordsSchema1
import Derived.Test.YtidbebeefkinaaaGreatDoorAmRunRecordsSchema2
import Derived.Test.YtidbebeefkinaaaGreatDoorAmRunRecordsSchema3
import Derived.KernelRfl
namespace Go.Proofs.YtidbebeefkinaaaGreatDoor.RunRecordsSchema
open Go.RowKit
theorem goes2 : AM.Goes cfg items2 s2 .ret s3 := AM.stage Tryz.checked.mixed (AM.named_ok named) ran3
theorem goes1 : AM.Goes cfg items1 s1 .ret s3 := AM.goes_split (k := 1) (AM.stage Tryz.checked.mixed (AM.named_ok named) ran2) goes2
theorem goes0 : AM.Goes cfg items0 s0 .ret s3 := AM.goes_split (k := 2) (AM.stage Tryz.checked.mixed (AM.named_ok named) ran1) goes1
theorem calls_of (w : World) (R : Facts w) : Calls Tryz.prog 3 #[] w fun e w' => e = .returned (.bool true) ∧ Below w.heap.size w w' :=
  AM.goes_calls (C := cfg) Tryz.checked.mixed externs named Tryz.func3 (c := body) (by kernel_rfl) goes0 (by kernel_rfl) w R (fun w' hb _ => AM.move_rel R hb)
theorem calls (w : World) (h : laidMetH Tryz.prog Rows.recordsSchemaRow.laid w) (hsh : w.ShapedOpen Tryz.prog) : Calls Tryz.prog 3 #[] w fun e w' => e = .returned (.bool true) ∧ Below w.heap.size w w' := calls_of w (rel h hsh)
end Go.Proofs.YtidbebeefkinaaaGreatDoor.RunRecordsSchema
