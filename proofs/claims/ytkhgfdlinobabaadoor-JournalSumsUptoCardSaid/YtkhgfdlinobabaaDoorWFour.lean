/- Words of the kit's print, without those that no text of this claim names. -/

import Derived.Test.YtkhgfdlinobabaaDoorWTab
namespace Go.Proofs.YtkhgfdlinobabaaDoorW.PrintLast
section
variable {P : Program} {ops : Array Oper} {Q : Exit → Act → World → Prop} {md : Region.Mode} {S : World → Prop} {ds : List Nat} {T : Bool × List (List Nat × List Nat)}
end
end Go.Proofs.YtkhgfdlinobabaaDoorW.PrintLast
