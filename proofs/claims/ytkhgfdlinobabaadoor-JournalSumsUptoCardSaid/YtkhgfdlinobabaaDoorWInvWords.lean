/- Words of the kit's print, without those that no text of this claim names. -/

import Derived.Test.YtkhgfdlinobabaaDoorWInv
import Derived.Test.YtkhgfdlinobabaaDoorWFootNe
namespace Go.Proofs.YtkhgfdlinobabaaDoorW.PrintWords
open Go.RowKit
end Go.Proofs.YtkhgfdlinobabaaDoorW.PrintWords
namespace Go.Proofs.YtkhgfdlinobabaaDoorW.PrintLast
section
variable {ops : Array Oper} {a : Act} {o og : Oper} {g : Nat} {t : Tmp} {u : Bool}
end
end Go.Proofs.YtkhgfdlinobabaaDoorW.PrintLast
