/- Words of the kit's print, without those that no text of this claim names. -/

import Derived.Test.YtagbpjegdfhmpaaDoorWInv
import Derived.Test.YtagbpjegdfhmpaaDoorWFootNe
namespace Go.Proofs.YtagbpjegdfhmpaaDoorW.PrintWords
open Go.RowKit
end Go.Proofs.YtagbpjegdfhmpaaDoorW.PrintWords
namespace Go.Proofs.YtagbpjegdfhmpaaDoorW.PrintLast
section
variable {ops : Array Oper} {a : Act} {o og : Oper} {g : Nat} {t : Tmp} {u : Bool}
end
end Go.Proofs.YtagbpjegdfhmpaaDoorW.PrintLast
