/- Words of the kit's print, without those that no text of this claim names. -/

import Derived.Test.YtagbpjegdfhmpaaWInv
import Derived.Test.YtagbpjegdfhmpaaWFootNe
namespace Go.Proofs.YtagbpjegdfhmpaaW.PrintWords
open Go.RowKit
end Go.Proofs.YtagbpjegdfhmpaaW.PrintWords
namespace Go.Proofs.YtagbpjegdfhmpaaW.PrintLast
section
variable {ops : Array Oper} {a : Act} {o og : Oper} {g : Nat} {t : Tmp} {u : Bool}
end
end Go.Proofs.YtagbpjegdfhmpaaW.PrintLast
