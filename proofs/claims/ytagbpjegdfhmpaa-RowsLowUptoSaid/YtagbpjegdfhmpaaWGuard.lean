/- Words of the kit's print, without those that no text of this claim names. -/

import Derived.Test.YtagbpjegdfhmpaaWWords
namespace Go.Proofs.YtagbpjegdfhmpaaW.PrintWords
open Go.RowKit
section
variable {P : Program} {ops : Array Oper} {rest : List Oper} {o : Oper} {a : Act} {Q : Exit → Act → World → Prop} {W : World}
end
end Go.Proofs.YtagbpjegdfhmpaaW.PrintWords
