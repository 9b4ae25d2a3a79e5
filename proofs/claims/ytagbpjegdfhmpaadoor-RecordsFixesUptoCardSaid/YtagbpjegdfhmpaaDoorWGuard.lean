/- Words of the kit's print, without those that no text of this claim names. -/

import Derived.Test.YtagbpjegdfhmpaaDoorWWords
namespace Go.Proofs.YtagbpjegdfhmpaaDoorW.PrintWords
open Go.RowKit
section
variable {P : Program} {ops : Array Oper} {rest : List Oper} {o : Oper} {a : Act} {Q : Exit → Act → World → Prop} {W : World}
end
end Go.Proofs.YtagbpjegdfhmpaaDoorW.PrintWords
