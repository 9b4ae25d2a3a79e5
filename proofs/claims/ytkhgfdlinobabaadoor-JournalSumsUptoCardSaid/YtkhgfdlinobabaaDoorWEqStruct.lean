/- Words of the kit's print, without those that no text of this claim names. -/

import Derived.Test.YtkhgfdlinobabaaDoorWWords
import Derived.Laws.StructEq
namespace Go.Proofs.YtkhgfdlinobabaaDoorW.PrintWords
open Go.RowKit
section
variable {P : Program} {d : Nat} {xs ys : Array Value} {f : Field} {fs : List Field} {a b : Value} {r s : Bool} {w : World}
end
end Go.Proofs.YtkhgfdlinobabaaDoorW.PrintWords
