/- Words of the kit's print, without those that no text of this claim names. -/

import Derived.Test.YtkhgfdlinobabaaDoorWN
namespace Go.Proofs.YtkhgfdlinobabaaDoorW.PrintWords
open Go.RowKit
namespace Kd
section
variable {α : Type} {d : Kd α} {W : World} {g n : Nat} {S ok : Nat → Prop} {A : Option Addr} {ad : Addr} {xs : List α}
end
end Kd
end Go.Proofs.YtkhgfdlinobabaaDoorW.PrintWords
