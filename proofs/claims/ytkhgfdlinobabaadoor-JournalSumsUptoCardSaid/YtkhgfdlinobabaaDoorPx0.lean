-- Written by a program of this session (mp.py) over the kit's print.
import Derived.Test.YtkhgfdlinobabaaDoorProg
import Derived.Below
import Derived.Deep.Draws
import Derived.Deep.AppendLies
import Derived.Maps.AppendAt
import Derived.OwnWalk
import Derived.Laws.BytesArg
import Derived.Laws.MakeOwn
import Derived.Laws.OwnMore
import Derived.Deep.OwnRows
import Derived.Tactics
import Derived.Lib.ConvBytes
import Derived.Laws.Slices
import Derived.WalkKit
import Derived.KernelRfl
import Derived.RowKit3
import Derived.Deep.LoopGhost
import Derived.Deep.QuietTactic
import Derived.BigQuiet
import Derived.WideLaws
import Derived.Deep.DeepCutAuto
import Derived.Deep.CutBlock
import Derived.Deep.RegionHeld3
import Derived.Laws.Rows
import Derived.Lib.AppendStr
import Derived.ArgAppend
import Derived.Laws.IdiomCopy
import Derived.OrdersHeld
import Derived.Laws.BitsLemmas
import Derived.RowKit
import Derived.Test.YtkhgfdlinobabaaDoorGWord
import Derived.Test.YtkhgfdlinobabaaDoorGFix
import Derived.Test.YtkhgfdlinobabaaDoorWWords
import Derived.Test.YtkhgfdlinobabaaDoorWLast
import Derived.Test.YtkhgfdlinobabaaDoorWTab
import Derived.Test.YtkhgfdlinobabaaDoorWFour
import Derived.Test.YtkhgfdlinobabaaDoorWQPut
import Derived.Test.YtkhgfdlinobabaaDoorWApart
import Derived.Test.YtkhgfdlinobabaaDoorWArr
import Derived.Test.YtkhgfdlinobabaaDoorWZeros
import Derived.Test.YtkhgfdlinobabaaDoorWFoot
import Derived.Test.YtkhgfdlinobabaaDoorWKept
import Derived.Test.YtkhgfdlinobabaaDoorWShare
import Derived.Test.YtkhgfdlinobabaaDoorWN
import Derived.Test.YtkhgfdlinobabaaDoorWFootNe
import Derived.Test.YtkhgfdlinobabaaDoorWAt
import Derived.Test.YtkhgfdlinobabaaDoorWEqStruct
import Derived.Test.YtkhgfdlinobabaaDoorWRepsOne
import Derived.Test.YtkhgfdlinobabaaDoorWInv
import Derived.Test.YtkhgfdlinobabaaDoorWInvWords
import Derived.Test.YtkhgfdlinobabaaDoorWGuard
import Derived.Test.YtkhgfdlinobabaaDoorWNEv
import Derived.Test.YtkhgfdlinobabaaDoorWMore
namespace Go.Proofs.YtkhgfdlinobabaaDoor.P
open Go.RowKit Go.Proofs.YtkhgfdlinobabaaDoorW.PrintWords Go.Proofs.YtkhgfdlinobabaaDoorW.PrintLast Go.Proofs.YtkhgfdlinobabaaDoorW.PrintMore
attribute [local go_sem] max2_int min2_int max_two min_two max_three min_three max_four min_four   -- for this text's walks alone
open Go.Proofs.YtkhgfdlinobabaaDoor.G
set_option linter.unusedVariables false
set_option linter.unusedSimpArgs false



def errW : Option Int → Value
  | none => .nilIface
  | some c => .iface 0 (.int .i64 c)
theorem errW_none : errW none = .nilIface := rfl
theorem errW_some (c : Int) : errW (some c) = .iface 0 (.int .i64 c) := rfl

theorem info5 : (Tryd.prog.info? 5).map (fun i => (i.zero, i.size, i.bytes)) = some (some (.int .u8 0), 1, 1) := by kernel_rfl
-- the values' own types

end Go.Proofs.YtkhgfdlinobabaaDoor.P
