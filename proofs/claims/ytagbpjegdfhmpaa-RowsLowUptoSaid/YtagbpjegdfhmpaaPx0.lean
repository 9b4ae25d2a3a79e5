-- Written by a program of this session (mp.py) over the kit's print.
import Derived.Test.YtagbpjegdfhmpaaProg
import Derived.Below
import Derived.Deep.Draws
import Derived.Deep.AppendLies
import Derived.Maps.AppendAt
import Derived.OwnWalk
import Derived.Laws.BytesArg
import Derived.Laws.MakeOwn
import Derived.Laws.OwnMore
import Derived.Deep.OwnRows
import Derived.Tactics
import Derived.Lib.ConvBytes
import Derived.Laws.Slices
import Derived.WalkKit
import Derived.KernelRfl
import Derived.RowKit3
import Derived.Deep.LoopGhost
import Derived.Deep.QuietTactic
import Derived.BigQuiet
import Derived.WideLaws
import Derived.Deep.DeepCutAuto
import Derived.Deep.CutBlock
import Derived.Deep.RegionHeld3
import Derived.Laws.Rows
import Derived.Lib.AppendStr
import Derived.ArgAppend
import Derived.Laws.IdiomCopy
import Derived.OrdersHeld
import Derived.Laws.BitsLemmas
import Derived.RowKit
import Derived.Test.YtagbpjegdfhmpaaGLow
import Derived.Test.YtagbpjegdfhmpaaGFixR
import Derived.Test.YtagbpjegdfhmpaaWWords
import Derived.Test.YtagbpjegdfhmpaaWLast
import Derived.Test.YtagbpjegdfhmpaaWTab
import Derived.Test.YtagbpjegdfhmpaaWFour
import Derived.Test.YtagbpjegdfhmpaaWQPut
import Derived.Test.YtagbpjegdfhmpaaWApart
import Derived.Test.YtagbpjegdfhmpaaWArr
import Derived.Test.YtagbpjegdfhmpaaWZeros
import Derived.Test.YtagbpjegdfhmpaaWFoot
import Derived.Test.YtagbpjegdfhmpaaWKept
import Derived.Test.YtagbpjegdfhmpaaWShare
import Derived.Test.YtagbpjegdfhmpaaWN
import Derived.Test.YtagbpjegdfhmpaaWFootNe
import Derived.Test.YtagbpjegdfhmpaaWAt
import Derived.Test.YtagbpjegdfhmpaaWEqStruct
import Derived.Test.YtagbpjegdfhmpaaWRepsOne
import Derived.Test.YtagbpjegdfhmpaaWInv
import Derived.Test.YtagbpjegdfhmpaaWInvWords
import Derived.Test.YtagbpjegdfhmpaaWGuard
import Derived.Test.YtagbpjegdfhmpaaWNEv
import Derived.Test.YtagbpjegdfhmpaaWMore
namespace Go.Proofs.Ytagbpjegdfhmpaa.P
open Go.RowKit Go.Proofs.YtagbpjegdfhmpaaW.PrintWords Go.Proofs.YtagbpjegdfhmpaaW.PrintLast Go.Proofs.YtagbpjegdfhmpaaW.PrintMore
attribute [local go_sem] max2_int min2_int max_two min_two max_three min_three max_four min_four   -- for this text's walks alone
open Go.Proofs.Ytagbpjegdfhmpaa.G
set_option linter.unusedVariables false
set_option linter.unusedSimpArgs false



def errW : Option Int → Value
  | none => .nilIface
  | some c => .iface 0 (.int .i64 c)
theorem errW_none : errW none = .nilIface := rfl
theorem errW_some (c : Int) : errW (some c) = .iface 0 (.int .i64 c) := rfl

theorem info5 : (Try.prog.info? 5).map (fun i => (i.zero, i.size, i.bytes)) = some (some (.int .u8 0), 1, 1) := by kernel_rfl
-- the values' own types

end Go.Proofs.Ytagbpjegdfhmpaa.P
