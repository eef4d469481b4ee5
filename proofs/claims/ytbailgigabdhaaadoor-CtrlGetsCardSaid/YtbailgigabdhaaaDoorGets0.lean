-- Written by a program of this session's, over the kit's printer turned by wip/tools/mkprint.py. Lean checks it.
import Derived.Test.YtbailgigabdhaaaDoorProg
import Derived.Below
import Derived.Deep.Draws
import Derived.Deep.AppendLies
import Derived.Maps.AppendAt
import Derived.OwnWalk
import Derived.Laws.BytesArg
import Derived.Laws.MakeOwn
import Derived.Laws.OwnMore
import Derived.Deep.OwnRows
import Derived.Tactics
import Derived.Lib.ConvBytes
import Derived.Laws.Slices
import Derived.WalkKit
import Derived.KernelRfl
import Derived.RowKit3
import Derived.Deep.LoopGhost
import Derived.Deep.QuietTactic
import Derived.BigQuiet
import Derived.WideLaws
import Derived.Deep.DeepCutAuto
import Derived.Deep.CutBlock
import Derived.Deep.RegionHeld3
import Derived.Laws.Rows
import Derived.Lib.AppendStr
import Derived.ArgAppend
import Derived.Laws.IdiomCopy
import Derived.OrdersHeld
import Derived.Laws.BitsLemmas
import Derived.RowKit
import Derived.Test.YtbailgigabdhaaaDoorExtra
import Derived.Test.YtbailgigabdhaaaDoorLaidFirst
import Derived.Test.YtbailgigabdhaaaDoorWWords
import Derived.Test.YtbailgigabdhaaaDoorWLast
import Derived.Test.YtbailgigabdhaaaDoorWTab
import Derived.Test.YtbailgigabdhaaaDoorWFour
import Derived.Test.YtbailgigabdhaaaDoorWQPut
import Derived.Test.YtbailgigabdhaaaDoorWApart
import Derived.Test.YtbailgigabdhaaaDoorWArr
import Derived.Test.YtbailgigabdhaaaDoorWZeros
import Derived.Test.YtbailgigabdhaaaDoorWFoot
import Derived.Test.YtbailgigabdhaaaDoorWKept
import Derived.Test.YtbailgigabdhaaaDoorWShare
import Derived.Test.YtbailgigabdhaaaDoorWN
import Derived.Test.YtbailgigabdhaaaDoorWFootNe
import Derived.Test.YtbailgigabdhaaaDoorWAt
import Derived.Test.YtbailgigabdhaaaDoorWEqStruct
import Derived.Test.YtbailgigabdhaaaDoorWRepsOne
import Derived.Test.YtbailgigabdhaaaDoorWInv
import Derived.Test.YtbailgigabdhaaaDoorWInvWords
import Derived.Test.YtbailgigabdhaaaDoorWGuard
import Derived.Test.YtbailgigabdhaaaDoorWNEv
import Derived.Test.YtbailgigabdhaaaDoorWMore
namespace Go.Proofs.YtbailgigabdhaaaDoor.Gets
open Go.RowKit Go.Proofs.YtbailgigabdhaaaDoorW.PrintWords Go.Proofs.YtbailgigabdhaaaDoorW.PrintLast Go.Proofs.YtbailgigabdhaaaDoorW.PrintMore
attribute [local go_sem] max2_int min2_int max_two min_two max_three min_three max_four min_four   -- for this text's walks alone
set_option linter.unusedVariables false
set_option linter.unusedSimpArgs false
attribute [local go_sem high] Go.Proofs.YtbailgigabdhaaaDoorX.unary_xor_u16 Go.Proofs.YtbailgigabdhaaaDoorX.unary_xor_u8



def errW : Option Int → Value
  | none => .nilIface
  | some c => .iface 0 (.int .i64 c)
theorem errW_none : errW none = .nilIface := rfl
theorem errW_some (c : Int) : errW (some c) = .iface 0 (.int .i64 c) := rfl

-- the values' own types

end Go.Proofs.YtbailgigabdhaaaDoor.Gets
