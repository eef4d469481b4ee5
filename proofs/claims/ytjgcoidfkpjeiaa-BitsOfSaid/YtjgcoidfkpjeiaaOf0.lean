-- Written by a program of this session's, over the kit's printer turned by wip/tools/mkprint.py. Lean checks it.
import Derived.Test.YtjgcoidfkpjeiaaProg
import Derived.Below
import Derived.Deep.Draws
import Derived.Deep.AppendLies
import Derived.Maps.AppendAt
import Derived.OwnWalk
import Derived.Laws.BytesArg
import Derived.Laws.MakeOwn
import Derived.Laws.OwnMore
import Derived.Deep.OwnRows
import Derived.Tactics
import Derived.Lib.ConvBytes
import Derived.Laws.Slices
import Derived.WalkKit
import Derived.KernelRfl
import Derived.RowKit3
import Derived.Deep.LoopGhost
import Derived.Deep.QuietTactic
import Derived.BigQuiet
import Derived.WideLaws
import Derived.Deep.DeepCutAuto
import Derived.Deep.CutBlock
import Derived.Deep.RegionHeld3
import Derived.Laws.Rows
import Derived.Lib.AppendStr
import Derived.ArgAppend
import Derived.Laws.IdiomCopy
import Derived.OrdersHeld
import Derived.Laws.BitsLemmas
import Derived.RowKit
import Derived.Test.YtjgcoidfkpjeiaaExtra
import Derived.Test.YtjgcoidfkpjeiaaBitsOf
import Derived.Test.YtjgcoidfkpjeiaaWWords
import Derived.Test.YtjgcoidfkpjeiaaWLast
import Derived.Test.YtjgcoidfkpjeiaaWTab
import Derived.Test.YtjgcoidfkpjeiaaWFour
import Derived.Test.YtjgcoidfkpjeiaaWQPut
import Derived.Test.YtjgcoidfkpjeiaaWApart
import Derived.Test.YtjgcoidfkpjeiaaWArr
import Derived.Test.YtjgcoidfkpjeiaaWZeros
import Derived.Test.YtjgcoidfkpjeiaaWFoot
import Derived.Test.YtjgcoidfkpjeiaaWKept
import Derived.Test.YtjgcoidfkpjeiaaWShare
import Derived.Test.YtjgcoidfkpjeiaaWN
import Derived.Test.YtjgcoidfkpjeiaaWFootNe
import Derived.Test.YtjgcoidfkpjeiaaWAt
import Derived.Test.YtjgcoidfkpjeiaaWEqStruct
import Derived.Test.YtjgcoidfkpjeiaaWRepsOne
import Derived.Test.YtjgcoidfkpjeiaaWInv
import Derived.Test.YtjgcoidfkpjeiaaWInvWords
import Derived.Test.YtjgcoidfkpjeiaaWGuard
import Derived.Test.YtjgcoidfkpjeiaaWNEv
import Derived.Test.YtjgcoidfkpjeiaaWMore
namespace Go.Proofs.Ytjgcoidfkpjeiaa.Of
open Go.RowKit Go.Proofs.YtjgcoidfkpjeiaaW.PrintWords Go.Proofs.YtjgcoidfkpjeiaaW.PrintLast Go.Proofs.YtjgcoidfkpjeiaaW.PrintMore
attribute [local go_sem] max2_int min2_int max_two min_two max_three min_three max_four min_four   -- for this text's walks alone
set_option linter.unusedVariables false
set_option linter.unusedSimpArgs false
attribute [local go_sem high] Go.Proofs.YtjgcoidfkpjeiaaX.unary_xor_u16 Go.Proofs.YtjgcoidfkpjeiaaX.unary_xor_u8



def errW : Option Int → Value
  | none => .nilIface
  | some c => .iface 0 (.int .i64 c)
theorem errW_none : errW none = .nilIface := rfl
theorem errW_some (c : Int) : errW (some c) = .iface 0 (.int .i64 c) := rfl

theorem info5 : (Try.prog.info? 5).map (fun i => (i.zero, i.size, i.bytes)) = some (some (.int .u8 0), 1, 1) := by kernel_rfl
-- the values' own types

end Go.Proofs.Ytjgcoidfkpjeiaa.Of
