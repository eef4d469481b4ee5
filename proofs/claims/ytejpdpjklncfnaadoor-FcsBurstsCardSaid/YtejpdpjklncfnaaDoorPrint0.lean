-- Written by a program of this session's, over the kit's printer turned by wip/tools/mkprint.py. Lean checks it.
import Derived.Test.YtejpdpjklncfnaaDoorProg
import Derived.Below
import Derived.Deep.Draws
import Derived.Deep.AppendLies
import Derived.Maps.AppendAt
import Derived.OwnWalk
import Derived.Laws.BytesArg
import Derived.Laws.MakeOwn
import Derived.Laws.OwnMore
import Derived.Deep.OwnRows
import Derived.Tactics
import Derived.Lib.ConvBytes
import Derived.Laws.Slices
import Derived.WalkKit
import Derived.KernelRfl
import Derived.RowKit3
import Derived.Deep.LoopGhost
import Derived.Deep.QuietTactic
import Derived.BigQuiet
import Derived.WideLaws
import Derived.Deep.DeepCutAuto
import Derived.Deep.CutBlock
import Derived.Deep.RegionHeld3
import Derived.Laws.Rows
import Derived.Lib.AppendStr
import Derived.ArgAppend
import Derived.Laws.IdiomCopy
import Derived.OrdersHeld
import Derived.Laws.BitsLemmas
import Derived.RowKit
import Derived.Test.YtejpdpjklncfnaaDoorExtra
import Derived.Test.YtejpdpjklncfnaaDoorWWords
import Derived.Test.YtejpdpjklncfnaaDoorWLast
import Derived.Test.YtejpdpjklncfnaaDoorWTab
import Derived.Test.YtejpdpjklncfnaaDoorWFour
import Derived.Test.YtejpdpjklncfnaaDoorWQPut
import Derived.Test.YtejpdpjklncfnaaDoorWApart
import Derived.Test.YtejpdpjklncfnaaDoorWArr
import Derived.Test.YtejpdpjklncfnaaDoorWZeros
import Derived.Test.YtejpdpjklncfnaaDoorWFoot
import Derived.Test.YtejpdpjklncfnaaDoorWKept
import Derived.Test.YtejpdpjklncfnaaDoorWShare
import Derived.Test.YtejpdpjklncfnaaDoorWN
import Derived.Test.YtejpdpjklncfnaaDoorWFootNe
import Derived.Test.YtejpdpjklncfnaaDoorWAt
import Derived.Test.YtejpdpjklncfnaaDoorWEqStruct
import Derived.Test.YtejpdpjklncfnaaDoorWRepsOne
import Derived.Test.YtejpdpjklncfnaaDoorWInv
import Derived.Test.YtejpdpjklncfnaaDoorWInvWords
import Derived.Test.YtejpdpjklncfnaaDoorWGuard
import Derived.Test.YtejpdpjklncfnaaDoorWNEv
import Derived.Test.YtejpdpjklncfnaaDoorWMore
namespace Go.Proofs.YtejpdpjklncfnaaDoor.Print
open Go.RowKit Go.Proofs.YtejpdpjklncfnaaDoorW.PrintWords Go.Proofs.YtejpdpjklncfnaaDoorW.PrintLast Go.Proofs.YtejpdpjklncfnaaDoorW.PrintMore
attribute [local go_sem] max2_int min2_int max_two min_two max_three min_three max_four min_four   -- for this text's walks alone
set_option linter.unusedVariables false
set_option linter.unusedSimpArgs false
attribute [local go_sem high] Go.Proofs.YtejpdpjklncfnaaDoorX.unary_xor_u16 Go.Proofs.YtejpdpjklncfnaaDoorX.unary_xor_u8



def errW : Option Int → Value
  | none => .nilIface
  | some c => .iface 0 (.int .i64 c)
theorem errW_none : errW none = .nilIface := rfl
theorem errW_some (c : Int) : errW (some c) = .iface 0 (.int .i64 c) := rfl

theorem info5 : (Tryd.prog.info? 5).map (fun i => (i.zero, i.size, i.bytes)) = some (some (.int .u8 0), 1, 1) := by kernel_rfl
-- the values' own types

end Go.Proofs.YtejpdpjklncfnaaDoor.Print
