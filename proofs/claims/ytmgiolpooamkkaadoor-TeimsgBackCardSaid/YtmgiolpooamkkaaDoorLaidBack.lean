/- The link of package teimsg and the tables of package ctrl, as a premise on a world. -/
import Derived.Test.YtmgiolpooamkkaaDoorLaidLink
import Derived.Test.YtmgiolpooamkkaaDoorCtlW
namespace Go.Proofs.YtmgiolpooamkkaaDoorX
open Go.RowKit
def LaidB (w : World) : Prop := Laid w ∧ Go.Proofs.YtmgiolpooamkkaaDoor.Fw.LaidC w
end Go.Proofs.YtmgiolpooamkkaaDoorX
