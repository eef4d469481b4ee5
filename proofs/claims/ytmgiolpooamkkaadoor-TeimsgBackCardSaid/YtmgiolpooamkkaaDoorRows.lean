/-
  NARROWER THAN 'FOR EVERY INPUT', by the rows' own cells (each row's printed sentence says how): TeimsgPuts: laid · TeimsgOf: laid · TeimsgOnly: laid · TeimsgBack: laid.
  DERIVED. THE GIVEN ROWS OF THIS SEAT. 4 by the template 'for every input the law returns true; each argument reads behind the call as it read before'; 0 by the template 'total and deterministic' (their statements: YtmgiolpooamkkaaDoorTotals.lean).
  GIVEN WITH THE SEED: the statements are not yours to turn. If you find one false, say at which input.
  Laid BY PROGRAM, IN A SANDBOX (cutbox-rows.mjs): the forced cells as the released guide's own fill.sh prints them over the translation 9905f50dd5c68f33… (all of the seat's roots in one cut). By AI agents, Wed Nov 11 2026. No macro, syntax, notation, axiom, sorry.
-/
import Derived.Test.YtmgiolpooamkkaaDoorChecked
import GoSem.Claim
import GoSem.ClaimJoined
import GoSem.ClaimMapViews
import Derived.JoinedTies
import Derived.KernelRfl
namespace Go.Proofs.YtmgiolpooamkkaaDoor
/- THE CELL 'sum', in the pinned program and in every row, IS THE sha256 OF THE DUMP (.gsa) THAT YtmgiolpooamkkaaDoorProg.lean LOADS. Nothing in Lean hashes anything: it is a label: what it is worth is what the hold of that sum in a sandbox is worth. -/
noncomputable def Tryd.pinned : Pinned := { name := "ytmgiolpooamkkaadoor", sum := "9905f50dd5c68f3393a150ae41e73c5b9923d3d13dc5f194f5b3309cc0aa727a", checked := Tryd.checked }
namespace Rows
def none {H : Type} : Left H := { results := [], args := [] }

/- WHAT THE LISTED PACKAGE-LEVEL VARIABLES READ AS WHEN THE CALL BEGINS. Each datum BY PROGRAM (the guide's laid-datum.mjs) off the statement by which the dump's own 'gosem.cut.vars' lays the variable. In a bare row this is a premise. The card (YtmgiolpooamkkaaDoorCards.lean) ties it to the program's text. -/
def laid_lapwing_teimsg_link {H : Type} : DataW H := .agg [.lit (.int .i64 63), .lit (.int .i64 127)]
def laid_lapwing_ctrl_first {H : Type} : DataW H := .agg [.lit (.int .u8 0), .lit (.int .u8 1), .lit (.int .u8 5), .lit (.int .u8 9), .lit (.int .u8 111), .lit (.int .u8 15), .lit (.int .u8 3), .lit (.int .u8 67), .lit (.int .u8 99), .lit (.int .u8 135)]
def laid_lapwing_ctrl_names {H : Type} : DataW H := .agg [.lit (.string [73]), .lit (.string [82, 82]), .lit (.string [82, 78, 82]), .lit (.string [82, 69, 74]), .lit (.string [83, 65, 66, 77, 69]), .lit (.string [68, 77]), .lit (.string [85, 73]), .lit (.string [68, 73, 83, 67]), .lit (.string [85, 65]), .lit (.string [70, 82, 77, 82])]

/-- 'lapwinglaw07.TeimsgPuts': WHATEVER THE INPUT: true; the input reads as it did. -/
def teimsgPutsSpec : ChangeSpec := { name := "teimsgPuts", fn := fun _ => fun
  | [d] => { results := [.lit (.bool true)], args := [d] }
  | _ => none }
def teimsgPutsRow : OpenClaim := { program := "ytmgiolpooamkkaadoor", sum := "9905f50dd5c68f3393a150ae41e73c5b9923d3d13dc5f194f5b3309cc0aa727a", func := "lapwing/lapwinglaw07.TeimsgPuts", spec := "teimsgPuts", named := ["lapwing/teimsg.link"], apart := false, laid := [("lapwing/teimsg.link", laid_lapwing_teimsg_link)] }
def TeimsgPutsSaid : Prop := teimsgPutsRow.holds Tryd.pinned (OpenSpec.ofChange teimsgPutsSpec)

/-- ITS FALSE NEIGHBOUR: 'it returns false'. Refute it at one input. -/
def teimsgPutsWrong : ChangeSpec := { name := "teimsgPuts", fn := fun _ => fun
  | [d] => { results := [.lit (.bool false)], args := [d] }
  | _ => none }
def TeimsgPutsWrongFalsely : Prop := teimsgPutsRow.holds Tryd.pinned (OpenSpec.ofChange teimsgPutsWrong)

/-- 'lapwinglaw07.TeimsgOf': WHATEVER THE INPUT: true; the input reads as it did. -/
def teimsgOfSpec : ChangeSpec := { name := "teimsgOf", fn := fun _ => fun
  | [d1, d2] => { results := [.lit (.bool true)], args := [d1, d2] }
  | _ => none }
def teimsgOfRow : OpenClaim := { program := "ytmgiolpooamkkaadoor", sum := "9905f50dd5c68f3393a150ae41e73c5b9923d3d13dc5f194f5b3309cc0aa727a", func := "lapwing/lapwinglaw07.TeimsgOf", spec := "teimsgOf", named := ["lapwing/teimsg.link"], apart := false, laid := [("lapwing/teimsg.link", laid_lapwing_teimsg_link)] }
def TeimsgOfSaid : Prop := teimsgOfRow.holds Tryd.pinned (OpenSpec.ofChange teimsgOfSpec)

/-- ITS FALSE NEIGHBOUR: 'it returns false'. Refute it at one input. -/
def teimsgOfWrong : ChangeSpec := { name := "teimsgOf", fn := fun _ => fun
  | [d1, d2] => { results := [.lit (.bool false)], args := [d1, d2] }
  | _ => none }
def TeimsgOfWrongFalsely : Prop := teimsgOfRow.holds Tryd.pinned (OpenSpec.ofChange teimsgOfWrong)

/-- 'lapwinglaw07.TeimsgOnly': WHATEVER THE INPUT: true; the input reads as it did. -/
def teimsgOnlySpec : ChangeSpec := { name := "teimsgOnly", fn := fun _ => fun
  | [d1, d2] => { results := [.lit (.bool true)], args := [d1, d2] }
  | _ => none }
def teimsgOnlyRow : OpenClaim := { program := "ytmgiolpooamkkaadoor", sum := "9905f50dd5c68f3393a150ae41e73c5b9923d3d13dc5f194f5b3309cc0aa727a", func := "lapwing/lapwinglaw07.TeimsgOnly", spec := "teimsgOnly", named := ["lapwing/teimsg.link"], apart := false, laid := [("lapwing/teimsg.link", laid_lapwing_teimsg_link)] }
def TeimsgOnlySaid : Prop := teimsgOnlyRow.holds Tryd.pinned (OpenSpec.ofChange teimsgOnlySpec)

/-- ITS FALSE NEIGHBOUR: 'it returns false'. Refute it at one input. -/
def teimsgOnlyWrong : ChangeSpec := { name := "teimsgOnly", fn := fun _ => fun
  | [d1, d2] => { results := [.lit (.bool false)], args := [d1, d2] }
  | _ => none }
def TeimsgOnlyWrongFalsely : Prop := teimsgOnlyRow.holds Tryd.pinned (OpenSpec.ofChange teimsgOnlyWrong)

/-- 'lapwinglaw07.TeimsgBack': WHATEVER THE INPUT: true; the input reads as it did. -/
def teimsgBackSpec : ChangeSpec := { name := "teimsgBack", fn := fun _ => fun
  | [d] => { results := [.lit (.bool true)], args := [d] }
  | _ => none }
def teimsgBackRow : OpenClaim := { program := "ytmgiolpooamkkaadoor", sum := "9905f50dd5c68f3393a150ae41e73c5b9923d3d13dc5f194f5b3309cc0aa727a", func := "lapwing/lapwinglaw07.TeimsgBack", spec := "teimsgBack", named := ["lapwing/teimsg.link", "lapwing/ctrl.first", "lapwing/ctrl.names"], apart := false, laid := [("lapwing/ctrl.first", laid_lapwing_ctrl_first), ("lapwing/ctrl.names", laid_lapwing_ctrl_names), ("lapwing/teimsg.link", laid_lapwing_teimsg_link)] }
def TeimsgBackSaid : Prop := teimsgBackRow.holds Tryd.pinned (OpenSpec.ofChange teimsgBackSpec)

/-- ITS FALSE NEIGHBOUR: 'it returns false'. Refute it at one input. -/
def teimsgBackWrong : ChangeSpec := { name := "teimsgBack", fn := fun _ => fun
  | [d] => { results := [.lit (.bool false)], args := [d] }
  | _ => none }
def TeimsgBackWrongFalsely : Prop := teimsgBackRow.holds Tryd.pinned (OpenSpec.ofChange teimsgBackWrong)

/- THE SECOND FORM. 'bulk': how many values and letters a reading holds, each counted each time it is reached (what is shared counts as often as it is met; a slice's spare places count too). A statement '..UptoSaid' is the law's where the arguments, and the package variables that the reading takes, are together of bulk at most 1048576: NARROWER than '..Said'. Prove '..Said' where nothing that the law and all that it calls make is longer than what came in: it says more and counts as full. Else prove '..UptoSaid'. A law counts once. -/
mutual
def uptoBulk {H : Type} : DataW H → Nat
  | .lit (.string bytes) => bytes.length + 1
  | .lit _ => 1
  | .nil => 1
  | .ptr d => uptoBulk d + 1
  | .slice elems spare => uptoBulkAll elems + uptoBulkAll spare + 1
  | .agg parts => uptoBulkAll parts + 1
  | .iface _ d => uptoBulk d + 1
  | .map entries => uptoBulkEntries entries + 1
  | .held _ => 1
def uptoBulkAll {H : Type} : List (DataW H) → Nat
  | [] => 0
  | d :: r => uptoBulk d + uptoBulkAll r
def uptoBulkEntries {H : Type} : List (Lit × DataW H) → Nat
  | [] => 0
  | x :: r => uptoBulkEntry x + uptoBulkEntries r
def uptoBulkEntry {H : Type} : Lit × DataW H → Nat
  | (.string bytes, d) => bytes.length + uptoBulk d + 1
  | (_, d) => uptoBulk d + 1
 end
def uptoSmall : (H : Type) → List (DataW H) → Bool := fun _ ds => decide (uptoBulkAll ds ≤ 1048576)
def OpenSpec.upto (s : _root_.Go.ChangeSpec) : _root_.Go.OpenSpec := { _root_.Go.OpenSpec.ofChange s with cond := some uptoSmall }

/-- 'lapwinglaw07.TeimsgPuts', WHERE WHAT IT READS IS OF BULK AT MOST 1048576: true; the input reads as it did. -/
def teimsgPutsUptoRow : OpenClaim := { program := "ytmgiolpooamkkaadoor", sum := "9905f50dd5c68f3393a150ae41e73c5b9923d3d13dc5f194f5b3309cc0aa727a", func := "lapwing/lapwinglaw07.TeimsgPuts", spec := "teimsgPuts", named := ["lapwing/teimsg.link"], apart := false, laid := [("lapwing/teimsg.link", laid_lapwing_teimsg_link)], narrowed := true }
def TeimsgPutsUptoSaid : Prop := teimsgPutsUptoRow.holds Tryd.pinned (OpenSpec.upto teimsgPutsSpec)

/-- 'lapwinglaw07.TeimsgOf', WHERE WHAT IT READS IS OF BULK AT MOST 1048576: true; the input reads as it did. -/
def teimsgOfUptoRow : OpenClaim := { program := "ytmgiolpooamkkaadoor", sum := "9905f50dd5c68f3393a150ae41e73c5b9923d3d13dc5f194f5b3309cc0aa727a", func := "lapwing/lapwinglaw07.TeimsgOf", spec := "teimsgOf", named := ["lapwing/teimsg.link"], apart := false, laid := [("lapwing/teimsg.link", laid_lapwing_teimsg_link)], narrowed := true }
def TeimsgOfUptoSaid : Prop := teimsgOfUptoRow.holds Tryd.pinned (OpenSpec.upto teimsgOfSpec)

/-- 'lapwinglaw07.TeimsgOnly', WHERE WHAT IT READS IS OF BULK AT MOST 1048576: true; the input reads as it did. -/
def teimsgOnlyUptoRow : OpenClaim := { program := "ytmgiolpooamkkaadoor", sum := "9905f50dd5c68f3393a150ae41e73c5b9923d3d13dc5f194f5b3309cc0aa727a", func := "lapwing/lapwinglaw07.TeimsgOnly", spec := "teimsgOnly", named := ["lapwing/teimsg.link"], apart := false, laid := [("lapwing/teimsg.link", laid_lapwing_teimsg_link)], narrowed := true }
def TeimsgOnlyUptoSaid : Prop := teimsgOnlyUptoRow.holds Tryd.pinned (OpenSpec.upto teimsgOnlySpec)

/-- 'lapwinglaw07.TeimsgBack', WHERE WHAT IT READS IS OF BULK AT MOST 1048576: true; the input reads as it did. -/
def teimsgBackUptoRow : OpenClaim := { program := "ytmgiolpooamkkaadoor", sum := "9905f50dd5c68f3393a150ae41e73c5b9923d3d13dc5f194f5b3309cc0aa727a", func := "lapwing/lapwinglaw07.TeimsgBack", spec := "teimsgBack", named := ["lapwing/teimsg.link", "lapwing/ctrl.first", "lapwing/ctrl.names"], apart := false, laid := [("lapwing/ctrl.first", laid_lapwing_ctrl_first), ("lapwing/ctrl.names", laid_lapwing_ctrl_names), ("lapwing/teimsg.link", laid_lapwing_teimsg_link)], narrowed := true }
def TeimsgBackUptoSaid : Prop := teimsgBackUptoRow.holds Tryd.pinned (OpenSpec.upto teimsgBackSpec)

end Rows
end Go.Proofs.YtmgiolpooamkkaaDoor
