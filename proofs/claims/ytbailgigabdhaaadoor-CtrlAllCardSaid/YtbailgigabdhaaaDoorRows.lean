/-
  NARROWER THAN 'FOR EVERY INPUT', by the rows' own cells (each row's printed sentence says how): CtrlGets: laid · CtrlKinds: laid · CtrlPuts: laid · CtrlUnlike: laid · CtrlFinal: laid · CtrlAll: laid · CtrlBack: laid.
  DERIVED. THE GIVEN ROWS OF THIS SEAT. 7 by the template 'for every input the law returns true; each argument reads behind the call as it read before'; 0 by the template 'total and deterministic' (their statements: YtbailgigabdhaaaDoorTotals.lean).
  GIVEN WITH THE SEED: the statements are not yours to turn. If you find one false, say at which input.
  Laid BY PROGRAM, IN A SANDBOX (cutbox-rows.mjs): the forced cells as the released guide's own fill.sh prints them over the translation cedc29c53a260395… (all of the seat's roots in one cut). By AI agents, Wed Nov 11 2026. No macro, syntax, notation, axiom, sorry.
-/
import Derived.Test.YtbailgigabdhaaaDoorChecked
import GoSem.Claim
import GoSem.ClaimJoined
import GoSem.ClaimMapViews
import Derived.JoinedTies
import Derived.KernelRfl
namespace Go.Proofs.YtbailgigabdhaaaDoor
/- THE CELL 'sum', in the pinned program and in every row, IS THE sha256 OF THE DUMP (.gsa) THAT YtbailgigabdhaaaDoorProg.lean LOADS. Nothing in Lean hashes anything: it is a label: what it is worth is what the hold of that sum in a sandbox is worth. -/
noncomputable def Tryd.pinned : Pinned := { name := "ytbailgigabdhaaadoor", sum := "cedc29c53a260395b80fe884aea313dd4a3cee3c2de33893cb32edb06f9e8506", checked := Tryd.checked }
namespace Rows
def none {H : Type} : Left H := { results := [], args := [] }

/- WHAT THE LISTED PACKAGE-LEVEL VARIABLES READ AS WHEN THE CALL BEGINS. Each datum BY PROGRAM (the guide's laid-datum.mjs) off the statement by which the dump's own 'gosem.cut.vars' lays the variable. In a bare row this is a premise. The card (YtbailgigabdhaaaDoorCards.lean) ties it to the program's text. -/
def laid_lapwing_ctrl_first {H : Type} : DataW H := .agg [.lit (.int .u8 0), .lit (.int .u8 1), .lit (.int .u8 5), .lit (.int .u8 9), .lit (.int .u8 111), .lit (.int .u8 15), .lit (.int .u8 3), .lit (.int .u8 67), .lit (.int .u8 99), .lit (.int .u8 135)]
def laid_lapwing_ctrl_names {H : Type} : DataW H := .agg [.lit (.string [73]), .lit (.string [82, 82]), .lit (.string [82, 78, 82]), .lit (.string [82, 69, 74]), .lit (.string [83, 65, 66, 77, 69]), .lit (.string [68, 77]), .lit (.string [85, 73]), .lit (.string [68, 73, 83, 67]), .lit (.string [85, 65]), .lit (.string [70, 82, 77, 82])]

/-- 'lapwinglaw05.CtrlGets': WHATEVER THE INPUT: true; the input reads as it did. -/
def ctrlGetsSpec : ChangeSpec := { name := "ctrlGets", fn := fun _ => fun
  | [d] => { results := [.lit (.bool true)], args := [d] }
  | _ => none }
def ctrlGetsRow : OpenClaim := { program := "ytbailgigabdhaaadoor", sum := "cedc29c53a260395b80fe884aea313dd4a3cee3c2de33893cb32edb06f9e8506", func := "lapwing/lapwinglaw05.CtrlGets", spec := "ctrlGets", named := ["lapwing/ctrl.first"], apart := false, laid := [("lapwing/ctrl.first", laid_lapwing_ctrl_first)] }
def CtrlGetsSaid : Prop := ctrlGetsRow.holds Tryd.pinned (OpenSpec.ofChange ctrlGetsSpec)

/-- ITS FALSE NEIGHBOUR: 'it returns false'. Refute it at one input. -/
def ctrlGetsWrong : ChangeSpec := { name := "ctrlGets", fn := fun _ => fun
  | [d] => { results := [.lit (.bool false)], args := [d] }
  | _ => none }
def CtrlGetsWrongFalsely : Prop := ctrlGetsRow.holds Tryd.pinned (OpenSpec.ofChange ctrlGetsWrong)

/-- 'lapwinglaw05.CtrlKinds': WHATEVER THE INPUT: true; the input reads as it did. -/
def ctrlKindsSpec : ChangeSpec := { name := "ctrlKinds", fn := fun _ => fun
  | [d] => { results := [.lit (.bool true)], args := [d] }
  | _ => none }
def ctrlKindsRow : OpenClaim := { program := "ytbailgigabdhaaadoor", sum := "cedc29c53a260395b80fe884aea313dd4a3cee3c2de33893cb32edb06f9e8506", func := "lapwing/lapwinglaw05.CtrlKinds", spec := "ctrlKinds", named := ["lapwing/ctrl.first", "lapwing/ctrl.names"], apart := false, laid := [("lapwing/ctrl.first", laid_lapwing_ctrl_first), ("lapwing/ctrl.names", laid_lapwing_ctrl_names)] }
def CtrlKindsSaid : Prop := ctrlKindsRow.holds Tryd.pinned (OpenSpec.ofChange ctrlKindsSpec)

/-- ITS FALSE NEIGHBOUR: 'it returns false'. Refute it at one input. -/
def ctrlKindsWrong : ChangeSpec := { name := "ctrlKinds", fn := fun _ => fun
  | [d] => { results := [.lit (.bool false)], args := [d] }
  | _ => none }
def CtrlKindsWrongFalsely : Prop := ctrlKindsRow.holds Tryd.pinned (OpenSpec.ofChange ctrlKindsWrong)

/-- 'lapwinglaw05.CtrlPuts': WHATEVER THE INPUT: true; the input reads as it did. -/
def ctrlPutsSpec : ChangeSpec := { name := "ctrlPuts", fn := fun _ => fun
  | [d] => { results := [.lit (.bool true)], args := [d] }
  | _ => none }
def ctrlPutsRow : OpenClaim := { program := "ytbailgigabdhaaadoor", sum := "cedc29c53a260395b80fe884aea313dd4a3cee3c2de33893cb32edb06f9e8506", func := "lapwing/lapwinglaw05.CtrlPuts", spec := "ctrlPuts", named := ["lapwing/ctrl.first", "lapwing/ctrl.names"], apart := false, laid := [("lapwing/ctrl.first", laid_lapwing_ctrl_first), ("lapwing/ctrl.names", laid_lapwing_ctrl_names)] }
def CtrlPutsSaid : Prop := ctrlPutsRow.holds Tryd.pinned (OpenSpec.ofChange ctrlPutsSpec)

/-- ITS FALSE NEIGHBOUR: 'it returns false'. Refute it at one input. -/
def ctrlPutsWrong : ChangeSpec := { name := "ctrlPuts", fn := fun _ => fun
  | [d] => { results := [.lit (.bool false)], args := [d] }
  | _ => none }
def CtrlPutsWrongFalsely : Prop := ctrlPutsRow.holds Tryd.pinned (OpenSpec.ofChange ctrlPutsWrong)

/-- 'lapwinglaw05.CtrlUnlike': WHATEVER THE INPUT: true; the input reads as it did. -/
def ctrlUnlikeSpec : ChangeSpec := { name := "ctrlUnlike", fn := fun _ => fun
  | [d1, d2, d3] => { results := [.lit (.bool true)], args := [d1, d2, d3] }
  | _ => none }
def ctrlUnlikeRow : OpenClaim := { program := "ytbailgigabdhaaadoor", sum := "cedc29c53a260395b80fe884aea313dd4a3cee3c2de33893cb32edb06f9e8506", func := "lapwing/lapwinglaw05.CtrlUnlike", spec := "ctrlUnlike", named := ["lapwing/ctrl.first", "lapwing/ctrl.names"], apart := false, laid := [("lapwing/ctrl.first", laid_lapwing_ctrl_first), ("lapwing/ctrl.names", laid_lapwing_ctrl_names)] }
def CtrlUnlikeSaid : Prop := ctrlUnlikeRow.holds Tryd.pinned (OpenSpec.ofChange ctrlUnlikeSpec)

/-- ITS FALSE NEIGHBOUR: 'it returns false'. Refute it at one input. -/
def ctrlUnlikeWrong : ChangeSpec := { name := "ctrlUnlike", fn := fun _ => fun
  | [d1, d2, d3] => { results := [.lit (.bool false)], args := [d1, d2, d3] }
  | _ => none }
def CtrlUnlikeWrongFalsely : Prop := ctrlUnlikeRow.holds Tryd.pinned (OpenSpec.ofChange ctrlUnlikeWrong)

/-- 'lapwinglaw05.CtrlFinal': WHATEVER THE INPUT: true; the input reads as it did. -/
def ctrlFinalSpec : ChangeSpec := { name := "ctrlFinal", fn := fun _ => fun
  | [d] => { results := [.lit (.bool true)], args := [d] }
  | _ => none }
def ctrlFinalRow : OpenClaim := { program := "ytbailgigabdhaaadoor", sum := "cedc29c53a260395b80fe884aea313dd4a3cee3c2de33893cb32edb06f9e8506", func := "lapwing/lapwinglaw05.CtrlFinal", spec := "ctrlFinal", named := ["lapwing/ctrl.first", "lapwing/ctrl.names"], apart := false, laid := [("lapwing/ctrl.first", laid_lapwing_ctrl_first), ("lapwing/ctrl.names", laid_lapwing_ctrl_names)] }
def CtrlFinalSaid : Prop := ctrlFinalRow.holds Tryd.pinned (OpenSpec.ofChange ctrlFinalSpec)

/-- ITS FALSE NEIGHBOUR: 'it returns false'. Refute it at one input. -/
def ctrlFinalWrong : ChangeSpec := { name := "ctrlFinal", fn := fun _ => fun
  | [d] => { results := [.lit (.bool false)], args := [d] }
  | _ => none }
def CtrlFinalWrongFalsely : Prop := ctrlFinalRow.holds Tryd.pinned (OpenSpec.ofChange ctrlFinalWrong)

/-- 'lapwinglaw05.CtrlAll': WHATEVER THE INPUT: true; the input reads as it did. -/
def ctrlAllSpec : ChangeSpec := { name := "ctrlAll", fn := fun _ => fun
  | [d1, d2] => { results := [.lit (.bool true)], args := [d1, d2] }
  | _ => none }
def ctrlAllRow : OpenClaim := { program := "ytbailgigabdhaaadoor", sum := "cedc29c53a260395b80fe884aea313dd4a3cee3c2de33893cb32edb06f9e8506", func := "lapwing/lapwinglaw05.CtrlAll", spec := "ctrlAll", named := ["lapwing/ctrl.first", "lapwing/ctrl.names"], apart := false, laid := [("lapwing/ctrl.first", laid_lapwing_ctrl_first), ("lapwing/ctrl.names", laid_lapwing_ctrl_names)] }
def CtrlAllSaid : Prop := ctrlAllRow.holds Tryd.pinned (OpenSpec.ofChange ctrlAllSpec)

/-- ITS FALSE NEIGHBOUR: 'it returns false'. Refute it at one input. -/
def ctrlAllWrong : ChangeSpec := { name := "ctrlAll", fn := fun _ => fun
  | [d1, d2] => { results := [.lit (.bool false)], args := [d1, d2] }
  | _ => none }
def CtrlAllWrongFalsely : Prop := ctrlAllRow.holds Tryd.pinned (OpenSpec.ofChange ctrlAllWrong)

/-- 'lapwinglaw05.CtrlBack': WHATEVER THE INPUT: true; the input reads as it did. -/
def ctrlBackSpec : ChangeSpec := { name := "ctrlBack", fn := fun _ => fun
  | [d1, d2] => { results := [.lit (.bool true)], args := [d1, d2] }
  | _ => none }
def ctrlBackRow : OpenClaim := { program := "ytbailgigabdhaaadoor", sum := "cedc29c53a260395b80fe884aea313dd4a3cee3c2de33893cb32edb06f9e8506", func := "lapwing/lapwinglaw05.CtrlBack", spec := "ctrlBack", named := ["lapwing/ctrl.first", "lapwing/ctrl.names"], apart := false, laid := [("lapwing/ctrl.first", laid_lapwing_ctrl_first), ("lapwing/ctrl.names", laid_lapwing_ctrl_names)] }
def CtrlBackSaid : Prop := ctrlBackRow.holds Tryd.pinned (OpenSpec.ofChange ctrlBackSpec)

/-- ITS FALSE NEIGHBOUR: 'it returns false'. Refute it at one input. -/
def ctrlBackWrong : ChangeSpec := { name := "ctrlBack", fn := fun _ => fun
  | [d1, d2] => { results := [.lit (.bool false)], args := [d1, d2] }
  | _ => none }
def CtrlBackWrongFalsely : Prop := ctrlBackRow.holds Tryd.pinned (OpenSpec.ofChange ctrlBackWrong)

/- THE SECOND FORM. 'bulk': how many values and letters a reading holds, each counted each time it is reached (what is shared counts as often as it is met; a slice's spare places count too). A statement '..UptoSaid' is the law's where the arguments, and the package variables that the reading takes, are together of bulk at most 1048576: NARROWER than '..Said'. Prove '..Said' where nothing that the law and all that it calls make is longer than what came in: it says more and counts as full. Else prove '..UptoSaid'. A law counts once. -/
mutual
def uptoBulk {H : Type} : DataW H → Nat
  | .lit (.string bytes) => bytes.length + 1
  | .lit _ => 1
  | .nil => 1
  | .ptr d => uptoBulk d + 1
  | .slice elems spare => uptoBulkAll elems + uptoBulkAll spare + 1
  | .agg parts => uptoBulkAll parts + 1
  | .iface _ d => uptoBulk d + 1
  | .map entries => uptoBulkEntries entries + 1
  | .held _ => 1
def uptoBulkAll {H : Type} : List (DataW H) → Nat
  | [] => 0
  | d :: r => uptoBulk d + uptoBulkAll r
def uptoBulkEntries {H : Type} : List (Lit × DataW H) → Nat
  | [] => 0
  | x :: r => uptoBulkEntry x + uptoBulkEntries r
def uptoBulkEntry {H : Type} : Lit × DataW H → Nat
  | (.string bytes, d) => bytes.length + uptoBulk d + 1
  | (_, d) => uptoBulk d + 1
 end
def uptoSmall : (H : Type) → List (DataW H) → Bool := fun _ ds => decide (uptoBulkAll ds ≤ 1048576)
def OpenSpec.upto (s : _root_.Go.ChangeSpec) : _root_.Go.OpenSpec := { _root_.Go.OpenSpec.ofChange s with cond := some uptoSmall }

/-- 'lapwinglaw05.CtrlGets', WHERE WHAT IT READS IS OF BULK AT MOST 1048576: true; the input reads as it did. -/
def ctrlGetsUptoRow : OpenClaim := { program := "ytbailgigabdhaaadoor", sum := "cedc29c53a260395b80fe884aea313dd4a3cee3c2de33893cb32edb06f9e8506", func := "lapwing/lapwinglaw05.CtrlGets", spec := "ctrlGets", named := ["lapwing/ctrl.first"], apart := false, laid := [("lapwing/ctrl.first", laid_lapwing_ctrl_first)], narrowed := true }
def CtrlGetsUptoSaid : Prop := ctrlGetsUptoRow.holds Tryd.pinned (OpenSpec.upto ctrlGetsSpec)

/-- 'lapwinglaw05.CtrlKinds', WHERE WHAT IT READS IS OF BULK AT MOST 1048576: true; the input reads as it did. -/
def ctrlKindsUptoRow : OpenClaim := { program := "ytbailgigabdhaaadoor", sum := "cedc29c53a260395b80fe884aea313dd4a3cee3c2de33893cb32edb06f9e8506", func := "lapwing/lapwinglaw05.CtrlKinds", spec := "ctrlKinds", named := ["lapwing/ctrl.first", "lapwing/ctrl.names"], apart := false, laid := [("lapwing/ctrl.first", laid_lapwing_ctrl_first), ("lapwing/ctrl.names", laid_lapwing_ctrl_names)], narrowed := true }
def CtrlKindsUptoSaid : Prop := ctrlKindsUptoRow.holds Tryd.pinned (OpenSpec.upto ctrlKindsSpec)

/-- 'lapwinglaw05.CtrlPuts', WHERE WHAT IT READS IS OF BULK AT MOST 1048576: true; the input reads as it did. -/
def ctrlPutsUptoRow : OpenClaim := { program := "ytbailgigabdhaaadoor", sum := "cedc29c53a260395b80fe884aea313dd4a3cee3c2de33893cb32edb06f9e8506", func := "lapwing/lapwinglaw05.CtrlPuts", spec := "ctrlPuts", named := ["lapwing/ctrl.first", "lapwing/ctrl.names"], apart := false, laid := [("lapwing/ctrl.first", laid_lapwing_ctrl_first), ("lapwing/ctrl.names", laid_lapwing_ctrl_names)], narrowed := true }
def CtrlPutsUptoSaid : Prop := ctrlPutsUptoRow.holds Tryd.pinned (OpenSpec.upto ctrlPutsSpec)

/-- 'lapwinglaw05.CtrlUnlike', WHERE WHAT IT READS IS OF BULK AT MOST 1048576: true; the input reads as it did. -/
def ctrlUnlikeUptoRow : OpenClaim := { program := "ytbailgigabdhaaadoor", sum := "cedc29c53a260395b80fe884aea313dd4a3cee3c2de33893cb32edb06f9e8506", func := "lapwing/lapwinglaw05.CtrlUnlike", spec := "ctrlUnlike", named := ["lapwing/ctrl.first", "lapwing/ctrl.names"], apart := false, laid := [("lapwing/ctrl.first", laid_lapwing_ctrl_first), ("lapwing/ctrl.names", laid_lapwing_ctrl_names)], narrowed := true }
def CtrlUnlikeUptoSaid : Prop := ctrlUnlikeUptoRow.holds Tryd.pinned (OpenSpec.upto ctrlUnlikeSpec)

/-- 'lapwinglaw05.CtrlFinal', WHERE WHAT IT READS IS OF BULK AT MOST 1048576: true; the input reads as it did. -/
def ctrlFinalUptoRow : OpenClaim := { program := "ytbailgigabdhaaadoor", sum := "cedc29c53a260395b80fe884aea313dd4a3cee3c2de33893cb32edb06f9e8506", func := "lapwing/lapwinglaw05.CtrlFinal", spec := "ctrlFinal", named := ["lapwing/ctrl.first", "lapwing/ctrl.names"], apart := false, laid := [("lapwing/ctrl.first", laid_lapwing_ctrl_first), ("lapwing/ctrl.names", laid_lapwing_ctrl_names)], narrowed := true }
def CtrlFinalUptoSaid : Prop := ctrlFinalUptoRow.holds Tryd.pinned (OpenSpec.upto ctrlFinalSpec)

/-- 'lapwinglaw05.CtrlAll', WHERE WHAT IT READS IS OF BULK AT MOST 1048576: true; the input reads as it did. -/
def ctrlAllUptoRow : OpenClaim := { program := "ytbailgigabdhaaadoor", sum := "cedc29c53a260395b80fe884aea313dd4a3cee3c2de33893cb32edb06f9e8506", func := "lapwing/lapwinglaw05.CtrlAll", spec := "ctrlAll", named := ["lapwing/ctrl.first", "lapwing/ctrl.names"], apart := false, laid := [("lapwing/ctrl.first", laid_lapwing_ctrl_first), ("lapwing/ctrl.names", laid_lapwing_ctrl_names)], narrowed := true }
def CtrlAllUptoSaid : Prop := ctrlAllUptoRow.holds Tryd.pinned (OpenSpec.upto ctrlAllSpec)

/-- 'lapwinglaw05.CtrlBack', WHERE WHAT IT READS IS OF BULK AT MOST 1048576: true; the input reads as it did. -/
def ctrlBackUptoRow : OpenClaim := { program := "ytbailgigabdhaaadoor", sum := "cedc29c53a260395b80fe884aea313dd4a3cee3c2de33893cb32edb06f9e8506", func := "lapwing/lapwinglaw05.CtrlBack", spec := "ctrlBack", named := ["lapwing/ctrl.first", "lapwing/ctrl.names"], apart := false, laid := [("lapwing/ctrl.first", laid_lapwing_ctrl_first), ("lapwing/ctrl.names", laid_lapwing_ctrl_names)], narrowed := true }
def CtrlBackUptoSaid : Prop := ctrlBackUptoRow.holds Tryd.pinned (OpenSpec.upto ctrlBackSpec)

end Rows
end Go.Proofs.YtbailgigabdhaaaDoor
