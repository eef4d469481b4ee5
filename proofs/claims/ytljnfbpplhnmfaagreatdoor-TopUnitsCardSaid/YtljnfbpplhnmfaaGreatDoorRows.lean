/-
  NARROWER THAN 'FOR EVERY INPUT', by the rows' own cells (each row's printed sentence says how): TopOrder: laid · TopProgress: laid · TopClean: laid · TopUnits: laid · TopGives: laid.
  DERIVED. THE GIVEN ROWS OF THIS SEAT. 5 by the template 'for every input the law returns true; each argument reads behind the call as it read before'; 0 by the template 'total and deterministic' (their statements: YtljnfbpplhnmfaaGreatDoorTotals.lean).
  GIVEN WITH THE SEED: the statements are not yours to turn. If you find one false, say at which input.
  Laid BY PROGRAM, IN A SANDBOX (cutbox-rows.mjs): the forced cells as the released guide's own fill.sh prints them over the translation 2e24eaa19b1642eb… (all of the seat's roots in one cut). By AI agents, Wed Nov 11 2026. No macro, syntax, notation, axiom, sorry.
-/
import Derived.Test.YtljnfbpplhnmfaaGreatDoorChecked
import GoSem.PinnedTables
import GoSem.Claim
import GoSem.ClaimJoined
import GoSem.ClaimMapViews
import Derived.JoinedTies
import Derived.KernelRfl
namespace Go.Proofs.YtljnfbpplhnmfaaGreatDoor
/- THE CELL 'sum', in the pinned program and in every row, IS THE sha256 OF THE DUMP (.gsa) THAT YtljnfbpplhnmfaaGreatDoorProg.lean LOADS. Nothing in Lean hashes anything: it is a label: what it is worth is what the hold of that sum in a sandbox is worth. -/
noncomputable def Tryz.pinned : Pinned := { name := "ytljnfbpplhnmfaagreatdoor", sum := "2e24eaa19b1642eb2c381551340d2858d139f6d801f440ea38efa556c016caae", checked := Tryz.checked }
namespace Rows
def none {H : Type} : Left H := { results := [], args := [] }

/- WHAT THE LISTED PACKAGE-LEVEL VARIABLES READ AS WHEN THE CALL BEGINS. Each datum BY PROGRAM (the guide's laid-datum.mjs) off the statement by which the dump's own 'gosem.cut.vars' lays the variable. In a bare row this is a premise. The card (YtljnfbpplhnmfaaGreatDoorCards.lean) ties it to the program's text. -/
def laid_unicode_utf8_acceptRanges {H : Type} : DataW H := .agg [.agg [.lit (.int .u8 128), .lit (.int .u8 191)], .agg [.lit (.int .u8 160), .lit (.int .u8 191)], .agg [.lit (.int .u8 128), .lit (.int .u8 159)], .agg [.lit (.int .u8 144), .lit (.int .u8 191)], .agg [.lit (.int .u8 128), .lit (.int .u8 143)], .agg [.lit (.int .u8 0), .lit (.int .u8 0)], .agg [.lit (.int .u8 0), .lit (.int .u8 0)], .agg [.lit (.int .u8 0), .lit (.int .u8 0)], .agg [.lit (.int .u8 0), .lit (.int .u8 0)], .agg [.lit (.int .u8 0), .lit (.int .u8 0)], .agg [.lit (.int .u8 0), .lit (.int .u8 0)], .agg [.lit (.int .u8 0), .lit (.int .u8 0)], .agg [.lit (.int .u8 0), .lit (.int .u8 0)], .agg [.lit (.int .u8 0), .lit (.int .u8 0)], .agg [.lit (.int .u8 0), .lit (.int .u8 0)], .agg [.lit (.int .u8 0), .lit (.int .u8 0)]]
def laid_lapwing_ctrl_first {H : Type} : DataW H := .agg [.lit (.int .u8 0), .lit (.int .u8 1), .lit (.int .u8 5), .lit (.int .u8 9), .lit (.int .u8 111), .lit (.int .u8 15), .lit (.int .u8 3), .lit (.int .u8 67), .lit (.int .u8 99), .lit (.int .u8 135)]
def laid_lapwing_ctrl_names {H : Type} : DataW H := .agg [.lit (.string [73]), .lit (.string [82, 82]), .lit (.string [82, 78, 82]), .lit (.string [82, 69, 74]), .lit (.string [83, 65, 66, 77, 69]), .lit (.string [68, 77]), .lit (.string [85, 73]), .lit (.string [68, 73, 83, 67]), .lit (.string [85, 65]), .lit (.string [70, 82, 77, 82])]
/-- One of Go's own tables, pinned by name: the form's constant. -/
def laid_unicode_utf8_first : DataW Unit := Go.Pinned.utf8First

/-- 'lapwingtop.TopOrder': WHATEVER THE INPUT: true; the input reads as it did. -/
def topOrderSpec : ChangeSpec := { name := "topOrder", fn := fun _ => fun
  | [d1, d2, d3] => { results := [.lit (.bool true)], args := [d1, d2, d3] }
  | _ => none }
def topOrderRow : OpenClaim := { program := "ytljnfbpplhnmfaagreatdoor", sum := "2e24eaa19b1642eb2c381551340d2858d139f6d801f440ea38efa556c016caae", func := "lapwing/lapwingtop.TopOrder", spec := "topOrder", inPlace := ["internal/abi.NoEscape", "internal/bytealg.IndexByteString", "internal/bytealg.IndexString"], named := ["lapwing/ctrl.first", "lapwing/ctrl.names", "unicode/utf8.first", "unicode/utf8.acceptRanges", "internal/bytealg.MaxLen"], apart := false, laid := [("unicode/utf8.acceptRanges", laid_unicode_utf8_acceptRanges), ("lapwing/ctrl.first", laid_lapwing_ctrl_first), ("lapwing/ctrl.names", laid_lapwing_ctrl_names), ("unicode/utf8.first", laid_unicode_utf8_first)] }
def TopOrderSaid : Prop := topOrderRow.holds Tryz.pinned (OpenSpec.ofChange topOrderSpec)

/-- ITS FALSE NEIGHBOUR: 'it returns false'. Refute it at one input. -/
def topOrderWrong : ChangeSpec := { name := "topOrder", fn := fun _ => fun
  | [d1, d2, d3] => { results := [.lit (.bool false)], args := [d1, d2, d3] }
  | _ => none }
def TopOrderWrongFalsely : Prop := topOrderRow.holds Tryz.pinned (OpenSpec.ofChange topOrderWrong)

/-- 'lapwingtop.TopProgress': WHATEVER THE INPUT: true; the input reads as it did. -/
def topProgressSpec : ChangeSpec := { name := "topProgress", fn := fun _ => fun
  | [d1, d2, d3] => { results := [.lit (.bool true)], args := [d1, d2, d3] }
  | _ => none }
def topProgressRow : OpenClaim := { program := "ytljnfbpplhnmfaagreatdoor", sum := "2e24eaa19b1642eb2c381551340d2858d139f6d801f440ea38efa556c016caae", func := "lapwing/lapwingtop.TopProgress", spec := "topProgress", inPlace := ["internal/abi.NoEscape", "internal/bytealg.IndexByteString", "internal/bytealg.IndexString"], named := ["lapwing/ctrl.first", "lapwing/ctrl.names", "unicode/utf8.first", "unicode/utf8.acceptRanges", "internal/bytealg.MaxLen"], apart := false, laid := [("unicode/utf8.acceptRanges", laid_unicode_utf8_acceptRanges), ("lapwing/ctrl.first", laid_lapwing_ctrl_first), ("lapwing/ctrl.names", laid_lapwing_ctrl_names), ("unicode/utf8.first", laid_unicode_utf8_first)] }
def TopProgressSaid : Prop := topProgressRow.holds Tryz.pinned (OpenSpec.ofChange topProgressSpec)

/-- ITS FALSE NEIGHBOUR: 'it returns false'. Refute it at one input. -/
def topProgressWrong : ChangeSpec := { name := "topProgress", fn := fun _ => fun
  | [d1, d2, d3] => { results := [.lit (.bool false)], args := [d1, d2, d3] }
  | _ => none }
def TopProgressWrongFalsely : Prop := topProgressRow.holds Tryz.pinned (OpenSpec.ofChange topProgressWrong)

/-- 'lapwingtop.TopClean': WHATEVER THE INPUT: true; the input reads as it did. -/
def topCleanSpec : ChangeSpec := { name := "topClean", fn := fun _ => fun
  | [d1, d2, d3] => { results := [.lit (.bool true)], args := [d1, d2, d3] }
  | _ => none }
def topCleanRow : OpenClaim := { program := "ytljnfbpplhnmfaagreatdoor", sum := "2e24eaa19b1642eb2c381551340d2858d139f6d801f440ea38efa556c016caae", func := "lapwing/lapwingtop.TopClean", spec := "topClean", inPlace := ["internal/abi.NoEscape", "internal/bytealg.IndexByteString", "internal/bytealg.IndexString"], named := ["lapwing/ctrl.first", "lapwing/ctrl.names", "unicode/utf8.first", "unicode/utf8.acceptRanges", "internal/bytealg.MaxLen"], apart := false, laid := [("unicode/utf8.acceptRanges", laid_unicode_utf8_acceptRanges), ("lapwing/ctrl.first", laid_lapwing_ctrl_first), ("lapwing/ctrl.names", laid_lapwing_ctrl_names), ("unicode/utf8.first", laid_unicode_utf8_first)] }
def TopCleanSaid : Prop := topCleanRow.holds Tryz.pinned (OpenSpec.ofChange topCleanSpec)

/-- ITS FALSE NEIGHBOUR: 'it returns false'. Refute it at one input. -/
def topCleanWrong : ChangeSpec := { name := "topClean", fn := fun _ => fun
  | [d1, d2, d3] => { results := [.lit (.bool false)], args := [d1, d2, d3] }
  | _ => none }
def TopCleanWrongFalsely : Prop := topCleanRow.holds Tryz.pinned (OpenSpec.ofChange topCleanWrong)

/-- 'lapwingtop.TopUnits': WHATEVER THE INPUT: true; the input reads as it did. -/
def topUnitsSpec : ChangeSpec := { name := "topUnits", fn := fun _ => fun
  | [d1, d2] => { results := [.lit (.bool true)], args := [d1, d2] }
  | _ => none }
def topUnitsRow : OpenClaim := { program := "ytljnfbpplhnmfaagreatdoor", sum := "2e24eaa19b1642eb2c381551340d2858d139f6d801f440ea38efa556c016caae", func := "lapwing/lapwingtop.TopUnits", spec := "topUnits", inPlace := ["internal/abi.NoEscape", "internal/bytealg.IndexByteString", "internal/bytealg.IndexString"], named := ["lapwing/ctrl.first", "lapwing/ctrl.names", "unicode/utf8.first", "unicode/utf8.acceptRanges", "internal/bytealg.MaxLen"], apart := false, laid := [("unicode/utf8.acceptRanges", laid_unicode_utf8_acceptRanges), ("lapwing/ctrl.first", laid_lapwing_ctrl_first), ("lapwing/ctrl.names", laid_lapwing_ctrl_names), ("unicode/utf8.first", laid_unicode_utf8_first)] }
def TopUnitsSaid : Prop := topUnitsRow.holds Tryz.pinned (OpenSpec.ofChange topUnitsSpec)

/-- ITS FALSE NEIGHBOUR: 'it returns false'. Refute it at one input. -/
def topUnitsWrong : ChangeSpec := { name := "topUnits", fn := fun _ => fun
  | [d1, d2] => { results := [.lit (.bool false)], args := [d1, d2] }
  | _ => none }
def TopUnitsWrongFalsely : Prop := topUnitsRow.holds Tryz.pinned (OpenSpec.ofChange topUnitsWrong)

/-- 'lapwingtop.TopGives': WHATEVER THE INPUT: true; the input reads as it did. -/
def topGivesSpec : ChangeSpec := { name := "topGives", fn := fun _ => fun
  | [d1, d2, d3] => { results := [.lit (.bool true)], args := [d1, d2, d3] }
  | _ => none }
def topGivesRow : OpenClaim := { program := "ytljnfbpplhnmfaagreatdoor", sum := "2e24eaa19b1642eb2c381551340d2858d139f6d801f440ea38efa556c016caae", func := "lapwing/lapwingtop.TopGives", spec := "topGives", inPlace := ["internal/abi.NoEscape", "internal/bytealg.IndexByteString", "internal/bytealg.IndexString"], unfollowed := true, recurses := true, named := ["lapwing/ctrl.first", "lapwing/ctrl.names", "unicode/utf8.first", "unicode/utf8.acceptRanges", "internal/bytealg.MaxLen"], apart := false, laid := [("unicode/utf8.acceptRanges", laid_unicode_utf8_acceptRanges), ("lapwing/ctrl.first", laid_lapwing_ctrl_first), ("lapwing/ctrl.names", laid_lapwing_ctrl_names), ("unicode/utf8.first", laid_unicode_utf8_first)] }
def TopGivesSaid : Prop := topGivesRow.holds Tryz.pinned (OpenSpec.ofChange topGivesSpec)

/-- ITS FALSE NEIGHBOUR: 'it returns false'. Refute it at one input. -/
def topGivesWrong : ChangeSpec := { name := "topGives", fn := fun _ => fun
  | [d1, d2, d3] => { results := [.lit (.bool false)], args := [d1, d2, d3] }
  | _ => none }
def TopGivesWrongFalsely : Prop := topGivesRow.holds Tryz.pinned (OpenSpec.ofChange topGivesWrong)

/- THE SECOND FORM. 'bulk': how many values and letters a reading holds, each counted each time it is reached (what is shared counts as often as it is met; a slice's spare places count too). A statement '..UptoSaid' is the law's where the arguments, and the package variables that the reading takes, are together of bulk at most 1048576: NARROWER than '..Said'. Prove '..Said' where nothing that the law and all that it calls make is longer than what came in: it says more and counts as full. Else prove '..UptoSaid'. A law counts once. -/
mutual
def uptoBulk {H : Type} : DataW H → Nat
  | .lit (.string bytes) => bytes.length + 1
  | .lit _ => 1
  | .nil => 1
  | .ptr d => uptoBulk d + 1
  | .slice elems spare => uptoBulkAll elems + uptoBulkAll spare + 1
  | .agg parts => uptoBulkAll parts + 1
  | .iface _ d => uptoBulk d + 1
  | .map entries => uptoBulkEntries entries + 1
  | .held _ => 1
def uptoBulkAll {H : Type} : List (DataW H) → Nat
  | [] => 0
  | d :: r => uptoBulk d + uptoBulkAll r
def uptoBulkEntries {H : Type} : List (Lit × DataW H) → Nat
  | [] => 0
  | x :: r => uptoBulkEntry x + uptoBulkEntries r
def uptoBulkEntry {H : Type} : Lit × DataW H → Nat
  | (.string bytes, d) => bytes.length + uptoBulk d + 1
  | (_, d) => uptoBulk d + 1
 end
def uptoSmall : (H : Type) → List (DataW H) → Bool := fun _ ds => decide (uptoBulkAll ds ≤ 1048576)
def OpenSpec.upto (s : _root_.Go.ChangeSpec) : _root_.Go.OpenSpec := { _root_.Go.OpenSpec.ofChange s with cond := some uptoSmall }

/-- 'lapwingtop.TopOrder', WHERE WHAT IT READS IS OF BULK AT MOST 1048576: true; the input reads as it did. -/
def topOrderUptoRow : OpenClaim := { program := "ytljnfbpplhnmfaagreatdoor", sum := "2e24eaa19b1642eb2c381551340d2858d139f6d801f440ea38efa556c016caae", func := "lapwing/lapwingtop.TopOrder", spec := "topOrder", inPlace := ["internal/abi.NoEscape", "internal/bytealg.IndexByteString", "internal/bytealg.IndexString"], named := ["lapwing/ctrl.first", "lapwing/ctrl.names", "unicode/utf8.first", "unicode/utf8.acceptRanges", "internal/bytealg.MaxLen"], apart := false, laid := [("unicode/utf8.acceptRanges", laid_unicode_utf8_acceptRanges), ("lapwing/ctrl.first", laid_lapwing_ctrl_first), ("lapwing/ctrl.names", laid_lapwing_ctrl_names), ("unicode/utf8.first", laid_unicode_utf8_first)], narrowed := true }
def TopOrderUptoSaid : Prop := topOrderUptoRow.holds Tryz.pinned (OpenSpec.upto topOrderSpec)

/-- 'lapwingtop.TopProgress', WHERE WHAT IT READS IS OF BULK AT MOST 1048576: true; the input reads as it did. -/
def topProgressUptoRow : OpenClaim := { program := "ytljnfbpplhnmfaagreatdoor", sum := "2e24eaa19b1642eb2c381551340d2858d139f6d801f440ea38efa556c016caae", func := "lapwing/lapwingtop.TopProgress", spec := "topProgress", inPlace := ["internal/abi.NoEscape", "internal/bytealg.IndexByteString", "internal/bytealg.IndexString"], named := ["lapwing/ctrl.first", "lapwing/ctrl.names", "unicode/utf8.first", "unicode/utf8.acceptRanges", "internal/bytealg.MaxLen"], apart := false, laid := [("unicode/utf8.acceptRanges", laid_unicode_utf8_acceptRanges), ("lapwing/ctrl.first", laid_lapwing_ctrl_first), ("lapwing/ctrl.names", laid_lapwing_ctrl_names), ("unicode/utf8.first", laid_unicode_utf8_first)], narrowed := true }
def TopProgressUptoSaid : Prop := topProgressUptoRow.holds Tryz.pinned (OpenSpec.upto topProgressSpec)

/-- 'lapwingtop.TopClean', WHERE WHAT IT READS IS OF BULK AT MOST 1048576: true; the input reads as it did. -/
def topCleanUptoRow : OpenClaim := { program := "ytljnfbpplhnmfaagreatdoor", sum := "2e24eaa19b1642eb2c381551340d2858d139f6d801f440ea38efa556c016caae", func := "lapwing/lapwingtop.TopClean", spec := "topClean", inPlace := ["internal/abi.NoEscape", "internal/bytealg.IndexByteString", "internal/bytealg.IndexString"], named := ["lapwing/ctrl.first", "lapwing/ctrl.names", "unicode/utf8.first", "unicode/utf8.acceptRanges", "internal/bytealg.MaxLen"], apart := false, laid := [("unicode/utf8.acceptRanges", laid_unicode_utf8_acceptRanges), ("lapwing/ctrl.first", laid_lapwing_ctrl_first), ("lapwing/ctrl.names", laid_lapwing_ctrl_names), ("unicode/utf8.first", laid_unicode_utf8_first)], narrowed := true }
def TopCleanUptoSaid : Prop := topCleanUptoRow.holds Tryz.pinned (OpenSpec.upto topCleanSpec)

/-- 'lapwingtop.TopUnits', WHERE WHAT IT READS IS OF BULK AT MOST 1048576: true; the input reads as it did. -/
def topUnitsUptoRow : OpenClaim := { program := "ytljnfbpplhnmfaagreatdoor", sum := "2e24eaa19b1642eb2c381551340d2858d139f6d801f440ea38efa556c016caae", func := "lapwing/lapwingtop.TopUnits", spec := "topUnits", inPlace := ["internal/abi.NoEscape", "internal/bytealg.IndexByteString", "internal/bytealg.IndexString"], named := ["lapwing/ctrl.first", "lapwing/ctrl.names", "unicode/utf8.first", "unicode/utf8.acceptRanges", "internal/bytealg.MaxLen"], apart := false, laid := [("unicode/utf8.acceptRanges", laid_unicode_utf8_acceptRanges), ("lapwing/ctrl.first", laid_lapwing_ctrl_first), ("lapwing/ctrl.names", laid_lapwing_ctrl_names), ("unicode/utf8.first", laid_unicode_utf8_first)], narrowed := true }
def TopUnitsUptoSaid : Prop := topUnitsUptoRow.holds Tryz.pinned (OpenSpec.upto topUnitsSpec)

/-- 'lapwingtop.TopGives', WHERE WHAT IT READS IS OF BULK AT MOST 1048576: true; the input reads as it did. -/
def topGivesUptoRow : OpenClaim := { program := "ytljnfbpplhnmfaagreatdoor", sum := "2e24eaa19b1642eb2c381551340d2858d139f6d801f440ea38efa556c016caae", func := "lapwing/lapwingtop.TopGives", spec := "topGives", inPlace := ["internal/abi.NoEscape", "internal/bytealg.IndexByteString", "internal/bytealg.IndexString"], unfollowed := true, recurses := true, named := ["lapwing/ctrl.first", "lapwing/ctrl.names", "unicode/utf8.first", "unicode/utf8.acceptRanges", "internal/bytealg.MaxLen"], apart := false, laid := [("unicode/utf8.acceptRanges", laid_unicode_utf8_acceptRanges), ("lapwing/ctrl.first", laid_lapwing_ctrl_first), ("lapwing/ctrl.names", laid_lapwing_ctrl_names), ("unicode/utf8.first", laid_unicode_utf8_first)], narrowed := true }
def TopGivesUptoSaid : Prop := topGivesUptoRow.holds Tryz.pinned (OpenSpec.upto topGivesSpec)

end Rows
end Go.Proofs.YtljnfbpplhnmfaaGreatDoor
