/-
  NARROWER THAN 'FOR EVERY INPUT', by the rows' own cells (each row's printed sentence says how): FrameMay: laid · FramePuts: laid · FrameGets: laid · FrameBack: laid · FrameSides: laid · FrameKinds: laid · FrameBefore: laid · FrameBits: laid.
  DERIVED. THE GIVEN ROWS OF THIS SEAT. 8 by the template 'for every input the law returns true; each argument reads behind the call as it read before'; 0 by the template 'total and deterministic' (their statements: YtdpgdnbknmncfaaDoorTotals.lean).
  GIVEN WITH THE SEED: the statements are not yours to turn. If you find one false, say at which input.
  Laid BY PROGRAM, IN A SANDBOX (cutbox-rows.mjs): the forced cells as the released guide's own fill.sh prints them over the translation 79801c4c0b199e63… (all of the seat's roots in one cut). By AI agents, Wed Nov 11 2026. No macro, syntax, notation, axiom, sorry.
-/
import Derived.Test.YtdpgdnbknmncfaaDoorChecked
import GoSem.PinnedTables
import GoSem.Claim
import GoSem.ClaimJoined
import GoSem.ClaimMapViews
import Derived.JoinedTies
import Derived.KernelRfl
namespace Go.Proofs.YtdpgdnbknmncfaaDoor
/- THE CELL 'sum', in the pinned program and in every row, IS THE sha256 OF THE DUMP (.gsa) THAT YtdpgdnbknmncfaaDoorProg.lean LOADS. Nothing in Lean hashes anything: it is a label: what it is worth is what the hold of that sum in a sandbox is worth. -/
noncomputable def Tryd.pinned : Pinned := { name := "ytdpgdnbknmncfaadoor", sum := "79801c4c0b199e63937716c45fd3708eeefa6dc06784c810c96a23b018f0bf42", checked := Tryd.checked }
namespace Rows
def none {H : Type} : Left H := { results := [], args := [] }

/- WHAT THE LISTED PACKAGE-LEVEL VARIABLES READ AS WHEN THE CALL BEGINS. Each datum BY PROGRAM (the guide's laid-datum.mjs) off the statement by which the dump's own 'gosem.cut.vars' lays the variable. In a bare row this is a premise. The card (YtdpgdnbknmncfaaDoorCards.lean) ties it to the program's text. -/
def laid_lapwing_ctrl_first {H : Type} : DataW H := .agg [.lit (.int .u8 0), .lit (.int .u8 1), .lit (.int .u8 5), .lit (.int .u8 9), .lit (.int .u8 111), .lit (.int .u8 15), .lit (.int .u8 3), .lit (.int .u8 67), .lit (.int .u8 99), .lit (.int .u8 135)]
def laid_lapwing_ctrl_names {H : Type} : DataW H := .agg [.lit (.string [73]), .lit (.string [82, 82]), .lit (.string [82, 78, 82]), .lit (.string [82, 69, 74]), .lit (.string [83, 65, 66, 77, 69]), .lit (.string [68, 77]), .lit (.string [85, 73]), .lit (.string [68, 73, 83, 67]), .lit (.string [85, 65]), .lit (.string [70, 82, 77, 82])]
def laid_unicode_utf8_acceptRanges {H : Type} : DataW H := .agg [.agg [.lit (.int .u8 128), .lit (.int .u8 191)], .agg [.lit (.int .u8 160), .lit (.int .u8 191)], .agg [.lit (.int .u8 128), .lit (.int .u8 159)], .agg [.lit (.int .u8 144), .lit (.int .u8 191)], .agg [.lit (.int .u8 128), .lit (.int .u8 143)], .agg [.lit (.int .u8 0), .lit (.int .u8 0)], .agg [.lit (.int .u8 0), .lit (.int .u8 0)], .agg [.lit (.int .u8 0), .lit (.int .u8 0)], .agg [.lit (.int .u8 0), .lit (.int .u8 0)], .agg [.lit (.int .u8 0), .lit (.int .u8 0)], .agg [.lit (.int .u8 0), .lit (.int .u8 0)], .agg [.lit (.int .u8 0), .lit (.int .u8 0)], .agg [.lit (.int .u8 0), .lit (.int .u8 0)], .agg [.lit (.int .u8 0), .lit (.int .u8 0)], .agg [.lit (.int .u8 0), .lit (.int .u8 0)], .agg [.lit (.int .u8 0), .lit (.int .u8 0)]]
/-- One of Go's own tables, pinned by name: the form's constant. -/
def laid_unicode_utf8_first : DataW Unit := Go.Pinned.utf8First

/-- 'lapwinglaw06.FrameMay': WHATEVER THE INPUT: true; the input reads as it did. -/
def frameMaySpec : ChangeSpec := { name := "frameMay", fn := fun _ => fun
  | [d1, d2] => { results := [.lit (.bool true)], args := [d1, d2] }
  | _ => none }
def frameMayRow : OpenClaim := { program := "ytdpgdnbknmncfaadoor", sum := "79801c4c0b199e63937716c45fd3708eeefa6dc06784c810c96a23b018f0bf42", func := "lapwing/lapwinglaw06.FrameMay", spec := "frameMay", named := ["lapwing/ctrl.names", "lapwing/ctrl.first"], apart := false, laid := [("lapwing/ctrl.first", laid_lapwing_ctrl_first), ("lapwing/ctrl.names", laid_lapwing_ctrl_names)] }
def FrameMaySaid : Prop := frameMayRow.holds Tryd.pinned (OpenSpec.ofChange frameMaySpec)

/-- ITS FALSE NEIGHBOUR: 'it returns false'. Refute it at one input. -/
def frameMayWrong : ChangeSpec := { name := "frameMay", fn := fun _ => fun
  | [d1, d2] => { results := [.lit (.bool false)], args := [d1, d2] }
  | _ => none }
def FrameMayWrongFalsely : Prop := frameMayRow.holds Tryd.pinned (OpenSpec.ofChange frameMayWrong)

/-- 'lapwinglaw06.FramePuts': WHATEVER THE INPUT: true; the input reads as it did. -/
def framePutsSpec : ChangeSpec := { name := "framePuts", fn := fun _ => fun
  | [d1, d2] => { results := [.lit (.bool true)], args := [d1, d2] }
  | _ => none }
def framePutsRow : OpenClaim := { program := "ytdpgdnbknmncfaadoor", sum := "79801c4c0b199e63937716c45fd3708eeefa6dc06784c810c96a23b018f0bf42", func := "lapwing/lapwinglaw06.FramePuts", spec := "framePuts", named := ["lapwing/ctrl.first", "lapwing/ctrl.names"], apart := false, laid := [("lapwing/ctrl.first", laid_lapwing_ctrl_first), ("lapwing/ctrl.names", laid_lapwing_ctrl_names)] }
def FramePutsSaid : Prop := framePutsRow.holds Tryd.pinned (OpenSpec.ofChange framePutsSpec)

/-- ITS FALSE NEIGHBOUR: 'it returns false'. Refute it at one input. -/
def framePutsWrong : ChangeSpec := { name := "framePuts", fn := fun _ => fun
  | [d1, d2] => { results := [.lit (.bool false)], args := [d1, d2] }
  | _ => none }
def FramePutsWrongFalsely : Prop := framePutsRow.holds Tryd.pinned (OpenSpec.ofChange framePutsWrong)

/-- 'lapwinglaw06.FrameGets': WHATEVER THE INPUT: true; the input reads as it did. -/
def frameGetsSpec : ChangeSpec := { name := "frameGets", fn := fun _ => fun
  | [d1, d2, d3] => { results := [.lit (.bool true)], args := [d1, d2, d3] }
  | _ => none }
def frameGetsRow : OpenClaim := { program := "ytdpgdnbknmncfaadoor", sum := "79801c4c0b199e63937716c45fd3708eeefa6dc06784c810c96a23b018f0bf42", func := "lapwing/lapwinglaw06.FrameGets", spec := "frameGets", named := ["lapwing/ctrl.first", "lapwing/ctrl.names"], apart := false, laid := [("lapwing/ctrl.first", laid_lapwing_ctrl_first), ("lapwing/ctrl.names", laid_lapwing_ctrl_names)] }
def FrameGetsSaid : Prop := frameGetsRow.holds Tryd.pinned (OpenSpec.ofChange frameGetsSpec)

/-- ITS FALSE NEIGHBOUR: 'it returns false'. Refute it at one input. -/
def frameGetsWrong : ChangeSpec := { name := "frameGets", fn := fun _ => fun
  | [d1, d2, d3] => { results := [.lit (.bool false)], args := [d1, d2, d3] }
  | _ => none }
def FrameGetsWrongFalsely : Prop := frameGetsRow.holds Tryd.pinned (OpenSpec.ofChange frameGetsWrong)

/-- 'lapwinglaw06.FrameBack': WHATEVER THE INPUT: true; the input reads as it did. -/
def frameBackSpec : ChangeSpec := { name := "frameBack", fn := fun _ => fun
  | [d1, d2, d3] => { results := [.lit (.bool true)], args := [d1, d2, d3] }
  | _ => none }
def frameBackRow : OpenClaim := { program := "ytdpgdnbknmncfaadoor", sum := "79801c4c0b199e63937716c45fd3708eeefa6dc06784c810c96a23b018f0bf42", func := "lapwing/lapwinglaw06.FrameBack", spec := "frameBack", named := ["lapwing/ctrl.first", "lapwing/ctrl.names"], apart := false, laid := [("lapwing/ctrl.first", laid_lapwing_ctrl_first), ("lapwing/ctrl.names", laid_lapwing_ctrl_names)] }
def FrameBackSaid : Prop := frameBackRow.holds Tryd.pinned (OpenSpec.ofChange frameBackSpec)

/-- ITS FALSE NEIGHBOUR: 'it returns false'. Refute it at one input. -/
def frameBackWrong : ChangeSpec := { name := "frameBack", fn := fun _ => fun
  | [d1, d2, d3] => { results := [.lit (.bool false)], args := [d1, d2, d3] }
  | _ => none }
def FrameBackWrongFalsely : Prop := frameBackRow.holds Tryd.pinned (OpenSpec.ofChange frameBackWrong)

/-- 'lapwinglaw06.FrameSides': WHATEVER THE INPUT: true; the input reads as it did. -/
def frameSidesSpec : ChangeSpec := { name := "frameSides", fn := fun _ => fun
  | [d1, d2] => { results := [.lit (.bool true)], args := [d1, d2] }
  | _ => none }
def frameSidesRow : OpenClaim := { program := "ytdpgdnbknmncfaadoor", sum := "79801c4c0b199e63937716c45fd3708eeefa6dc06784c810c96a23b018f0bf42", func := "lapwing/lapwinglaw06.FrameSides", spec := "frameSides", named := ["lapwing/ctrl.first", "lapwing/ctrl.names"], apart := false, laid := [("lapwing/ctrl.first", laid_lapwing_ctrl_first), ("lapwing/ctrl.names", laid_lapwing_ctrl_names)] }
def FrameSidesSaid : Prop := frameSidesRow.holds Tryd.pinned (OpenSpec.ofChange frameSidesSpec)

/-- ITS FALSE NEIGHBOUR: 'it returns false'. Refute it at one input. -/
def frameSidesWrong : ChangeSpec := { name := "frameSides", fn := fun _ => fun
  | [d1, d2] => { results := [.lit (.bool false)], args := [d1, d2] }
  | _ => none }
def FrameSidesWrongFalsely : Prop := frameSidesRow.holds Tryd.pinned (OpenSpec.ofChange frameSidesWrong)

/-- 'lapwinglaw06.FrameKinds': WHATEVER THE INPUT: true; the input reads as it did. -/
def frameKindsSpec : ChangeSpec := { name := "frameKinds", fn := fun _ => fun
  | [d1, d2] => { results := [.lit (.bool true)], args := [d1, d2] }
  | _ => none }
def frameKindsRow : OpenClaim := { program := "ytdpgdnbknmncfaadoor", sum := "79801c4c0b199e63937716c45fd3708eeefa6dc06784c810c96a23b018f0bf42", func := "lapwing/lapwinglaw06.FrameKinds", spec := "frameKinds", named := ["lapwing/ctrl.first", "lapwing/ctrl.names"], apart := false, laid := [("lapwing/ctrl.first", laid_lapwing_ctrl_first), ("lapwing/ctrl.names", laid_lapwing_ctrl_names)] }
def FrameKindsSaid : Prop := frameKindsRow.holds Tryd.pinned (OpenSpec.ofChange frameKindsSpec)

/-- ITS FALSE NEIGHBOUR: 'it returns false'. Refute it at one input. -/
def frameKindsWrong : ChangeSpec := { name := "frameKinds", fn := fun _ => fun
  | [d1, d2] => { results := [.lit (.bool false)], args := [d1, d2] }
  | _ => none }
def FrameKindsWrongFalsely : Prop := frameKindsRow.holds Tryd.pinned (OpenSpec.ofChange frameKindsWrong)

/-- 'lapwinglaw06.FrameBefore': WHATEVER THE INPUT: true; the input reads as it did. -/
def frameBeforeSpec : ChangeSpec := { name := "frameBefore", fn := fun _ => fun
  | [d1, d2, d3] => { results := [.lit (.bool true)], args := [d1, d2, d3] }
  | _ => none }
def frameBeforeRow : OpenClaim := { program := "ytdpgdnbknmncfaadoor", sum := "79801c4c0b199e63937716c45fd3708eeefa6dc06784c810c96a23b018f0bf42", func := "lapwing/lapwinglaw06.FrameBefore", spec := "frameBefore", named := ["lapwing/ctrl.first", "lapwing/ctrl.names"], apart := false, laid := [("lapwing/ctrl.first", laid_lapwing_ctrl_first), ("lapwing/ctrl.names", laid_lapwing_ctrl_names)] }
def FrameBeforeSaid : Prop := frameBeforeRow.holds Tryd.pinned (OpenSpec.ofChange frameBeforeSpec)

/-- ITS FALSE NEIGHBOUR: 'it returns false'. Refute it at one input. -/
def frameBeforeWrong : ChangeSpec := { name := "frameBefore", fn := fun _ => fun
  | [d1, d2, d3] => { results := [.lit (.bool false)], args := [d1, d2, d3] }
  | _ => none }
def FrameBeforeWrongFalsely : Prop := frameBeforeRow.holds Tryd.pinned (OpenSpec.ofChange frameBeforeWrong)

/-- 'lapwinglaw06.FrameBits': WHATEVER THE INPUT: true; the input reads as it did. -/
def frameBitsSpec : ChangeSpec := { name := "frameBits", fn := fun _ => fun
  | [d1, d2, d3] => { results := [.lit (.bool true)], args := [d1, d2, d3] }
  | _ => none }
def frameBitsRow : OpenClaim := { program := "ytdpgdnbknmncfaadoor", sum := "79801c4c0b199e63937716c45fd3708eeefa6dc06784c810c96a23b018f0bf42", func := "lapwing/lapwinglaw06.FrameBits", spec := "frameBits", inPlace := ["internal/abi.NoEscape", "internal/bytealg.IndexByteString", "internal/bytealg.IndexString"], named := ["lapwing/ctrl.first", "lapwing/ctrl.names", "unicode/utf8.first", "unicode/utf8.acceptRanges", "internal/bytealg.MaxLen"], apart := false, laid := [("unicode/utf8.acceptRanges", laid_unicode_utf8_acceptRanges), ("lapwing/ctrl.first", laid_lapwing_ctrl_first), ("lapwing/ctrl.names", laid_lapwing_ctrl_names), ("unicode/utf8.first", laid_unicode_utf8_first)] }
def FrameBitsSaid : Prop := frameBitsRow.holds Tryd.pinned (OpenSpec.ofChange frameBitsSpec)

/-- ITS FALSE NEIGHBOUR: 'it returns false'. Refute it at one input. -/
def frameBitsWrong : ChangeSpec := { name := "frameBits", fn := fun _ => fun
  | [d1, d2, d3] => { results := [.lit (.bool false)], args := [d1, d2, d3] }
  | _ => none }
def FrameBitsWrongFalsely : Prop := frameBitsRow.holds Tryd.pinned (OpenSpec.ofChange frameBitsWrong)

/- THE SECOND FORM. 'bulk': how many values and letters a reading holds, each counted each time it is reached (what is shared counts as often as it is met; a slice's spare places count too). A statement '..UptoSaid' is the law's where the arguments, and the package variables that the reading takes, are together of bulk at most 1048576: NARROWER than '..Said'. Prove '..Said' where nothing that the law and all that it calls make is longer than what came in: it says more and counts as full. Else prove '..UptoSaid'. A law counts once. -/
mutual
def uptoBulk {H : Type} : DataW H → Nat
  | .lit (.string bytes) => bytes.length + 1
  | .lit _ => 1
  | .nil => 1
  | .ptr d => uptoBulk d + 1
  | .slice elems spare => uptoBulkAll elems + uptoBulkAll spare + 1
  | .agg parts => uptoBulkAll parts + 1
  | .iface _ d => uptoBulk d + 1
  | .map entries => uptoBulkEntries entries + 1
  | .held _ => 1
def uptoBulkAll {H : Type} : List (DataW H) → Nat
  | [] => 0
  | d :: r => uptoBulk d + uptoBulkAll r
def uptoBulkEntries {H : Type} : List (Lit × DataW H) → Nat
  | [] => 0
  | x :: r => uptoBulkEntry x + uptoBulkEntries r
def uptoBulkEntry {H : Type} : Lit × DataW H → Nat
  | (.string bytes, d) => bytes.length + uptoBulk d + 1
  | (_, d) => uptoBulk d + 1
 end
def uptoSmall : (H : Type) → List (DataW H) → Bool := fun _ ds => decide (uptoBulkAll ds ≤ 1048576)
def OpenSpec.upto (s : _root_.Go.ChangeSpec) : _root_.Go.OpenSpec := { _root_.Go.OpenSpec.ofChange s with cond := some uptoSmall }

/-- 'lapwinglaw06.FrameMay', WHERE WHAT IT READS IS OF BULK AT MOST 1048576: true; the input reads as it did. -/
def frameMayUptoRow : OpenClaim := { program := "ytdpgdnbknmncfaadoor", sum := "79801c4c0b199e63937716c45fd3708eeefa6dc06784c810c96a23b018f0bf42", func := "lapwing/lapwinglaw06.FrameMay", spec := "frameMay", named := ["lapwing/ctrl.names", "lapwing/ctrl.first"], apart := false, laid := [("lapwing/ctrl.first", laid_lapwing_ctrl_first), ("lapwing/ctrl.names", laid_lapwing_ctrl_names)], narrowed := true }
def FrameMayUptoSaid : Prop := frameMayUptoRow.holds Tryd.pinned (OpenSpec.upto frameMaySpec)

/-- 'lapwinglaw06.FramePuts', WHERE WHAT IT READS IS OF BULK AT MOST 1048576: true; the input reads as it did. -/
def framePutsUptoRow : OpenClaim := { program := "ytdpgdnbknmncfaadoor", sum := "79801c4c0b199e63937716c45fd3708eeefa6dc06784c810c96a23b018f0bf42", func := "lapwing/lapwinglaw06.FramePuts", spec := "framePuts", named := ["lapwing/ctrl.first", "lapwing/ctrl.names"], apart := false, laid := [("lapwing/ctrl.first", laid_lapwing_ctrl_first), ("lapwing/ctrl.names", laid_lapwing_ctrl_names)], narrowed := true }
def FramePutsUptoSaid : Prop := framePutsUptoRow.holds Tryd.pinned (OpenSpec.upto framePutsSpec)

/-- 'lapwinglaw06.FrameGets', WHERE WHAT IT READS IS OF BULK AT MOST 1048576: true; the input reads as it did. -/
def frameGetsUptoRow : OpenClaim := { program := "ytdpgdnbknmncfaadoor", sum := "79801c4c0b199e63937716c45fd3708eeefa6dc06784c810c96a23b018f0bf42", func := "lapwing/lapwinglaw06.FrameGets", spec := "frameGets", named := ["lapwing/ctrl.first", "lapwing/ctrl.names"], apart := false, laid := [("lapwing/ctrl.first", laid_lapwing_ctrl_first), ("lapwing/ctrl.names", laid_lapwing_ctrl_names)], narrowed := true }
def FrameGetsUptoSaid : Prop := frameGetsUptoRow.holds Tryd.pinned (OpenSpec.upto frameGetsSpec)

/-- 'lapwinglaw06.FrameBack', WHERE WHAT IT READS IS OF BULK AT MOST 1048576: true; the input reads as it did. -/
def frameBackUptoRow : OpenClaim := { program := "ytdpgdnbknmncfaadoor", sum := "79801c4c0b199e63937716c45fd3708eeefa6dc06784c810c96a23b018f0bf42", func := "lapwing/lapwinglaw06.FrameBack", spec := "frameBack", named := ["lapwing/ctrl.first", "lapwing/ctrl.names"], apart := false, laid := [("lapwing/ctrl.first", laid_lapwing_ctrl_first), ("lapwing/ctrl.names", laid_lapwing_ctrl_names)], narrowed := true }
def FrameBackUptoSaid : Prop := frameBackUptoRow.holds Tryd.pinned (OpenSpec.upto frameBackSpec)

/-- 'lapwinglaw06.FrameSides', WHERE WHAT IT READS IS OF BULK AT MOST 1048576: true; the input reads as it did. -/
def frameSidesUptoRow : OpenClaim := { program := "ytdpgdnbknmncfaadoor", sum := "79801c4c0b199e63937716c45fd3708eeefa6dc06784c810c96a23b018f0bf42", func := "lapwing/lapwinglaw06.FrameSides", spec := "frameSides", named := ["lapwing/ctrl.first", "lapwing/ctrl.names"], apart := false, laid := [("lapwing/ctrl.first", laid_lapwing_ctrl_first), ("lapwing/ctrl.names", laid_lapwing_ctrl_names)], narrowed := true }
def FrameSidesUptoSaid : Prop := frameSidesUptoRow.holds Tryd.pinned (OpenSpec.upto frameSidesSpec)

/-- 'lapwinglaw06.FrameKinds', WHERE WHAT IT READS IS OF BULK AT MOST 1048576: true; the input reads as it did. -/
def frameKindsUptoRow : OpenClaim := { program := "ytdpgdnbknmncfaadoor", sum := "79801c4c0b199e63937716c45fd3708eeefa6dc06784c810c96a23b018f0bf42", func := "lapwing/lapwinglaw06.FrameKinds", spec := "frameKinds", named := ["lapwing/ctrl.first", "lapwing/ctrl.names"], apart := false, laid := [("lapwing/ctrl.first", laid_lapwing_ctrl_first), ("lapwing/ctrl.names", laid_lapwing_ctrl_names)], narrowed := true }
def FrameKindsUptoSaid : Prop := frameKindsUptoRow.holds Tryd.pinned (OpenSpec.upto frameKindsSpec)

/-- 'lapwinglaw06.FrameBefore', WHERE WHAT IT READS IS OF BULK AT MOST 1048576: true; the input reads as it did. -/
def frameBeforeUptoRow : OpenClaim := { program := "ytdpgdnbknmncfaadoor", sum := "79801c4c0b199e63937716c45fd3708eeefa6dc06784c810c96a23b018f0bf42", func := "lapwing/lapwinglaw06.FrameBefore", spec := "frameBefore", named := ["lapwing/ctrl.first", "lapwing/ctrl.names"], apart := false, laid := [("lapwing/ctrl.first", laid_lapwing_ctrl_first), ("lapwing/ctrl.names", laid_lapwing_ctrl_names)], narrowed := true }
def FrameBeforeUptoSaid : Prop := frameBeforeUptoRow.holds Tryd.pinned (OpenSpec.upto frameBeforeSpec)

/-- 'lapwinglaw06.FrameBits', WHERE WHAT IT READS IS OF BULK AT MOST 1048576: true; the input reads as it did. -/
def frameBitsUptoRow : OpenClaim := { program := "ytdpgdnbknmncfaadoor", sum := "79801c4c0b199e63937716c45fd3708eeefa6dc06784c810c96a23b018f0bf42", func := "lapwing/lapwinglaw06.FrameBits", spec := "frameBits", inPlace := ["internal/abi.NoEscape", "internal/bytealg.IndexByteString", "internal/bytealg.IndexString"], named := ["lapwing/ctrl.first", "lapwing/ctrl.names", "unicode/utf8.first", "unicode/utf8.acceptRanges", "internal/bytealg.MaxLen"], apart := false, laid := [("unicode/utf8.acceptRanges", laid_unicode_utf8_acceptRanges), ("lapwing/ctrl.first", laid_lapwing_ctrl_first), ("lapwing/ctrl.names", laid_lapwing_ctrl_names), ("unicode/utf8.first", laid_unicode_utf8_first)], narrowed := true }
def FrameBitsUptoSaid : Prop := frameBitsUptoRow.holds Tryd.pinned (OpenSpec.upto frameBitsSpec)

end Rows
end Go.Proofs.YtdpgdnbknmncfaaDoor
