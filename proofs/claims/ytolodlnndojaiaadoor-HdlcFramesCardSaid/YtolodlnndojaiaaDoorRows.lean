/-
  NARROWER THAN 'FOR EVERY INPUT', by the rows' own cells (each row's printed sentence says how): HdlcLong: laid · HdlcFlags: laid · HdlcFeeds: laid · HdlcPieces: laid · HdlcAborts: laid · HdlcIdles: laid · HdlcStuffs: laid · HdlcBack: laid · HdlcFrames: laid.
  DERIVED. THE GIVEN ROWS OF THIS SEAT. 9 by the template 'for every input the law returns true; each argument reads behind the call as it read before'; 0 by the template 'total and deterministic' (their statements: YtolodlnndojaiaaDoorTotals.lean).
  GIVEN WITH THE SEED: the statements are not yours to turn. If you find one false, say at which input.
  Laid BY PROGRAM, IN A SANDBOX (cutbox-rows.mjs): the forced cells as the released guide's own fill.sh prints them over the translation 7dd2d460161868cf… (all of the seat's roots in one cut). By AI agents, Wed Nov 11 2026. No macro, syntax, notation, axiom, sorry.
-/
import Derived.Test.YtolodlnndojaiaaDoorChecked
import GoSem.PinnedTables
import GoSem.Claim
import GoSem.ClaimJoined
import GoSem.ClaimMapViews
import Derived.JoinedTies
import Derived.KernelRfl
namespace Go.Proofs.YtolodlnndojaiaaDoor
/- THE CELL 'sum', in the pinned program and in every row, IS THE sha256 OF THE DUMP (.gsa) THAT YtolodlnndojaiaaDoorProg.lean LOADS. Nothing in Lean hashes anything: it is a label: what it is worth is what the hold of that sum in a sandbox is worth. -/
noncomputable def Tryd.pinned : Pinned := { name := "ytolodlnndojaiaadoor", sum := "7dd2d460161868cf508c9931325b1f02d8ac118b1d4ae60bbb8f8c8333d17c6e", checked := Tryd.checked }
namespace Rows
def none {H : Type} : Left H := { results := [], args := [] }

/- WHAT THE LISTED PACKAGE-LEVEL VARIABLES READ AS WHEN THE CALL BEGINS. Each datum BY PROGRAM (the guide's laid-datum.mjs) off the statement by which the dump's own 'gosem.cut.vars' lays the variable. In a bare row this is a premise. The card (YtolodlnndojaiaaDoorCards.lean) ties it to the program's text. -/
def laid_unicode_utf8_acceptRanges {H : Type} : DataW H := .agg [.agg [.lit (.int .u8 128), .lit (.int .u8 191)], .agg [.lit (.int .u8 160), .lit (.int .u8 191)], .agg [.lit (.int .u8 128), .lit (.int .u8 159)], .agg [.lit (.int .u8 144), .lit (.int .u8 191)], .agg [.lit (.int .u8 128), .lit (.int .u8 143)], .agg [.lit (.int .u8 0), .lit (.int .u8 0)], .agg [.lit (.int .u8 0), .lit (.int .u8 0)], .agg [.lit (.int .u8 0), .lit (.int .u8 0)], .agg [.lit (.int .u8 0), .lit (.int .u8 0)], .agg [.lit (.int .u8 0), .lit (.int .u8 0)], .agg [.lit (.int .u8 0), .lit (.int .u8 0)], .agg [.lit (.int .u8 0), .lit (.int .u8 0)], .agg [.lit (.int .u8 0), .lit (.int .u8 0)], .agg [.lit (.int .u8 0), .lit (.int .u8 0)], .agg [.lit (.int .u8 0), .lit (.int .u8 0)], .agg [.lit (.int .u8 0), .lit (.int .u8 0)]]
/-- One of Go's own tables, pinned by name: the form's constant. -/
def laid_unicode_utf8_first : DataW Unit := Go.Pinned.utf8First

/-- 'lapwinglaw03.HdlcLong': WHATEVER THE INPUT: true; the input reads as it did. -/
def hdlcLongSpec : ChangeSpec := { name := "hdlcLong", fn := fun _ => fun
  | [d1, d2, d3] => { results := [.lit (.bool true)], args := [d1, d2, d3] }
  | _ => none }
def hdlcLongRow : OpenClaim := { program := "ytolodlnndojaiaadoor", sum := "7dd2d460161868cf508c9931325b1f02d8ac118b1d4ae60bbb8f8c8333d17c6e", func := "lapwing/lapwinglaw03.HdlcLong", spec := "hdlcLong", inPlace := ["internal/abi.NoEscape", "internal/bytealg.IndexByteString", "internal/bytealg.IndexString"], named := ["unicode/utf8.first", "unicode/utf8.acceptRanges", "internal/bytealg.MaxLen"], apart := false, laid := [("unicode/utf8.acceptRanges", laid_unicode_utf8_acceptRanges), ("unicode/utf8.first", laid_unicode_utf8_first)] }
def HdlcLongSaid : Prop := hdlcLongRow.holds Tryd.pinned (OpenSpec.ofChange hdlcLongSpec)

/-- ITS FALSE NEIGHBOUR: 'it returns false'. Refute it at one input. -/
def hdlcLongWrong : ChangeSpec := { name := "hdlcLong", fn := fun _ => fun
  | [d1, d2, d3] => { results := [.lit (.bool false)], args := [d1, d2, d3] }
  | _ => none }
def HdlcLongWrongFalsely : Prop := hdlcLongRow.holds Tryd.pinned (OpenSpec.ofChange hdlcLongWrong)

/-- 'lapwinglaw03.HdlcFlags': WHATEVER THE INPUT: true; the input reads as it did. -/
def hdlcFlagsSpec : ChangeSpec := { name := "hdlcFlags", fn := fun _ => fun
  | [d1, d2, d3] => { results := [.lit (.bool true)], args := [d1, d2, d3] }
  | _ => none }
def hdlcFlagsRow : OpenClaim := { program := "ytolodlnndojaiaadoor", sum := "7dd2d460161868cf508c9931325b1f02d8ac118b1d4ae60bbb8f8c8333d17c6e", func := "lapwing/lapwinglaw03.HdlcFlags", spec := "hdlcFlags", inPlace := ["internal/abi.NoEscape", "internal/bytealg.IndexByteString", "internal/bytealg.IndexString"], named := ["unicode/utf8.first", "unicode/utf8.acceptRanges", "internal/bytealg.MaxLen"], apart := false, laid := [("unicode/utf8.acceptRanges", laid_unicode_utf8_acceptRanges), ("unicode/utf8.first", laid_unicode_utf8_first)] }
def HdlcFlagsSaid : Prop := hdlcFlagsRow.holds Tryd.pinned (OpenSpec.ofChange hdlcFlagsSpec)

/-- ITS FALSE NEIGHBOUR: 'it returns false'. Refute it at one input. -/
def hdlcFlagsWrong : ChangeSpec := { name := "hdlcFlags", fn := fun _ => fun
  | [d1, d2, d3] => { results := [.lit (.bool false)], args := [d1, d2, d3] }
  | _ => none }
def HdlcFlagsWrongFalsely : Prop := hdlcFlagsRow.holds Tryd.pinned (OpenSpec.ofChange hdlcFlagsWrong)

/-- 'lapwinglaw03.HdlcFeeds': WHATEVER THE INPUT: true; the input reads as it did. -/
def hdlcFeedsSpec : ChangeSpec := { name := "hdlcFeeds", fn := fun _ => fun
  | [d] => { results := [.lit (.bool true)], args := [d] }
  | _ => none }
def hdlcFeedsRow : OpenClaim := { program := "ytolodlnndojaiaadoor", sum := "7dd2d460161868cf508c9931325b1f02d8ac118b1d4ae60bbb8f8c8333d17c6e", func := "lapwing/lapwinglaw03.HdlcFeeds", spec := "hdlcFeeds", inPlace := ["internal/abi.NoEscape", "internal/bytealg.IndexByteString", "internal/bytealg.IndexString"], named := ["unicode/utf8.first", "unicode/utf8.acceptRanges", "internal/bytealg.MaxLen"], apart := false, laid := [("unicode/utf8.acceptRanges", laid_unicode_utf8_acceptRanges), ("unicode/utf8.first", laid_unicode_utf8_first)] }
def HdlcFeedsSaid : Prop := hdlcFeedsRow.holds Tryd.pinned (OpenSpec.ofChange hdlcFeedsSpec)

/-- ITS FALSE NEIGHBOUR: 'it returns false'. Refute it at one input. -/
def hdlcFeedsWrong : ChangeSpec := { name := "hdlcFeeds", fn := fun _ => fun
  | [d] => { results := [.lit (.bool false)], args := [d] }
  | _ => none }
def HdlcFeedsWrongFalsely : Prop := hdlcFeedsRow.holds Tryd.pinned (OpenSpec.ofChange hdlcFeedsWrong)

/-- 'lapwinglaw03.HdlcPieces': WHATEVER THE INPUT: true; the input reads as it did. -/
def hdlcPiecesSpec : ChangeSpec := { name := "hdlcPieces", fn := fun _ => fun
  | [d1, d2] => { results := [.lit (.bool true)], args := [d1, d2] }
  | _ => none }
def hdlcPiecesRow : OpenClaim := { program := "ytolodlnndojaiaadoor", sum := "7dd2d460161868cf508c9931325b1f02d8ac118b1d4ae60bbb8f8c8333d17c6e", func := "lapwing/lapwinglaw03.HdlcPieces", spec := "hdlcPieces", inPlace := ["internal/bytealg.IndexByteString", "internal/bytealg.IndexString", "internal/abi.NoEscape"], named := ["unicode/utf8.first", "unicode/utf8.acceptRanges", "internal/bytealg.MaxLen"], apart := false, laid := [("unicode/utf8.acceptRanges", laid_unicode_utf8_acceptRanges), ("unicode/utf8.first", laid_unicode_utf8_first)] }
def HdlcPiecesSaid : Prop := hdlcPiecesRow.holds Tryd.pinned (OpenSpec.ofChange hdlcPiecesSpec)

/-- ITS FALSE NEIGHBOUR: 'it returns false'. Refute it at one input. -/
def hdlcPiecesWrong : ChangeSpec := { name := "hdlcPieces", fn := fun _ => fun
  | [d1, d2] => { results := [.lit (.bool false)], args := [d1, d2] }
  | _ => none }
def HdlcPiecesWrongFalsely : Prop := hdlcPiecesRow.holds Tryd.pinned (OpenSpec.ofChange hdlcPiecesWrong)

/-- 'lapwinglaw03.HdlcAborts': WHATEVER THE INPUT: true; the input reads as it did. -/
def hdlcAbortsSpec : ChangeSpec := { name := "hdlcAborts", fn := fun _ => fun
  | [d1, d2, d3] => { results := [.lit (.bool true)], args := [d1, d2, d3] }
  | _ => none }
def hdlcAbortsRow : OpenClaim := { program := "ytolodlnndojaiaadoor", sum := "7dd2d460161868cf508c9931325b1f02d8ac118b1d4ae60bbb8f8c8333d17c6e", func := "lapwing/lapwinglaw03.HdlcAborts", spec := "hdlcAborts", inPlace := ["internal/abi.NoEscape", "internal/bytealg.IndexByteString", "internal/bytealg.IndexString"], named := ["unicode/utf8.first", "unicode/utf8.acceptRanges", "internal/bytealg.MaxLen"], apart := false, laid := [("unicode/utf8.acceptRanges", laid_unicode_utf8_acceptRanges), ("unicode/utf8.first", laid_unicode_utf8_first)] }
def HdlcAbortsSaid : Prop := hdlcAbortsRow.holds Tryd.pinned (OpenSpec.ofChange hdlcAbortsSpec)

/-- ITS FALSE NEIGHBOUR: 'it returns false'. Refute it at one input. -/
def hdlcAbortsWrong : ChangeSpec := { name := "hdlcAborts", fn := fun _ => fun
  | [d1, d2, d3] => { results := [.lit (.bool false)], args := [d1, d2, d3] }
  | _ => none }
def HdlcAbortsWrongFalsely : Prop := hdlcAbortsRow.holds Tryd.pinned (OpenSpec.ofChange hdlcAbortsWrong)

/-- 'lapwinglaw03.HdlcIdles': WHATEVER THE INPUT: true; the input reads as it did. -/
def hdlcIdlesSpec : ChangeSpec := { name := "hdlcIdles", fn := fun _ => fun
  | [d1, d2] => { results := [.lit (.bool true)], args := [d1, d2] }
  | _ => none }
def hdlcIdlesRow : OpenClaim := { program := "ytolodlnndojaiaadoor", sum := "7dd2d460161868cf508c9931325b1f02d8ac118b1d4ae60bbb8f8c8333d17c6e", func := "lapwing/lapwinglaw03.HdlcIdles", spec := "hdlcIdles", inPlace := ["internal/abi.NoEscape", "internal/bytealg.IndexByteString", "internal/bytealg.IndexString"], named := ["unicode/utf8.first", "unicode/utf8.acceptRanges", "internal/bytealg.MaxLen"], apart := false, laid := [("unicode/utf8.acceptRanges", laid_unicode_utf8_acceptRanges), ("unicode/utf8.first", laid_unicode_utf8_first)] }
def HdlcIdlesSaid : Prop := hdlcIdlesRow.holds Tryd.pinned (OpenSpec.ofChange hdlcIdlesSpec)

/-- ITS FALSE NEIGHBOUR: 'it returns false'. Refute it at one input. -/
def hdlcIdlesWrong : ChangeSpec := { name := "hdlcIdles", fn := fun _ => fun
  | [d1, d2] => { results := [.lit (.bool false)], args := [d1, d2] }
  | _ => none }
def HdlcIdlesWrongFalsely : Prop := hdlcIdlesRow.holds Tryd.pinned (OpenSpec.ofChange hdlcIdlesWrong)

/-- 'lapwinglaw03.HdlcStuffs': WHATEVER THE INPUT: true; the input reads as it did. -/
def hdlcStuffsSpec : ChangeSpec := { name := "hdlcStuffs", fn := fun _ => fun
  | [d1, d2] => { results := [.lit (.bool true)], args := [d1, d2] }
  | _ => none }
def hdlcStuffsRow : OpenClaim := { program := "ytolodlnndojaiaadoor", sum := "7dd2d460161868cf508c9931325b1f02d8ac118b1d4ae60bbb8f8c8333d17c6e", func := "lapwing/lapwinglaw03.HdlcStuffs", spec := "hdlcStuffs", inPlace := ["internal/bytealg.IndexByteString", "internal/bytealg.IndexString", "internal/abi.NoEscape", "internal/bytealg.MakeNoZero", "internal/bytealg.CountString"], named := ["unicode/utf8.first", "unicode/utf8.acceptRanges", "internal/bytealg.MaxLen"], apart := false, laid := [("unicode/utf8.acceptRanges", laid_unicode_utf8_acceptRanges), ("unicode/utf8.first", laid_unicode_utf8_first)] }
def HdlcStuffsSaid : Prop := hdlcStuffsRow.holds Tryd.pinned (OpenSpec.ofChange hdlcStuffsSpec)

/-- ITS FALSE NEIGHBOUR: 'it returns false'. Refute it at one input. -/
def hdlcStuffsWrong : ChangeSpec := { name := "hdlcStuffs", fn := fun _ => fun
  | [d1, d2] => { results := [.lit (.bool false)], args := [d1, d2] }
  | _ => none }
def HdlcStuffsWrongFalsely : Prop := hdlcStuffsRow.holds Tryd.pinned (OpenSpec.ofChange hdlcStuffsWrong)

/-- 'lapwinglaw03.HdlcBack': WHATEVER THE INPUT: true; the input reads as it did. -/
def hdlcBackSpec : ChangeSpec := { name := "hdlcBack", fn := fun _ => fun
  | [d] => { results := [.lit (.bool true)], args := [d] }
  | _ => none }
def hdlcBackRow : OpenClaim := { program := "ytolodlnndojaiaadoor", sum := "7dd2d460161868cf508c9931325b1f02d8ac118b1d4ae60bbb8f8c8333d17c6e", func := "lapwing/lapwinglaw03.HdlcBack", spec := "hdlcBack", inPlace := ["internal/abi.NoEscape", "internal/bytealg.IndexByteString", "internal/bytealg.IndexString", "internal/bytealg.MakeNoZero", "internal/bytealg.CountString"], named := ["unicode/utf8.first", "unicode/utf8.acceptRanges", "internal/bytealg.MaxLen"], apart := false, laid := [("unicode/utf8.acceptRanges", laid_unicode_utf8_acceptRanges), ("unicode/utf8.first", laid_unicode_utf8_first)] }
def HdlcBackSaid : Prop := hdlcBackRow.holds Tryd.pinned (OpenSpec.ofChange hdlcBackSpec)

/-- ITS FALSE NEIGHBOUR: 'it returns false'. Refute it at one input. -/
def hdlcBackWrong : ChangeSpec := { name := "hdlcBack", fn := fun _ => fun
  | [d] => { results := [.lit (.bool false)], args := [d] }
  | _ => none }
def HdlcBackWrongFalsely : Prop := hdlcBackRow.holds Tryd.pinned (OpenSpec.ofChange hdlcBackWrong)

/-- 'lapwinglaw03.HdlcFrames': WHATEVER THE INPUT: true; the input reads as it did. -/
def hdlcFramesSpec : ChangeSpec := { name := "hdlcFrames", fn := fun _ => fun
  | [d1, d2, d3] => { results := [.lit (.bool true)], args := [d1, d2, d3] }
  | _ => none }
def hdlcFramesRow : OpenClaim := { program := "ytolodlnndojaiaadoor", sum := "7dd2d460161868cf508c9931325b1f02d8ac118b1d4ae60bbb8f8c8333d17c6e", func := "lapwing/lapwinglaw03.HdlcFrames", spec := "hdlcFrames", inPlace := ["internal/abi.NoEscape", "internal/bytealg.IndexByteString", "internal/bytealg.IndexString", "internal/bytealg.MakeNoZero", "internal/bytealg.CountString"], named := ["unicode/utf8.first", "unicode/utf8.acceptRanges", "internal/bytealg.MaxLen"], apart := false, laid := [("unicode/utf8.acceptRanges", laid_unicode_utf8_acceptRanges), ("unicode/utf8.first", laid_unicode_utf8_first)] }
def HdlcFramesSaid : Prop := hdlcFramesRow.holds Tryd.pinned (OpenSpec.ofChange hdlcFramesSpec)

/-- ITS FALSE NEIGHBOUR: 'it returns false'. Refute it at one input. -/
def hdlcFramesWrong : ChangeSpec := { name := "hdlcFrames", fn := fun _ => fun
  | [d1, d2, d3] => { results := [.lit (.bool false)], args := [d1, d2, d3] }
  | _ => none }
def HdlcFramesWrongFalsely : Prop := hdlcFramesRow.holds Tryd.pinned (OpenSpec.ofChange hdlcFramesWrong)

/- THE SECOND FORM. 'bulk': how many values and letters a reading holds, each counted each time it is reached (what is shared counts as often as it is met; a slice's spare places count too). A statement '..UptoSaid' is the law's where the arguments, and the package variables that the reading takes, are together of bulk at most 1048576: NARROWER than '..Said'. Prove '..Said' where nothing that the law and all that it calls make is longer than what came in: it says more and counts as full. Else prove '..UptoSaid'. A law counts once. -/
mutual
def uptoBulk {H : Type} : DataW H → Nat
  | .lit (.string bytes) => bytes.length + 1
  | .lit _ => 1
  | .nil => 1
  | .ptr d => uptoBulk d + 1
  | .slice elems spare => uptoBulkAll elems + uptoBulkAll spare + 1
  | .agg parts => uptoBulkAll parts + 1
  | .iface _ d => uptoBulk d + 1
  | .map entries => uptoBulkEntries entries + 1
  | .held _ => 1
def uptoBulkAll {H : Type} : List (DataW H) → Nat
  | [] => 0
  | d :: r => uptoBulk d + uptoBulkAll r
def uptoBulkEntries {H : Type} : List (Lit × DataW H) → Nat
  | [] => 0
  | x :: r => uptoBulkEntry x + uptoBulkEntries r
def uptoBulkEntry {H : Type} : Lit × DataW H → Nat
  | (.string bytes, d) => bytes.length + uptoBulk d + 1
  | (_, d) => uptoBulk d + 1
 end
def uptoSmall : (H : Type) → List (DataW H) → Bool := fun _ ds => decide (uptoBulkAll ds ≤ 1048576)
def OpenSpec.upto (s : _root_.Go.ChangeSpec) : _root_.Go.OpenSpec := { _root_.Go.OpenSpec.ofChange s with cond := some uptoSmall }

/-- 'lapwinglaw03.HdlcLong', WHERE WHAT IT READS IS OF BULK AT MOST 1048576: true; the input reads as it did. -/
def hdlcLongUptoRow : OpenClaim := { program := "ytolodlnndojaiaadoor", sum := "7dd2d460161868cf508c9931325b1f02d8ac118b1d4ae60bbb8f8c8333d17c6e", func := "lapwing/lapwinglaw03.HdlcLong", spec := "hdlcLong", inPlace := ["internal/abi.NoEscape", "internal/bytealg.IndexByteString", "internal/bytealg.IndexString"], named := ["unicode/utf8.first", "unicode/utf8.acceptRanges", "internal/bytealg.MaxLen"], apart := false, laid := [("unicode/utf8.acceptRanges", laid_unicode_utf8_acceptRanges), ("unicode/utf8.first", laid_unicode_utf8_first)], narrowed := true }
def HdlcLongUptoSaid : Prop := hdlcLongUptoRow.holds Tryd.pinned (OpenSpec.upto hdlcLongSpec)

/-- 'lapwinglaw03.HdlcFlags', WHERE WHAT IT READS IS OF BULK AT MOST 1048576: true; the input reads as it did. -/
def hdlcFlagsUptoRow : OpenClaim := { program := "ytolodlnndojaiaadoor", sum := "7dd2d460161868cf508c9931325b1f02d8ac118b1d4ae60bbb8f8c8333d17c6e", func := "lapwing/lapwinglaw03.HdlcFlags", spec := "hdlcFlags", inPlace := ["internal/abi.NoEscape", "internal/bytealg.IndexByteString", "internal/bytealg.IndexString"], named := ["unicode/utf8.first", "unicode/utf8.acceptRanges", "internal/bytealg.MaxLen"], apart := false, laid := [("unicode/utf8.acceptRanges", laid_unicode_utf8_acceptRanges), ("unicode/utf8.first", laid_unicode_utf8_first)], narrowed := true }
def HdlcFlagsUptoSaid : Prop := hdlcFlagsUptoRow.holds Tryd.pinned (OpenSpec.upto hdlcFlagsSpec)

/-- 'lapwinglaw03.HdlcFeeds', WHERE WHAT IT READS IS OF BULK AT MOST 1048576: true; the input reads as it did. -/
def hdlcFeedsUptoRow : OpenClaim := { program := "ytolodlnndojaiaadoor", sum := "7dd2d460161868cf508c9931325b1f02d8ac118b1d4ae60bbb8f8c8333d17c6e", func := "lapwing/lapwinglaw03.HdlcFeeds", spec := "hdlcFeeds", inPlace := ["internal/abi.NoEscape", "internal/bytealg.IndexByteString", "internal/bytealg.IndexString"], named := ["unicode/utf8.first", "unicode/utf8.acceptRanges", "internal/bytealg.MaxLen"], apart := false, laid := [("unicode/utf8.acceptRanges", laid_unicode_utf8_acceptRanges), ("unicode/utf8.first", laid_unicode_utf8_first)], narrowed := true }
def HdlcFeedsUptoSaid : Prop := hdlcFeedsUptoRow.holds Tryd.pinned (OpenSpec.upto hdlcFeedsSpec)

/-- 'lapwinglaw03.HdlcPieces', WHERE WHAT IT READS IS OF BULK AT MOST 1048576: true; the input reads as it did. -/
def hdlcPiecesUptoRow : OpenClaim := { program := "ytolodlnndojaiaadoor", sum := "7dd2d460161868cf508c9931325b1f02d8ac118b1d4ae60bbb8f8c8333d17c6e", func := "lapwing/lapwinglaw03.HdlcPieces", spec := "hdlcPieces", inPlace := ["internal/bytealg.IndexByteString", "internal/bytealg.IndexString", "internal/abi.NoEscape"], named := ["unicode/utf8.first", "unicode/utf8.acceptRanges", "internal/bytealg.MaxLen"], apart := false, laid := [("unicode/utf8.acceptRanges", laid_unicode_utf8_acceptRanges), ("unicode/utf8.first", laid_unicode_utf8_first)], narrowed := true }
def HdlcPiecesUptoSaid : Prop := hdlcPiecesUptoRow.holds Tryd.pinned (OpenSpec.upto hdlcPiecesSpec)

/-- 'lapwinglaw03.HdlcAborts', WHERE WHAT IT READS IS OF BULK AT MOST 1048576: true; the input reads as it did. -/
def hdlcAbortsUptoRow : OpenClaim := { program := "ytolodlnndojaiaadoor", sum := "7dd2d460161868cf508c9931325b1f02d8ac118b1d4ae60bbb8f8c8333d17c6e", func := "lapwing/lapwinglaw03.HdlcAborts", spec := "hdlcAborts", inPlace := ["internal/abi.NoEscape", "internal/bytealg.IndexByteString", "internal/bytealg.IndexString"], named := ["unicode/utf8.first", "unicode/utf8.acceptRanges", "internal/bytealg.MaxLen"], apart := false, laid := [("unicode/utf8.acceptRanges", laid_unicode_utf8_acceptRanges), ("unicode/utf8.first", laid_unicode_utf8_first)], narrowed := true }
def HdlcAbortsUptoSaid : Prop := hdlcAbortsUptoRow.holds Tryd.pinned (OpenSpec.upto hdlcAbortsSpec)

/-- 'lapwinglaw03.HdlcIdles', WHERE WHAT IT READS IS OF BULK AT MOST 1048576: true; the input reads as it did. -/
def hdlcIdlesUptoRow : OpenClaim := { program := "ytolodlnndojaiaadoor", sum := "7dd2d460161868cf508c9931325b1f02d8ac118b1d4ae60bbb8f8c8333d17c6e", func := "lapwing/lapwinglaw03.HdlcIdles", spec := "hdlcIdles", inPlace := ["internal/abi.NoEscape", "internal/bytealg.IndexByteString", "internal/bytealg.IndexString"], named := ["unicode/utf8.first", "unicode/utf8.acceptRanges", "internal/bytealg.MaxLen"], apart := false, laid := [("unicode/utf8.acceptRanges", laid_unicode_utf8_acceptRanges), ("unicode/utf8.first", laid_unicode_utf8_first)], narrowed := true }
def HdlcIdlesUptoSaid : Prop := hdlcIdlesUptoRow.holds Tryd.pinned (OpenSpec.upto hdlcIdlesSpec)

/-- 'lapwinglaw03.HdlcStuffs', WHERE WHAT IT READS IS OF BULK AT MOST 1048576: true; the input reads as it did. -/
def hdlcStuffsUptoRow : OpenClaim := { program := "ytolodlnndojaiaadoor", sum := "7dd2d460161868cf508c9931325b1f02d8ac118b1d4ae60bbb8f8c8333d17c6e", func := "lapwing/lapwinglaw03.HdlcStuffs", spec := "hdlcStuffs", inPlace := ["internal/bytealg.IndexByteString", "internal/bytealg.IndexString", "internal/abi.NoEscape", "internal/bytealg.MakeNoZero", "internal/bytealg.CountString"], named := ["unicode/utf8.first", "unicode/utf8.acceptRanges", "internal/bytealg.MaxLen"], apart := false, laid := [("unicode/utf8.acceptRanges", laid_unicode_utf8_acceptRanges), ("unicode/utf8.first", laid_unicode_utf8_first)], narrowed := true }
def HdlcStuffsUptoSaid : Prop := hdlcStuffsUptoRow.holds Tryd.pinned (OpenSpec.upto hdlcStuffsSpec)

/-- 'lapwinglaw03.HdlcBack', WHERE WHAT IT READS IS OF BULK AT MOST 1048576: true; the input reads as it did. -/
def hdlcBackUptoRow : OpenClaim := { program := "ytolodlnndojaiaadoor", sum := "7dd2d460161868cf508c9931325b1f02d8ac118b1d4ae60bbb8f8c8333d17c6e", func := "lapwing/lapwinglaw03.HdlcBack", spec := "hdlcBack", inPlace := ["internal/abi.NoEscape", "internal/bytealg.IndexByteString", "internal/bytealg.IndexString", "internal/bytealg.MakeNoZero", "internal/bytealg.CountString"], named := ["unicode/utf8.first", "unicode/utf8.acceptRanges", "internal/bytealg.MaxLen"], apart := false, laid := [("unicode/utf8.acceptRanges", laid_unicode_utf8_acceptRanges), ("unicode/utf8.first", laid_unicode_utf8_first)], narrowed := true }
def HdlcBackUptoSaid : Prop := hdlcBackUptoRow.holds Tryd.pinned (OpenSpec.upto hdlcBackSpec)

/-- 'lapwinglaw03.HdlcFrames', WHERE WHAT IT READS IS OF BULK AT MOST 1048576: true; the input reads as it did. -/
def hdlcFramesUptoRow : OpenClaim := { program := "ytolodlnndojaiaadoor", sum := "7dd2d460161868cf508c9931325b1f02d8ac118b1d4ae60bbb8f8c8333d17c6e", func := "lapwing/lapwinglaw03.HdlcFrames", spec := "hdlcFrames", inPlace := ["internal/abi.NoEscape", "internal/bytealg.IndexByteString", "internal/bytealg.IndexString", "internal/bytealg.MakeNoZero", "internal/bytealg.CountString"], named := ["unicode/utf8.first", "unicode/utf8.acceptRanges", "internal/bytealg.MaxLen"], apart := false, laid := [("unicode/utf8.acceptRanges", laid_unicode_utf8_acceptRanges), ("unicode/utf8.first", laid_unicode_utf8_first)], narrowed := true }
def HdlcFramesUptoSaid : Prop := hdlcFramesUptoRow.holds Tryd.pinned (OpenSpec.upto hdlcFramesSpec)

end Rows
end Go.Proofs.YtolodlnndojaiaaDoor
