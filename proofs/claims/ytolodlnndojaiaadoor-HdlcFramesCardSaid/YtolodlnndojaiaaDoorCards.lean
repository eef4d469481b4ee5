/-
  DERIVED. GIVEN WITH THE SEED: THE CARDS: each row of YtolodlnndojaiaaDoorRows.lean that lists a variable, with what it lists TIED to the program's text (the seventh form; the later family's looks); each row that meets fmt, with fmt's text TOLD by the authors' own Lean function (tested against real Go, not proved from fmt's source: count such statements apart). THE CARD IS WHAT COUNTS. Prove the row's statement (the work); the ties are given (YtolodlnndojaiaaDoorTie.lean); close each card by the builder's one call (the guide's Derived/Test/ToyasCard.lean, 'card_holds'). Laid BY PROGRAM, IN A SANDBOX (cutbox-door.mjs). By AI agents, Wed Nov 11 2026. No macro, syntax, notation, axiom, sorry.
-/
import Derived.Test.YtolodlnndojaiaaDoorRows
import GoSem.ClaimSeven
namespace Go.Proofs.YtolodlnndojaiaaDoor
namespace Rows

/-- THE TIED CARD OF 'lapwinglaw03.HdlcLong'. -/
def hdlcLongCard : Claim7 := { stood := { row := hdlcLongRow, standIns := [], harness := (true, "33f86a5a94a54367b9c21bfd8a74cf0ebce3e63bf5bbb55b0e3f1695ab269de1"), looks := false }, kinds := [], alts := [], laidByText := true, laidKinds := [.data, .pinned], laidTests := true, laidLooks := .later }
def HdlcLongCardSaid : Prop := Claim7.holds Tryd.pinned (.plain (OpenSpec.ofChange hdlcLongSpec)) hdlcLongCard

/-- THE TIED CARD OF 'lapwinglaw03.HdlcFlags'. -/
def hdlcFlagsCard : Claim7 := { stood := { row := hdlcFlagsRow, standIns := [], harness := (true, "33f86a5a94a54367b9c21bfd8a74cf0ebce3e63bf5bbb55b0e3f1695ab269de1"), looks := false }, kinds := [], alts := [], laidByText := true, laidKinds := [.data, .pinned], laidTests := true, laidLooks := .later }
def HdlcFlagsCardSaid : Prop := Claim7.holds Tryd.pinned (.plain (OpenSpec.ofChange hdlcFlagsSpec)) hdlcFlagsCard

/-- THE TIED CARD OF 'lapwinglaw03.HdlcFeeds'. -/
def hdlcFeedsCard : Claim7 := { stood := { row := hdlcFeedsRow, standIns := [], harness := (true, "33f86a5a94a54367b9c21bfd8a74cf0ebce3e63bf5bbb55b0e3f1695ab269de1"), looks := false }, kinds := [], alts := [], laidByText := true, laidKinds := [.data, .pinned], laidTests := true, laidLooks := .later }
def HdlcFeedsCardSaid : Prop := Claim7.holds Tryd.pinned (.plain (OpenSpec.ofChange hdlcFeedsSpec)) hdlcFeedsCard

/-- THE TIED CARD OF 'lapwinglaw03.HdlcPieces'. -/
def hdlcPiecesCard : Claim7 := { stood := { row := hdlcPiecesRow, standIns := [], harness := (true, "33f86a5a94a54367b9c21bfd8a74cf0ebce3e63bf5bbb55b0e3f1695ab269de1"), looks := false }, kinds := [], alts := [], laidByText := true, laidKinds := [.data, .pinned], laidTests := true, laidLooks := .later }
def HdlcPiecesCardSaid : Prop := Claim7.holds Tryd.pinned (.plain (OpenSpec.ofChange hdlcPiecesSpec)) hdlcPiecesCard

/-- THE TIED CARD OF 'lapwinglaw03.HdlcAborts'. -/
def hdlcAbortsCard : Claim7 := { stood := { row := hdlcAbortsRow, standIns := [], harness := (true, "33f86a5a94a54367b9c21bfd8a74cf0ebce3e63bf5bbb55b0e3f1695ab269de1"), looks := false }, kinds := [], alts := [], laidByText := true, laidKinds := [.data, .pinned], laidTests := true, laidLooks := .later }
def HdlcAbortsCardSaid : Prop := Claim7.holds Tryd.pinned (.plain (OpenSpec.ofChange hdlcAbortsSpec)) hdlcAbortsCard

/-- THE TIED CARD OF 'lapwinglaw03.HdlcIdles'. -/
def hdlcIdlesCard : Claim7 := { stood := { row := hdlcIdlesRow, standIns := [], harness := (true, "33f86a5a94a54367b9c21bfd8a74cf0ebce3e63bf5bbb55b0e3f1695ab269de1"), looks := false }, kinds := [], alts := [], laidByText := true, laidKinds := [.data, .pinned], laidTests := true, laidLooks := .later }
def HdlcIdlesCardSaid : Prop := Claim7.holds Tryd.pinned (.plain (OpenSpec.ofChange hdlcIdlesSpec)) hdlcIdlesCard

/-- THE TIED CARD OF 'lapwinglaw03.HdlcStuffs'. -/
def hdlcStuffsCard : Claim7 := { stood := { row := hdlcStuffsRow, standIns := [], harness := (true, "33f86a5a94a54367b9c21bfd8a74cf0ebce3e63bf5bbb55b0e3f1695ab269de1"), looks := false }, kinds := [], alts := [], laidByText := true, laidKinds := [.data, .pinned], laidTests := true, laidLooks := .later }
def HdlcStuffsCardSaid : Prop := Claim7.holds Tryd.pinned (.plain (OpenSpec.ofChange hdlcStuffsSpec)) hdlcStuffsCard

/-- THE TIED CARD OF 'lapwinglaw03.HdlcBack'. -/
def hdlcBackCard : Claim7 := { stood := { row := hdlcBackRow, standIns := [], harness := (true, "33f86a5a94a54367b9c21bfd8a74cf0ebce3e63bf5bbb55b0e3f1695ab269de1"), looks := false }, kinds := [], alts := [], laidByText := true, laidKinds := [.data, .pinned], laidTests := true, laidLooks := .later }
def HdlcBackCardSaid : Prop := Claim7.holds Tryd.pinned (.plain (OpenSpec.ofChange hdlcBackSpec)) hdlcBackCard

/-- THE TIED CARD OF 'lapwinglaw03.HdlcFrames'. -/
def hdlcFramesCard : Claim7 := { stood := { row := hdlcFramesRow, standIns := [], harness := (true, "33f86a5a94a54367b9c21bfd8a74cf0ebce3e63bf5bbb55b0e3f1695ab269de1"), looks := false }, kinds := [], alts := [], laidByText := true, laidKinds := [.data, .pinned], laidTests := true, laidLooks := .later }
def HdlcFramesCardSaid : Prop := Claim7.holds Tryd.pinned (.plain (OpenSpec.ofChange hdlcFramesSpec)) hdlcFramesCard

/-- THE SECOND FORM's CARD OF 'lapwinglaw03.HdlcLong'. -/
def hdlcLongUptoCard : Claim7 := { stood := { row := hdlcLongUptoRow, standIns := [], harness := (true, "33f86a5a94a54367b9c21bfd8a74cf0ebce3e63bf5bbb55b0e3f1695ab269de1"), looks := false }, kinds := [], alts := [], laidByText := true, laidKinds := [.data, .pinned], laidTests := true, laidLooks := .later }
def HdlcLongUptoCardSaid : Prop := Claim7.holds Tryd.pinned (.plain (OpenSpec.upto hdlcLongSpec)) hdlcLongUptoCard

/-- THE SECOND FORM's CARD OF 'lapwinglaw03.HdlcFlags'. -/
def hdlcFlagsUptoCard : Claim7 := { stood := { row := hdlcFlagsUptoRow, standIns := [], harness := (true, "33f86a5a94a54367b9c21bfd8a74cf0ebce3e63bf5bbb55b0e3f1695ab269de1"), looks := false }, kinds := [], alts := [], laidByText := true, laidKinds := [.data, .pinned], laidTests := true, laidLooks := .later }
def HdlcFlagsUptoCardSaid : Prop := Claim7.holds Tryd.pinned (.plain (OpenSpec.upto hdlcFlagsSpec)) hdlcFlagsUptoCard

/-- THE SECOND FORM's CARD OF 'lapwinglaw03.HdlcFeeds'. -/
def hdlcFeedsUptoCard : Claim7 := { stood := { row := hdlcFeedsUptoRow, standIns := [], harness := (true, "33f86a5a94a54367b9c21bfd8a74cf0ebce3e63bf5bbb55b0e3f1695ab269de1"), looks := false }, kinds := [], alts := [], laidByText := true, laidKinds := [.data, .pinned], laidTests := true, laidLooks := .later }
def HdlcFeedsUptoCardSaid : Prop := Claim7.holds Tryd.pinned (.plain (OpenSpec.upto hdlcFeedsSpec)) hdlcFeedsUptoCard

/-- THE SECOND FORM's CARD OF 'lapwinglaw03.HdlcPieces'. -/
def hdlcPiecesUptoCard : Claim7 := { stood := { row := hdlcPiecesUptoRow, standIns := [], harness := (true, "33f86a5a94a54367b9c21bfd8a74cf0ebce3e63bf5bbb55b0e3f1695ab269de1"), looks := false }, kinds := [], alts := [], laidByText := true, laidKinds := [.data, .pinned], laidTests := true, laidLooks := .later }
def HdlcPiecesUptoCardSaid : Prop := Claim7.holds Tryd.pinned (.plain (OpenSpec.upto hdlcPiecesSpec)) hdlcPiecesUptoCard

/-- THE SECOND FORM's CARD OF 'lapwinglaw03.HdlcAborts'. -/
def hdlcAbortsUptoCard : Claim7 := { stood := { row := hdlcAbortsUptoRow, standIns := [], harness := (true, "33f86a5a94a54367b9c21bfd8a74cf0ebce3e63bf5bbb55b0e3f1695ab269de1"), looks := false }, kinds := [], alts := [], laidByText := true, laidKinds := [.data, .pinned], laidTests := true, laidLooks := .later }
def HdlcAbortsUptoCardSaid : Prop := Claim7.holds Tryd.pinned (.plain (OpenSpec.upto hdlcAbortsSpec)) hdlcAbortsUptoCard

/-- THE SECOND FORM's CARD OF 'lapwinglaw03.HdlcIdles'. -/
def hdlcIdlesUptoCard : Claim7 := { stood := { row := hdlcIdlesUptoRow, standIns := [], harness := (true, "33f86a5a94a54367b9c21bfd8a74cf0ebce3e63bf5bbb55b0e3f1695ab269de1"), looks := false }, kinds := [], alts := [], laidByText := true, laidKinds := [.data, .pinned], laidTests := true, laidLooks := .later }
def HdlcIdlesUptoCardSaid : Prop := Claim7.holds Tryd.pinned (.plain (OpenSpec.upto hdlcIdlesSpec)) hdlcIdlesUptoCard

/-- THE SECOND FORM's CARD OF 'lapwinglaw03.HdlcStuffs'. -/
def hdlcStuffsUptoCard : Claim7 := { stood := { row := hdlcStuffsUptoRow, standIns := [], harness := (true, "33f86a5a94a54367b9c21bfd8a74cf0ebce3e63bf5bbb55b0e3f1695ab269de1"), looks := false }, kinds := [], alts := [], laidByText := true, laidKinds := [.data, .pinned], laidTests := true, laidLooks := .later }
def HdlcStuffsUptoCardSaid : Prop := Claim7.holds Tryd.pinned (.plain (OpenSpec.upto hdlcStuffsSpec)) hdlcStuffsUptoCard

/-- THE SECOND FORM's CARD OF 'lapwinglaw03.HdlcBack'. -/
def hdlcBackUptoCard : Claim7 := { stood := { row := hdlcBackUptoRow, standIns := [], harness := (true, "33f86a5a94a54367b9c21bfd8a74cf0ebce3e63bf5bbb55b0e3f1695ab269de1"), looks := false }, kinds := [], alts := [], laidByText := true, laidKinds := [.data, .pinned], laidTests := true, laidLooks := .later }
def HdlcBackUptoCardSaid : Prop := Claim7.holds Tryd.pinned (.plain (OpenSpec.upto hdlcBackSpec)) hdlcBackUptoCard

/-- THE SECOND FORM's CARD OF 'lapwinglaw03.HdlcFrames'. -/
def hdlcFramesUptoCard : Claim7 := { stood := { row := hdlcFramesUptoRow, standIns := [], harness := (true, "33f86a5a94a54367b9c21bfd8a74cf0ebce3e63bf5bbb55b0e3f1695ab269de1"), looks := false }, kinds := [], alts := [], laidByText := true, laidKinds := [.data, .pinned], laidTests := true, laidLooks := .later }
def HdlcFramesUptoCardSaid : Prop := Claim7.holds Tryd.pinned (.plain (OpenSpec.upto hdlcFramesSpec)) hdlcFramesUptoCard
end Rows
end Go.Proofs.YtolodlnndojaiaaDoor
