/-
  DERIVED. GIVEN WITH THE SEED: THE CARDS: each row of YtdpgdnbknmncfaaDoorRows.lean that lists a variable, with what it lists TIED to the program's text (the seventh form; the later family's looks); each row that meets fmt, with fmt's text TOLD by the authors' own Lean function (tested against real Go, not proved from fmt's source: count such statements apart). THE CARD IS WHAT COUNTS. Prove the row's statement (the work); the ties are given (YtdpgdnbknmncfaaDoorTie.lean); close each card by the builder's one call (the guide's Derived/Test/ToyasCard.lean, 'card_holds'). Laid BY PROGRAM, IN A SANDBOX (cutbox-door.mjs). By AI agents, Wed Nov 11 2026. No macro, syntax, notation, axiom, sorry.
-/
import Derived.Test.YtdpgdnbknmncfaaDoorRows
import GoSem.ClaimSeven
namespace Go.Proofs.YtdpgdnbknmncfaaDoor
namespace Rows

/-- THE TIED CARD OF 'lapwinglaw06.FrameMay'. -/
def frameMayCard : Claim7 := { stood := { row := frameMayRow, standIns := [], harness := (true, "32dbf574bd46ddfd705a6a9d95b0c60bcc974b23b04137ec5a3b7437aeebd262"), looks := false }, kinds := [], alts := [], laidByText := true, laidKinds := [.widerDeep, .data], laidTests := true, laidLooks := .later }
def FrameMayCardSaid : Prop := Claim7.holds Tryd.pinned (.plain (OpenSpec.ofChange frameMaySpec)) frameMayCard

/-- THE TIED CARD OF 'lapwinglaw06.FramePuts'. -/
def framePutsCard : Claim7 := { stood := { row := framePutsRow, standIns := [], harness := (true, "32dbf574bd46ddfd705a6a9d95b0c60bcc974b23b04137ec5a3b7437aeebd262"), looks := false }, kinds := [], alts := [], laidByText := true, laidKinds := [.widerDeep, .data], laidTests := true, laidLooks := .later }
def FramePutsCardSaid : Prop := Claim7.holds Tryd.pinned (.plain (OpenSpec.ofChange framePutsSpec)) framePutsCard

/-- THE TIED CARD OF 'lapwinglaw06.FrameGets'. -/
def frameGetsCard : Claim7 := { stood := { row := frameGetsRow, standIns := [], harness := (true, "32dbf574bd46ddfd705a6a9d95b0c60bcc974b23b04137ec5a3b7437aeebd262"), looks := false }, kinds := [], alts := [], laidByText := true, laidKinds := [.widerDeep, .data], laidTests := true, laidLooks := .later }
def FrameGetsCardSaid : Prop := Claim7.holds Tryd.pinned (.plain (OpenSpec.ofChange frameGetsSpec)) frameGetsCard

/-- THE TIED CARD OF 'lapwinglaw06.FrameBack'. -/
def frameBackCard : Claim7 := { stood := { row := frameBackRow, standIns := [], harness := (true, "32dbf574bd46ddfd705a6a9d95b0c60bcc974b23b04137ec5a3b7437aeebd262"), looks := false }, kinds := [], alts := [], laidByText := true, laidKinds := [.widerDeep, .data], laidTests := true, laidLooks := .later }
def FrameBackCardSaid : Prop := Claim7.holds Tryd.pinned (.plain (OpenSpec.ofChange frameBackSpec)) frameBackCard

/-- THE TIED CARD OF 'lapwinglaw06.FrameSides'. -/
def frameSidesCard : Claim7 := { stood := { row := frameSidesRow, standIns := [], harness := (true, "32dbf574bd46ddfd705a6a9d95b0c60bcc974b23b04137ec5a3b7437aeebd262"), looks := false }, kinds := [], alts := [], laidByText := true, laidKinds := [.widerDeep, .data], laidTests := true, laidLooks := .later }
def FrameSidesCardSaid : Prop := Claim7.holds Tryd.pinned (.plain (OpenSpec.ofChange frameSidesSpec)) frameSidesCard

/-- THE TIED CARD OF 'lapwinglaw06.FrameKinds'. -/
def frameKindsCard : Claim7 := { stood := { row := frameKindsRow, standIns := [], harness := (true, "32dbf574bd46ddfd705a6a9d95b0c60bcc974b23b04137ec5a3b7437aeebd262"), looks := false }, kinds := [], alts := [], laidByText := true, laidKinds := [.widerDeep, .data], laidTests := true, laidLooks := .later }
def FrameKindsCardSaid : Prop := Claim7.holds Tryd.pinned (.plain (OpenSpec.ofChange frameKindsSpec)) frameKindsCard

/-- THE TIED CARD OF 'lapwinglaw06.FrameBefore'. -/
def frameBeforeCard : Claim7 := { stood := { row := frameBeforeRow, standIns := [], harness := (true, "32dbf574bd46ddfd705a6a9d95b0c60bcc974b23b04137ec5a3b7437aeebd262"), looks := false }, kinds := [], alts := [], laidByText := true, laidKinds := [.widerDeep, .data], laidTests := true, laidLooks := .later }
def FrameBeforeCardSaid : Prop := Claim7.holds Tryd.pinned (.plain (OpenSpec.ofChange frameBeforeSpec)) frameBeforeCard

/-- THE TIED CARD OF 'lapwinglaw06.FrameBits'. -/
def frameBitsCard : Claim7 := { stood := { row := frameBitsRow, standIns := [], harness := (true, "32dbf574bd46ddfd705a6a9d95b0c60bcc974b23b04137ec5a3b7437aeebd262"), looks := false }, kinds := [], alts := [], laidByText := true, laidKinds := [.data, .widerDeep, .data, .pinned], laidTests := true, laidLooks := .later }
def FrameBitsCardSaid : Prop := Claim7.holds Tryd.pinned (.plain (OpenSpec.ofChange frameBitsSpec)) frameBitsCard

/-- THE SECOND FORM's CARD OF 'lapwinglaw06.FrameMay'. -/
def frameMayUptoCard : Claim7 := { stood := { row := frameMayUptoRow, standIns := [], harness := (true, "32dbf574bd46ddfd705a6a9d95b0c60bcc974b23b04137ec5a3b7437aeebd262"), looks := false }, kinds := [], alts := [], laidByText := true, laidKinds := [.widerDeep, .data], laidTests := true, laidLooks := .later }
def FrameMayUptoCardSaid : Prop := Claim7.holds Tryd.pinned (.plain (OpenSpec.upto frameMaySpec)) frameMayUptoCard

/-- THE SECOND FORM's CARD OF 'lapwinglaw06.FramePuts'. -/
def framePutsUptoCard : Claim7 := { stood := { row := framePutsUptoRow, standIns := [], harness := (true, "32dbf574bd46ddfd705a6a9d95b0c60bcc974b23b04137ec5a3b7437aeebd262"), looks := false }, kinds := [], alts := [], laidByText := true, laidKinds := [.widerDeep, .data], laidTests := true, laidLooks := .later }
def FramePutsUptoCardSaid : Prop := Claim7.holds Tryd.pinned (.plain (OpenSpec.upto framePutsSpec)) framePutsUptoCard

/-- THE SECOND FORM's CARD OF 'lapwinglaw06.FrameGets'. -/
def frameGetsUptoCard : Claim7 := { stood := { row := frameGetsUptoRow, standIns := [], harness := (true, "32dbf574bd46ddfd705a6a9d95b0c60bcc974b23b04137ec5a3b7437aeebd262"), looks := false }, kinds := [], alts := [], laidByText := true, laidKinds := [.widerDeep, .data], laidTests := true, laidLooks := .later }
def FrameGetsUptoCardSaid : Prop := Claim7.holds Tryd.pinned (.plain (OpenSpec.upto frameGetsSpec)) frameGetsUptoCard

/-- THE SECOND FORM's CARD OF 'lapwinglaw06.FrameBack'. -/
def frameBackUptoCard : Claim7 := { stood := { row := frameBackUptoRow, standIns := [], harness := (true, "32dbf574bd46ddfd705a6a9d95b0c60bcc974b23b04137ec5a3b7437aeebd262"), looks := false }, kinds := [], alts := [], laidByText := true, laidKinds := [.widerDeep, .data], laidTests := true, laidLooks := .later }
def FrameBackUptoCardSaid : Prop := Claim7.holds Tryd.pinned (.plain (OpenSpec.upto frameBackSpec)) frameBackUptoCard

/-- THE SECOND FORM's CARD OF 'lapwinglaw06.FrameSides'. -/
def frameSidesUptoCard : Claim7 := { stood := { row := frameSidesUptoRow, standIns := [], harness := (true, "32dbf574bd46ddfd705a6a9d95b0c60bcc974b23b04137ec5a3b7437aeebd262"), looks := false }, kinds := [], alts := [], laidByText := true, laidKinds := [.widerDeep, .data], laidTests := true, laidLooks := .later }
def FrameSidesUptoCardSaid : Prop := Claim7.holds Tryd.pinned (.plain (OpenSpec.upto frameSidesSpec)) frameSidesUptoCard

/-- THE SECOND FORM's CARD OF 'lapwinglaw06.FrameKinds'. -/
def frameKindsUptoCard : Claim7 := { stood := { row := frameKindsUptoRow, standIns := [], harness := (true, "32dbf574bd46ddfd705a6a9d95b0c60bcc974b23b04137ec5a3b7437aeebd262"), looks := false }, kinds := [], alts := [], laidByText := true, laidKinds := [.widerDeep, .data], laidTests := true, laidLooks := .later }
def FrameKindsUptoCardSaid : Prop := Claim7.holds Tryd.pinned (.plain (OpenSpec.upto frameKindsSpec)) frameKindsUptoCard

/-- THE SECOND FORM's CARD OF 'lapwinglaw06.FrameBefore'. -/
def frameBeforeUptoCard : Claim7 := { stood := { row := frameBeforeUptoRow, standIns := [], harness := (true, "32dbf574bd46ddfd705a6a9d95b0c60bcc974b23b04137ec5a3b7437aeebd262"), looks := false }, kinds := [], alts := [], laidByText := true, laidKinds := [.widerDeep, .data], laidTests := true, laidLooks := .later }
def FrameBeforeUptoCardSaid : Prop := Claim7.holds Tryd.pinned (.plain (OpenSpec.upto frameBeforeSpec)) frameBeforeUptoCard

/-- THE SECOND FORM's CARD OF 'lapwinglaw06.FrameBits'. -/
def frameBitsUptoCard : Claim7 := { stood := { row := frameBitsUptoRow, standIns := [], harness := (true, "32dbf574bd46ddfd705a6a9d95b0c60bcc974b23b04137ec5a3b7437aeebd262"), looks := false }, kinds := [], alts := [], laidByText := true, laidKinds := [.data, .widerDeep, .data, .pinned], laidTests := true, laidLooks := .later }
def FrameBitsUptoCardSaid : Prop := Claim7.holds Tryd.pinned (.plain (OpenSpec.upto frameBitsSpec)) frameBitsUptoCard
end Rows
end Go.Proofs.YtdpgdnbknmncfaaDoor
