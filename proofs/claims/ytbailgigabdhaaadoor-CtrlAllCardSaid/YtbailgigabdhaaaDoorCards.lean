/-
  DERIVED. GIVEN WITH THE SEED: THE CARDS: each row of YtbailgigabdhaaaDoorRows.lean that lists a variable, with what it lists TIED to the program's text (the seventh form; the later family's looks); each row that meets fmt, with fmt's text TOLD by the authors' own Lean function (tested against real Go, not proved from fmt's source: count such statements apart). THE CARD IS WHAT COUNTS. Prove the row's statement (the work); the ties are given (YtbailgigabdhaaaDoorTie.lean); close each card by the builder's one call (the guide's Derived/Test/ToyasCard.lean, 'card_holds'). Laid BY PROGRAM, IN A SANDBOX (cutbox-door.mjs). By AI agents, Wed Nov 11 2026. No macro, syntax, notation, axiom, sorry.
-/
import Derived.Test.YtbailgigabdhaaaDoorRows
import GoSem.ClaimSeven
namespace Go.Proofs.YtbailgigabdhaaaDoor
namespace Rows

/-- THE TIED CARD OF 'lapwinglaw05.CtrlGets'. -/
def ctrlGetsCard : Claim7 := { stood := { row := ctrlGetsRow, standIns := [], harness := (true, "8ddd8e2e8fe87b58245dc0e699bd016ad69e5370663f226695de8d73029107ad"), looks := false }, kinds := [], alts := [], laidByText := true, laidKinds := [.widerDeep], laidTests := true, laidLooks := .later }
def CtrlGetsCardSaid : Prop := Claim7.holds Tryd.pinned (.plain (OpenSpec.ofChange ctrlGetsSpec)) ctrlGetsCard

/-- THE TIED CARD OF 'lapwinglaw05.CtrlKinds'. -/
def ctrlKindsCard : Claim7 := { stood := { row := ctrlKindsRow, standIns := [], harness := (true, "8ddd8e2e8fe87b58245dc0e699bd016ad69e5370663f226695de8d73029107ad"), looks := false }, kinds := [], alts := [], laidByText := true, laidKinds := [.widerDeep, .data], laidTests := true, laidLooks := .later }
def CtrlKindsCardSaid : Prop := Claim7.holds Tryd.pinned (.plain (OpenSpec.ofChange ctrlKindsSpec)) ctrlKindsCard

/-- THE TIED CARD OF 'lapwinglaw05.CtrlPuts'. -/
def ctrlPutsCard : Claim7 := { stood := { row := ctrlPutsRow, standIns := [], harness := (true, "8ddd8e2e8fe87b58245dc0e699bd016ad69e5370663f226695de8d73029107ad"), looks := false }, kinds := [], alts := [], laidByText := true, laidKinds := [.widerDeep, .data], laidTests := true, laidLooks := .later }
def CtrlPutsCardSaid : Prop := Claim7.holds Tryd.pinned (.plain (OpenSpec.ofChange ctrlPutsSpec)) ctrlPutsCard

/-- THE TIED CARD OF 'lapwinglaw05.CtrlUnlike'. -/
def ctrlUnlikeCard : Claim7 := { stood := { row := ctrlUnlikeRow, standIns := [], harness := (true, "8ddd8e2e8fe87b58245dc0e699bd016ad69e5370663f226695de8d73029107ad"), looks := false }, kinds := [], alts := [], laidByText := true, laidKinds := [.widerDeep, .data], laidTests := true, laidLooks := .later }
def CtrlUnlikeCardSaid : Prop := Claim7.holds Tryd.pinned (.plain (OpenSpec.ofChange ctrlUnlikeSpec)) ctrlUnlikeCard

/-- THE TIED CARD OF 'lapwinglaw05.CtrlFinal'. -/
def ctrlFinalCard : Claim7 := { stood := { row := ctrlFinalRow, standIns := [], harness := (true, "8ddd8e2e8fe87b58245dc0e699bd016ad69e5370663f226695de8d73029107ad"), looks := false }, kinds := [], alts := [], laidByText := true, laidKinds := [.widerDeep, .data], laidTests := true, laidLooks := .later }
def CtrlFinalCardSaid : Prop := Claim7.holds Tryd.pinned (.plain (OpenSpec.ofChange ctrlFinalSpec)) ctrlFinalCard

/-- THE TIED CARD OF 'lapwinglaw05.CtrlAll'. -/
def ctrlAllCard : Claim7 := { stood := { row := ctrlAllRow, standIns := [], harness := (true, "8ddd8e2e8fe87b58245dc0e699bd016ad69e5370663f226695de8d73029107ad"), looks := false }, kinds := [], alts := [], laidByText := true, laidKinds := [.widerDeep, .data], laidTests := true, laidLooks := .later }
def CtrlAllCardSaid : Prop := Claim7.holds Tryd.pinned (.plain (OpenSpec.ofChange ctrlAllSpec)) ctrlAllCard

/-- THE TIED CARD OF 'lapwinglaw05.CtrlBack'. -/
def ctrlBackCard : Claim7 := { stood := { row := ctrlBackRow, standIns := [], harness := (true, "8ddd8e2e8fe87b58245dc0e699bd016ad69e5370663f226695de8d73029107ad"), looks := false }, kinds := [], alts := [], laidByText := true, laidKinds := [.widerDeep, .data], laidTests := true, laidLooks := .later }
def CtrlBackCardSaid : Prop := Claim7.holds Tryd.pinned (.plain (OpenSpec.ofChange ctrlBackSpec)) ctrlBackCard

/-- THE SECOND FORM's CARD OF 'lapwinglaw05.CtrlGets'. -/
def ctrlGetsUptoCard : Claim7 := { stood := { row := ctrlGetsUptoRow, standIns := [], harness := (true, "8ddd8e2e8fe87b58245dc0e699bd016ad69e5370663f226695de8d73029107ad"), looks := false }, kinds := [], alts := [], laidByText := true, laidKinds := [.widerDeep], laidTests := true, laidLooks := .later }
def CtrlGetsUptoCardSaid : Prop := Claim7.holds Tryd.pinned (.plain (OpenSpec.upto ctrlGetsSpec)) ctrlGetsUptoCard

/-- THE SECOND FORM's CARD OF 'lapwinglaw05.CtrlKinds'. -/
def ctrlKindsUptoCard : Claim7 := { stood := { row := ctrlKindsUptoRow, standIns := [], harness := (true, "8ddd8e2e8fe87b58245dc0e699bd016ad69e5370663f226695de8d73029107ad"), looks := false }, kinds := [], alts := [], laidByText := true, laidKinds := [.widerDeep, .data], laidTests := true, laidLooks := .later }
def CtrlKindsUptoCardSaid : Prop := Claim7.holds Tryd.pinned (.plain (OpenSpec.upto ctrlKindsSpec)) ctrlKindsUptoCard

/-- THE SECOND FORM's CARD OF 'lapwinglaw05.CtrlPuts'. -/
def ctrlPutsUptoCard : Claim7 := { stood := { row := ctrlPutsUptoRow, standIns := [], harness := (true, "8ddd8e2e8fe87b58245dc0e699bd016ad69e5370663f226695de8d73029107ad"), looks := false }, kinds := [], alts := [], laidByText := true, laidKinds := [.widerDeep, .data], laidTests := true, laidLooks := .later }
def CtrlPutsUptoCardSaid : Prop := Claim7.holds Tryd.pinned (.plain (OpenSpec.upto ctrlPutsSpec)) ctrlPutsUptoCard

/-- THE SECOND FORM's CARD OF 'lapwinglaw05.CtrlUnlike'. -/
def ctrlUnlikeUptoCard : Claim7 := { stood := { row := ctrlUnlikeUptoRow, standIns := [], harness := (true, "8ddd8e2e8fe87b58245dc0e699bd016ad69e5370663f226695de8d73029107ad"), looks := false }, kinds := [], alts := [], laidByText := true, laidKinds := [.widerDeep, .data], laidTests := true, laidLooks := .later }
def CtrlUnlikeUptoCardSaid : Prop := Claim7.holds Tryd.pinned (.plain (OpenSpec.upto ctrlUnlikeSpec)) ctrlUnlikeUptoCard

/-- THE SECOND FORM's CARD OF 'lapwinglaw05.CtrlFinal'. -/
def ctrlFinalUptoCard : Claim7 := { stood := { row := ctrlFinalUptoRow, standIns := [], harness := (true, "8ddd8e2e8fe87b58245dc0e699bd016ad69e5370663f226695de8d73029107ad"), looks := false }, kinds := [], alts := [], laidByText := true, laidKinds := [.widerDeep, .data], laidTests := true, laidLooks := .later }
def CtrlFinalUptoCardSaid : Prop := Claim7.holds Tryd.pinned (.plain (OpenSpec.upto ctrlFinalSpec)) ctrlFinalUptoCard

/-- THE SECOND FORM's CARD OF 'lapwinglaw05.CtrlAll'. -/
def ctrlAllUptoCard : Claim7 := { stood := { row := ctrlAllUptoRow, standIns := [], harness := (true, "8ddd8e2e8fe87b58245dc0e699bd016ad69e5370663f226695de8d73029107ad"), looks := false }, kinds := [], alts := [], laidByText := true, laidKinds := [.widerDeep, .data], laidTests := true, laidLooks := .later }
def CtrlAllUptoCardSaid : Prop := Claim7.holds Tryd.pinned (.plain (OpenSpec.upto ctrlAllSpec)) ctrlAllUptoCard

/-- THE SECOND FORM's CARD OF 'lapwinglaw05.CtrlBack'. -/
def ctrlBackUptoCard : Claim7 := { stood := { row := ctrlBackUptoRow, standIns := [], harness := (true, "8ddd8e2e8fe87b58245dc0e699bd016ad69e5370663f226695de8d73029107ad"), looks := false }, kinds := [], alts := [], laidByText := true, laidKinds := [.widerDeep, .data], laidTests := true, laidLooks := .later }
def CtrlBackUptoCardSaid : Prop := Claim7.holds Tryd.pinned (.plain (OpenSpec.upto ctrlBackSpec)) ctrlBackUptoCard
end Rows
end Go.Proofs.YtbailgigabdhaaaDoor
