/-
  DERIVED. GIVEN WITH THE SEED: THE CARDS: each row of YtmgiolpooamkkaaDoorRows.lean that lists a variable, with what it lists TIED to the program's text (the seventh form; the later family's looks); each row that meets fmt, with fmt's text TOLD by the authors' own Lean function (tested against real Go, not proved from fmt's source: count such statements apart). THE CARD IS WHAT COUNTS. Prove the row's statement (the work); the ties are given (YtmgiolpooamkkaaDoorTie.lean); close each card by the builder's one call (the guide's Derived/Test/ToyasCard.lean, 'card_holds'). Laid BY PROGRAM, IN A SANDBOX (cutbox-door.mjs). By AI agents, Wed Nov 11 2026. No macro, syntax, notation, axiom, sorry.
-/
import Derived.Test.YtmgiolpooamkkaaDoorRows
import GoSem.ClaimSeven
namespace Go.Proofs.YtmgiolpooamkkaaDoor
namespace Rows

/-- THE TIED CARD OF 'lapwinglaw07.TeimsgPuts'. -/
def teimsgPutsCard : Claim7 := { stood := { row := teimsgPutsRow, standIns := [], harness := (true, "89227dd7d808c709c49766bf34662150a650782c8b2ca840e4e5f3462a8942a4"), looks := false }, kinds := [], alts := [], laidByText := true, laidKinds := [.data], laidTests := true, laidLooks := .later }
def TeimsgPutsCardSaid : Prop := Claim7.holds Tryd.pinned (.plain (OpenSpec.ofChange teimsgPutsSpec)) teimsgPutsCard

/-- THE TIED CARD OF 'lapwinglaw07.TeimsgOf'. -/
def teimsgOfCard : Claim7 := { stood := { row := teimsgOfRow, standIns := [], harness := (true, "89227dd7d808c709c49766bf34662150a650782c8b2ca840e4e5f3462a8942a4"), looks := false }, kinds := [], alts := [], laidByText := true, laidKinds := [.data], laidTests := true, laidLooks := .later }
def TeimsgOfCardSaid : Prop := Claim7.holds Tryd.pinned (.plain (OpenSpec.ofChange teimsgOfSpec)) teimsgOfCard

/-- THE TIED CARD OF 'lapwinglaw07.TeimsgOnly'. -/
def teimsgOnlyCard : Claim7 := { stood := { row := teimsgOnlyRow, standIns := [], harness := (true, "89227dd7d808c709c49766bf34662150a650782c8b2ca840e4e5f3462a8942a4"), looks := false }, kinds := [], alts := [], laidByText := true, laidKinds := [.data], laidTests := true, laidLooks := .later }
def TeimsgOnlyCardSaid : Prop := Claim7.holds Tryd.pinned (.plain (OpenSpec.ofChange teimsgOnlySpec)) teimsgOnlyCard

/-- THE TIED CARD OF 'lapwinglaw07.TeimsgBack'. -/
def teimsgBackCard : Claim7 := { stood := { row := teimsgBackRow, standIns := [], harness := (true, "89227dd7d808c709c49766bf34662150a650782c8b2ca840e4e5f3462a8942a4"), looks := false }, kinds := [], alts := [], laidByText := true, laidKinds := [.widerDeep, .data, .data], laidTests := true, laidLooks := .later }
def TeimsgBackCardSaid : Prop := Claim7.holds Tryd.pinned (.plain (OpenSpec.ofChange teimsgBackSpec)) teimsgBackCard

/-- THE SECOND FORM's CARD OF 'lapwinglaw07.TeimsgPuts'. -/
def teimsgPutsUptoCard : Claim7 := { stood := { row := teimsgPutsUptoRow, standIns := [], harness := (true, "89227dd7d808c709c49766bf34662150a650782c8b2ca840e4e5f3462a8942a4"), looks := false }, kinds := [], alts := [], laidByText := true, laidKinds := [.data], laidTests := true, laidLooks := .later }
def TeimsgPutsUptoCardSaid : Prop := Claim7.holds Tryd.pinned (.plain (OpenSpec.upto teimsgPutsSpec)) teimsgPutsUptoCard

/-- THE SECOND FORM's CARD OF 'lapwinglaw07.TeimsgOf'. -/
def teimsgOfUptoCard : Claim7 := { stood := { row := teimsgOfUptoRow, standIns := [], harness := (true, "89227dd7d808c709c49766bf34662150a650782c8b2ca840e4e5f3462a8942a4"), looks := false }, kinds := [], alts := [], laidByText := true, laidKinds := [.data], laidTests := true, laidLooks := .later }
def TeimsgOfUptoCardSaid : Prop := Claim7.holds Tryd.pinned (.plain (OpenSpec.upto teimsgOfSpec)) teimsgOfUptoCard

/-- THE SECOND FORM's CARD OF 'lapwinglaw07.TeimsgOnly'. -/
def teimsgOnlyUptoCard : Claim7 := { stood := { row := teimsgOnlyUptoRow, standIns := [], harness := (true, "89227dd7d808c709c49766bf34662150a650782c8b2ca840e4e5f3462a8942a4"), looks := false }, kinds := [], alts := [], laidByText := true, laidKinds := [.data], laidTests := true, laidLooks := .later }
def TeimsgOnlyUptoCardSaid : Prop := Claim7.holds Tryd.pinned (.plain (OpenSpec.upto teimsgOnlySpec)) teimsgOnlyUptoCard

/-- THE SECOND FORM's CARD OF 'lapwinglaw07.TeimsgBack'. -/
def teimsgBackUptoCard : Claim7 := { stood := { row := teimsgBackUptoRow, standIns := [], harness := (true, "89227dd7d808c709c49766bf34662150a650782c8b2ca840e4e5f3462a8942a4"), looks := false }, kinds := [], alts := [], laidByText := true, laidKinds := [.widerDeep, .data, .data], laidTests := true, laidLooks := .later }
def TeimsgBackUptoCardSaid : Prop := Claim7.holds Tryd.pinned (.plain (OpenSpec.upto teimsgBackSpec)) teimsgBackUptoCard
end Rows
end Go.Proofs.YtmgiolpooamkkaaDoor
