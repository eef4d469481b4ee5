/-
  DERIVED. GIVEN WITH THE SEED: THE CARDS: each row of YtljnfbpplhnmfaaGreatDoorRows.lean that lists a variable, with what it lists TIED to the program's text (the seventh form; the later family's looks); each row that meets fmt, with fmt's text TOLD by the authors' own Lean function (tested against real Go, not proved from fmt's source: count such statements apart). THE CARD IS WHAT COUNTS. Prove the row's statement (the work); the ties are given (YtljnfbpplhnmfaaGreatDoorTie.lean); close each card by the builder's one call (the guide's Derived/Test/ToyasCard.lean, 'card_holds'). Laid BY PROGRAM, IN A SANDBOX (cutbox-door.mjs). By AI agents, Wed Nov 11 2026. No macro, syntax, notation, axiom, sorry.
-/
import Derived.Test.YtljnfbpplhnmfaaGreatDoorRows
import GoSem.ClaimSeven
namespace Go.Proofs.YtljnfbpplhnmfaaGreatDoor
namespace Rows

/-- THE TIED CARD OF 'lapwingtop.TopOrder'. -/
def topOrderCard : Claim7 := { stood := { row := topOrderRow, standIns := [], harness := (true, "f1c38567fabac238b3c0efb4ae827018bdc2e5d053ef04de5aee25b9f5e3e897"), looks := false }, kinds := [], alts := [], laidByText := true, laidKinds := [.data, .widerDeep, .data, .pinned], laidTests := true, laidLooks := .later }
def TopOrderCardSaid : Prop := Claim7.holds Tryz.pinned (.plain (OpenSpec.ofChange topOrderSpec)) topOrderCard

/-- THE TIED CARD OF 'lapwingtop.TopProgress'. -/
def topProgressCard : Claim7 := { stood := { row := topProgressRow, standIns := [], harness := (true, "f1c38567fabac238b3c0efb4ae827018bdc2e5d053ef04de5aee25b9f5e3e897"), looks := false }, kinds := [], alts := [], laidByText := true, laidKinds := [.data, .widerDeep, .data, .pinned], laidTests := true, laidLooks := .later }
def TopProgressCardSaid : Prop := Claim7.holds Tryz.pinned (.plain (OpenSpec.ofChange topProgressSpec)) topProgressCard

/-- THE TIED CARD OF 'lapwingtop.TopClean'. -/
def topCleanCard : Claim7 := { stood := { row := topCleanRow, standIns := [], harness := (true, "f1c38567fabac238b3c0efb4ae827018bdc2e5d053ef04de5aee25b9f5e3e897"), looks := false }, kinds := [], alts := [], laidByText := true, laidKinds := [.data, .widerDeep, .data, .pinned], laidTests := true, laidLooks := .later }
def TopCleanCardSaid : Prop := Claim7.holds Tryz.pinned (.plain (OpenSpec.ofChange topCleanSpec)) topCleanCard

/-- THE TIED CARD OF 'lapwingtop.TopUnits'. -/
def topUnitsCard : Claim7 := { stood := { row := topUnitsRow, standIns := [], harness := (true, "f1c38567fabac238b3c0efb4ae827018bdc2e5d053ef04de5aee25b9f5e3e897"), looks := false }, kinds := [], alts := [], laidByText := true, laidKinds := [.data, .widerDeep, .data, .pinned], laidTests := true, laidLooks := .later }
def TopUnitsCardSaid : Prop := Claim7.holds Tryz.pinned (.plain (OpenSpec.ofChange topUnitsSpec)) topUnitsCard

/-- THE TIED CARD OF 'lapwingtop.TopGives'. -/
def topGivesCard : Claim7 := { stood := { row := topGivesRow, standIns := [], harness := (true, "f1c38567fabac238b3c0efb4ae827018bdc2e5d053ef04de5aee25b9f5e3e897"), looks := false }, kinds := [], alts := [], laidByText := true, laidKinds := [.data, .widerDeep, .data, .pinned], laidTests := true, laidLooks := .later }
def TopGivesCardSaid : Prop := Claim7.holds Tryz.pinned (.plain (OpenSpec.ofChange topGivesSpec)) topGivesCard

/-- THE SECOND FORM's CARD OF 'lapwingtop.TopOrder'. -/
def topOrderUptoCard : Claim7 := { stood := { row := topOrderUptoRow, standIns := [], harness := (true, "f1c38567fabac238b3c0efb4ae827018bdc2e5d053ef04de5aee25b9f5e3e897"), looks := false }, kinds := [], alts := [], laidByText := true, laidKinds := [.data, .widerDeep, .data, .pinned], laidTests := true, laidLooks := .later }
def TopOrderUptoCardSaid : Prop := Claim7.holds Tryz.pinned (.plain (OpenSpec.upto topOrderSpec)) topOrderUptoCard

/-- THE SECOND FORM's CARD OF 'lapwingtop.TopProgress'. -/
def topProgressUptoCard : Claim7 := { stood := { row := topProgressUptoRow, standIns := [], harness := (true, "f1c38567fabac238b3c0efb4ae827018bdc2e5d053ef04de5aee25b9f5e3e897"), looks := false }, kinds := [], alts := [], laidByText := true, laidKinds := [.data, .widerDeep, .data, .pinned], laidTests := true, laidLooks := .later }
def TopProgressUptoCardSaid : Prop := Claim7.holds Tryz.pinned (.plain (OpenSpec.upto topProgressSpec)) topProgressUptoCard

/-- THE SECOND FORM's CARD OF 'lapwingtop.TopClean'. -/
def topCleanUptoCard : Claim7 := { stood := { row := topCleanUptoRow, standIns := [], harness := (true, "f1c38567fabac238b3c0efb4ae827018bdc2e5d053ef04de5aee25b9f5e3e897"), looks := false }, kinds := [], alts := [], laidByText := true, laidKinds := [.data, .widerDeep, .data, .pinned], laidTests := true, laidLooks := .later }
def TopCleanUptoCardSaid : Prop := Claim7.holds Tryz.pinned (.plain (OpenSpec.upto topCleanSpec)) topCleanUptoCard

/-- THE SECOND FORM's CARD OF 'lapwingtop.TopUnits'. -/
def topUnitsUptoCard : Claim7 := { stood := { row := topUnitsUptoRow, standIns := [], harness := (true, "f1c38567fabac238b3c0efb4ae827018bdc2e5d053ef04de5aee25b9f5e3e897"), looks := false }, kinds := [], alts := [], laidByText := true, laidKinds := [.data, .widerDeep, .data, .pinned], laidTests := true, laidLooks := .later }
def TopUnitsUptoCardSaid : Prop := Claim7.holds Tryz.pinned (.plain (OpenSpec.upto topUnitsSpec)) topUnitsUptoCard

/-- THE SECOND FORM's CARD OF 'lapwingtop.TopGives'. -/
def topGivesUptoCard : Claim7 := { stood := { row := topGivesUptoRow, standIns := [], harness := (true, "f1c38567fabac238b3c0efb4ae827018bdc2e5d053ef04de5aee25b9f5e3e897"), looks := false }, kinds := [], alts := [], laidByText := true, laidKinds := [.data, .widerDeep, .data, .pinned], laidTests := true, laidLooks := .later }
def TopGivesUptoCardSaid : Prop := Claim7.holds Tryz.pinned (.plain (OpenSpec.upto topGivesSpec)) topGivesUptoCard
end Rows
end Go.Proofs.YtljnfbpplhnmfaaGreatDoor
