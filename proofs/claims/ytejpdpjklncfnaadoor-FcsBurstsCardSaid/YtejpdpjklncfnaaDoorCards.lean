/-
  DERIVED. GIVEN WITH THE SEED: THE CARDS: each row of YtejpdpjklncfnaaDoorRows.lean that lists a variable, with what it lists TIED to the program's text (the seventh form; the later family's looks); each row that meets fmt, with fmt's text TOLD by the authors' own Lean function (tested against real Go, not proved from fmt's source: count such statements apart). THE CARD IS WHAT COUNTS. Prove the row's statement (the work); the ties are given (YtejpdpjklncfnaaDoorTie.lean); close each card by the builder's one call (the guide's Derived/Test/ToyasCard.lean, 'card_holds'). Laid BY PROGRAM, IN A SANDBOX (cutbox-door.mjs). By AI agents, Wed Nov 11 2026. No macro, syntax, notation, axiom, sorry.
-/
import Derived.Test.YtejpdpjklncfnaaDoorRows
import GoSem.ClaimSeven
namespace Go.Proofs.YtejpdpjklncfnaaDoor
namespace Rows

/-- THE TIED CARD OF 'lapwinglaw02.FcsBursts'. -/
def fcsBurstsCard : Claim7 := { stood := { row := fcsBurstsRow, standIns := [], harness := (true, "b4e6de5e25e218c183b3ef38c499cadd679ecccb86dfc41d19b2868032388d53"), looks := false }, kinds := [], alts := [], laidByText := true, laidKinds := [.data, .pinned], laidTests := true, laidLooks := .later }
def FcsBurstsCardSaid : Prop := Claim7.holds Tryd.pinned (.plain (OpenSpec.ofChange fcsBurstsSpec)) fcsBurstsCard

/-- THE TIED CARD OF 'lapwinglaw02.FcsEach'. -/
def fcsEachCard : Claim7 := { stood := { row := fcsEachRow, standIns := [], harness := (true, "b4e6de5e25e218c183b3ef38c499cadd679ecccb86dfc41d19b2868032388d53"), looks := false }, kinds := [], alts := [], laidByText := true, laidKinds := [.data, .pinned], laidTests := true, laidLooks := .later }
def FcsEachCardSaid : Prop := Claim7.holds Tryd.pinned (.plain (OpenSpec.ofChange fcsEachSpec)) fcsEachCard

/-- THE SECOND FORM's CARD OF 'lapwinglaw02.FcsBursts'. -/
def fcsBurstsUptoCard : Claim7 := { stood := { row := fcsBurstsUptoRow, standIns := [], harness := (true, "b4e6de5e25e218c183b3ef38c499cadd679ecccb86dfc41d19b2868032388d53"), looks := false }, kinds := [], alts := [], laidByText := true, laidKinds := [.data, .pinned], laidTests := true, laidLooks := .later }
def FcsBurstsUptoCardSaid : Prop := Claim7.holds Tryd.pinned (.plain (OpenSpec.upto fcsBurstsSpec)) fcsBurstsUptoCard

/-- THE SECOND FORM's CARD OF 'lapwinglaw02.FcsEach'. -/
def fcsEachUptoCard : Claim7 := { stood := { row := fcsEachUptoRow, standIns := [], harness := (true, "b4e6de5e25e218c183b3ef38c499cadd679ecccb86dfc41d19b2868032388d53"), looks := false }, kinds := [], alts := [], laidByText := true, laidKinds := [.data, .pinned], laidTests := true, laidLooks := .later }
def FcsEachUptoCardSaid : Prop := Claim7.holds Tryd.pinned (.plain (OpenSpec.upto fcsEachSpec)) fcsEachUptoCard
end Rows
end Go.Proofs.YtejpdpjklncfnaaDoor
