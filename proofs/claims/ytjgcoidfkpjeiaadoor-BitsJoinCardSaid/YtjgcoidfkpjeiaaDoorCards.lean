/-
  DERIVED. GIVEN WITH THE SEED: THE CARDS: each row of YtjgcoidfkpjeiaaDoorRows.lean that lists a variable, with what it lists TIED to the program's text (the seventh form; the later family's looks); each row that meets fmt, with fmt's text TOLD by the authors' own Lean function (tested against real Go, not proved from fmt's source: count such statements apart). THE CARD IS WHAT COUNTS. Prove the row's statement (the work); the ties are given (YtjgcoidfkpjeiaaDoorTie.lean); close each card by the builder's one call (the guide's Derived/Test/ToyasCard.lean, 'card_holds'). Laid BY PROGRAM, IN A SANDBOX (cutbox-door.mjs). By AI agents, Wed Nov 11 2026. No macro, syntax, notation, axiom, sorry.
-/
import Derived.Test.YtjgcoidfkpjeiaaDoorRows
import GoSem.ClaimSeven
namespace Go.Proofs.YtjgcoidfkpjeiaaDoor
namespace Rows

/-- THE TIED CARD OF 'lapwinglaw01.BitsOctets'. -/
def bitsOctetsCard : Claim7 := { stood := { row := bitsOctetsRow, standIns := [], harness := (true, "cbbe8d915019860c8038cb84d213ff1aa85411703768ed0397f01fb6c5ca3aaf"), looks := false }, kinds := [], alts := [], laidByText := true, laidKinds := [.data, .pinned], laidTests := true, laidLooks := .later }
def BitsOctetsCardSaid : Prop := Claim7.holds Tryd.pinned (.plain (OpenSpec.ofChange bitsOctetsSpec)) bitsOctetsCard

/-- THE TIED CARD OF 'lapwinglaw01.BitsJoin'. -/
def bitsJoinCard : Claim7 := { stood := { row := bitsJoinRow, standIns := [], harness := (true, "cbbe8d915019860c8038cb84d213ff1aa85411703768ed0397f01fb6c5ca3aaf"), looks := false }, kinds := [], alts := [], laidByText := true, laidKinds := [.data, .pinned], laidTests := true, laidLooks := .later }
def BitsJoinCardSaid : Prop := Claim7.holds Tryd.pinned (.plain (OpenSpec.ofChange bitsJoinSpec)) bitsJoinCard

/-- THE TIED CARD OF 'lapwinglaw01.BitsBack'. -/
def bitsBackCard : Claim7 := { stood := { row := bitsBackRow, standIns := [], harness := (true, "cbbe8d915019860c8038cb84d213ff1aa85411703768ed0397f01fb6c5ca3aaf"), looks := false }, kinds := [], alts := [], laidByText := true, laidKinds := [.data, .pinned], laidTests := true, laidLooks := .later }
def BitsBackCardSaid : Prop := Claim7.holds Tryd.pinned (.plain (OpenSpec.ofChange bitsBackSpec)) bitsBackCard

/-- THE SECOND FORM's CARD OF 'lapwinglaw01.BitsOctets'. -/
def bitsOctetsUptoCard : Claim7 := { stood := { row := bitsOctetsUptoRow, standIns := [], harness := (true, "cbbe8d915019860c8038cb84d213ff1aa85411703768ed0397f01fb6c5ca3aaf"), looks := false }, kinds := [], alts := [], laidByText := true, laidKinds := [.data, .pinned], laidTests := true, laidLooks := .later }
def BitsOctetsUptoCardSaid : Prop := Claim7.holds Tryd.pinned (.plain (OpenSpec.upto bitsOctetsSpec)) bitsOctetsUptoCard

/-- THE SECOND FORM's CARD OF 'lapwinglaw01.BitsJoin'. -/
def bitsJoinUptoCard : Claim7 := { stood := { row := bitsJoinUptoRow, standIns := [], harness := (true, "cbbe8d915019860c8038cb84d213ff1aa85411703768ed0397f01fb6c5ca3aaf"), looks := false }, kinds := [], alts := [], laidByText := true, laidKinds := [.data, .pinned], laidTests := true, laidLooks := .later }
def BitsJoinUptoCardSaid : Prop := Claim7.holds Tryd.pinned (.plain (OpenSpec.upto bitsJoinSpec)) bitsJoinUptoCard

/-- THE SECOND FORM's CARD OF 'lapwinglaw01.BitsBack'. -/
def bitsBackUptoCard : Claim7 := { stood := { row := bitsBackUptoRow, standIns := [], harness := (true, "cbbe8d915019860c8038cb84d213ff1aa85411703768ed0397f01fb6c5ca3aaf"), looks := false }, kinds := [], alts := [], laidByText := true, laidKinds := [.data, .pinned], laidTests := true, laidLooks := .later }
def BitsBackUptoCardSaid : Prop := Claim7.holds Tryd.pinned (.plain (OpenSpec.upto bitsBackSpec)) bitsBackUptoCard
end Rows
end Go.Proofs.YtjgcoidfkpjeiaaDoor
