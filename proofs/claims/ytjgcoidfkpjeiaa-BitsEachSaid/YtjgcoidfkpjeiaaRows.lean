/-
  No cell of these rows narrows 'for every input' (looked for: loops, veiled, ifaces, maps, wideKeys, modest, calm, conditions, laid).
  DERIVED. THE GIVEN ROWS OF THIS SEAT. 6 by the template 'for every input the law returns true; each argument reads behind the call as it read before'; 0 by the template 'total and deterministic' (their statements: YtjgcoidfkpjeiaaTotals.lean).
  GIVEN WITH THE SEED: the statements are not yours to turn. If you find one false, say at which input.
  Laid BY PROGRAM, IN A SANDBOX (cutbox-rows.mjs): the forced cells as the released guide's own fill.sh prints them over the translation bf53b939acbe0b73… (all of the seat's roots in one cut). By AI agents, Wed Nov 11 2026. No macro, syntax, notation, axiom, sorry.
-/
import Derived.Test.YtjgcoidfkpjeiaaChecked
import GoSem.Claim
import GoSem.ClaimJoined
import GoSem.ClaimMapViews
import Derived.JoinedTies
import Derived.KernelRfl
namespace Go.Proofs.Ytjgcoidfkpjeiaa
/- THE CELL 'sum', in the pinned program and in every row, IS THE sha256 OF THE DUMP (.gsa) THAT YtjgcoidfkpjeiaaProg.lean LOADS. Nothing in Lean hashes anything: it is a label: what it is worth is what the hold of that sum in a sandbox is worth. -/
noncomputable def Try.pinned : Pinned := { name := "ytjgcoidfkpjeiaa", sum := "bf53b939acbe0b7367571d8afafb597f55e6d7a9bcf2f6c109bfdce1ef0a96fb", checked := Try.checked }
namespace Rows
def none {H : Type} : Left H := { results := [], args := [] }

/-- 'lapwinglaw01.BitsFields': WHATEVER THE INPUT: true; the input reads as it did. -/
def bitsFieldsSpec : ChangeSpec := { name := "bitsFields", fn := fun _ => fun
  | [d1, d2, d3] => { results := [.lit (.bool true)], args := [d1, d2, d3] }
  | _ => none }
def bitsFieldsRow : OpenClaim := { program := "ytjgcoidfkpjeiaa", sum := "bf53b939acbe0b7367571d8afafb597f55e6d7a9bcf2f6c109bfdce1ef0a96fb", func := "lapwing/lapwinglaw01.BitsFields", spec := "bitsFields", apart := false }
def BitsFieldsSaid : Prop := bitsFieldsRow.holds Try.pinned (OpenSpec.ofChange bitsFieldsSpec)

/-- ITS FALSE NEIGHBOUR: 'it returns false'. Refute it at one input. -/
def bitsFieldsWrong : ChangeSpec := { name := "bitsFields", fn := fun _ => fun
  | [d1, d2, d3] => { results := [.lit (.bool false)], args := [d1, d2, d3] }
  | _ => none }
def BitsFieldsWrongFalsely : Prop := bitsFieldsRow.holds Try.pinned (OpenSpec.ofChange bitsFieldsWrong)

/-- 'lapwinglaw01.BitsFlips': WHATEVER THE INPUT: true; the input reads as it did. -/
def bitsFlipsSpec : ChangeSpec := { name := "bitsFlips", fn := fun _ => fun
  | [d1, d2] => { results := [.lit (.bool true)], args := [d1, d2] }
  | _ => none }
def bitsFlipsRow : OpenClaim := { program := "ytjgcoidfkpjeiaa", sum := "bf53b939acbe0b7367571d8afafb597f55e6d7a9bcf2f6c109bfdce1ef0a96fb", func := "lapwing/lapwinglaw01.BitsFlips", spec := "bitsFlips", apart := false }
def BitsFlipsSaid : Prop := bitsFlipsRow.holds Try.pinned (OpenSpec.ofChange bitsFlipsSpec)

/-- ITS FALSE NEIGHBOUR: 'it returns false'. Refute it at one input. -/
def bitsFlipsWrong : ChangeSpec := { name := "bitsFlips", fn := fun _ => fun
  | [d1, d2] => { results := [.lit (.bool false)], args := [d1, d2] }
  | _ => none }
def BitsFlipsWrongFalsely : Prop := bitsFlipsRow.holds Try.pinned (OpenSpec.ofChange bitsFlipsWrong)

/-- 'lapwinglaw01.BitsPacks': WHATEVER THE INPUT: true; the input reads as it did. -/
def bitsPacksSpec : ChangeSpec := { name := "bitsPacks", fn := fun _ => fun
  | [d] => { results := [.lit (.bool true)], args := [d] }
  | _ => none }
def bitsPacksRow : OpenClaim := { program := "ytjgcoidfkpjeiaa", sum := "bf53b939acbe0b7367571d8afafb597f55e6d7a9bcf2f6c109bfdce1ef0a96fb", func := "lapwing/lapwinglaw01.BitsPacks", spec := "bitsPacks", apart := false }
def BitsPacksSaid : Prop := bitsPacksRow.holds Try.pinned (OpenSpec.ofChange bitsPacksSpec)

/-- ITS FALSE NEIGHBOUR: 'it returns false'. Refute it at one input. -/
def bitsPacksWrong : ChangeSpec := { name := "bitsPacks", fn := fun _ => fun
  | [d] => { results := [.lit (.bool false)], args := [d] }
  | _ => none }
def BitsPacksWrongFalsely : Prop := bitsPacksRow.holds Try.pinned (OpenSpec.ofChange bitsPacksWrong)

/-- 'lapwinglaw01.BitsParts': WHATEVER THE INPUT: true; the input reads as it did. -/
def bitsPartsSpec : ChangeSpec := { name := "bitsParts", fn := fun _ => fun
  | [d1, d2] => { results := [.lit (.bool true)], args := [d1, d2] }
  | _ => none }
def bitsPartsRow : OpenClaim := { program := "ytjgcoidfkpjeiaa", sum := "bf53b939acbe0b7367571d8afafb597f55e6d7a9bcf2f6c109bfdce1ef0a96fb", func := "lapwing/lapwinglaw01.BitsParts", spec := "bitsParts", apart := false }
def BitsPartsSaid : Prop := bitsPartsRow.holds Try.pinned (OpenSpec.ofChange bitsPartsSpec)

/-- ITS FALSE NEIGHBOUR: 'it returns false'. Refute it at one input. -/
def bitsPartsWrong : ChangeSpec := { name := "bitsParts", fn := fun _ => fun
  | [d1, d2] => { results := [.lit (.bool false)], args := [d1, d2] }
  | _ => none }
def BitsPartsWrongFalsely : Prop := bitsPartsRow.holds Try.pinned (OpenSpec.ofChange bitsPartsWrong)

/-- 'lapwinglaw01.BitsOf': WHATEVER THE INPUT: true; the input reads as it did. -/
def bitsOfSpec : ChangeSpec := { name := "bitsOf", fn := fun _ => fun
  | [d] => { results := [.lit (.bool true)], args := [d] }
  | _ => none }
def bitsOfRow : OpenClaim := { program := "ytjgcoidfkpjeiaa", sum := "bf53b939acbe0b7367571d8afafb597f55e6d7a9bcf2f6c109bfdce1ef0a96fb", func := "lapwing/lapwinglaw01.BitsOf", spec := "bitsOf", inPlace := ["internal/abi.NoEscape"], apart := false }
def BitsOfSaid : Prop := bitsOfRow.holds Try.pinned (OpenSpec.ofChange bitsOfSpec)

/-- ITS FALSE NEIGHBOUR: 'it returns false'. Refute it at one input. -/
def bitsOfWrong : ChangeSpec := { name := "bitsOf", fn := fun _ => fun
  | [d] => { results := [.lit (.bool false)], args := [d] }
  | _ => none }
def BitsOfWrongFalsely : Prop := bitsOfRow.holds Try.pinned (OpenSpec.ofChange bitsOfWrong)

/-- 'lapwinglaw01.BitsEach': WHATEVER THE INPUT: true; the input reads as it did. -/
def bitsEachSpec : ChangeSpec := { name := "bitsEach", fn := fun _ => fun
  | [d] => { results := [.lit (.bool true)], args := [d] }
  | _ => none }
def bitsEachRow : OpenClaim := { program := "ytjgcoidfkpjeiaa", sum := "bf53b939acbe0b7367571d8afafb597f55e6d7a9bcf2f6c109bfdce1ef0a96fb", func := "lapwing/lapwinglaw01.BitsEach", spec := "bitsEach", inPlace := ["internal/abi.NoEscape"], apart := false }
def BitsEachSaid : Prop := bitsEachRow.holds Try.pinned (OpenSpec.ofChange bitsEachSpec)

/-- ITS FALSE NEIGHBOUR: 'it returns false'. Refute it at one input. -/
def bitsEachWrong : ChangeSpec := { name := "bitsEach", fn := fun _ => fun
  | [d] => { results := [.lit (.bool false)], args := [d] }
  | _ => none }
def BitsEachWrongFalsely : Prop := bitsEachRow.holds Try.pinned (OpenSpec.ofChange bitsEachWrong)

/- THE SECOND FORM. 'bulk': how many values and letters a reading holds, each counted each time it is reached (what is shared counts as often as it is met; a slice's spare places count too). A statement '..UptoSaid' is the law's where the arguments, and the package variables that the reading takes, are together of bulk at most 1048576: NARROWER than '..Said'. Prove '..Said' where nothing that the law and all that it calls make is longer than what came in: it says more and counts as full. Else prove '..UptoSaid'. A law counts once. -/
mutual
def uptoBulk {H : Type} : DataW H → Nat
  | .lit (.string bytes) => bytes.length + 1
  | .lit _ => 1
  | .nil => 1
  | .ptr d => uptoBulk d + 1
  | .slice elems spare => uptoBulkAll elems + uptoBulkAll spare + 1
  | .agg parts => uptoBulkAll parts + 1
  | .iface _ d => uptoBulk d + 1
  | .map entries => uptoBulkEntries entries + 1
  | .held _ => 1
def uptoBulkAll {H : Type} : List (DataW H) → Nat
  | [] => 0
  | d :: r => uptoBulk d + uptoBulkAll r
def uptoBulkEntries {H : Type} : List (Lit × DataW H) → Nat
  | [] => 0
  | x :: r => uptoBulkEntry x + uptoBulkEntries r
def uptoBulkEntry {H : Type} : Lit × DataW H → Nat
  | (.string bytes, d) => bytes.length + uptoBulk d + 1
  | (_, d) => uptoBulk d + 1
 end
def uptoSmall : (H : Type) → List (DataW H) → Bool := fun _ ds => decide (uptoBulkAll ds ≤ 1048576)
def OpenSpec.upto (s : _root_.Go.ChangeSpec) : _root_.Go.OpenSpec := { _root_.Go.OpenSpec.ofChange s with cond := some uptoSmall }

/-- 'lapwinglaw01.BitsFields', WHERE WHAT IT READS IS OF BULK AT MOST 1048576: true; the input reads as it did. -/
def bitsFieldsUptoRow : OpenClaim := { program := "ytjgcoidfkpjeiaa", sum := "bf53b939acbe0b7367571d8afafb597f55e6d7a9bcf2f6c109bfdce1ef0a96fb", func := "lapwing/lapwinglaw01.BitsFields", spec := "bitsFields", apart := false, narrowed := true }
def BitsFieldsUptoSaid : Prop := bitsFieldsUptoRow.holds Try.pinned (OpenSpec.upto bitsFieldsSpec)

/-- 'lapwinglaw01.BitsFlips', WHERE WHAT IT READS IS OF BULK AT MOST 1048576: true; the input reads as it did. -/
def bitsFlipsUptoRow : OpenClaim := { program := "ytjgcoidfkpjeiaa", sum := "bf53b939acbe0b7367571d8afafb597f55e6d7a9bcf2f6c109bfdce1ef0a96fb", func := "lapwing/lapwinglaw01.BitsFlips", spec := "bitsFlips", apart := false, narrowed := true }
def BitsFlipsUptoSaid : Prop := bitsFlipsUptoRow.holds Try.pinned (OpenSpec.upto bitsFlipsSpec)

/-- 'lapwinglaw01.BitsPacks', WHERE WHAT IT READS IS OF BULK AT MOST 1048576: true; the input reads as it did. -/
def bitsPacksUptoRow : OpenClaim := { program := "ytjgcoidfkpjeiaa", sum := "bf53b939acbe0b7367571d8afafb597f55e6d7a9bcf2f6c109bfdce1ef0a96fb", func := "lapwing/lapwinglaw01.BitsPacks", spec := "bitsPacks", apart := false, narrowed := true }
def BitsPacksUptoSaid : Prop := bitsPacksUptoRow.holds Try.pinned (OpenSpec.upto bitsPacksSpec)

/-- 'lapwinglaw01.BitsParts', WHERE WHAT IT READS IS OF BULK AT MOST 1048576: true; the input reads as it did. -/
def bitsPartsUptoRow : OpenClaim := { program := "ytjgcoidfkpjeiaa", sum := "bf53b939acbe0b7367571d8afafb597f55e6d7a9bcf2f6c109bfdce1ef0a96fb", func := "lapwing/lapwinglaw01.BitsParts", spec := "bitsParts", apart := false, narrowed := true }
def BitsPartsUptoSaid : Prop := bitsPartsUptoRow.holds Try.pinned (OpenSpec.upto bitsPartsSpec)

/-- 'lapwinglaw01.BitsOf', WHERE WHAT IT READS IS OF BULK AT MOST 1048576: true; the input reads as it did. -/
def bitsOfUptoRow : OpenClaim := { program := "ytjgcoidfkpjeiaa", sum := "bf53b939acbe0b7367571d8afafb597f55e6d7a9bcf2f6c109bfdce1ef0a96fb", func := "lapwing/lapwinglaw01.BitsOf", spec := "bitsOf", inPlace := ["internal/abi.NoEscape"], apart := false, narrowed := true }
def BitsOfUptoSaid : Prop := bitsOfUptoRow.holds Try.pinned (OpenSpec.upto bitsOfSpec)

/-- 'lapwinglaw01.BitsEach', WHERE WHAT IT READS IS OF BULK AT MOST 1048576: true; the input reads as it did. -/
def bitsEachUptoRow : OpenClaim := { program := "ytjgcoidfkpjeiaa", sum := "bf53b939acbe0b7367571d8afafb597f55e6d7a9bcf2f6c109bfdce1ef0a96fb", func := "lapwing/lapwinglaw01.BitsEach", spec := "bitsEach", inPlace := ["internal/abi.NoEscape"], apart := false, narrowed := true }
def BitsEachUptoSaid : Prop := bitsEachUptoRow.holds Try.pinned (OpenSpec.upto bitsEachSpec)

end Rows
end Go.Proofs.Ytjgcoidfkpjeiaa
