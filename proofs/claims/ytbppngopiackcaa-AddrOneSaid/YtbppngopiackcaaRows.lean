/-
  No cell of these rows narrows 'for every input' (looked for: loops, veiled, ifaces, maps, wideKeys, modest, calm, conditions, laid).
  DERIVED. THE GIVEN ROWS OF THIS SEAT. 7 by the template 'for every input the law returns true; each argument reads behind the call as it read before'; 0 by the template 'total and deterministic' (their statements: YtbppngopiackcaaTotals.lean).
  GIVEN WITH THE SEED: the statements are not yours to turn. If you find one false, say at which input.
  Laid BY PROGRAM, IN A SANDBOX (cutbox-rows.mjs): the forced cells as the released guide's own fill.sh prints them over the translation f9ae3323c8aebbf7… (all of the seat's roots in one cut). By AI agents, Wed Nov 11 2026. No macro, syntax, notation, axiom, sorry.
-/
import Derived.Test.YtbppngopiackcaaChecked
import GoSem.Claim
import GoSem.ClaimJoined
import GoSem.ClaimMapViews
import Derived.JoinedTies
import Derived.KernelRfl
namespace Go.Proofs.Ytbppngopiackcaa
/- THE CELL 'sum', in the pinned program and in every row, IS THE sha256 OF THE DUMP (.gsa) THAT YtbppngopiackcaaProg.lean LOADS. Nothing in Lean hashes anything: it is a label: what it is worth is what the hold of that sum in a sandbox is worth. -/
noncomputable def Try.pinned : Pinned := { name := "ytbppngopiackcaa", sum := "f9ae3323c8aebbf7f80b955901a2e5eb4f0fe2047e7f6b63bda59d6992b80df1", checked := Try.checked }
namespace Rows
def none {H : Type} : Left H := { results := [], args := [] }

/-- 'lapwinglaw04.AddrGets': WHATEVER THE INPUT: true; the input reads as it did. -/
def addrGetsSpec : ChangeSpec := { name := "addrGets", fn := fun _ => fun
  | [d] => { results := [.lit (.bool true)], args := [d] }
  | _ => none }
def addrGetsRow : OpenClaim := { program := "ytbppngopiackcaa", sum := "f9ae3323c8aebbf7f80b955901a2e5eb4f0fe2047e7f6b63bda59d6992b80df1", func := "lapwing/lapwinglaw04.AddrGets", spec := "addrGets", apart := false }
def AddrGetsSaid : Prop := addrGetsRow.holds Try.pinned (OpenSpec.ofChange addrGetsSpec)

/-- ITS FALSE NEIGHBOUR: 'it returns false'. Refute it at one input. -/
def addrGetsWrong : ChangeSpec := { name := "addrGets", fn := fun _ => fun
  | [d] => { results := [.lit (.bool false)], args := [d] }
  | _ => none }
def AddrGetsWrongFalsely : Prop := addrGetsRow.holds Try.pinned (OpenSpec.ofChange addrGetsWrong)

/-- 'lapwinglaw04.AddrKinds': WHATEVER THE INPUT: true; the input reads as it did. -/
def addrKindsSpec : ChangeSpec := { name := "addrKinds", fn := fun _ => fun
  | [d] => { results := [.lit (.bool true)], args := [d] }
  | _ => none }
def addrKindsRow : OpenClaim := { program := "ytbppngopiackcaa", sum := "f9ae3323c8aebbf7f80b955901a2e5eb4f0fe2047e7f6b63bda59d6992b80df1", func := "lapwing/lapwinglaw04.AddrKinds", spec := "addrKinds", apart := false }
def AddrKindsSaid : Prop := addrKindsRow.holds Try.pinned (OpenSpec.ofChange addrKindsSpec)

/-- ITS FALSE NEIGHBOUR: 'it returns false'. Refute it at one input. -/
def addrKindsWrong : ChangeSpec := { name := "addrKinds", fn := fun _ => fun
  | [d] => { results := [.lit (.bool false)], args := [d] }
  | _ => none }
def AddrKindsWrongFalsely : Prop := addrKindsRow.holds Try.pinned (OpenSpec.ofChange addrKindsWrong)

/-- 'lapwinglaw04.AddrPuts': WHATEVER THE INPUT: true; the input reads as it did. -/
def addrPutsSpec : ChangeSpec := { name := "addrPuts", fn := fun _ => fun
  | [d] => { results := [.lit (.bool true)], args := [d] }
  | _ => none }
def addrPutsRow : OpenClaim := { program := "ytbppngopiackcaa", sum := "f9ae3323c8aebbf7f80b955901a2e5eb4f0fe2047e7f6b63bda59d6992b80df1", func := "lapwing/lapwinglaw04.AddrPuts", spec := "addrPuts", apart := false }
def AddrPutsSaid : Prop := addrPutsRow.holds Try.pinned (OpenSpec.ofChange addrPutsSpec)

/-- ITS FALSE NEIGHBOUR: 'it returns false'. Refute it at one input. -/
def addrPutsWrong : ChangeSpec := { name := "addrPuts", fn := fun _ => fun
  | [d] => { results := [.lit (.bool false)], args := [d] }
  | _ => none }
def AddrPutsWrongFalsely : Prop := addrPutsRow.holds Try.pinned (OpenSpec.ofChange addrPutsWrong)

/-- 'lapwinglaw04.AddrOne': WHATEVER THE INPUT: true; the input reads as it did. -/
def addrOneSpec : ChangeSpec := { name := "addrOne", fn := fun _ => fun
  | [d] => { results := [.lit (.bool true)], args := [d] }
  | _ => none }
def addrOneRow : OpenClaim := { program := "ytbppngopiackcaa", sum := "f9ae3323c8aebbf7f80b955901a2e5eb4f0fe2047e7f6b63bda59d6992b80df1", func := "lapwing/lapwinglaw04.AddrOne", spec := "addrOne", apart := false }
def AddrOneSaid : Prop := addrOneRow.holds Try.pinned (OpenSpec.ofChange addrOneSpec)

/-- ITS FALSE NEIGHBOUR: 'it returns false'. Refute it at one input. -/
def addrOneWrong : ChangeSpec := { name := "addrOne", fn := fun _ => fun
  | [d] => { results := [.lit (.bool false)], args := [d] }
  | _ => none }
def AddrOneWrongFalsely : Prop := addrOneRow.holds Try.pinned (OpenSpec.ofChange addrOneWrong)

/-- 'lapwinglaw04.AddrMakes': WHATEVER THE INPUT: true; the input reads as it did. -/
def addrMakesSpec : ChangeSpec := { name := "addrMakes", fn := fun _ => fun
  | [d1, d2, d3] => { results := [.lit (.bool true)], args := [d1, d2, d3] }
  | _ => none }
def addrMakesRow : OpenClaim := { program := "ytbppngopiackcaa", sum := "f9ae3323c8aebbf7f80b955901a2e5eb4f0fe2047e7f6b63bda59d6992b80df1", func := "lapwing/lapwinglaw04.AddrMakes", spec := "addrMakes", apart := false }
def AddrMakesSaid : Prop := addrMakesRow.holds Try.pinned (OpenSpec.ofChange addrMakesSpec)

/-- ITS FALSE NEIGHBOUR: 'it returns false'. Refute it at one input. -/
def addrMakesWrong : ChangeSpec := { name := "addrMakes", fn := fun _ => fun
  | [d1, d2, d3] => { results := [.lit (.bool false)], args := [d1, d2, d3] }
  | _ => none }
def AddrMakesWrongFalsely : Prop := addrMakesRow.holds Try.pinned (OpenSpec.ofChange addrMakesWrong)

/-- 'lapwinglaw04.AddrTurned': WHATEVER THE INPUT: true; the input reads as it did. -/
def addrTurnedSpec : ChangeSpec := { name := "addrTurned", fn := fun _ => fun
  | [d1, d2, d3] => { results := [.lit (.bool true)], args := [d1, d2, d3] }
  | _ => none }
def addrTurnedRow : OpenClaim := { program := "ytbppngopiackcaa", sum := "f9ae3323c8aebbf7f80b955901a2e5eb4f0fe2047e7f6b63bda59d6992b80df1", func := "lapwing/lapwinglaw04.AddrTurned", spec := "addrTurned", apart := false }
def AddrTurnedSaid : Prop := addrTurnedRow.holds Try.pinned (OpenSpec.ofChange addrTurnedSpec)

/-- ITS FALSE NEIGHBOUR: 'it returns false'. Refute it at one input. -/
def addrTurnedWrong : ChangeSpec := { name := "addrTurned", fn := fun _ => fun
  | [d1, d2, d3] => { results := [.lit (.bool false)], args := [d1, d2, d3] }
  | _ => none }
def AddrTurnedWrongFalsely : Prop := addrTurnedRow.holds Try.pinned (OpenSpec.ofChange addrTurnedWrong)

/-- 'lapwinglaw04.AddrBack': WHATEVER THE INPUT: true; the input reads as it did. -/
def addrBackSpec : ChangeSpec := { name := "addrBack", fn := fun _ => fun
  | [d1, d2, d3] => { results := [.lit (.bool true)], args := [d1, d2, d3] }
  | _ => none }
def addrBackRow : OpenClaim := { program := "ytbppngopiackcaa", sum := "f9ae3323c8aebbf7f80b955901a2e5eb4f0fe2047e7f6b63bda59d6992b80df1", func := "lapwing/lapwinglaw04.AddrBack", spec := "addrBack", apart := false }
def AddrBackSaid : Prop := addrBackRow.holds Try.pinned (OpenSpec.ofChange addrBackSpec)

/-- ITS FALSE NEIGHBOUR: 'it returns false'. Refute it at one input. -/
def addrBackWrong : ChangeSpec := { name := "addrBack", fn := fun _ => fun
  | [d1, d2, d3] => { results := [.lit (.bool false)], args := [d1, d2, d3] }
  | _ => none }
def AddrBackWrongFalsely : Prop := addrBackRow.holds Try.pinned (OpenSpec.ofChange addrBackWrong)

/- THE SECOND FORM. 'bulk': how many values and letters a reading holds, each counted each time it is reached (what is shared counts as often as it is met; a slice's spare places count too). A statement '..UptoSaid' is the law's where the arguments, and the package variables that the reading takes, are together of bulk at most 1048576: NARROWER than '..Said'. Prove '..Said' where nothing that the law and all that it calls make is longer than what came in: it says more and counts as full. Else prove '..UptoSaid'. A law counts once. -/
mutual
def uptoBulk {H : Type} : DataW H → Nat
  | .lit (.string bytes) => bytes.length + 1
  | .lit _ => 1
  | .nil => 1
  | .ptr d => uptoBulk d + 1
  | .slice elems spare => uptoBulkAll elems + uptoBulkAll spare + 1
  | .agg parts => uptoBulkAll parts + 1
  | .iface _ d => uptoBulk d + 1
  | .map entries => uptoBulkEntries entries + 1
  | .held _ => 1
def uptoBulkAll {H : Type} : List (DataW H) → Nat
  | [] => 0
  | d :: r => uptoBulk d + uptoBulkAll r
def uptoBulkEntries {H : Type} : List (Lit × DataW H) → Nat
  | [] => 0
  | x :: r => uptoBulkEntry x + uptoBulkEntries r
def uptoBulkEntry {H : Type} : Lit × DataW H → Nat
  | (.string bytes, d) => bytes.length + uptoBulk d + 1
  | (_, d) => uptoBulk d + 1
 end
def uptoSmall : (H : Type) → List (DataW H) → Bool := fun _ ds => decide (uptoBulkAll ds ≤ 1048576)
def OpenSpec.upto (s : _root_.Go.ChangeSpec) : _root_.Go.OpenSpec := { _root_.Go.OpenSpec.ofChange s with cond := some uptoSmall }

/-- 'lapwinglaw04.AddrGets', WHERE WHAT IT READS IS OF BULK AT MOST 1048576: true; the input reads as it did. -/
def addrGetsUptoRow : OpenClaim := { program := "ytbppngopiackcaa", sum := "f9ae3323c8aebbf7f80b955901a2e5eb4f0fe2047e7f6b63bda59d6992b80df1", func := "lapwing/lapwinglaw04.AddrGets", spec := "addrGets", apart := false, narrowed := true }
def AddrGetsUptoSaid : Prop := addrGetsUptoRow.holds Try.pinned (OpenSpec.upto addrGetsSpec)

/-- 'lapwinglaw04.AddrKinds', WHERE WHAT IT READS IS OF BULK AT MOST 1048576: true; the input reads as it did. -/
def addrKindsUptoRow : OpenClaim := { program := "ytbppngopiackcaa", sum := "f9ae3323c8aebbf7f80b955901a2e5eb4f0fe2047e7f6b63bda59d6992b80df1", func := "lapwing/lapwinglaw04.AddrKinds", spec := "addrKinds", apart := false, narrowed := true }
def AddrKindsUptoSaid : Prop := addrKindsUptoRow.holds Try.pinned (OpenSpec.upto addrKindsSpec)

/-- 'lapwinglaw04.AddrPuts', WHERE WHAT IT READS IS OF BULK AT MOST 1048576: true; the input reads as it did. -/
def addrPutsUptoRow : OpenClaim := { program := "ytbppngopiackcaa", sum := "f9ae3323c8aebbf7f80b955901a2e5eb4f0fe2047e7f6b63bda59d6992b80df1", func := "lapwing/lapwinglaw04.AddrPuts", spec := "addrPuts", apart := false, narrowed := true }
def AddrPutsUptoSaid : Prop := addrPutsUptoRow.holds Try.pinned (OpenSpec.upto addrPutsSpec)

/-- 'lapwinglaw04.AddrOne', WHERE WHAT IT READS IS OF BULK AT MOST 1048576: true; the input reads as it did. -/
def addrOneUptoRow : OpenClaim := { program := "ytbppngopiackcaa", sum := "f9ae3323c8aebbf7f80b955901a2e5eb4f0fe2047e7f6b63bda59d6992b80df1", func := "lapwing/lapwinglaw04.AddrOne", spec := "addrOne", apart := false, narrowed := true }
def AddrOneUptoSaid : Prop := addrOneUptoRow.holds Try.pinned (OpenSpec.upto addrOneSpec)

/-- 'lapwinglaw04.AddrMakes', WHERE WHAT IT READS IS OF BULK AT MOST 1048576: true; the input reads as it did. -/
def addrMakesUptoRow : OpenClaim := { program := "ytbppngopiackcaa", sum := "f9ae3323c8aebbf7f80b955901a2e5eb4f0fe2047e7f6b63bda59d6992b80df1", func := "lapwing/lapwinglaw04.AddrMakes", spec := "addrMakes", apart := false, narrowed := true }
def AddrMakesUptoSaid : Prop := addrMakesUptoRow.holds Try.pinned (OpenSpec.upto addrMakesSpec)

/-- 'lapwinglaw04.AddrTurned', WHERE WHAT IT READS IS OF BULK AT MOST 1048576: true; the input reads as it did. -/
def addrTurnedUptoRow : OpenClaim := { program := "ytbppngopiackcaa", sum := "f9ae3323c8aebbf7f80b955901a2e5eb4f0fe2047e7f6b63bda59d6992b80df1", func := "lapwing/lapwinglaw04.AddrTurned", spec := "addrTurned", apart := false, narrowed := true }
def AddrTurnedUptoSaid : Prop := addrTurnedUptoRow.holds Try.pinned (OpenSpec.upto addrTurnedSpec)

/-- 'lapwinglaw04.AddrBack', WHERE WHAT IT READS IS OF BULK AT MOST 1048576: true; the input reads as it did. -/
def addrBackUptoRow : OpenClaim := { program := "ytbppngopiackcaa", sum := "f9ae3323c8aebbf7f80b955901a2e5eb4f0fe2047e7f6b63bda59d6992b80df1", func := "lapwing/lapwinglaw04.AddrBack", spec := "addrBack", apart := false, narrowed := true }
def AddrBackUptoSaid : Prop := addrBackUptoRow.holds Try.pinned (OpenSpec.upto addrBackSpec)

end Rows
end Go.Proofs.Ytbppngopiackcaa
