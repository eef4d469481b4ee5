/-
  No cell of these rows narrows 'for every input' (looked for: loops, veiled, ifaces, maps, wideKeys, modest, calm, conditions, laid).
  DERIVED. THE GIVEN ROWS OF THIS SEAT. 6 by the template 'for every input the law returns true; each argument reads behind the call as it read before'; 0 by the template 'total and deterministic' (their statements: YtejpdpjklncfnaaTotals.lean).
  GIVEN WITH THE SEED: the statements are not yours to turn. If you find one false, say at which input.
  Laid BY PROGRAM, IN A SANDBOX (cutbox-rows.mjs): the forced cells as the released guide's own fill.sh prints them over the translation 35bce74de0baeb82… (all of the seat's roots in one cut). By AI agents, Wed Nov 11 2026. No macro, syntax, notation, axiom, sorry.
-/
import Derived.Test.YtejpdpjklncfnaaChecked
import GoSem.Claim
import GoSem.ClaimJoined
import GoSem.ClaimMapViews
import Derived.JoinedTies
import Derived.KernelRfl
namespace Go.Proofs.Ytejpdpjklncfnaa
/- THE CELL 'sum', in the pinned program and in every row, IS THE sha256 OF THE DUMP (.gsa) THAT YtejpdpjklncfnaaProg.lean LOADS. Nothing in Lean hashes anything: it is a label: what it is worth is what the hold of that sum in a sandbox is worth. -/
noncomputable def Try.pinned : Pinned := { name := "ytejpdpjklncfnaa", sum := "35bce74de0baeb82968d77d6a1e4cb5c328ea3965a4555d2e34bfd71bce106a4", checked := Try.checked }
namespace Rows
def none {H : Type} : Left H := { results := [], args := [] }

/-- 'lapwinglaw02.FcsSteps': WHATEVER THE INPUT: true; the input reads as it did. -/
def fcsStepsSpec : ChangeSpec := { name := "fcsSteps", fn := fun _ => fun
  | [d1, d2] => { results := [.lit (.bool true)], args := [d1, d2] }
  | _ => none }
def fcsStepsRow : OpenClaim := { program := "ytejpdpjklncfnaa", sum := "35bce74de0baeb82968d77d6a1e4cb5c328ea3965a4555d2e34bfd71bce106a4", func := "lapwing/lapwinglaw02.FcsSteps", spec := "fcsSteps", apart := false }
def FcsStepsSaid : Prop := fcsStepsRow.holds Try.pinned (OpenSpec.ofChange fcsStepsSpec)

/-- ITS FALSE NEIGHBOUR: 'it returns false'. Refute it at one input. -/
def fcsStepsWrong : ChangeSpec := { name := "fcsSteps", fn := fun _ => fun
  | [d1, d2] => { results := [.lit (.bool false)], args := [d1, d2] }
  | _ => none }
def FcsStepsWrongFalsely : Prop := fcsStepsRow.holds Try.pinned (OpenSpec.ofChange fcsStepsWrong)

/-- 'lapwinglaw02.FcsLinear': WHATEVER THE INPUT: true; the input reads as it did. -/
def fcsLinearSpec : ChangeSpec := { name := "fcsLinear", fn := fun _ => fun
  | [d1, d2] => { results := [.lit (.bool true)], args := [d1, d2] }
  | _ => none }
def fcsLinearRow : OpenClaim := { program := "ytejpdpjklncfnaa", sum := "35bce74de0baeb82968d77d6a1e4cb5c328ea3965a4555d2e34bfd71bce106a4", func := "lapwing/lapwinglaw02.FcsLinear", spec := "fcsLinear", apart := false }
def FcsLinearSaid : Prop := fcsLinearRow.holds Try.pinned (OpenSpec.ofChange fcsLinearSpec)

/-- ITS FALSE NEIGHBOUR: 'it returns false'. Refute it at one input. -/
def fcsLinearWrong : ChangeSpec := { name := "fcsLinear", fn := fun _ => fun
  | [d1, d2] => { results := [.lit (.bool false)], args := [d1, d2] }
  | _ => none }
def FcsLinearWrongFalsely : Prop := fcsLinearRow.holds Try.pinned (OpenSpec.ofChange fcsLinearWrong)

/-- 'lapwinglaw02.FcsOn': WHATEVER THE INPUT: true; the input reads as it did. -/
def fcsOnSpec : ChangeSpec := { name := "fcsOn", fn := fun _ => fun
  | [d1, d2] => { results := [.lit (.bool true)], args := [d1, d2] }
  | _ => none }
def fcsOnRow : OpenClaim := { program := "ytejpdpjklncfnaa", sum := "35bce74de0baeb82968d77d6a1e4cb5c328ea3965a4555d2e34bfd71bce106a4", func := "lapwing/lapwinglaw02.FcsOn", spec := "fcsOn", apart := false }
def FcsOnSaid : Prop := fcsOnRow.holds Try.pinned (OpenSpec.ofChange fcsOnSpec)

/-- ITS FALSE NEIGHBOUR: 'it returns false'. Refute it at one input. -/
def fcsOnWrong : ChangeSpec := { name := "fcsOn", fn := fun _ => fun
  | [d1, d2] => { results := [.lit (.bool false)], args := [d1, d2] }
  | _ => none }
def FcsOnWrongFalsely : Prop := fcsOnRow.holds Try.pinned (OpenSpec.ofChange fcsOnWrong)

/-- 'lapwinglaw02.FcsSums': WHATEVER THE INPUT: true; the input reads as it did. -/
def fcsSumsSpec : ChangeSpec := { name := "fcsSums", fn := fun _ => fun
  | [d] => { results := [.lit (.bool true)], args := [d] }
  | _ => none }
def fcsSumsRow : OpenClaim := { program := "ytejpdpjklncfnaa", sum := "35bce74de0baeb82968d77d6a1e4cb5c328ea3965a4555d2e34bfd71bce106a4", func := "lapwing/lapwinglaw02.FcsSums", spec := "fcsSums", apart := false }
def FcsSumsSaid : Prop := fcsSumsRow.holds Try.pinned (OpenSpec.ofChange fcsSumsSpec)

/-- ITS FALSE NEIGHBOUR: 'it returns false'. Refute it at one input. -/
def fcsSumsWrong : ChangeSpec := { name := "fcsSums", fn := fun _ => fun
  | [d] => { results := [.lit (.bool false)], args := [d] }
  | _ => none }
def FcsSumsWrongFalsely : Prop := fcsSumsRow.holds Try.pinned (OpenSpec.ofChange fcsSumsWrong)

/-- 'lapwinglaw02.FcsChecks': WHATEVER THE INPUT: true; the input reads as it did. -/
def fcsChecksSpec : ChangeSpec := { name := "fcsChecks", fn := fun _ => fun
  | [d] => { results := [.lit (.bool true)], args := [d] }
  | _ => none }
def fcsChecksRow : OpenClaim := { program := "ytejpdpjklncfnaa", sum := "35bce74de0baeb82968d77d6a1e4cb5c328ea3965a4555d2e34bfd71bce106a4", func := "lapwing/lapwinglaw02.FcsChecks", spec := "fcsChecks", apart := false }
def FcsChecksSaid : Prop := fcsChecksRow.holds Try.pinned (OpenSpec.ofChange fcsChecksSpec)

/-- ITS FALSE NEIGHBOUR: 'it returns false'. Refute it at one input. -/
def fcsChecksWrong : ChangeSpec := { name := "fcsChecks", fn := fun _ => fun
  | [d] => { results := [.lit (.bool false)], args := [d] }
  | _ => none }
def FcsChecksWrongFalsely : Prop := fcsChecksRow.holds Try.pinned (OpenSpec.ofChange fcsChecksWrong)

/-- 'lapwinglaw02.FcsBack': WHATEVER THE INPUT: true; the input reads as it did. -/
def fcsBackSpec : ChangeSpec := { name := "fcsBack", fn := fun _ => fun
  | [d] => { results := [.lit (.bool true)], args := [d] }
  | _ => none }
def fcsBackRow : OpenClaim := { program := "ytejpdpjklncfnaa", sum := "35bce74de0baeb82968d77d6a1e4cb5c328ea3965a4555d2e34bfd71bce106a4", func := "lapwing/lapwinglaw02.FcsBack", spec := "fcsBack", apart := false }
def FcsBackSaid : Prop := fcsBackRow.holds Try.pinned (OpenSpec.ofChange fcsBackSpec)

/-- ITS FALSE NEIGHBOUR: 'it returns false'. Refute it at one input. -/
def fcsBackWrong : ChangeSpec := { name := "fcsBack", fn := fun _ => fun
  | [d] => { results := [.lit (.bool false)], args := [d] }
  | _ => none }
def FcsBackWrongFalsely : Prop := fcsBackRow.holds Try.pinned (OpenSpec.ofChange fcsBackWrong)

/- THE SECOND FORM. 'bulk': how many values and letters a reading holds, each counted each time it is reached (what is shared counts as often as it is met; a slice's spare places count too). A statement '..UptoSaid' is the law's where the arguments, and the package variables that the reading takes, are together of bulk at most 1048576: NARROWER than '..Said'. Prove '..Said' where nothing that the law and all that it calls make is longer than what came in: it says more and counts as full. Else prove '..UptoSaid'. A law counts once. -/
mutual
def uptoBulk {H : Type} : DataW H → Nat
  | .lit (.string bytes) => bytes.length + 1
  | .lit _ => 1
  | .nil => 1
  | .ptr d => uptoBulk d + 1
  | .slice elems spare => uptoBulkAll elems + uptoBulkAll spare + 1
  | .agg parts => uptoBulkAll parts + 1
  | .iface _ d => uptoBulk d + 1
  | .map entries => uptoBulkEntries entries + 1
  | .held _ => 1
def uptoBulkAll {H : Type} : List (DataW H) → Nat
  | [] => 0
  | d :: r => uptoBulk d + uptoBulkAll r
def uptoBulkEntries {H : Type} : List (Lit × DataW H) → Nat
  | [] => 0
  | x :: r => uptoBulkEntry x + uptoBulkEntries r
def uptoBulkEntry {H : Type} : Lit × DataW H → Nat
  | (.string bytes, d) => bytes.length + uptoBulk d + 1
  | (_, d) => uptoBulk d + 1
 end
def uptoSmall : (H : Type) → List (DataW H) → Bool := fun _ ds => decide (uptoBulkAll ds ≤ 1048576)
def OpenSpec.upto (s : _root_.Go.ChangeSpec) : _root_.Go.OpenSpec := { _root_.Go.OpenSpec.ofChange s with cond := some uptoSmall }

/-- 'lapwinglaw02.FcsSteps', WHERE WHAT IT READS IS OF BULK AT MOST 1048576: true; the input reads as it did. -/
def fcsStepsUptoRow : OpenClaim := { program := "ytejpdpjklncfnaa", sum := "35bce74de0baeb82968d77d6a1e4cb5c328ea3965a4555d2e34bfd71bce106a4", func := "lapwing/lapwinglaw02.FcsSteps", spec := "fcsSteps", apart := false, narrowed := true }
def FcsStepsUptoSaid : Prop := fcsStepsUptoRow.holds Try.pinned (OpenSpec.upto fcsStepsSpec)

/-- 'lapwinglaw02.FcsLinear', WHERE WHAT IT READS IS OF BULK AT MOST 1048576: true; the input reads as it did. -/
def fcsLinearUptoRow : OpenClaim := { program := "ytejpdpjklncfnaa", sum := "35bce74de0baeb82968d77d6a1e4cb5c328ea3965a4555d2e34bfd71bce106a4", func := "lapwing/lapwinglaw02.FcsLinear", spec := "fcsLinear", apart := false, narrowed := true }
def FcsLinearUptoSaid : Prop := fcsLinearUptoRow.holds Try.pinned (OpenSpec.upto fcsLinearSpec)

/-- 'lapwinglaw02.FcsOn', WHERE WHAT IT READS IS OF BULK AT MOST 1048576: true; the input reads as it did. -/
def fcsOnUptoRow : OpenClaim := { program := "ytejpdpjklncfnaa", sum := "35bce74de0baeb82968d77d6a1e4cb5c328ea3965a4555d2e34bfd71bce106a4", func := "lapwing/lapwinglaw02.FcsOn", spec := "fcsOn", apart := false, narrowed := true }
def FcsOnUptoSaid : Prop := fcsOnUptoRow.holds Try.pinned (OpenSpec.upto fcsOnSpec)

/-- 'lapwinglaw02.FcsSums', WHERE WHAT IT READS IS OF BULK AT MOST 1048576: true; the input reads as it did. -/
def fcsSumsUptoRow : OpenClaim := { program := "ytejpdpjklncfnaa", sum := "35bce74de0baeb82968d77d6a1e4cb5c328ea3965a4555d2e34bfd71bce106a4", func := "lapwing/lapwinglaw02.FcsSums", spec := "fcsSums", apart := false, narrowed := true }
def FcsSumsUptoSaid : Prop := fcsSumsUptoRow.holds Try.pinned (OpenSpec.upto fcsSumsSpec)

/-- 'lapwinglaw02.FcsChecks', WHERE WHAT IT READS IS OF BULK AT MOST 1048576: true; the input reads as it did. -/
def fcsChecksUptoRow : OpenClaim := { program := "ytejpdpjklncfnaa", sum := "35bce74de0baeb82968d77d6a1e4cb5c328ea3965a4555d2e34bfd71bce106a4", func := "lapwing/lapwinglaw02.FcsChecks", spec := "fcsChecks", apart := false, narrowed := true }
def FcsChecksUptoSaid : Prop := fcsChecksUptoRow.holds Try.pinned (OpenSpec.upto fcsChecksSpec)

/-- 'lapwinglaw02.FcsBack', WHERE WHAT IT READS IS OF BULK AT MOST 1048576: true; the input reads as it did. -/
def fcsBackUptoRow : OpenClaim := { program := "ytejpdpjklncfnaa", sum := "35bce74de0baeb82968d77d6a1e4cb5c328ea3965a4555d2e34bfd71bce106a4", func := "lapwing/lapwinglaw02.FcsBack", spec := "fcsBack", apart := false, narrowed := true }
def FcsBackUptoSaid : Prop := fcsBackUptoRow.holds Try.pinned (OpenSpec.upto fcsBackSpec)

end Rows
end Go.Proofs.Ytejpdpjklncfnaa
