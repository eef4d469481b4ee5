/- The arms of BusPlays's switch. Written by bplays.py. -/
import Derived.Test.YtfopcnabcmdclaaBusNH
import Derived.Test.YtfopcnabcmdclaaWalkBusOrder
import Derived.BigRegion
import Derived.Deep.DeepCutAuto
import Derived.Deep.RegionHeld3
namespace Go.Proofs.Ytfopcnabcmdclaa.Wk
open Go Go.RowKit Go.Proofs.YtfopcnabcmdclaaW.PrintWords Go.Proofs.YtfopcnabcmdclaaW.PrintLast Go.Proofs.YtfopcnabcmdclaaW.PrintMore Go.Proofs.Ytfopcnabcmdclaa.Str Go.Proofs.Ytfopcnabcmdclaa.Bits Go.Proofs.Ytfopcnabcmdclaa.Mp Go.Proofs.Ytfopcnabcmdclaa.Ra Go.Proofs.Ytfopcnabcmdclaa.Bs Go.Proofs.Ytfopcnabcmdclaa.Ac
set_option linter.unusedVariables false
set_option linter.unusedSimpArgs false
/-- Block n of a code. -/
def theBlock (n : Nat) : Code → Option Code
  | .block m c => if m = n then some (.block m c) else theBlock n c
  | .loop c => theBlock n c
  | .scope c => theBlock n c
  | .seq a b => match theBlock n a with
    | some c => some c
    | none => theBlock n b
  | .cond _ a b => match theBlock n a with
    | some c => some c
    | none => theBlock n b
  | _ => none
noncomputable def sw : Code := (Try.f4.body.bind (theBlock 2)).getD .skip
/-- An exit that is the ordinary one alone. -/
def QN (N : Act → World → Prop) : Exit → Act → World → Prop := fun e a w => match e with
  | .normal => N a w
  | _ => False
theorem to_arm {P : Program} {c : Code} {Q : Exit → Act → World → Prop} {a : Act} {w : World} (h : Code.wp P c (QN (fun a w => Q .normal a w)) a w) : Code.wp P c Q a w :=
  Code.wp_mono (fun e a w h => by cases e <;> first | exact h | exact (show False from h).elim) h
/-- What an act leaves. -/
def Post (w : World) (sz g1 k : Nat) (w' : World) : Prop := ∃ q' : Bool → Int → List ByteArray, Aside0 (Pair (fun k => k < w.heap.size) w' (w.heap.size + 1) w.heap.size (6000 * (k + 1)) sz q' g1 q') ∧ Aside0 (Below w.heap.size w w')
/-- A call on both, one behind the other. -/
theorem done {w w5 : World} {sz g1 g k : Nat} {c : Nat} {q' : Bool → Int → List ByteArray} (h : Pair (fun k => k < w.heap.size ∨ k = g) w5 (w.heap.size + 1) w.heap.size c sz q' g1 q') (hc : c ≤ 6000 * (k + 1)) (hb : Below w.heap.size w w5) : Post w sz g1 k w5 :=
  ⟨q', ⟨(h.less (fun k hk => Or.inl hk)).le hc⟩, ⟨hb⟩⟩
theorem act_kept {w5 w6 : World} {w : World} {g : Nat} {cs : Obj} (h : w5.heap[g]? = some cs) (k : Kb (fun k => ¬ (k < w.heap.size ∨ k = g)) w5 w6) : w6.heap[g]? = some cs :=
  (k.block g (Array.getElem?_eq_some_iff.1 h).1 (fun h => h (Or.inr rfl))).trans h
theorem bel_kept {w5 w6 : World} {w : World} {g : Nat} (h : Below w.heap.size w w5) (k : Kb (fun k => ¬ (k < w.heap.size ∨ k = g)) w5 w6) : Below w.heap.size w w6 :=
  below_kb h k h.size (fun k hk => Or.inl hk)
end Go.Proofs.Ytfopcnabcmdclaa.Wk
