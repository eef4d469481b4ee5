/- From a row's premise (the link of package teimsg reads as laid) to its cells. -/
import Derived.Test.YtmgiolpooamkkaaDoorLaidLink
import Derived.Test.YtmgiolpooamkkaaDoorRows
import Derived.Lib.LaidTab
import Derived.ProofKit
import Derived.Deep.DeepHandedRow
import Derived.ChangeSame
namespace Go.Proofs.YtmgiolpooamkkaaDoorX
open Go.RowKit
theorem gLink : Tryd.prog.globalNamed "lapwing/teimsg.link" = some 0 := by kernel_rfl
theorem tLink : (Tryd.prog.globals[0]?).map (·.type) = some 35 := by kernel_rfl
theorem c2 : Tryd.prog.cellsOf 35 = 2 := by kernel_rfl
theorem c1 : Tryd.prog.cellsOf 3 = 1 := by kernel_rfl
theorem cells_of_pair {H : Type} {enc : TypeId × Value → H} {w : World} {base : Nat} {sp : Nat → Bool} {held : Bool} {fuel : Nat} {cs : List Value} {x y : Int} {p : List MemPlace}
    (h : DataW.trod enc Tryd.prog w base sp held fuel 35 cs = some (.agg [.lit (.int .i64 x), .lit (.int .i64 y)], p)) : cs = [.int .i64 x, .int .i64 y] := by
  obtain ⟨xs, n, _, hx, hl, hlen, hf⟩ := DataW.trod_struct Tryd.underlying35 h
  rw [c2] at hl
  match cs, hl with
  | [c0, c1'], _ =>
    match xs, hlen with
    | [e0, e1], _ =>
      simp only [Prod.mk.injEq, DataW.agg.injEq, List.map_cons, List.map_nil, List.cons.injEq, and_true] at hx
      have h0 := hf 0 _ rfl
      have h1 := hf 1 _ rfl
      simp [c1] at h0 h1
      obtain ⟨a, ha, hb, _⟩ := DataW.trod_int Tryd.underlying3 h0
      obtain ⟨a', ha', hb', _⟩ := DataW.trod_int Tryd.underlying3 h1
      simp only [List.cons.injEq, and_true] at ha ha'
      rw [ha, ha']
      rw [hb, hb'] at hx
      simp at hx
      rw [hx.1.1, hx.1.2]
theorem laid_of {W : World} (h : laidMet Tryd.prog [("lapwing/teimsg.link", Go.Proofs.YtmgiolpooamkkaaDoor.Rows.laid_lapwing_teimsg_link)] W) : Laid W := by
  obtain ⟨ps, ⟨g1, t1, cs1, f1, p1, q1, hg1, ht1, hv1, hd1, hr, _⟩, _⟩ := h
  obtain rfl := Option.some.inj (gLink.symm.trans hg1)
  obtain rfl := Option.some.inj (tLink.symm.trans ht1)
  have e1 := cells_of_pair hd1
  have hv1' : W.var? Tryd.prog "lapwing/teimsg.link" = some (glLink.map (Value.int .i64)).toArray := by rw [hv1, ← Array.toArray_toList (xs := cs1), e1]; rfl
  intro i x hx
  have := World.var?_cell gLink hv1' i
  rw [this]
  simp [hx]
/-- A world for a row's witness: the settled one, the link as laid. -/
noncomputable def laidWorld (os : Os) : World :=
  { World.holding Tryd.prog os ⟨#[], #[], []⟩ with heap := (World.holding Tryd.prog os ⟨#[], #[], []⟩).heap.modify 0 fun
      | .cells _ t frozen => .cells #[.int .i64 63, .int .i64 127] t frozen
      | o => o }
end Go.Proofs.YtmgiolpooamkkaaDoorX
