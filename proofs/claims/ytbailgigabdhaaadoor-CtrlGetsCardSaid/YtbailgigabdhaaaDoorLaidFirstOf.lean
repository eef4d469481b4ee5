/- From a row's premise (the table of first octets of package ctrl reads as laid) to its cells. -/
import Derived.Test.YtbailgigabdhaaaDoorLaidFirst
import Derived.Test.YtbailgigabdhaaaDoorRows
import Derived.Lib.LaidTab
import Derived.ProofKit
import Derived.Deep.DeepHandedRow
namespace Go.Proofs.YtbailgigabdhaaaDoorXF
open Go.RowKit Go.Proofs.YtbailgigabdhaaaDoorX
theorem gFirst : Tryd.prog.globalNamed "lapwing/ctrl.first" = some 0 := by kernel_rfl
theorem tFirst : (Tryd.prog.globals[0]?).map (·.type) = some 52 := by kernel_rfl
theorem c10a : Tryd.prog.cellsOf 52 = 10 := by kernel_rfl
theorem c1a : Tryd.prog.cellsOf 5 = 1 := by kernel_rfl
theorem laid_of {W : World} (h : laidMet Tryd.prog [("lapwing/ctrl.first", Go.Proofs.YtbailgigabdhaaaDoor.Rows.laid_lapwing_ctrl_first)] W) : Laid W := by
  obtain ⟨ps, ⟨g1, t1, cs1, f1, p1, q1, hg1, ht1, hv1, hd1, hr, _⟩, _⟩ := h
  obtain rfl := Option.some.inj (gFirst.symm.trans hg1)
  obtain rfl := Option.some.inj (tFirst.symm.trans ht1)
  have e1 := Lib.cells_of_tab (zs := glFirst) Tryd.underlying52 Tryd.underlying5 c1a c10a hd1
  have hv1' : W.var? Tryd.prog "lapwing/ctrl.first" = some (glFirst.map (Value.int .u8)).toArray := by rw [hv1, ← Array.toArray_toList (xs := cs1), e1]
  intro i x hx
  have := World.var?_cell gFirst hv1' i
  rw [this]
  simp [hx]
/-- A world for a row's witness: the settled one, the table as laid. -/
noncomputable def laidWorld (os : Os) : World :=
  { World.holding Tryd.prog os ⟨#[], #[], []⟩ with heap := (World.holding Tryd.prog os ⟨#[], #[], []⟩).heap.modify 0 fun
      | .cells _ t frozen => .cells #[.int .u8 0, .int .u8 1, .int .u8 5, .int .u8 9, .int .u8 111, .int .u8 15, .int .u8 3, .int .u8 67, .int .u8 99, .int .u8 135] t frozen
      | o => o }
end Go.Proofs.YtbailgigabdhaaaDoorXF
