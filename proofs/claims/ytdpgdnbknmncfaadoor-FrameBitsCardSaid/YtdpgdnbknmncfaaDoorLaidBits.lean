/- From the row of FrameBits (four tables read as laid) to the two tables of package ctrl; a world for its witness. -/
import Derived.Test.YtdpgdnbknmncfaaDoorLaidOf
namespace Go.Proofs.YtdpgdnbknmncfaaDoorX
open Go.RowKit
theorem laid_ofB {W : World} (h : laidMet Tryd.prog [("unicode/utf8.acceptRanges", Go.Proofs.YtdpgdnbknmncfaaDoor.Rows.laid_unicode_utf8_acceptRanges), ("lapwing/ctrl.first", Go.Proofs.YtdpgdnbknmncfaaDoor.Rows.laid_lapwing_ctrl_first), ("lapwing/ctrl.names", Go.Proofs.YtdpgdnbknmncfaaDoor.Rows.laid_lapwing_ctrl_names), ("unicode/utf8.first", Go.Proofs.YtdpgdnbknmncfaaDoor.Rows.laid_unicode_utf8_first)] W) : Laid W := by
  obtain ⟨ps, ⟨_, _, _, _, _, _, _, _, _, _, hr0, _⟩, _⟩ := h
  obtain ⟨g1, t1, cs1, f1, p1, q1, hg1, ht1, hv1, hd1, hr, _⟩ := hr0
  obtain ⟨g2, t2, cs2, f2, p2, q2, hg2, ht2, hv2, hd2, _, _⟩ := hr
  obtain rfl := Option.some.inj (gFirst.symm.trans hg1)
  obtain rfl := Option.some.inj (tFirst.symm.trans ht1)
  obtain rfl := Option.some.inj (gNames.symm.trans hg2)
  obtain rfl := Option.some.inj (tNames.symm.trans ht2)
  have e1 := Lib.cells_of_tab (zs := glFirst) Tryd.underlying99 Tryd.underlying5 c1a c10a hd1
  have e2 := strs_of_tab (zs := namesData) Tryd.underlying98 Tryd.underlying9 c1b c10b hd2
  have hv1' : W.var? Tryd.prog "lapwing/ctrl.first" = some (glFirst.map (Value.int .u8)).toArray := by rw [hv1, ← Array.toArray_toList (xs := cs1), e1]
  have hv2' : W.var? Tryd.prog "lapwing/ctrl.names" = some (glNames.map Value.string).toArray := by rw [hv2, ← Array.toArray_toList (xs := cs2), e2]; rfl
  refine ⟨fun i x hx => ?_, fun i x hx => ?_⟩
  · have := World.var?_cell gFirst hv1' i
    rw [this]
    simp [hx]
  · have := World.var?_cell gNames hv2' i
    rw [this]
    simp [hx]
noncomputable def laidB1 (os : Os) : World :=
  { laidWorld os with heap := (laidWorld os).heap.modify 2 fun
      | .cells _ t frozen => .cells (Go.Pinned.utf8FirstZ.map fun (n : Nat) => Value.int .u8 (n : Int)).toArray t frozen
      | o => o }
noncomputable def laidWorldB (os : Os) : World :=
  { laidB1 os with heap := (laidB1 os).heap.modify 3 fun
      | .cells _ t frozen => .cells #[.int .u8 128, .int .u8 191, .int .u8 160, .int .u8 191, .int .u8 128, .int .u8 159, .int .u8 144, .int .u8 191, .int .u8 128, .int .u8 143, .int .u8 0, .int .u8 0, .int .u8 0, .int .u8 0, .int .u8 0, .int .u8 0, .int .u8 0, .int .u8 0, .int .u8 0, .int .u8 0, .int .u8 0, .int .u8 0, .int .u8 0, .int .u8 0, .int .u8 0, .int .u8 0, .int .u8 0, .int .u8 0, .int .u8 0, .int .u8 0, .int .u8 0, .int .u8 0] t frozen
      | o => o }
end Go.Proofs.YtdpgdnbknmncfaaDoorX
