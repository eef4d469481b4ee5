/- From a row's premise (the tables of package ctrl read as laid) to their cells. -/
import Derived.Test.YtbailgigabdhaaaDoorLaidCtrl
import Derived.Test.YtbailgigabdhaaaDoorRows
import Derived.Lib.LaidTab
import Derived.ProofKit
import Derived.Deep.DeepHandedRow
namespace Go.Proofs.YtbailgigabdhaaaDoorX
open Go.RowKit
theorem strs_of_tab {H : Type} {enc : TypeId × Value → H} {P : Program} {w : World} {base : Nat} {sp : Nat → Bool} {held : Bool} {fuel : Nat} {t e : TypeId} {n : Nat} {cs : List Value} {zs : List (List UInt8)} {p : List MemPlace}
    (ht : P.underlying t = some (.array n e)) (he : P.underlying e = some .string) (hce : P.cellsOf e = 1) (hct : P.cellsOf t = n)
    (h : DataW.trod enc P w base sp held fuel t cs = some (.agg (zs.map fun z => .lit (.string z)), p)) : cs = zs.map fun z => Value.string ⟨z.toArray⟩ := by
  cases fuel with
  | zero => simp [DataW.trod] at h
  | succ fuel =>
    simp only [DataW.trod, ht, hce, hct, Nat.mul_one] at h
    split at h
    · rename_i hl
      obtain ⟨xs, hm, hx⟩ := Option.map_eq_some_iff.1 h
      have hxs : xs.map (·.1) = zs.map fun z => (DataW.lit (.string z) : DataW H) := by
        have := congrArg Prod.fst hx
        simpa using this
      have hxl : xs.length = n := by simpa using Lib.mapM_length hm
      have hzl : zs.length = n := by
        have := congrArg List.length hxs
        simp at this
        omega
      apply List.ext_getElem?
      intro i
      by_cases hi : i < n
      · obtain ⟨b, hb, hf⟩ := Lib.mapM_at hm i i (by simp [hi])
        obtain ⟨s, hc, rfl, _⟩ := DataW.trod_string he hf
        have h1 : cs[i]? = some (.string s) := by
          have := congrArg (·[0]?) hc
          simpa [List.getElem?_take, List.getElem?_drop] using this
        have h2 : (xs.map (·.1))[i]? = some (DataW.lit (.string s.data.toList) : DataW H) := by simp [hb]
        rw [hxs] at h2
        simp only [List.getElem?_map, Option.map_eq_some_iff, DataW.lit.injEq, Lit.string.injEq] at h2
        obtain ⟨z', hz', rfl⟩ := h2
        rw [h1, List.getElem?_map, hz']
        rfl
      · rw [List.getElem?_eq_none (by omega), List.getElem?_eq_none (by simp; omega)]
    · cases h
def namesData : List (List UInt8) := [[73], [82, 82], [82, 78, 82], [82, 69, 74], [83, 65, 66, 77, 69], [68, 77], [85, 73], [68, 73, 83, 67], [85, 65], [70, 82, 77, 82]]
theorem gFirst : Tryd.prog.globalNamed "lapwing/ctrl.first" = some 0 := by kernel_rfl
theorem gNames : Tryd.prog.globalNamed "lapwing/ctrl.names" = some 1 := by kernel_rfl
theorem tFirst : (Tryd.prog.globals[0]?).map (·.type) = some 52 := by kernel_rfl
theorem tNames : (Tryd.prog.globals[1]?).map (·.type) = some 55 := by kernel_rfl
theorem c10a : Tryd.prog.cellsOf 52 = 10 := by kernel_rfl
theorem c10b : Tryd.prog.cellsOf 55 = 10 := by kernel_rfl
theorem c1a : Tryd.prog.cellsOf 5 = 1 := by kernel_rfl
theorem c1b : Tryd.prog.cellsOf 9 = 1 := by kernel_rfl
theorem laid_of {W : World} (h : laidMet Tryd.prog [("lapwing/ctrl.first", Go.Proofs.YtbailgigabdhaaaDoor.Rows.laid_lapwing_ctrl_first), ("lapwing/ctrl.names", Go.Proofs.YtbailgigabdhaaaDoor.Rows.laid_lapwing_ctrl_names)] W) : Laid W := by
  obtain ⟨ps, ⟨g1, t1, cs1, f1, p1, q1, hg1, ht1, hv1, hd1, hr, _⟩, _⟩ := h
  obtain ⟨g2, t2, cs2, f2, p2, q2, hg2, ht2, hv2, hd2, _, _⟩ := hr
  obtain rfl := Option.some.inj (gFirst.symm.trans hg1)
  obtain rfl := Option.some.inj (tFirst.symm.trans ht1)
  obtain rfl := Option.some.inj (gNames.symm.trans hg2)
  obtain rfl := Option.some.inj (tNames.symm.trans ht2)
  have e1 := Lib.cells_of_tab (zs := glFirst) Tryd.underlying52 Tryd.underlying5 c1a c10a hd1
  have e2 := strs_of_tab (zs := namesData) Tryd.underlying55 Tryd.underlying9 c1b c10b hd2
  have hv1' : W.var? Tryd.prog "lapwing/ctrl.first" = some (glFirst.map (Value.int .u8)).toArray := by rw [hv1, ← Array.toArray_toList (xs := cs1), e1]
  have hv2' : W.var? Tryd.prog "lapwing/ctrl.names" = some (glNames.map Value.string).toArray := by rw [hv2, ← Array.toArray_toList (xs := cs2), e2]; rfl
  refine ⟨fun i x hx => ?_, fun i x hx => ?_⟩
  · have := World.var?_cell gFirst hv1' i
    rw [this]
    simp [hx]
  · have := World.var?_cell gNames hv2' i
    rw [this]
    simp [hx]
/-- A world for a row's witness: the settled one, the two tables as laid. -/
noncomputable def laidFirst (os : Os) : World :=
  { World.holding Tryd.prog os ⟨#[], #[], []⟩ with heap := (World.holding Tryd.prog os ⟨#[], #[], []⟩).heap.modify 0 fun
      | .cells _ t frozen => .cells #[.int .u8 0, .int .u8 1, .int .u8 5, .int .u8 9, .int .u8 111, .int .u8 15, .int .u8 3, .int .u8 67, .int .u8 99, .int .u8 135] t frozen
      | o => o }
noncomputable def laidWorld (os : Os) : World :=
  { laidFirst os with heap := (laidFirst os).heap.modify 1 fun
      | .cells _ t frozen => .cells #[.string ⟨#[73]⟩, .string ⟨#[82, 82]⟩, .string ⟨#[82, 78, 82]⟩, .string ⟨#[82, 69, 74]⟩, .string ⟨#[83, 65, 66, 77, 69]⟩, .string ⟨#[68, 77]⟩, .string ⟨#[85, 73]⟩, .string ⟨#[68, 73, 83, 67]⟩, .string ⟨#[85, 65]⟩, .string ⟨#[70, 82, 77, 82]⟩] t frozen
      | o => o }
end Go.Proofs.YtbailgigabdhaaaDoorX
