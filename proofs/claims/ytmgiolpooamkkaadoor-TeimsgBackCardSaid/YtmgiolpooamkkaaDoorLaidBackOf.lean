/- From a row's premise (the link of package teimsg, the tables of package ctrl read as laid) to their cells. -/
import Derived.Test.YtmgiolpooamkkaaDoorLaidBack
import Derived.Test.YtmgiolpooamkkaaDoorLaidLinkOf
namespace Go.Proofs.YtmgiolpooamkkaaDoorX
open Go.RowKit
theorem strs_of_tab {H : Type} {enc : TypeId × Value → H} {P : Program} {w : World} {base : Nat} {sp : Nat → Bool} {held : Bool} {fuel : Nat} {t e : TypeId} {n : Nat} {cs : List Value} {zs : List (List UInt8)} {p : List MemPlace}
    (ht : P.underlying t = some (.array n e)) (he : P.underlying e = some .string) (hce : P.cellsOf e = 1) (hct : P.cellsOf t = n)
    (h : DataW.trod enc P w base sp held fuel t cs = some (.agg (zs.map fun z => .lit (.string z)), p)) : cs = zs.map fun z => Value.string ⟨z.toArray⟩ := by
  cases fuel with
  | zero => simp [DataW.trod] at h
  | succ fuel =>
    simp only [DataW.trod, ht, hce, hct, Nat.mul_one] at h
    split at h
    · rename_i hl
      obtain ⟨xs, hm, hx⟩ := Option.map_eq_some_iff.1 h
      have hxs : xs.map (·.1) = zs.map fun z => (DataW.lit (.string z) : DataW H) := by
        have := congrArg Prod.fst hx
        simpa using this
      have hxl : xs.length = n := by simpa using Lib.mapM_length hm
      have hzl : zs.length = n := by
        have := congrArg List.length hxs
        simp at this
        omega
      apply List.ext_getElem?
      intro i
      by_cases hi : i < n
      · obtain ⟨b, hb, hf⟩ := Lib.mapM_at hm i i (by simp [hi])
        obtain ⟨s, hc, rfl, _⟩ := DataW.trod_string he hf
        have h1 : cs[i]? = some (.string s) := by
          have := congrArg (·[0]?) hc
          simpa [List.getElem?_take, List.getElem?_drop] using this
        have h2 : (xs.map (·.1))[i]? = some (DataW.lit (.string s.data.toList) : DataW H) := by simp [hb]
        rw [hxs] at h2
        simp only [List.getElem?_map, Option.map_eq_some_iff, DataW.lit.injEq, Lit.string.injEq] at h2
        obtain ⟨z', hz', rfl⟩ := h2
        rw [h1, List.getElem?_map, hz']
        rfl
      · rw [List.getElem?_eq_none (by omega), List.getElem?_eq_none (by simp; omega)]
    · cases h
def namesData : List (List UInt8) := [[73], [82, 82], [82, 78, 82], [82, 69, 74], [83, 65, 66, 77, 69], [68, 77], [85, 73], [68, 73, 83, 67], [85, 65], [70, 82, 77, 82]]
theorem gFirst : Tryd.prog.globalNamed "lapwing/ctrl.first" = some 1 := by kernel_rfl
theorem gNames : Tryd.prog.globalNamed "lapwing/ctrl.names" = some 2 := by kernel_rfl
theorem tFirst : (Tryd.prog.globals[1]?).map (·.type) = some 88 := by kernel_rfl
theorem tNames : (Tryd.prog.globals[2]?).map (·.type) = some 96 := by kernel_rfl
theorem c10a : Tryd.prog.cellsOf 88 = 10 := by kernel_rfl
theorem c10b : Tryd.prog.cellsOf 96 = 10 := by kernel_rfl
theorem c1x : Tryd.prog.cellsOf 5 = 1 := by kernel_rfl
theorem c1y : Tryd.prog.cellsOf 9 = 1 := by kernel_rfl
theorem laid_ofB {W : World} (h : laidMet Tryd.prog [("lapwing/ctrl.first", Go.Proofs.YtmgiolpooamkkaaDoor.Rows.laid_lapwing_ctrl_first), ("lapwing/ctrl.names", Go.Proofs.YtmgiolpooamkkaaDoor.Rows.laid_lapwing_ctrl_names), ("lapwing/teimsg.link", Go.Proofs.YtmgiolpooamkkaaDoor.Rows.laid_lapwing_teimsg_link)] W) : LaidB W := by
  obtain ⟨ps, ⟨g1, t1, cs1, f1, p1, q1, hg1, ht1, hv1, hd1, hr0, _⟩, _⟩ := h
  obtain ⟨g2, t2, cs2, f2, p2, q2, hg2, ht2, hv2, hd2, hr, _⟩ := hr0
  obtain ⟨g0, t0, cs0, f0, p0, q0, hg0, ht0, hv0, hd0, _, _⟩ := hr
  obtain rfl := Option.some.inj (gLink.symm.trans hg0)
  obtain rfl := Option.some.inj (tLink.symm.trans ht0)
  obtain rfl := Option.some.inj (gFirst.symm.trans hg1)
  obtain rfl := Option.some.inj (tFirst.symm.trans ht1)
  obtain rfl := Option.some.inj (gNames.symm.trans hg2)
  obtain rfl := Option.some.inj (tNames.symm.trans ht2)
  have e0 := cells_of_pair hd0
  have e1 := Lib.cells_of_tab (zs := Go.Proofs.YtmgiolpooamkkaaDoor.Fw.tFirst) Tryd.underlying88 Tryd.underlying5 c1x c10a hd1
  have e2 := strs_of_tab (zs := namesData) Tryd.underlying96 Tryd.underlying9 c1y c10b hd2
  have hv0' : W.var? Tryd.prog "lapwing/teimsg.link" = some (glLink.map (Value.int .i64)).toArray := by rw [hv0, ← Array.toArray_toList (xs := cs0), e0]; rfl
  have hv1' : W.var? Tryd.prog "lapwing/ctrl.first" = some (Go.Proofs.YtmgiolpooamkkaaDoor.Fw.tFirst.map (Value.int .u8)).toArray := by rw [hv1, ← Array.toArray_toList (xs := cs1), e1]
  have hv2' : W.var? Tryd.prog "lapwing/ctrl.names" = some (Go.Proofs.YtmgiolpooamkkaaDoor.Fw.tNames.map Value.string).toArray := by rw [hv2, ← Array.toArray_toList (xs := cs2), e2]; rfl
  refine ⟨fun i x hx => ?_, fun i x hx => ?_, fun i x hx => ?_⟩
  · have := World.var?_cell gLink hv0' i
    rw [this]
    simp [hx]
  · have := World.var?_cell gFirst hv1' i
    rw [this]
    simp [hx]
  · have := World.var?_cell gNames hv2' i
    rw [this]
    simp [hx]
/-- A world for a row's witness: the settled one, the link and the two tables as laid. -/
noncomputable def laidFirstB (os : Os) : World :=
  { laidWorld os with heap := (laidWorld os).heap.modify 1 fun
      | .cells _ t frozen => .cells #[.int .u8 0, .int .u8 1, .int .u8 5, .int .u8 9, .int .u8 111, .int .u8 15, .int .u8 3, .int .u8 67, .int .u8 99, .int .u8 135] t frozen
      | o => o }
noncomputable def laidWorldB (os : Os) : World :=
  { laidFirstB os with heap := (laidFirstB os).heap.modify 2 fun
      | .cells _ t frozen => .cells #[.string ⟨#[73]⟩, .string ⟨#[82, 82]⟩, .string ⟨#[82, 78, 82]⟩, .string ⟨#[82, 69, 74]⟩, .string ⟨#[83, 65, 66, 77, 69]⟩, .string ⟨#[68, 77]⟩, .string ⟨#[85, 73]⟩, .string ⟨#[68, 73, 83, 67]⟩, .string ⟨#[85, 65]⟩, .string ⟨#[70, 82, 77, 82]⟩] t frozen
      | o => o }
end Go.Proofs.YtmgiolpooamkkaaDoorX
