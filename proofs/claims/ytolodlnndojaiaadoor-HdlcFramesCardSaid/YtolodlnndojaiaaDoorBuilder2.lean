/- strings.Builder's Grow (of a fresh one) and WriteString at this dump. -/
import Derived.Test.YtolodlnndojaiaaDoorBuilder
import Derived.Test.YtolodlnndojaiaaDoorShelf2
import Derived.Test.YtolodlnndojaiaaDoorStr
import Derived.RegionTactic
import Derived.BigRegion
import Derived.Handy
import Derived.Lib.FrozenHead
namespace Go.Proofs.YtolodlnndojaiaaDoor.Buil
open Go.RowKit Go.Proofs.YtolodlnndojaiaaDoorW.PrintWords Go.Proofs.YtolodlnndojaiaaDoorW.PrintLast Go.Proofs.YtolodlnndojaiaaDoorW.PrintMore Go.Proofs.YtolodlnndojaiaaDoor.Str
set_option linter.unusedVariables false
set_option maxHeartbeats 2000000 in
set_option maxRecDepth 100000 in
theorem grow (B b n : Nat) (w : World) (hB : B ≤ b) (hbk : w.heap[b]? = some (.cells #[.pointer none, .slice none 0 0] 66 (0, 0))) (hBw : B ≤ w.heap.size) (hn : n ≤ 281474976710656) (hn0 : 0 < n) :
    Calls Tryd.prog 43 #[.pointer (some ⟨b, 0, none⟩), .int .i64 n] w fun e w' => e = .returned (.tuple #[]) ∧ (Lib.BuilderAt 66 5 B b (.pointer (some ⟨b, 0, none⟩)) [] w' ∧ Below B w w') := by
  have h0 : w.cell? ⟨b, 0, none⟩ = some (.pointer none) := by rw [Lib.cell_of_heap hbk]; rfl
  have hsh : w.shape? b = some (66, 2) := by unfold World.shape?; rw [hbk]; rfl
  have hfz := Lib.frozen_of_heap hbk 0
  have hb1 : (w.setCell ⟨b, 0, none⟩ (.pointer (some ⟨b, 0, none⟩))).heap[b]? = some (.cells #[.pointer (some ⟨b, 0, none⟩), .slice none 0 0] 66 (0, 0)) := by simp [World.setCell, Array.getElem?_modify, hbk]
  have HB1 := Aside0.mk hb1
  have c1 : (w.setCell ⟨b, 0, none⟩ (.pointer (some ⟨b, 0, none⟩))).cell? ⟨b, 1, none⟩ = some (.slice none 0 0) := by rw [Lib.cell_of_heap hb1]; rfl
  have hs : B ≤ (w.setCell ⟨b, 0, none⟩ (.pointer (some ⟨b, 0, none⟩))).heap.size := by simp [World.setCell]; exact hBw
  have HS := Aside0.mk hs
  have HBL : Aside0 (Below B w (w.setCell ⟨b, 0, none⟩ (.pointer (some ⟨b, 0, none⟩)))) := ⟨(Below.refl B w).setCell (p := ⟨b, 0, none⟩) hB _⟩
  clear hs
  clear hb1 hbk
  go_enter Tryd.func43, Tryd.ntmps43
  go_wp2_with (go_at_call 48; refine (check_fresh b _ h0 hsh hfz).mono ?_)
  rintro e w1 ⟨rfl, rfl⟩
  clear h0 hsh hfz
  go_wp2_with fail
  go_region
  go_wp2_with fail
  refine (Tryd.Builder_grow_fresh B b n (w.setCell ⟨b, 0, none⟩ (.pointer (some ⟨b, 0, none⟩))).drew hB HB1.out HS.out hn).mono ?_
  rintro e w2 ⟨rfl, h2, h3⟩
  have HBL2 := Aside0.mk (HBL.out.drew.trans h3)
  have H2 := Aside0.mk h2
  clear h2 h3 c1
  go_wp2
  go_end0
  exact ⟨rfl, H2.out, HBL2.out⟩
set_option maxHeartbeats 2000000 in
set_option maxRecDepth 100000 in
theorem write (B b : Nat) (bs : List Value) (s : ByteArray) (w : World) (h : Lib.IsBuilderF 66 5 B b bs w) (hlen : bs.length + s.size ≤ 140737488355328) (hBw : B ≤ w.heap.size) :
    Calls Tryd.prog 44 #[.pointer (some ⟨b, 0, none⟩), .string s] w fun e w' => e = .returned (.tuple #[.int .i64 s.size, .nilIface]) ∧ (Lib.BuilderAtF 66 5 B b (.pointer (some ⟨b, 0, none⟩)) (bs ++ Lib.strCells s) w' ∧ Below B w w') := by
  obtain ⟨i0, hi, hz0, hz1, hz2⟩ := info_parts infoByte
  go_enter Tryd.func44, Tryd.ntmps44
  go_wp2_with (go_at_call 48; refine (check B b bs _ h).mono ?_)
  rintro e w1 ⟨rfl, h1, hb1, hk1⟩
  obtain ⟨hB, v, hbk, hown, hne⟩ := h1
  have c0 : w1.cell? ⟨b, 0, none⟩ = some (.pointer (some ⟨b, 0, none⟩)) := by rw [Lib.cell_of_heap hbk]; rfl
  have c1 : w1.cell? ⟨b, 1, none⟩ = some v := by rw [Lib.cell_of_heap hbk]; rfl
  have HBW : Aside0 (B ≤ w1.heap.size) := ⟨by have := hb1.size; omega⟩
  go_wp2_with (at_builtin; refine Lib.wpList_append_own_stringF _ rfl _ _ 22 9 rfl B 5 i0 Tryd.underlying22 Tryd.underlying9 hi hz0 hz1 hz2 _ _ _ rfl hown s rfl (by unfold maxLen; omega) hlen HBW.out ?_)
  intro v' w2 hown' hgrow _
  have hlt : b < w1.heap.size := (Array.getElem?_eq_some_iff.1 hbk).1
  have hb2 : w2.heap[b]? = some (.cells #[.pointer (some ⟨b, 0, none⟩), v] 66 (0, 0)) := by
    rw [hgrow.block b hlt (fun e => hne e.symm)]
    exact hbk
  have d0 : w2.cell? ⟨b, 0, none⟩ = some (.pointer (some ⟨b, 0, none⟩)) := by rw [Lib.cell_of_heap hb2]; rfl
  have d1 : w2.cell? ⟨b, 1, none⟩ = some v := by rw [Lib.cell_of_heap hb2]; rfl
  have f1 : w2.frozen? ⟨b, 1, none⟩ = false := Lib.frozen_of_heap hb2 1
  have HBL : Aside0 (Below B w (w2.setCell ⟨b, 1, none⟩ v')) := ⟨(hb1.grown hgrow HBW.out (fun k hk => (hown.lt k hk).1)).setCell (p := ⟨b, 1, none⟩) hB _⟩
  have HFIN : Aside0 (Lib.BuilderAtF 66 5 B b (.pointer (some ⟨b, 0, none⟩)) (bs ++ Lib.strCells s) (w2.setCell ⟨b, 1, none⟩ v')) := ⟨Lib.BuilderAtF.put (T := 66) (e := 5) hB hb2 (bs' := bs ++ Lib.strCells s) (by rw [List.length_append, Lib.strCells_length]; exact hown') (by decide)⟩
  have hform : (∃ g cap, v' = .slice (some ⟨g, 0, none⟩) (bs.length + s.size) cap) ∨ v' = .slice none 0 0 := by
    rcases hown'.2 with ⟨h, _⟩ | ⟨g, cap, cur, fz, hv, _⟩
    · exact Or.inr h
    · exact Or.inl ⟨g, cap, hv⟩
  clear hown' hgrow hown hb2 hbk hb1 hk1 c0 c1 hne
  rcases hform with ⟨g, cap, rfl⟩ | rfl
  · go_wp2
    go_returns
    exact ⟨rfl, HFIN.out, HBL.out⟩
  · go_wp2
    go_returns
    exact ⟨rfl, HFIN.out, HBL.out⟩
end Go.Proofs.YtolodlnndojaiaaDoor.Buil
