/- hdlc.Unstuff by its text. -/
import Derived.Test.YtolodlnndojaiaaDoorReplace
import Derived.Test.YtolodlnndojaiaaDoorGood
import Derived.Test.YtolodlnndojaiaaDoorWMore
namespace Go.Proofs.YtolodlnndojaiaaDoor.Hd
open Go.RowKit Go.Proofs.YtolodlnndojaiaaDoorW.PrintWords Go.Proofs.YtolodlnndojaiaaDoorW.PrintLast Go.Proofs.YtolodlnndojaiaaDoorW.PrintMore Go.Proofs.YtolodlnndojaiaaDoor.Str Go.Proofs.YtolodlnndojaiaaDoor.Bits Go.Proofs.YtolodlnndojaiaaDoor.Oct Go.Proofs.YtolodlnndojaiaaDoor.Buil
set_option linter.unusedVariables false
/-- What Unstuff answers. -/
def unstuffS (l : List UInt8) : List UInt8 × Int :=
  if goodL l = false ∨ Lib.contains l (List.replicate 6 49) = true then ([], 4) else if Lib.hasSuffix l (List.replicate 5 49) = true then ([], 3) else (Lib.replaceAll l (L oldB) (L newB), 0)
set_option maxHeartbeats 4000000 in
set_option maxRecDepth 1000000 in
theorem unstuff (s : ByteArray) (m : Int) (w : World) (hs : s.size ≤ 1000000) (hm : w.cell? ⟨0, 0, none⟩ = some (.int .i64 m)) :
    Calls Tryd.prog 19 #[.string s] w fun e w' => e = .returned (.tuple #[.string ⟨(unstuffS (L s)).1.toArray⟩, .int .i64 (unstuffS (L s)).2]) ∧ Below w.heap.size w w' := by
  have HM := Aside0.mk hm
  have hw0 : 0 < w.heap.size := World.block_lt_of_cell? w _ hm
  obtain ⟨g, HG⟩ : ∃ g, Aside0 (goodL (L s) = g) := ⟨_, ⟨rfl⟩⟩
  obtain ⟨cn, HC⟩ : ∃ g, Aside0 (Lib.contains (L s) (List.replicate 6 49) = g) := ⟨_, ⟨rfl⟩⟩
  obtain ⟨sf, HS⟩ : ∃ g, Aside0 (Lib.hasSuffix (L s) (List.replicate 5 49) = g) := ⟨_, ⟨rfl⟩⟩
  have HU : Aside0 (unstuffS (L s) = if g = false ∨ cn = true then ([], 4) else if sf = true then ([], 3) else (Lib.replaceAll (L s) (L oldB) (L newB), 0)) := ⟨by unfold unstuffS; rw [HG.out, HC.out, HS.out]⟩
  clear hm
  go_enter Tryd.func19, Tryd.ntmps19
  go_wp2_with fail
  refine (Good.walk s w (by omega)).mono ?_
  rintro e w1 ⟨he, hb⟩
  rw [HG.out] at he
  subst he
  cases g with
  | false =>
    go_wp2
    go_ret2
    rw [HU.out]
    exact ⟨rfl, hb⟩
  | true =>
    go_wp2_with fail
    refine (rep 6 (by decide) (by decide) _).mono ?_
    rintro e w2 ⟨rfl, hb2⟩
    have hb3 := below_step hb hb2
    clear hb hb2
    go_wp2_with fail
    have hct := Tryd.strings_Contains s ⟨(List.replicate 6 (49 : UInt8)).toArray⟩ m w2 (by omega) (pw_cell_below hb3 HM.out)
    rw [show (⟨(List.replicate 6 (49 : UInt8)).toArray⟩ : ByteArray).data.toList = List.replicate 6 49 from rfl, show s.data.toList = L s from rfl, HC.out] at hct
    refine hct.mono ?_
    rintro e w3 ⟨rfl, rfl⟩
    cases cn with
    | true =>
      go_wp2
      go_ret2
      rw [HU.out]
      exact ⟨rfl, hb3⟩
    | false =>
      go_wp2_with fail
      refine (rep 5 (by decide) (by decide) _).mono ?_
      rintro e w4 ⟨rfl, hb4⟩
      have hb5 := below_step hb3 hb4
      clear hb3 hb4
      go_wp2_with fail
      have hsx := Tryd.strings_HasSuffix s ⟨(List.replicate 5 (49 : UInt8)).toArray⟩ w4 (by omega)
      rw [show (⟨(List.replicate 5 (49 : UInt8)).toArray⟩ : ByteArray).data.toList = List.replicate 5 49 from rfl, show s.data.toList = L s from rfl, HS.out] at hsx
      refine hsx.mono ?_
      rintro e w5 ⟨rfl, rfl⟩
      cases sf with
      | true =>
        go_wp2
        go_ret2
        rw [HU.out]
        exact ⟨rfl, hb5⟩
      | false =>
        go_wp2_with fail
        refine (replAll s m _ hs (pw_cell_below hb5 HM.out)).mono ?_
        rintro e w6 ⟨rfl, hb6⟩
        have hb7 := below_step hb5 hb6
        go_wp2
        go_ret2
        rw [HU.out]
        exact ⟨rfl, hb7⟩
end Go.Proofs.YtolodlnndojaiaaDoor.Hd
