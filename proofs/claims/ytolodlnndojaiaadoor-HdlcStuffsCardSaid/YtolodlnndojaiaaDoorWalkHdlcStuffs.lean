/- The law HdlcStuffs by its own text: it answers true. -/
import Derived.Test.YtolodlnndojaiaaDoorHdlcLaw
import Derived.Test.YtolodlnndojaiaaDoorRefOf3
import Derived.Deep.QuietTactic
import Derived.BigQuiet
namespace Go.Proofs.YtolodlnndojaiaaDoor.Wk
open Go.RowKit Go.Proofs.YtolodlnndojaiaaDoorW.PrintWords Go.Proofs.YtolodlnndojaiaaDoorW.PrintLast Go.Proofs.YtolodlnndojaiaaDoorW.PrintMore Go.Proofs.YtolodlnndojaiaaDoor.Str Go.Proofs.YtolodlnndojaiaaDoor.Bits Go.Proofs.YtolodlnndojaiaaDoor.Oct Go.Proofs.YtolodlnndojaiaaDoor.Hd
set_option linter.unusedVariables false
attribute [local go_sem] max2_int min2_int
set_option maxHeartbeats 4000000 in
set_option maxRecDepth 1000000 in
theorem HdlcStuffs (a0 a1 : ByteArray) (m : Int) (w : World) (hm : w.cell? ⟨0, 0, none⟩ = some (.int .i64 m)) (w0 : a0.size ≤ 140737488351232) (w1 : a1.size ≤ 140737488351232) :
    Calls Tryd.prog 9 #[.string a0, .string a1] w fun e w' => e = .returned (.bool true) ∧ Below w.heap.size w w' := by
  have HM := Aside0.mk hm
  clear hm
  go_enter Tryd.func9, Tryd.ntmps9
  go_wp2_with fail
  go_quiet (fail)
  have z0 : (a0.extract 0 (min (a0.size : Int) 5000).toNat).size ≤ 5000 := cut_size a0 5000
  have z1 : (a1.extract 0 (min (a1.size : Int) 500).toNat).size ≤ 500 := cut_size a1 500
  generalize a0.extract 0 (min (a0.size : Int) 5000).toNat = b at z0
  generalize a1.extract 0 (min (a1.size : Int) 500).toNat = s at z1
  have hb0 : Below w.heap.size w (w.drewN nq) := pw_below_drewN (Below.refl _ _) _
  go_wp2_with fail
  refine (unstuff b m _ (by omega) (pw_cell_below hb0 HM.out)).mono ?_
  rintro e v1 ⟨rfl, hb⟩
  have hb1 := below_step hb0 hb
  clear hb0 hb
  go_wp2_with fail
  refine (runstuff b _ (by omega)).mono ?_
  rintro e v2 ⟨rfl, hb⟩
  have hb2 := below_step hb1 hb
  clear hb1 hb
  go_wp2_with fail
  refine (Hd.wakes _).mono ?_
  rintro e v3 ⟨rfl, hb⟩
  have hb3 := below_step hb2 hb
  clear hb2 hb
  go_wp2_with fail
  refine (stuff b _ (by omega)).mono ?_
  rintro e v4 ⟨rfl, hb⟩
  have hb4 := below_step hb3 hb
  clear hb3 hb
  go_wp2_with fail
  refine (rstuff b _ (by omega)).mono ?_
  rintro e v5 ⟨rfl, hb⟩
  have hb5 := below_step hb4 hb
  clear hb4 hb
  go_wp2_with fail
  refine (encode s _ (by omega)).mono ?_
  rintro e v6 ⟨rfl, hb⟩
  have hb6 := below_step hb5 hb
  clear hb5 hb
  go_wp2_with fail
  refine (rencode s _ (by omega)).mono ?_
  rintro e v7 ⟨rfl, hb⟩
  have hb7 := below_step hb6 hb
  clear hb6 hb
  go_wp2
  go_ret
  exact ⟨by simp, hb7⟩
end Go.Proofs.YtolodlnndojaiaaDoor.Wk
