/- Package entity by its own text: supervised. Conditions: sizes. -/
import Derived.Deep.LoopGhost
import Derived.StillTailTactics
import Derived.Test.YtljnfbpplhnmfaaGreatDoorUs04
import Derived.Test.YtljnfbpplhnmfaaGreatDoorUs08
import Derived.Test.YtljnfbpplhnmfaaGreatDoorUs09
import Derived.Test.YtljnfbpplhnmfaaGreatDoorUs10
namespace Go.Proofs.YtljnfbpplhnmfaaGreatDoor.En
open Go Go.RowKit Go.Proofs.YtljnfbpplhnmfaaGreatDoorW.PrintWords Go.Proofs.YtljnfbpplhnmfaaGreatDoorW.PrintLast Go.Proofs.YtljnfbpplhnmfaaGreatDoorW.PrintMore Go.Proofs.YtljnfbpplhnmfaaGreatDoor.Str Go.Proofs.YtljnfbpplhnmfaaGreatDoor.Mp Go.Proofs.YtljnfbpplhnmfaaGreatDoor.Ra Go.Proofs.YtljnfbpplhnmfaaGreatDoor.Sl Go.Proofs.YtljnfbpplhnmfaaGreatDoor.Qu Go.Proofs.YtljnfbpplhnmfaaGreatDoor.Sq Go.Proofs.YtljnfbpplhnmfaaGreatDoor.Fl Go.Proofs.YtljnfbpplhnmfaaGreatDoor.Ru Go.Proofs.YtljnfbpplhnmfaaGreatDoor.Md
set_option linter.unusedVariables false
set_option linter.unusedSimpArgs false
set_option maxRecDepth 1000000
set_option maxHeartbeats 4000000
theorem supervisedC (b mb fb : Nat) (e : E) (f : Fr) (hk : f.kind = 1 ∨ f.kind = 2 ∨ f.kind = 3) (hst : e.state = 7 ∨ e.state = 8) (hl : e.out.length ≤ 7000) (T : Nat → Prop) (w0 w : World) (h : Went (entAt b mb fb e) T w0 w) :
    Calls Tryz.prog 131 #[.pointer (some ⟨b, 0, none⟩), .agg (frCells f)] w fun r w' => r = .returned (.tuple #[]) ∧ Went (entAt b mb fb (supervised e f)) T w0 w' := by
  obtain ⟨t, c, k, p, ns, nr, s⟩ := f
  simp only at hk
  by_cases ha : ackOk e.fl nr
  · rcases hst with hs | hs
    · match c, p with
      | true, true =>
        rcases hk with rfl | rfl | rfl
        · exact sup11 b mb fb e t ns nr s hl hs ha T w0 w h
        · exact sup12 b mb fb e t ns nr s hl hs ha T w0 w h
        · exact sup13 b mb fb e t ns nr s hl hs ha T w0 w h
      | true, false =>
        rcases hk with rfl | rfl | rfl
        · exact sup31 b mb fb e t ns nr s hl hs ha T w0 w h
        · exact sup32 b mb fb e t ns nr s hl hs ha T w0 w h
        · exact sup33 b mb fb e t ns nr s hl hs ha T w0 w h
      | false, true =>
        rcases hk with rfl | rfl | rfl
        · exact sup21 b mb fb e t ns nr s hl hs ha T w0 w h
        · exact sup22 b mb fb e t ns nr s hl hs ha T w0 w h
        · exact sup23 b mb fb e t ns nr s hl hs ha T w0 w h
      | false, false =>
        rcases hk with rfl | rfl | rfl
        · exact sup41 b mb fb e t ns nr s hl hs ha T w0 w h
        · exact sup42 b mb fb e t ns nr s hl hs ha T w0 w h
        · exact sup43 b mb fb e t ns nr s hl hs ha T w0 w h
    · match c, p with
      | true, true =>
        exact sup10 b mb fb e t k ns nr s hl hs ha T w0 w h
      | true, false =>
        exact sup30 b mb fb e t k ns nr s hl hs ha T w0 w h
      | false, true =>
        rcases hk with rfl | rfl | rfl
        · exact sup54 b mb fb e t ns nr s hl hs ha T w0 w h
        · exact sup55 b mb fb e t ns nr s hl hs ha T w0 w h
        · exact sup56 b mb fb e t ns nr s hl hs ha T w0 w h
      | false, false =>
        exact sup40 b mb fb e t k ns nr s hl hs ha T w0 w h
  · rcases hst with hs | hs
    · match c, p with
      | true, true =>
        exact sup17 b mb fb e t k ns nr s hl ha T w0 w h
      | true, false =>
        exact sup37 b mb fb e t k ns nr s hl ha T w0 w h
      | false, true =>
        exact sup27 b mb fb e t k ns nr s hl hs ha T w0 w h
      | false, false =>
        exact sup47 b mb fb e t k ns nr s hl ha T w0 w h
    · match c, p with
      | true, true =>
        exact sup17 b mb fb e t k ns nr s hl ha T w0 w h
      | true, false =>
        exact sup37 b mb fb e t k ns nr s hl ha T w0 w h
      | false, true =>
        exact sup57 b mb fb e t k ns nr s hl hs ha T w0 w h
      | false, false =>
        exact sup47 b mb fb e t k ns nr s hl ha T w0 w h
end Go.Proofs.YtljnfbpplhnmfaaGreatDoor.En
