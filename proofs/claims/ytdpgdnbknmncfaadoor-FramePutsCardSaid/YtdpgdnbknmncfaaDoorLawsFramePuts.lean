/- The plain statement of FramePuts over the printed functions: every frame, of either side, has the document's octets, or its error. No condition. -/
import Derived.Test.YtdpgdnbknmncfaaDoorFrameRP
import Derived.Test.YtdpgdnbknmncfaaDoorPrint14
namespace Go.Proofs.YtdpgdnbknmncfaaDoor.Pure
open Go.RowKit Go.Proofs.YtdpgdnbknmncfaaDoorW.PrintWords Go.Proofs.YtdpgdnbknmncfaaDoorW.PrintLast Go.Proofs.YtdpgdnbknmncfaaDoorW.PrintMore Go.Proofs.YtdpgdnbknmncfaaDoor.Str Go.Proofs.YtdpgdnbknmncfaaDoor.Field Go.Proofs.YtdpgdnbknmncfaaDoor.Frm Go.Proofs.YtdpgdnbknmncfaaDoor.Print
theorem FramePuts : lapwinglaw06_FramePuts.Pure := by
  intro s t c a p x y i w _ _ _ _ _ hi
  obtain ⟨k, hk⟩ : ∃ k : Nat, i.size + 60 < k := ⟨i.size + 61, by omega⟩
  refine ⟨k, ?_⟩
  unfold lapwinglaw06_FramePuts.f
  have h0 : lapwinglaw06_frames.f s t c a p x y i = some (s, t, c, a, p, x, y, i, s, t, c, a, p, x, y, i) := rfl
  refine bind_at h0 (bind_at (put_eq k s t c a p x y i w hi (by omega)) (bind_at (rput_eq k s t c a p x y i w hi (by omega)) (bind_at (wakes_eq k (by omega)) ?_)))
  rw [if_pos rfl, if_pos rfl, beq_self_eq_true]
end Go.Proofs.YtdpgdnbknmncfaaDoor.Pure
