/- The plain statement of TeimsgPuts over the printed functions: every message has the document's octets, and its frame, or its error; and who sends it is the document's answer. No condition. -/
import Derived.Test.YtmgiolpooamkkaaDoorTeimsgPutsP
import Derived.Test.YtmgiolpooamkkaaDoorPuts3
namespace Go.Proofs.YtmgiolpooamkkaaDoor.Pure
open Go.RowKit Go.Proofs.YtmgiolpooamkkaaDoorW.PrintWords Go.Proofs.YtmgiolpooamkkaaDoorW.PrintLast Go.Proofs.YtmgiolpooamkkaaDoorW.PrintMore Go.Proofs.YtmgiolpooamkkaaDoor.Str Go.Proofs.YtmgiolpooamkkaaDoor.Field Go.Proofs.YtmgiolpooamkkaaDoor.TeiP Go.Proofs.YtmgiolpooamkkaaDoor.Puts
theorem TeimsgPuts : lapwinglaw07_TeimsgPuts.Pure := by
  intro t r a _ _ _
  obtain ⟨k, hk⟩ : ∃ k : Nat, 5 < k := ⟨6, by omega⟩
  refine ⟨k, ?_⟩
  unfold lapwinglaw07_TeimsgPuts.f
  have h0 : lapwinglaw07_made.f t r a = some (t, r, a) := rfl
  refine bind_at h0 (bind_at (put_eq k hk t r a) (bind_at (rput_eq k hk t r a) (bind_at h0 (bind_at (frame_eq k hk t r a) (bind_at (rframe_eq k hk t r a) (bind_at (wakes_eq k hk) ?_))))))
  rw [if_pos rfl, if_pos rfl, if_pos rfl, if_pos rfl]
  refine bind_at (same_frame _ _ _ _ _ _ _ _) ?_
  rw [if_pos rfl]
  refine bind_at (from_eq t) (bind_at (rfrom_eq t) ?_)
  show some (fromT t == fromT t) = some true
  rw [beq_self_eq_true]
end Go.Proofs.YtmgiolpooamkkaaDoor.Pure
