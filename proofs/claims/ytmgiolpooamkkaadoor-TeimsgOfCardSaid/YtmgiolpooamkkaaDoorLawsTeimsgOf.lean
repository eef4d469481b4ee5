/- The plain statement of TeimsgOf over the printed functions: which message every frame has, of either side, is the document's answer. No condition. -/
import Derived.Test.YtmgiolpooamkkaaDoorTeimsgOf
import Derived.Test.YtmgiolpooamkkaaDoorPrint6
namespace Go.Proofs.YtmgiolpooamkkaaDoor.Pure
open Go.RowKit Go.Proofs.YtmgiolpooamkkaaDoorW.PrintWords Go.Proofs.YtmgiolpooamkkaaDoorW.PrintLast Go.Proofs.YtmgiolpooamkkaaDoorW.PrintMore Go.Proofs.YtmgiolpooamkkaaDoor.Str Go.Proofs.YtmgiolpooamkkaaDoor.Field Go.Proofs.YtmgiolpooamkkaaDoor.Tei Go.Proofs.YtmgiolpooamkkaaDoor.Print
theorem TeimsgOf : lapwinglaw07_TeimsgOf.Pure := by
  intro a b c d p x y s n _ _ _ _ _ _
  obtain ⟨k, hk⟩ : ∃ k : Nat, 5 < k := ⟨6, by omega⟩
  refine ⟨k, ?_⟩
  unfold lapwinglaw07_TeimsgOf.f
  have h0 : lapwinglaw07_frames.f a b c d p x y s = some (a, b, c, d, p, x, y, s, a, b, c, d, p, x, y, s) := rfl
  refine bind_at h0 (bind_at (of_eq a b c d p x y s n) (bind_at (rof_eq a b c d p x y s n) (bind_at (wakes_eq k hk) ?_)))
  rw [if_pos rfl, if_pos (beq_self_eq_true _)]
  have h1 : lapwinglaw07_same.f (ofT a b c d (L s) n).1 (ofT a b c d (L s) n).2.1 (ofT a b c d (L s) n).2.2.1 (ofT a b c d (L s) n).1 (ofT a b c d (L s) n).2.1 (ofT a b c d (L s) n).2.2.1 = some true := by
    unfold lapwinglaw07_same.f
    rw [if_pos rfl, if_pos rfl, beq_self_eq_true]
  exact bind_at h1 rfl
end Go.Proofs.YtmgiolpooamkkaaDoor.Pure
