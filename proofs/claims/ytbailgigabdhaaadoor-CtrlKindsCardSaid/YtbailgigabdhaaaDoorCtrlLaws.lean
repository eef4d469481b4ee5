/- The plain statements of CtrlKinds and CtrlPuts over the printed functions: both hold. No condition. -/
import Derived.Test.YtbailgigabdhaaaDoorCtrl
namespace Go.Proofs.YtbailgigabdhaaaDoor.Pure
open Go.RowKit Go.Proofs.YtbailgigabdhaaaDoorW.PrintWords Go.Proofs.YtbailgigabdhaaaDoorW.PrintLast Go.Proofs.YtbailgigabdhaaaDoorW.PrintMore Go.Proofs.YtbailgigabdhaaaDoor.Str Go.Proofs.YtbailgigabdhaaaDoor.Field Go.Proofs.YtbailgigabdhaaaDoor.Ctl Go.Proofs.YtbailgigabdhaaaDoor.Print
theorem CtrlKinds : lapwinglaw05_CtrlKinds.Pure := by
  intro a _
  obtain ⟨k, hk⟩ : ∃ k, 5 < k := ⟨6, by omega⟩
  refine ⟨k, ?_⟩
  unfold lapwinglaw05_CtrlKinds.f
  obtain ⟨n, h1, h2⟩ := name_eq a
  obtain ⟨n', h1', h2'⟩ := name_eq (Go.bits .and .i64 a 15)
  refine bind_at (wakes_eq k hk) (Eq.trans (if_pos rfl) ?_)
  refine bind_at (num_eq a) (bind_at (rnum_eq a) (Eq.trans (if_pos (beq_self_eq_true _)) ?_))
  refine bind_at h1 (bind_at h2 (Eq.trans (if_pos rfl) ?_))
  refine bind_at h1' (bind_at h2' ?_)
  rw [beq_self_eq_true]
theorem CtrlPuts : lapwinglaw05_CtrlPuts.Pure := by
  intro a p s r _ _ _
  obtain ⟨k, hk⟩ : ∃ k, 5 < k := ⟨6, by omega⟩
  refine ⟨k, ?_⟩
  unfold lapwinglaw05_CtrlPuts.f
  refine bind_at (show lapwinglaw05_made.f a p s r = some (a, p, s, r) from rfl) ?_
  refine bind_at (put_eq k hk a p s r) (bind_at (rput_eq k (by omega) a p s r) ?_)
  refine bind_at (wakes_eq k hk) (Eq.trans (if_pos rfl) (Eq.trans (if_pos rfl) ?_))
  rw [beq_self_eq_true]
end Go.Proofs.YtbailgigabdhaaaDoor.Pure
