/- The plain statement of CtrlGets over the printed functions: all octets begin with the document's control field, or have its error. No condition. -/
import Derived.Test.YtbailgigabdhaaaDoorCtrlGetG
import Derived.Test.YtbailgigabdhaaaDoorGets4
namespace Go.Proofs.YtbailgigabdhaaaDoor.Pure
open Go.RowKit Go.Proofs.YtbailgigabdhaaaDoorW.PrintWords Go.Proofs.YtbailgigabdhaaaDoorW.PrintLast Go.Proofs.YtbailgigabdhaaaDoorW.PrintMore Go.Proofs.YtbailgigabdhaaaDoor.Str Go.Proofs.YtbailgigabdhaaaDoor.Field Go.Proofs.YtbailgigabdhaaaDoor.CtlG Go.Proofs.YtbailgigabdhaaaDoor.Gets
theorem CtrlGets : lapwinglaw05_CtrlGets.Pure := by
  intro s _
  obtain ⟨k, hk⟩ : ∃ k : Nat, 30 < k := ⟨31, by omega⟩
  refine ⟨k, ?_⟩
  unfold lapwinglaw05_CtrlGets.f
  obtain ⟨r, h1, h2⟩ := get_same k hk s
  have h3 : ctrl_Get.f k (⟨#[6, 5]⟩ : ByteArray) = _ := get_I k (by omega) ⟨#[6, 5]⟩ (by decide) 6 rfl (by decide) (by decide) (by decide) 5 rfl (by decide) (by decide)
  refine bind_at h1 (bind_at h2 (bind_at h3 ?_))
  rw [if_pos (by decide), if_pos rfl, if_pos rfl, if_pos rfl, if_pos (beq_self_eq_true _), if_pos rfl, beq_self_eq_true]
end Go.Proofs.YtbailgigabdhaaaDoor.Pure
