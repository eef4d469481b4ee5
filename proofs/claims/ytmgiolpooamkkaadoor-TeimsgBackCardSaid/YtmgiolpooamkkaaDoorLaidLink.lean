/- The link of all messages of package teimsg, as a premise on a world: its cells; it stays while the call only makes memory. -/
import Derived.Test.YtmgiolpooamkkaaDoorExtra
import Derived.Test.YtmgiolpooamkkaaDoorWMore
namespace Go.Proofs.YtmgiolpooamkkaaDoorX
open Go.RowKit Go.Proofs.YtmgiolpooamkkaaDoorW.PrintWords
def glLink : List Int := [63, 127]
/-- The link's cells. -/
def Laid (w : World) : Prop := ∀ i x, glLink[i]? = some x → w.cell? ⟨0, i, none⟩ = some (.int .i64 x)
theorem Laid_below {w w1 : World} (h : Laid w) (hb : Below w.heap.size w w1) : Laid w1 :=
  fun i x hx => pw_cell_below hb (h i x hx)
theorem Laid_drewN {w : World} (h : Laid w) (n : Nat) : Laid (w.drewN n) := h
theorem Laid_HGlink {w : World} (h : Laid w) : Kd.C (Kd.int .i64) w (some ⟨0, 0, none⟩) glLink.length glLink := by
  refine ⟨rfl, by decide, fun _ => ⟨_, rfl, fun j p hj => ⟨[.int .i64 p], rfl, rfl, fun i u hu => ?_⟩⟩⟩
  cases i with
  | zero => simp at hu; subst hu; rw [add_plain]; exact h _ _ (by simpa [Kd.int, Kd.scalar] using hj)
  | succ i => simp at hu
end Go.Proofs.YtmgiolpooamkkaaDoorX
