/- The table of first octets of package ctrl, alone, as a premise on a world: its cells; it stays while the call only makes memory. -/
import Derived.Test.YtbailgigabdhaaaDoorLaidCtrl
namespace Go.Proofs.YtbailgigabdhaaaDoorXF
open Go.RowKit Go.Proofs.YtbailgigabdhaaaDoorW.PrintWords Go.Proofs.YtbailgigabdhaaaDoorX
/-- The table's cells. -/
def Laid (w : World) : Prop := ∀ i x, glFirst[i]? = some x → w.cell? ⟨0, i, none⟩ = some (.int .u8 x)
theorem Laid_below {w w1 : World} (h : Laid w) (hb : Below w.heap.size w w1) : Laid w1 :=
  fun i x hx => pw_cell_below hb (h i x hx)
theorem Laid_drewN {w : World} (h : Laid w) (n : Nat) : Laid (w.drewN n) := h
theorem Laid_HGfirst {w : World} (h : Laid w) : Kd.C (Kd.int .u8) w (some ⟨0, 0, none⟩) glFirst.length glFirst := by
  refine ⟨rfl, by decide, fun _ => ⟨_, rfl, fun j p hj => ⟨[.int .u8 p], rfl, rfl, fun i u hu => ?_⟩⟩⟩
  cases i with
  | zero => simp at hu; subst hu; rw [add_plain]; exact h _ _ (by simpa [Kd.int, Kd.scalar] using hj)
  | succ i => simp at hu
theorem Laid_HGfirst1 {w : World} (h : Laid w) : Kd.C (Kd.int .u8) w (some ⟨0, 1, none⟩) glFirst1.length glFirst1 := by
  refine ⟨rfl, by decide, fun _ => ⟨_, rfl, fun j p hj => ⟨[.int .u8 p], rfl, rfl, fun i u hu => ?_⟩⟩⟩
  cases i with
  | zero =>
    simp at hu; subst hu
    have hj' : glFirst[j + 1]? = some p := hj
    have := h _ _ hj'
    have e : (⟨0, 1, none⟩ : Addr).add (j * 1 + 0) = ⟨0, j + 1, none⟩ := by
      unfold Addr.add; split <;> simp_all [Nat.add_comm]
    show w.cell? ((⟨0, 1, none⟩ : Addr).add (j * 1 + 0)) = _
    rw [e]; exact this
  | succ i => simp at hu
end Go.Proofs.YtbailgigabdhaaaDoorXF
