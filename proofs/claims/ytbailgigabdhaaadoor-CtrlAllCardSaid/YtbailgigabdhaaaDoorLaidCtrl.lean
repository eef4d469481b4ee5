/- The two tables of package ctrl, as a premise on a world: their cells; it stays while the call only makes memory. -/
import Derived.Test.YtbailgigabdhaaaDoorExtra
import Derived.Test.YtbailgigabdhaaaDoorWMore
namespace Go.Proofs.YtbailgigabdhaaaDoorX
open Go.RowKit Go.Proofs.YtbailgigabdhaaaDoorW.PrintWords
def glFirst : List Int := [0, 1, 5, 9, 111, 15, 3, 67, 99, 135]
def glFirst1 : List Int := [1, 5, 9, 111, 15, 3, 67, 99, 135]
def glNames : List ByteArray := [⟨#[73]⟩, ⟨#[82, 82]⟩, ⟨#[82, 78, 82]⟩, ⟨#[82, 69, 74]⟩, ⟨#[83, 65, 66, 77, 69]⟩, ⟨#[68, 77]⟩, ⟨#[85, 73]⟩, ⟨#[68, 73, 83, 67]⟩, ⟨#[85, 65]⟩, ⟨#[70, 82, 77, 82]⟩]
/-- The tables' cells. -/
def Laid (w : World) : Prop := (∀ i x, glFirst[i]? = some x → w.cell? ⟨0, i, none⟩ = some (.int .u8 x)) ∧ (∀ i x, glNames[i]? = some x → w.cell? ⟨1, i, none⟩ = some (.string x))
theorem Laid_below {w w1 : World} (h : Laid w) (hb : Below w.heap.size w w1) : Laid w1 :=
  ⟨fun i x hx => pw_cell_below hb (h.1 i x hx), fun i x hx => pw_cell_below hb (h.2 i x hx)⟩
theorem Laid_drewN {w : World} (h : Laid w) (n : Nat) : Laid (w.drewN n) := h
theorem Laid_HGfirst {w : World} (h : Laid w) : Kd.C (Kd.int .u8) w (some ⟨0, 0, none⟩) glFirst.length glFirst := by
  refine ⟨rfl, by decide, fun _ => ⟨_, rfl, fun j p hj => ⟨[.int .u8 p], rfl, rfl, fun i u hu => ?_⟩⟩⟩
  cases i with
  | zero => simp at hu; subst hu; rw [add_plain]; exact h.1 _ _ (by simpa [Kd.int, Kd.scalar] using hj)
  | succ i => simp at hu
theorem Laid_HGfirst1 {w : World} (h : Laid w) : Kd.C (Kd.int .u8) w (some ⟨0, 1, none⟩) glFirst1.length glFirst1 := by
  refine ⟨rfl, by decide, fun _ => ⟨_, rfl, fun j p hj => ⟨[.int .u8 p], rfl, rfl, fun i u hu => ?_⟩⟩⟩
  cases i with
  | zero =>
    simp at hu; subst hu
    have hj' : glFirst[j + 1]? = some p := hj
    have := h.1 _ _ hj'
    have e : (⟨0, 1, none⟩ : Addr).add (j * 1 + 0) = ⟨0, j + 1, none⟩ := by
      unfold Addr.add; split <;> simp_all [Nat.add_comm]
    show w.cell? ((⟨0, 1, none⟩ : Addr).add (j * 1 + 0)) = _
    rw [e]; exact this
  | succ i => simp at hu
theorem Laid_HGnames {w : World} (h : Laid w) : Kd.C Kd.string w (some ⟨1, 0, none⟩) glNames.length glNames := by
  refine ⟨rfl, by decide, fun _ => ⟨_, rfl, fun j p hj => ⟨[.string p], rfl, rfl, fun i u hu => ?_⟩⟩⟩
  cases i with
  | zero => simp at hu; subst hu; rw [add_plain]; exact h.2 _ _ (by simpa [Kd.string, Kd.scalar] using hj)
  | succ i => simp at hu
end Go.Proofs.YtbailgigabdhaaaDoorX
