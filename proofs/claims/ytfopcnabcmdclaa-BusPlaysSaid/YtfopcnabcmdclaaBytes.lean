/- '[]byte(s)' that is read and written in place: a row of octets in one block, of which nothing is frozen. Words for a walk; no condition. -/
import Derived.Test.YtfopcnabcmdclaaStr
import Derived.Laws.IdiomStrings
import Derived.OwnWalk
import Derived.Lib.Builder
import Derived.Below
namespace Go.Proofs.Ytfopcnabcmdclaa.RowB
open Go.RowKit Go.Proofs.YtfopcnabcmdclaaW.PrintWords Go.Proofs.YtfopcnabcmdclaaW.PrintLast Go.Proofs.YtfopcnabcmdclaaW.PrintMore Go.Proofs.Ytfopcnabcmdclaa.Str

def num (b : UInt8) : Value := .int .u8 (b.toNat : Int)
/-- Block g is a row of cap octets, whose first ones are l; its run-time's mark lies behind it. -/
def RowB (e : TypeId) (w : World) (g cap : Nat) (l : List UInt8) : Prop :=
  ∃ spare : List Value, l.length + spare.length = cap ∧ w.heap[g]? = some (.cells (l.map num ++ spare).toArray e (cap, cap + 1))
section
variable {e : TypeId} {w : World} {g cap : Nat} {l : List UInt8}
theorem RowB.cell (h : RowB e w g cap l) (j : Nat) (hj : j < l.length) : w.cell? ⟨g, j, none⟩ = some (num l[j]) := by
  obtain ⟨sp, hc, hb⟩ := h
  simp [World.cell?, hb, List.getElem?_append, hj]
theorem RowB.free (h : RowB e w g cap l) (j : Nat) (hj : j < cap) : w.frozen? ⟨g, j, none⟩ = false := by
  obtain ⟨sp, hc, hb⟩ := h
  simp [World.frozen?, hb]
  omega
theorem RowB.lt (h : RowB e w g cap l) : g < w.heap.size := by
  obtain ⟨sp, hc, hb⟩ := h
  exact (Array.getElem?_eq_some_iff.1 hb).1
theorem RowB.le (h : RowB e w g cap l) : l.length ≤ cap := by
  obtain ⟨sp, hc, hb⟩ := h
  omega
theorem RowB.set (h : RowB e w g cap l) (j : Nat) (hj : j < l.length) (b : UInt8) : RowB e (w.setCell ⟨g, j, none⟩ (num b)) g cap (l.set j b) := by
  obtain ⟨sp, hc, hb⟩ := h
  refine ⟨sp, by simpa using hc, ?_⟩
  simp [World.setCell, Array.getElem?_modify, hb]
  rw [List.set_append_left _ _ (by simpa using hj)]
theorem RowB.alloc (h : RowB e w g cap l) (o : Obj) : RowB e (w.alloc o) g cap l := by
  have hl := h.lt
  obtain ⟨sp, hc, hb⟩ := h
  exact ⟨sp, hc, (Lib.alloc_old w o g hl).trans hb⟩
theorem RowB.drew (h : RowB e w g cap l) : RowB e w.drew g cap l := h
/-- .. as a row that is read. -/
theorem RowB.reads (h : RowB e w g cap l) (hl : l.length ≤ 9223372036854775807) : (Kd.int .u8).C w (some ⟨g, 0, none⟩) l.length (l.map fun b => (b.toNat : Int)) := by
  refine ⟨by simp, hl, fun _ => ⟨⟨g, 0, none⟩, rfl, fun j p hj => ⟨[.int .u8 p], rfl, rfl, fun i u hu => ?_⟩⟩⟩
  have hjl : j < l.length := by
    have := (List.getElem?_eq_some_iff.1 hj).1
    simpa using this
  have hp : p = (l[j].toNat : Int) := by simpa [hjl] using hj.symm
  subst hp
  match i, hu with
  | 0, hu =>
    simp at hu
    subst hu
    have e0 : (Addr.mk g 0 none).add (j * 1 + 0) = ⟨g, j, none⟩ := by unfold Addr.add; split <;> simp <;> omega
    show w.cell? ((Addr.mk g 0 none).add (j * 1 + 0)) = _
    rw [e0]
    exact h.cell j hjl
end
section
variable {P : Program} (w : World) {ops : Array Oper} {rest : List Oper} {o : Oper} {a : Act} {Q : Exit → Act → World → Prop}
/-- The conversion itself, for the walk. -/
theorem wpList_bytes (hg : o.guard = none) (x : Operand) (src dst e : TypeId) (hop : o.op = Op.convert src dst x) (hs : P.underlying src = some .string) (hd : P.underlying dst = some (.slice e)) (he : P.underlying e = some (.int .u8)) (s : ByteArray)
    (hx : a.eval x = .string s)
    (hK : ∀ w1 cap, RowB e w1 w.heap.size cap (L s) → Below w.heap.size w w1 → s.size ≤ cap → w.heap.size < w1.heap.size → wpList P ops Q rest (a.put o.dst (.slice (some ⟨w.heap.size, 0, none⟩) s.size cap)) w1) :
    wpList P ops Q (o :: rest) a w := by
  refine wpList_plain hg fun K' hK' => ?_
  unfold Oper.wp
  simp [execOp, hop, hx, run_bytes_of_string w src dst e s hs hd he, Result.andThen]
  refine hK' _ _ (hK _ _ ?_ ?_ (grownCap_ge w s.size 0 e) ?_)
  · have hge := grownCap_ge w s.size 0 e
    have hsz : (bytesRow s (grownCap w s.size 0 e)).size = grownCap w s.size 0 e := by
      have : s.data.size = s.size := rfl
      simp [bytesRow, this]; omega
    refine ⟨List.replicate (grownCap w s.size 0 e - s.size) (Value.int .u8 0), ?_, ?_⟩
    · rw [← size_L, List.length_replicate]; omega
    · rw [hsz]
      have : (w.drew.alloc (.cells (bytesRow s (grownCap w s.size 0 e)) e (grownCap w s.size 0 e, grownCap w s.size 0 e + 1))).heap[w.heap.size]? = _ := heap_alloc_new w.drew _
      rw [this]
      have e1 : bytesRow s (grownCap w s.size 0 e) = ((L s).map num ++ List.replicate (grownCap w s.size 0 e - s.size) (Value.int .u8 0)).toArray := by
        apply Array.ext'
        simp only [bytesRow, L, Array.toList_append, Array.toList_map, Array.toList_replicate]
        rfl
      rw [e1]
  · exact (Below.refl _ w).drew.alloc (Nat.le_refl _) _
  · show w.heap.size < (w.heap.push _).size
    simp
end
end Go.Proofs.Ytfopcnabcmdclaa.RowB
