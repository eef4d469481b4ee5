/- What a bus is in memory: its size, its map of rows, each row's strings. No condition. -/
import Derived.Test.YtfopcnabcmdclaaBusK
import Derived.Test.YtfopcnabcmdclaaFlipR
import Derived.WalkKit
import Derived.BigCall
import Derived.BigQuiet
import Derived.Deep.QuietTactic
import Derived.Handy
import Derived.Laws.ResultCell
import Derived.Laws.Rows
namespace Go.Proofs.Ytfopcnabcmdclaa.Bs
open Go Go.RowKit Go.Proofs.YtfopcnabcmdclaaW.PrintWords Go.Proofs.YtfopcnabcmdclaaW.PrintLast Go.Proofs.YtfopcnabcmdclaaW.PrintMore Go.Proofs.Ytfopcnabcmdclaa.Str Go.Proofs.Ytfopcnabcmdclaa.Bits Go.Proofs.Ytfopcnabcmdclaa.Mp Go.Proofs.Ytfopcnabcmdclaa.Ra
set_option linter.unusedVariables false
/-- w' is w but for the blocks of T, and new ones. -/
structure Kb (T : Nat → Prop) (w w' : World) : Prop where
  os : w'.os = w.os
  tape : w'.tape = w.tape
  output : w'.output = w.output
  size : w.heap.size ≤ w'.heap.size
  block : ∀ k, k < w.heap.size → ¬ T k → w'.heap[k]? = w.heap[k]?
theorem Kb.refl (T : Nat → Prop) (w : World) : Kb T w w := ⟨rfl, rfl, rfl, Nat.le_refl _, fun _ _ _ => rfl⟩
theorem Kb.trans {T T' : Nat → Prop} {a b c : World} (h : Kb T a b) (k : Kb T' b c) (hT : ∀ j, j < a.heap.size → T' j → T j) : Kb T a c :=
  ⟨k.os.trans h.os, k.tape.trans h.tape, k.output.trans h.output, Nat.le_trans h.size k.size, fun i hi hn => (k.block i (Nat.lt_of_lt_of_le hi h.size) (fun t => hn (hT i hi t))).trans (h.block i hi hn)⟩
theorem Kb.ofBelow {T : Nat → Prop} {a w w' : World} (h : Kb T a w) (hb : Below w.heap.size w w') : Kb T a w' :=
  h.trans (T' := fun _ => False) ⟨hb.os, hb.tape, hb.output, hb.size, fun k hk _ => hb.block k hk⟩ (fun _ _ h => h.elim)
theorem Kb.alloc {T : Nat → Prop} {a w : World} (h : Kb T a w) (o : Obj) : Kb T a (w.alloc o) := h.ofBelow ((Below.refl _ w).alloc (Nat.le_refl _) o)
theorem Kb.drewN {T : Nat → Prop} {a w : World} (h : Kb T a w) (n : Nat) : Kb T a (w.drewN n) := h.ofBelow (pw_below_drewN (Below.refl w.heap.size w) n)
theorem Kb.drew {T : Nat → Prop} {a w : World} (h : Kb T a w) : Kb T a w.drew := ⟨h.os, h.tape, h.output, h.size, h.block⟩
theorem Kb.setCell {T : Nat → Prop} {a w : World} (h : Kb T a w) {p : Addr} (hp : p.block < a.heap.size → T p.block) (u : Value) : Kb T a (w.setCell p u) :=
  h.trans (T' := fun j => j = p.block) ⟨rfl, rfl, rfl, by simp [World.setCell], fun k _ hk => Below.heap_setCell _ _ _ _ hk⟩ (fun j hj e => by subst e; exact hp hj)
theorem Kb.grown {T : Nat → Prop} {a w w' : World} {row : Option Nat} (h : Kb T a w) (hg : w.grownBy w' row) (hr : ∀ k, row = some k → k < a.heap.size → T k) : Kb T a w' :=
  h.trans (T' := fun j => row = some j) ⟨hg.os, hg.tape, hg.output, hg.size, fun k hk hn => hg.block k hk (fun e => hn e.symm)⟩ (fun j hj e => hr j e hj)
theorem Kb.below {T : Nat → Prop} {w w' : World} {B : Nat} (h : Kb T w w') (hB : B ≤ w.heap.size) (hT : ∀ k, T k → B ≤ k) : Below B w w' :=
  ⟨h.os, h.tape, h.output, h.size, fun k hk => h.block k (by omega) (fun t => by have := hT k t; omega)⟩
/-- The strings of a row, as cells. -/
def strs (l : List ByteArray) : List Value := l.map .string
theorem strs_length (l : List ByteArray) : (strs l).length = l.length := by simp [strs]
theorem strs_app (l m : List ByteArray) : strs (l ++ m) = strs l ++ strs m := by simp [strs]
/-- A row: the slice v holds the strings l. -/
def Row (w : World) (T : Nat → Prop) (v : Value) (l : List ByteArray) : Prop := OwnsAt w T 9 1 v l.length (strs l)
/-- The slice at a key. -/
def val (f : Lit → Option Value) (d : Bool) (i : Int) : Value := (f (keyL d i)).getD (.slice none 0 0)
def wfi (i : Int) : Prop := (Lit.int .i64 i).wf = true
/-- A bus of n terminals in the block p, its map in the block mb; q says what is on its way. -/
structure BusAt (T : Nat → Prop) (w : World) (p mb c n : Nat) (q : Bool → Int → List ByteArray) (f : Lit → Option Value) : Prop where
  tp : T p
  tm : T mb
  lt : ∀ k, T k → k < w.heap.size
  cells : w.heap[p]? = some (.cells #[.int .i64 n, .map (some mb)] 58 (0, 0))
  map : MapAt Try.prog 61 w mb c f
  rows : ∀ d i, wfi i → Row w T (val f d i) (q d i)
  apart : ∀ d i d' i', wfi i → wfi i' → (d, i) ≠ (d', i') → ∀ k, (val f d i).ownBlock = some k → (val f d' i').ownBlock ≠ some k
  out : ∀ d i, ¬ (0 ≤ i ∧ i < (n : Int)) → q d i = []
  short : ∀ d i, (q d i).length ≤ 256
  sizes : ∀ d i s, s ∈ q d i → s.size ≤ 9223372036854775807
  n1 : 1 ≤ n
  n16 : n ≤ 16
section
variable {T : Nat → Prop} {w : World} {p mb c n : Nat} {q : Bool → Int → List ByteArray} {f : Lit → Option Value}
/-- The bus in another world, its blocks as they were. -/
theorem BusAt.same {w' : World} (h : BusAt T w p mb c n q f) (hb : ∀ k, T k → w'.heap[k]? = w.heap[k]?) (hs : w.heap.size ≤ w'.heap.size) : BusAt T w' p mb c n q f where
  tp := h.tp
  tm := h.tm
  lt := fun k hk => Nat.lt_of_lt_of_le (h.lt k hk) hs
  cells := (hb p h.tp).trans h.cells
  map := h.map.same (hb mb h.tm)
  rows := fun d i hi => (h.rows d i hi).same fun k hk => hb k ((h.rows d i hi).lt k hk).1
  apart := h.apart
  out := h.out
  short := h.short
  sizes := h.sizes
  n1 := h.n1
  n16 := h.n16
theorem BusAt.below {w' : World} (h : BusAt T w p mb c n q f) (hb : Below w.heap.size w w') : BusAt T w' p mb c n q f := h.same (fun k hk => hb.block k (h.lt k hk)) hb.size
theorem BusAt.far {T' : Nat → Prop} {w' : World} (h : BusAt T w p mb c n q f) (hk : Kb T' w w') (hd : ∀ k, T k → ¬ T' k) : BusAt T w' p mb c n q f := h.same (fun k ht => hk.block k (h.lt k ht) (hd k ht)) hk.size
theorem BusAt.cell0 (h : BusAt T w p mb c n q f) : w.cell? ⟨p, 0, none⟩ = some (.int .i64 (n : Int)) := by rw [Lib.cell_of_heap h.cells]; rfl
theorem BusAt.cell1 (h : BusAt T w p mb c n q f) : w.cell? ⟨p, 1, none⟩ = some (.map (some mb)) := by rw [Lib.cell_of_heap h.cells]; rfl
/-- 'm[k]' of its map. -/
theorem BusAt.look (h : BusAt T w p mb c n q f) (d : Bool) (i : Int) (hi : wfi i) : (Instr.lookup 56 (.map (some mb)) (.agg #[.bool d, .int .i64 i]) false).run Try.prog w = .ok (val f d i) w := by
  obtain ⟨D, h1, h2⟩ := h.map
  obtain ⟨v, ps, hrun, hv⟩ := h1.lookup rowKeyed Try.underlying56 (zeroS w) (zd := .held (.slice none 0 0)) (zp := []) rfl (keyRow d i hi)
  have h3 := at_f (z := .slice none 0 0) (h2 _ (rowKeyed.key (keyRow d i hi))).2
  rw [h3] at hv
  simp [anyElem] at hv
  rw [hrun, hv.1]
  rfl
end
/-- What a call on the bus leaves. -/
def Went (T : Nat → Prop) (w : World) (p mb c n : Nat) (q' : Bool → Int → List ByteArray) (w' : World) : Prop :=
  ∃ T' c' f', BusAt T' w' p mb c' n q' f' ∧ c' ≤ c ∧ Kb T w w' ∧ ∀ k, T' k → T k ∨ w.heap.size ≤ k
theorem Went.trans {T T1 : Nat → Prop} {w w1 w2 : World} {p mb c c1 n : Nat} {q2 : Bool → Int → List ByteArray} (k1 : Kb T w w1) (hT : ∀ k, T1 k → T k ∨ w.heap.size ≤ k) (hc : c1 ≤ c) (h : Went T1 w1 p mb c1 n q2 w2) : Went T w p mb c n q2 w2 := by
  obtain ⟨T', c', f', hb, h2, h3, h4⟩ := h
  refine ⟨T', c', f', hb, by omega, k1.trans h3 (fun j hj ht => ?_), fun k hk => ?_⟩
  · rcases hT j ht with h | h
    · exact h
    · omega
  · rcases h4 k hk with h | h
    · exact hT k h
    · right; have := k1.size; omega
/-- A call that does nothing to the bus. -/
theorem Went.still {T : Nat → Prop} {w w' : World} {p mb c n : Nat} {q : Bool → Int → List ByteArray} {f : Lit → Option Value} (h : BusAt T w p mb c n q f) (hb : Below w.heap.size w w') : Went T w p mb c n q w' :=
  ⟨T, c, f, h.below hb, Nat.le_refl _, (Kb.refl T w).ofBelow hb, fun k hk => Or.inl hk⟩
end Go.Proofs.Ytfopcnabcmdclaa.Bs
