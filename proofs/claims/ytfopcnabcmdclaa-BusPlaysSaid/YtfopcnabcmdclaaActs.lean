/- The acts of a script that came in: each one's fields, out of the slice's reading. No condition. -/
import Derived.Test.YtfopcnabcmdclaaExtra
import Derived.Deep.SlicePairs
import Derived.OpenShut
import Derived.ShutString
import Derived.WalkKit
import Derived.ProofKit
namespace Go.Proofs.Ytfopcnabcmdclaa.Ac
open Go Go.ChangeShapes Go.WideShapes Go.ChangeAt Go.RowKit
set_option linter.unusedVariables false
theorem c1i : Try.prog.cellsOf 3 = 1 := by kernel_rfl
theorem c1b : Try.prog.cellsOf 4 = 1 := by kernel_rfl
theorem c1s : Try.prog.cellsOf 9 = 1 := by kernel_rfl
theorem c1l : Try.prog.cellsOf 23 = 1 := by kernel_rfl
theorem c6 : Try.prog.cellsOf 42 = 6 := by kernel_rfl
/-- An act. -/
structure Deed where
  do_ : Int
  i : Int
  often : Int
  way : Bool
  bits : ByteArray
  at_ : Option Addr
  n : Nat
  c : Nat
def i64 (n : Int) : Prop := -9223372036854775808 ≤ n ∧ n ≤ 9223372036854775807
/-- The numbers of a slice that is read. -/
def Ints (W : World) (A : Option Addr) (n c : Nat) : Prop := n ≤ c ∧ c ≤ 9223372036854775807 ∧ (0 < n → ∃ x, A = some x ∧ ∀ j, j < n → ∃ v, i64 v ∧ W.cell? (x.add j) = some (.int .i64 v))
def Deed.val (a : Deed) : List Value := [.int .i64 a.do_, .int .i64 a.i, .int .i64 a.often, .bool a.way, .string a.bits, .slice a.at_ a.n a.c]
def Deed.ok (W : World) (a : Deed) : Prop := i64 a.do_ ∧ i64 a.i ∧ i64 a.often ∧ a.bits.size ≤ 9223372036854775807 ∧ Ints W a.at_ a.n a.c
theorem ints_of {H : Type} {enc : TypeId × Value → H} {W : World} {v : Value} {m : Nat} {e : DataW H × List MemPlace} (h : DataW.trod enc Try.prog W 0 (fun _ => true) true m 23 [v] = some e) :
    ∃ A n c, v = .slice A n c ∧ Ints W A n c := by
  rcases open_ints Try.underlying23 Try.underlying3 (by kernel_rfl) h with ⟨hcs, _⟩ | ⟨x, l, c, zs, hcs, _, hl, hm, hz, _, hcell, hwz⟩
  · simp at hcs
    subst hcs
    exact ⟨none, 0, 0, rfl, Nat.le_refl _, Nat.zero_le _, fun h => absurd h (by decide)⟩
  · simp at hcs
    subst hcs
    unfold maxLen at hm
    refine ⟨some x, l, c, rfl, hl, by omega, fun _ => ⟨x, rfl, fun j hj => ⟨zs.getD j 0, ?_, hcell j (by simp at hz; omega)⟩⟩⟩
    rw [List.getD_eq_getElem?_getD, List.getElem?_eq_getElem (by simp at hz; omega)]
    exact bounds_i64 (hwz _ (List.getElem_mem _))
/-- The cells of an act that is read. -/
theorem act_of {H : Type} {enc : TypeId × Value → H} {W : World} {cs : List Value} {m : Nat} {e : DataW H × List MemPlace} (h : DataW.trod enc Try.prog W 0 (fun _ => true) true m 42 cs = some e) (hl : cs.length = 6) :
    ∃ a : Deed, cs = a.val ∧ a.ok W := by
  obtain ⟨xs, n, _, _, _, hxl, hg⟩ := DataW.trod_struct Try.underlying42 h
  match xs, hxl, cs, hl with
  | [y0, y1, y2, y3, y4, y5], _, [v0, v1, v2, v3, v4, v5], _ =>
    have g0 : DataW.trod enc Try.prog W 0 (fun _ => true) true n 3 [v0] = some y0 := by simpa [c1i] using hg 0 _ rfl
    have g1 : DataW.trod enc Try.prog W 0 (fun _ => true) true n 3 [v1] = some y1 := by simpa [c1i] using hg 1 _ rfl
    have g2 : DataW.trod enc Try.prog W 0 (fun _ => true) true n 3 [v2] = some y2 := by simpa [c1i] using hg 2 _ rfl
    have g3 : DataW.trod enc Try.prog W 0 (fun _ => true) true n 4 [v3] = some y3 := by simpa [c1b] using hg 3 _ rfl
    have g4 : DataW.trod enc Try.prog W 0 (fun _ => true) true n 9 [v4] = some y4 := by simpa [c1s] using hg 4 _ rfl
    have g5 : DataW.trod enc Try.prog W 0 (fun _ => true) true n 23 [v5] = some y5 := by simpa [c1l] using hg 5 _ rfl
    obtain ⟨b0, q0, _, z0⟩ := DataW.trod_int Try.underlying3 g0
    obtain ⟨b1, q1, _, z1⟩ := DataW.trod_int Try.underlying3 g1
    obtain ⟨b2, q2, _, z2⟩ := DataW.trod_int Try.underlying3 g2
    obtain ⟨b3, q3, _⟩ := DataW.trod_bool Try.underlying4 g3
    obtain ⟨b4, q4, _, z4⟩ := DataW.trod_string Try.underlying9 g4
    obtain ⟨A5, n5, c5, q5, z5⟩ := ints_of g5
    simp only [List.cons.injEq, and_true] at q0 q1 q2 q3 q4
    subst q0 q1 q2 q3 q4 q5
    exact ⟨⟨b0, b1, b2, b3, b4, A5, n5, c5⟩, rfl, bounds_i64 z0, bounds_i64 z1, bounds_i64 z2, by unfold maxLen at z4; exact z4, z5⟩
/-- An act that came in by itself. -/
theorem act_in {H : Type} {enc : TypeId × Value → H} {W : World} {v : Value} {d : DataW H} {p : List MemPlace} {base : Nat} (hv : Value.okWide Try.prog W .any base 42 v)
    (h : DataW.Trod enc Try.prog W 0 (fun _ => true) true 42 v d p) : ∃ a : Deed, v = .agg a.val.toArray ∧ a.ok W := by
  obtain ⟨cs, rfl, hcs⟩ := okWide_struct Try.underlying42 hv
  obtain ⟨fu, hf⟩ := h
  obtain ⟨a, e, hok⟩ := act_of hf (by have : cs.size = 6 := hcs.trans c6; simpa [Value.cells] using this)
  refine ⟨a, ?_, hok⟩
  have e2 : cs.toList = a.val := by simpa [Value.cells] using e
  rw [← e2]
/-- The acts of a script. -/
def Acts (W : World) (A : Option Addr) (n c : Nat) : Prop := n ≤ c ∧ c ≤ 9223372036854775807 ∧ (0 < n → ∃ x, A = some x ∧ ∀ j, j < n → ∃ a : Deed, a.ok W ∧ ∀ k u, a.val[k]? = some u → W.cell? ((x.add (j * 6)).add k) = some u)
theorem acts_of {H : Type} {enc : TypeId × Value → H} {W : World} {a : Option Addr} {len cap : Nat} {d : DataW H} {p : List MemPlace}
    (h : DataW.Trod enc Try.prog W 0 (fun _ => true) true 35 (.slice a len cap) d p) : Acts W a len cap := by
  obtain ⟨fuel, hf⟩ := h
  rcases Go.Deep.open_slice Try.underlying35 hf with ⟨hcs, _⟩ | ⟨ad, l, c, m, n, D, Pl, hcs, _, hl, hm, hmm, _, hx⟩
  · simp [Value.cells] at hcs
    obtain ⟨rfl, rfl, rfl⟩ := hcs
    exact ⟨Nat.le_refl _, Nat.zero_le _, fun h => absurd h (by decide)⟩
  · simp [Value.cells] at hcs
    obtain ⟨rfl, rfl, rfl⟩ := hcs
    have hmc : m = cap := by simpa using hmm
    unfold maxLen at hm
    refine ⟨hl, by omega, fun _ => ⟨ad, rfl, fun j hj => ?_⟩⟩
    obtain ⟨cs', h1, h2⟩ := hx j (by omega)
    rw [c6] at h1
    obtain ⟨_, hlen, hcell⟩ := World.cells?_some h1
    obtain ⟨act, rfl, hok⟩ := act_of h2 hlen
    refine ⟨act, hok, fun k u hu => ?_⟩
    have hk : k < 6 := by have := (List.getElem?_eq_some_iff.1 hu).1; rw [hlen] at this; exact this
    have e := hcell k (by omega)
    rw [← hu]
    simpa using e
end Go.Proofs.Ytfopcnabcmdclaa.Ac
