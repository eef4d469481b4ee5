/- Small rules that the kit's set lacks: the complement of an unsigned number; records and arrays by value, opened by their cells. -/
import Derived.Test.YtmgiolpooamkkaaDoorProg
import Derived.WalkKit
import Derived.ProofKit
import Derived.SizedLaws
namespace Go.Proofs.YtmgiolpooamkkaaDoorX
theorem unary_xor_u16 (n : Int) : Op.unary .xor (.int .u16 n) = Op.intBits .xor .u16 65535 n := rfl
theorem unary_xor_u8 (n : Int) : Op.unary .xor (.int .u8 n) = Op.intBits .xor .u8 255 n := rfl
section
variable {α : Type}
theorem list_2 {l : List α} (h : l.length = 2) : ∃ a b, l = [a, b] := by
  match l, h with
  | [a, b], _ => exact ⟨a, b, rfl⟩
theorem list_3 {l : List α} (h : l.length = 3) : ∃ a b c, l = [a, b, c] := by
  match l, h with
  | [a, b, c], _ => exact ⟨a, b, c, rfl⟩
theorem list_4 {l : List α} (h : l.length = 4) : ∃ a b c d, l = [a, b, c, d] := by
  match l, h with
  | [a, b, c, d], _ => exact ⟨a, b, c, d, rfl⟩
theorem list_8 {l : List α} (h : l.length = 8) : ∃ a b c d e f g i, l = [a, b, c, d, e, f, g, i] := by
  match l, h with
  | [a, b, c, d, e, f, g, i], _ => exact ⟨a, b, c, d, e, f, g, i, rfl⟩
theorem array_2 {l : Array α} (h : l.size = 2) : ∃ a b, l = #[a, b] := by
  obtain ⟨a, b, hl⟩ := list_2 (l := l.toList) (by simpa using h)
  exact ⟨a, b, by rw [← Array.toArray_toList (xs := l), hl]⟩
theorem array_3 {l : Array α} (h : l.size = 3) : ∃ a b c, l = #[a, b, c] := by
  obtain ⟨a, b, c, hl⟩ := list_3 (l := l.toList) (by simpa using h)
  exact ⟨a, b, c, by rw [← Array.toArray_toList (xs := l), hl]⟩
theorem array_4 {l : Array α} (h : l.size = 4) : ∃ a b c d, l = #[a, b, c, d] := by
  obtain ⟨a, b, c, d, hl⟩ := list_4 (l := l.toList) (by simpa using h)
  exact ⟨a, b, c, d, by rw [← Array.toArray_toList (xs := l), hl]⟩
theorem array_8 {l : Array α} (h : l.size = 8) : ∃ a b c d e f g i, l = #[a, b, c, d, e, f, g, i] := by
  obtain ⟨a, b, c, d, e, f, g, i, hl⟩ := list_8 (l := l.toList) (by simpa using h)
  exact ⟨a, b, c, d, e, f, g, i, by rw [← Array.toArray_toList (xs := l), hl]⟩
end
theorem okWide_array {P : Program} {w : World} {r : Reach} {base : Nat} {t : TypeId} {v : Value} {n : Nat} {e : TypeId} (ht : P.underlying t = some (.array n e)) (h : Value.okWide P w r base t v) : ∃ cs, v = .agg cs ∧ cs.size = P.cellsOf t := by
  simp only [Value.okWide, ht] at h
  obtain ⟨cs, h1, h2, _⟩ := h
  exact ⟨cs, h1, h2⟩
theorem sized_struct {H : Type} {P : Program} {ts : List TypeId} {ds : List (DataW H)} (h : (DataW.weightsEach P ts ds).all (· ≤ reachBytes) = true) {j : Nat} {t : TypeId} {parts : List (DataW H)} {fs : Array Field} (ht : ts[j]? = some t) (hd : ds[j]? = some (.agg parts)) (hu : P.underlying t = some (.struct fs)) :
    (DataW.weightsEach P (fs.toList.map (·.type)) parts).all (· ≤ reachBytes) = true := by
  rw [List.all_eq_true]
  intro x hx
  exact List.all_eq_true.1 h _ (DataW.weights_mem_each ht hd x (by simpa [DataW.weights, hu] using hx))
end Go.Proofs.YtmgiolpooamkkaaDoorX
