/- What was stuffed is taken apart as it was: plain lists. -/
import Derived.Test.YtolodlnndojaiaaDoorRm
namespace Go.Proofs.YtolodlnndojaiaaDoor.Hd
open Go.RowKit Go.Proofs.YtolodlnndojaiaaDoor.Str Go.Proofs.YtolodlnndojaiaaDoor.Bits Go.Proofs.YtolodlnndojaiaaDoor.Oct Go.Proofs.YtolodlnndojaiaaDoor.Buil
theorem calm_six (l : List UInt8) (hc : calm 0 l) (j : Nat) : Lib.occAt l (List.replicate 6 49) j = false := by
  cases ho : Lib.occAt l (List.replicate 6 49) j with
  | false => rfl
  | true =>
    exfalso
    rcases Lib.occAt_room ho with h | h
    · rw [Lib.occAt_iff_take l _ j h] at ho
      have h3 : (l.drop j).take 6 = List.replicate 6 49 := by simpa using ho
      have hsp : l = l.take j ++ (List.replicate 6 49 ++ (l.drop j).drop 6) := by
        conv => lhs; rw [← List.take_append_drop j l, ← List.take_append_drop 6 (l.drop j), h3]
      rw [hsp] at hc
      obtain ⟨_, c2⟩ := calm_append _ _ _ hc
      obtain ⟨c3, _⟩ := calm_append _ _ _ c2
      simp only [List.replicate, calm_cons, if_true] at c3
      omega
    · cases h
theorem calm_contains (l : List UInt8) (hc : calm 0 l) : Lib.contains l (List.replicate 6 49) = false := by
  unfold Lib.contains
  rcases Lib.index_spec l (List.replicate 6 49) with ⟨h, _⟩ | ⟨i, _, _, h3, _⟩
  · rw [h]; rfl
  · rw [calm_six l hc i] at h3; cases h3
theorem tail_append (a b : List UInt8) (n : Nat) : tailOnes n (a ++ b) = tailOnes (tailOnes n a) b := by
  induction a generalizing n with
  | nil => rfl
  | cons x a ih => exact ih _
theorem tail_ones (k n : Nat) : tailOnes n (List.replicate k 49) = n + k := by
  induction k generalizing n with
  | zero => rfl
  | succ k ih => rw [List.replicate_succ, tailOnes, if_pos rfl, ih]; omega
theorem tail_stuffR (l : List UInt8) (n : Nat) (h : n ≤ 4) : tailOnes n (stuffR n l) ≤ 4 := by
  induction l generalizing n with
  | nil => exact h
  | cons x l ih =>
    unfold stuffR
    split
    · split
      · exact ih 0 (by omega)
      · exact ih (n + 1) (by omega)
    · exact ih 0 (by omega)
theorem tail_suffix (l : List UInt8) (h : tailOnes 0 l ≤ 4) : Lib.hasSuffix l (List.replicate 5 49) = false := by
  cases hs : Lib.hasSuffix l (List.replicate 5 49) with
  | false => rfl
  | true =>
    exfalso
    unfold Lib.hasSuffix at hs
    rw [List.isSuffixOf_iff_suffix] at hs
    obtain ⟨a, rfl⟩ := hs
    rw [tail_append, tail_ones] at h
    omega
/-- What was stuffed is taken apart as it was. -/
theorem unstuff_stuff (b : List UInt8) (hg : goodL b = true) : unstuffS (stuffL b) = (b, 0) := by
  have hc : calm 0 (stuffL b) := by rw [stuffL_R]; exact calm_stuffR b 0 (by omega)
  have hg2 : goodL (stuffL b) = true := by rw [stuffL_R]; exact good_stuffR 0 b hg
  have ht : tailOnes 0 (stuffL b) ≤ 4 := by rw [stuffL_R]; exact tail_stuffR b 0 (by omega)
  unfold unstuffS
  rw [calm_contains _ hc, tail_suffix _ ht, hg2, if_neg (by decide), if_neg (by decide), rm_replace _ _ (Nat.le_refl _) hg2 hc, stuffL_R, rm_stuff b hg 0 (by omega)]
theorem tail_take (l : List UInt8) (i : Nat) (h : i < l.length) : tailOnes 0 (l.take (i + 1)) = if l[i] = 49 then tailOnes 0 (l.take i) + 1 else 0 := by
  rw [List.take_succ_eq_append_getElem h, tail_append]
  rfl
theorem calm_tail (l : List UInt8) (n : Nat) (hn : n ≤ 5) (h : calm n l) : tailOnes n l ≤ 5 := by
  induction l generalizing n with
  | nil => exact hn
  | cons x l ih =>
    rw [calm_cons] at h
    rw [tailOnes]
    by_cases hx : x = 49
    · rw [if_pos hx] at h ⊢
      exact ih _ h.1 h.2
    · rw [if_neg hx] at h ⊢
      exact ih _ (by omega) h
theorem calm_take (l : List UInt8) (h : calm 0 l) (i : Nat) : tailOnes 0 (l.take i) ≤ 5 := by
  rw [← List.take_append_drop i l] at h
  exact calm_tail _ 0 (by omega) (calm_append _ _ 0 h).1
theorem good_at (l : List UInt8) (hg : goodL l = true) (i : Nat) (h : i < l.length) : l[i] = 48 ∨ l[i] = 49 := by
  unfold goodL at hg
  rw [List.all_eq_true] at hg
  have := hg _ (List.getElem_mem h)
  simpa using this
end Go.Proofs.YtolodlnndojaiaaDoor.Hd
