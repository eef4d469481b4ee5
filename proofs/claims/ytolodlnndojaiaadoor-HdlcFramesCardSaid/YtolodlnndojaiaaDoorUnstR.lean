/- Taken apart as the document says, in plain lists: Unstuff's answer. -/
import Derived.Test.YtolodlnndojaiaaDoorUnst
namespace Go.Proofs.YtolodlnndojaiaaDoor.Hd
open Go.RowKit Go.Proofs.YtolodlnndojaiaaDoor.Str Go.Proofs.YtolodlnndojaiaaDoor.Bits Go.Proofs.YtolodlnndojaiaaDoor.Oct Go.Proofs.YtolodlnndojaiaaDoor.Buil
set_option linter.unusedVariables false
/-- One bit more, as the document takes it: what is so far, the ones in a row. -/
def usS (q : List UInt8 × Nat) (x : UInt8) : List UInt8 × Nat := if q.2 = 5 then (q.1, 0) else (q.1 ++ [x], if x = 49 then q.2 + 1 else 0)
def us (l : List UInt8) : List UInt8 × Nat := l.foldl usS ([], 0)
theorem us_rm (l a : List UInt8) (n : Nat) : (l.foldl usS (a, n)).1 = a ++ rm n l := by
  induction l generalizing a n with
  | nil => simp [rm]
  | cons x l ih =>
    rw [List.foldl_cons]
    by_cases h : n = 5
    · have e : usS (a, n) x = (a, 0) := by unfold usS; rw [if_pos h]
      rw [e, ih, rm, if_pos h]
    · have e : usS (a, n) x = (a ++ [x], if x = 49 then n + 1 else 0) := by unfold usS; rw [if_neg h]
      rw [e, ih, rm, if_neg h]; simp
theorem us_all (l : List UInt8) : (us l).1 = rm 0 l := by unfold us; rw [us_rm]; rfl
theorem us_take (l : List UInt8) (i : Nat) (h : i < l.length) : us (l.take (i + 1)) = usS (us (l.take i)) l[i] := by
  unfold us
  rw [List.take_succ_eq_append_getElem h, List.foldl_append]; rfl
theorem usS_bound (q : List UInt8 × Nat) (x : UInt8) (h : q.2 ≤ 5) : (usS q x).1.length ≤ q.1.length + 1 ∧ (usS q x).2 ≤ 5 := by
  unfold usS
  split
  · simp
  · split <;> simp <;> omega
theorem us_bound (l : List UInt8) (i : Nat) (h : i ≤ l.length) : (us (l.take i)).1.length ≤ i ∧ (us (l.take i)).2 ≤ 5 := by
  induction i with
  | zero => simp [us]
  | succ i ih =>
    have h1 := ih (by omega)
    have h2 := usS_bound (us (l.take i)) l[i] h1.2
    rw [us_take l i (by omega)]
    omega
theorem calm_snoc (a : List UInt8) (x : UInt8) (n : Nat) : calm n (a ++ [x]) ↔ calm n a ∧ (x = 49 → tailOnes n a + 1 ≤ 5) := by
  induction a generalizing n with
  | nil =>
    rw [List.nil_append, calm_cons, tailOnes]
    by_cases h : x = 49
    · rw [if_pos h]; exact ⟨fun k => ⟨trivial, fun _ => k.1⟩, fun k => ⟨k.2 h, trivial⟩⟩
    · rw [if_neg h]; exact ⟨fun k => ⟨trivial, fun e => absurd e h⟩, fun k => trivial⟩
  | cons y a ih =>
    rw [List.cons_append, calm_cons, calm_cons, tailOnes]
    by_cases h : y = 49
    · rw [if_pos h, if_pos h, if_pos h, ih, and_assoc]
    · rw [if_neg h, if_neg h, if_neg h, ih]
theorem calm_next (l : List UInt8) (i : Nat) (h : i < l.length) (hc : calm 0 (l.take i)) (h5 : l[i] = 49 → tailOnes 0 (l.take i) + 1 ≤ 5) : calm 0 (l.take (i + 1)) := by
  rw [List.take_succ_eq_append_getElem h, calm_snoc]
  exact ⟨hc, h5⟩
theorem not_calm (l : List UInt8) (n : Nat) (hn : n ≤ 5) (h : ¬ calm n l) : ∃ j, Lib.occAt (List.replicate n 49 ++ l) (List.replicate 6 49) j = true := by
  induction l generalizing n with
  | nil => exact absurd trivial h
  | cons x l ih =>
    rw [calm_cons] at h
    by_cases hx : x = 49
    · rw [if_pos hx] at h
      subst hx
      have e : List.replicate n (49 : UInt8) ++ 49 :: l = List.replicate (n + 1) 49 ++ l := by rw [List.replicate_succ']; simp
      rw [e]
      by_cases h5 : n + 1 ≤ 5
      · exact ih (n + 1) h5 (fun k => h ⟨h5, k⟩)
      · obtain rfl : n = 5 := by omega
        refine ⟨0, ?_⟩
        rw [Lib.occAt_iff_take _ _ 0 (by simp)]
        rw [List.drop_zero, List.take_append_of_le_length (by simp)]
        rfl
    · rw [if_neg hx] at h
      obtain ⟨j, hj⟩ := ih 0 (by omega) h
      refine ⟨n + 1 + j, ?_⟩
      unfold Lib.occAt at hj ⊢
      rw [show List.replicate n 49 ++ x :: l = (List.replicate n 49 ++ [x]) ++ l from by simp, show n + 1 + j = (List.replicate n (49 : UInt8) ++ [x]).length + j from by simp, ← List.drop_drop, List.drop_left]
      simpa using hj
theorem occ_len {l : List UInt8} {j : Nat} (h : Lib.occAt l (List.replicate 6 49) j = true) : j ≤ l.length := by
  rcases Lib.occAt_room h with h | h
  · omega
  · cases h
theorem contains_not (l : List UInt8) (h : ¬ calm 0 l) : Lib.contains l (List.replicate 6 49) = true := by
  unfold Lib.contains
  obtain ⟨j, hj⟩ := not_calm l 0 (by omega) h
  rw [List.replicate_zero, List.nil_append] at hj
  rcases Lib.index_spec l (List.replicate 6 49) with ⟨_, h2⟩ | ⟨i, h1, _⟩
  · rw [h2 j (occ_len hj)] at hj; cases hj
  · rw [h1]; simp
theorem tail_split (l : List UInt8) (n : Nat) : ∃ a, List.replicate n 49 ++ l = a ++ List.replicate (tailOnes n l) 49 := by
  induction l generalizing n with
  | nil => exact ⟨[], by simp [tailOnes]⟩
  | cons x l ih =>
    rw [tailOnes]
    by_cases hx : x = 49
    · obtain ⟨a, ha⟩ := ih (n + 1)
      rw [if_pos hx]
      refine ⟨a, ?_⟩
      rw [← ha, hx, List.replicate_succ']; simp
    · obtain ⟨a, ha⟩ := ih 0
      rw [if_neg hx]
      refine ⟨List.replicate n 49 ++ x :: a, ?_⟩
      rw [List.append_assoc, List.cons_append, ← ha]; rfl
theorem suffix_five (l : List UInt8) (h : tailOnes 0 l = 5) : Lib.hasSuffix l (List.replicate 5 49) = true := by
  obtain ⟨a, ha⟩ := tail_split l 0
  rw [h, List.replicate_zero, List.nil_append] at ha
  unfold Lib.hasSuffix
  rw [List.isSuffixOf_iff_suffix]
  exact ⟨a, ha.symm⟩
theorem us_bad (l : List UInt8) (h : goodL l = false) : unstuffS l = ([], 4) := by unfold unstuffS; rw [if_pos (Or.inl h)]
theorem us_six (l : List UInt8) (h : ¬ calm 0 l) : unstuffS l = ([], 4) := by unfold unstuffS; rw [if_pos (Or.inr (contains_not l h))]
theorem us_five (l : List UInt8) (hg : goodL l = true) (hc : calm 0 l) (h : tailOnes 0 l = 5) : unstuffS l = ([], 3) := by
  unfold unstuffS
  rw [calm_contains _ hc, suffix_five l h, hg, if_neg (by decide), if_pos rfl]
theorem us_ok (l : List UInt8) (hg : goodL l = true) (hc : calm 0 l) (h : tailOnes 0 l ≠ 5) : unstuffS l = ((us l).1, 0) := by
  have h5 := calm_tail l 0 (by omega) hc
  unfold unstuffS
  rw [calm_contains _ hc, tail_suffix l (by omega), hg, if_neg (by decide), if_neg (by decide), rm_replace _ _ (Nat.le_refl _) hg hc, us_all]
theorem six_not (l : List UInt8) (i : Nat) (h : i < l.length) (h6 : l[i] = 49 ∧ tailOnes 0 (l.take i) + 1 = 6) : ¬ calm 0 l := by
  intro hc
  rw [← List.take_append_drop (i + 1) l] at hc
  have h1 := calm_left _ _ 0 hc
  rw [List.take_succ_eq_append_getElem h, calm_snoc] at h1
  have := h1.2 h6.1
  omega
end Go.Proofs.YtolodlnndojaiaaDoor.Hd
