/- What Unstuff takes out, bit by bit. Plain lists. -/
import Derived.Test.YtolodlnndojaiaaDoorUnstuff
import Derived.Test.YtolodlnndojaiaaDoorHdlcAbort
namespace Go.Proofs.YtolodlnndojaiaaDoor.Hd
open Go.RowKit Go.Proofs.YtolodlnndojaiaaDoor.Str Go.Proofs.YtolodlnndojaiaaDoor.Bits Go.Proofs.YtolodlnndojaiaaDoor.Oct Go.Proofs.YtolodlnndojaiaaDoor.Buil
set_option linter.unusedVariables false
/-- The bits without the one behind each five ones, n ones ahead. -/
def rm : Nat → List UInt8 → List UInt8
  | _, [] => []
  | n, x :: l => if n = 5 then rm 0 l else x :: rm (if x = 49 then n + 1 else 0) l
theorem rm_stuff (b : List UInt8) (hg : goodL b = true) (n : Nat) (h : n ≤ 4) : rm n (stuffR n b) = b := by
  induction b generalizing n with
  | nil => rfl
  | cons x b ih =>
    have hx : x = 48 ∨ x = 49 := by unfold goodL at hg; simp at hg; exact hg.1
    have hb : goodL b = true := by unfold goodL at hg ⊢; simp at hg ⊢; exact hg.2
    unfold stuffR
    rcases hx with rfl | rfl
    · rw [if_neg (by decide), rm, if_neg (by omega), if_neg (by decide), ih hb 0 (by omega)]
    · rw [if_pos rfl]
      by_cases h5 : n + 1 = 5
      · rw [if_pos h5, rm, if_neg (by omega), if_pos rfl, h5, rm, if_pos rfl, ih hb 0 (by omega)]
      · rw [if_neg h5, rm, if_neg (by omega), if_pos rfl, ih hb (n + 1) (by omega)]
/-- No run of five ones with a zero behind: nothing is taken out. -/
theorem rm_none (l : List UInt8) (hg : goodL l = true) (n : Nat) (hn : n ≤ 5) (hc : calm n l) (h : ∀ j, Lib.occAt (List.replicate n 49 ++ l) (L oldB) j = false) : rm n l = l := by
  induction l generalizing n with
  | nil => rfl
  | cons x l ih =>
    have hx : x = 48 ∨ x = 49 := by unfold goodL at hg; simp at hg; exact hg.1
    have hb : goodL l = true := by unfold goodL at hg ⊢; simp at hg ⊢; exact hg.2
    unfold calm at hc
    by_cases h5 : n = 5
    · subst h5
      rcases hx with rfl | rfl
      · exfalso
        have h0 := h 0
        revert h0
        simp [Lib.occAt, L, oldB, List.replicate, List.isPrefixOf]
      · rw [if_pos rfl] at hc
        omega
    · rw [rm, if_neg h5]
      congr 1
      rcases hx with rfl | rfl
      · rw [if_neg (by decide)]
        rw [if_neg (by decide)] at hc
        refine ih hb 0 (by omega) hc (fun j => ?_)
        have := h (n + 1 + j)
        unfold Lib.occAt at this ⊢
        rw [show List.replicate n 49 ++ 48 :: l = (List.replicate n 49 ++ [48]) ++ l from by simp, show n + 1 + j = (List.replicate n (49 : UInt8) ++ [48]).length + j from by simp, ← List.drop_drop, List.drop_left] at this
        simpa using this
      · rw [if_pos rfl]
        rw [if_pos rfl] at hc
        refine ih hb (n + 1) (by omega) hc.2 (fun j => ?_)
        have := h j
        rw [show List.replicate (n + 1) (49 : UInt8) ++ l = List.replicate n 49 ++ 49 :: l from by rw [List.replicate_succ']; simp]
        exact this
theorem replace_miss (l : List UInt8) (h : Lib.index l (L oldB) = -1) : Lib.replaceAll l (L oldB) (L newB) = l := by
  unfold Lib.replaceAll Lib.replace Lib.replaceNum
  rw [if_neg (by decide), if_pos (Or.inl (by decide)), Lib.count_miss h]
  rfl
theorem replace_hit (l : List UInt8) (i : Nat) (h : Lib.index l (L oldB) = i) : Lib.replaceAll l (L oldB) (L newB) = l.take i ++ L newB ++ Lib.replaceAll (l.drop (i + 6)) (L oldB) (L newB) := by
  unfold Lib.replaceAll Lib.replace Lib.replaceNum
  have h1 := Lib.count_hit old_ne h
  have h6 : (L oldB).length = 6 := rfl
  rw [h6] at h1
  rw [if_neg (by decide), if_pos (Or.inl (by decide)), if_neg (by decide), if_pos (Or.inl (by decide)), h1, Nat.add_comm 1, Lib.replaceK_hit _ _ _ _ _ h, h6]
/-- The ones in a row at the end. -/
def tailOnes : Nat → List UInt8 → Nat
  | n, [] => n
  | n, x :: l => tailOnes (if x = 49 then n + 1 else 0) l
theorem calm_cons (n : Nat) (x : UInt8) (l : List UInt8) : calm n (x :: l) = if x = 49 then n + 1 ≤ 5 ∧ calm (n + 1) l else calm 0 l := rfl
theorem calm_append (a b : List UInt8) (n : Nat) (h : calm n (a ++ b)) : calm n a ∧ calm (tailOnes n a) b := by
  induction a generalizing n with
  | nil => exact ⟨trivial, h⟩
  | cons x a ih =>
    rw [List.cons_append, calm_cons] at h
    rw [calm_cons, tailOnes]
    by_cases hx : x = 49
    · rw [if_pos hx] at h ⊢
      obtain ⟨h1, h2⟩ := ih _ h.2
      rw [if_pos hx]
      exact ⟨⟨h.1, h1⟩, h2⟩
    · rw [if_neg hx] at h ⊢
      rw [if_neg hx]
      exact ih _ h
theorem rm_app (a y : List UInt8) (hg : goodL a = true) (n : Nat) (hn : n ≤ 5) (hc : calm n a) (h : ∀ j, j + 6 ≤ n + a.length → Lib.occAt (List.replicate n 49 ++ a) (L oldB) j = false) : rm n (a ++ y) = a ++ rm (tailOnes n a) y := by
  induction a generalizing n with
  | nil => rfl
  | cons x a ih =>
    have hx : x = 48 ∨ x = 49 := by unfold goodL at hg; simp at hg; exact hg.1
    have hb : goodL a = true := by unfold goodL at hg ⊢; simp at hg ⊢; exact hg.2
    rw [calm_cons] at hc
    by_cases h5 : n = 5
    · subst h5
      rcases hx with rfl | rfl
      · exfalso
        have h0 := h 0 (by simp; omega)
        revert h0
        simp [Lib.occAt, L, oldB, List.replicate, List.isPrefixOf]
      · rw [if_pos rfl] at hc
        omega
    · rw [List.cons_append, rm, if_neg h5, tailOnes, List.cons_append]
      congr 1
      rcases hx with rfl | rfl
      · rw [if_neg (by decide)]
        rw [if_neg (by decide)] at hc
        refine ih hb 0 (by omega) hc (fun j hj => ?_)
        have := h (n + 1 + j) (by simp; omega)
        unfold Lib.occAt at this ⊢
        rw [show List.replicate n 49 ++ 48 :: a = (List.replicate n 49 ++ [48]) ++ a from by simp, show n + 1 + j = (List.replicate n (49 : UInt8) ++ [48]).length + j from by simp, ← List.drop_drop, List.drop_left] at this
        simpa using this
      · rw [if_pos rfl]
        rw [if_pos rfl] at hc
        refine ih hb (n + 1) (by omega) hc.2 (fun j hj => ?_)
        have := h j (by simp; omega)
        rw [show List.replicate (n + 1) (49 : UInt8) ++ a = List.replicate n 49 ++ 49 :: a from by rw [List.replicate_succ']; simp]
        exact this
theorem occ_left (a y : List UInt8) (j : Nat) (h : j + 6 ≤ a.length) : Lib.occAt a (L oldB) j = Lib.occAt (a ++ y) (L oldB) j := by
  rw [Lib.occAt_iff_take a (L oldB) j (by show j + 6 ≤ _; exact h), Lib.occAt_iff_take (a ++ y) (L oldB) j (by show j + 6 ≤ _; rw [List.length_append]; omega)]
  rw [List.drop_append_of_le_length (by omega), List.take_append_of_le_length (by rw [List.length_drop]; show 6 ≤ _; omega)]
theorem rm_replace : ∀ (m : Nat) (l : List UInt8), l.length ≤ m → goodL l = true → calm 0 l → Lib.replaceAll l (L oldB) (L newB) = rm 0 l := by
  intro m
  induction m with
  | zero =>
    intro l hl _ _
    obtain rfl : l = [] := List.eq_nil_of_length_eq_zero (by omega)
    rw [replace_miss [] (by decide)]
    rfl
  | succ m ih =>
    intro l hl hg hc
    rcases Lib.index_spec l (L oldB) with ⟨h1, h2⟩ | ⟨i, h1, h2, h3, h4⟩
    · rw [replace_miss l h1]
      refine (rm_none l hg 0 (by omega) hc (fun j => ?_)).symm
      rw [List.replicate_zero, List.nil_append]
      by_cases hj : j ≤ l.length
      · exact h2 j hj
      · cases ho : Lib.occAt l (L oldB) j with
        | false => rfl
        | true =>
          rcases Lib.occAt_room ho with h | h
          · omega
          · exact absurd h old_ne
    · have hr := index_room h1
      rw [replace_hit l i h1]
      rw [Lib.occAt_iff_take l (L oldB) i hr] at h3
      have h3' : (l.drop i).take 6 = [49, 49, 49, 49, 49, 48] := by simpa [L, oldB] using h3
      have hsp : l = l.take i ++ ([49, 49, 49, 49, 49] ++ (48 :: l.drop (i + 6))) := by
        conv => lhs; rw [← List.take_append_drop i l, ← List.take_append_drop 6 (l.drop i), h3', List.drop_drop]
        simp
      have hc' := hc
      rw [hsp] at hc'
      obtain ⟨c1, c2⟩ := calm_append _ _ _ hc'
      have ht : tailOnes 0 (l.take i) = 0 := by
        obtain ⟨c3, _⟩ := calm_append _ _ _ c2
        simp only [calm_cons, if_true] at c3
        omega
      rw [ht] at c2
      have c5 : calm 0 (l.drop (i + 6)) := by
        obtain ⟨_, c4⟩ := calm_append _ _ _ c2
        rw [calm_cons, if_neg (by decide)] at c4
        exact c4
      have hg' := hg
      rw [← List.take_append_drop i l, good_append] at hg'
      simp at hg'
      have hg2 := hg
      rw [← List.take_append_drop (i + 6) l, good_append] at hg2
      simp at hg2
      rw [ih (l.drop (i + 6)) (by rw [List.length_drop]; omega) hg2.2 c5]
      conv => rhs; rw [hsp]
      rw [rm_app (l.take i) _ hg'.1 0 (by omega) c1 (fun j hj => ?_), ht]
      · simp [rm, L, newB]
      · rw [List.replicate_zero, List.nil_append, occ_left (l.take i) (l.drop i) j (by omega), List.take_append_drop]
        rw [List.length_take] at hj
        exact h4 j (by omega)
end Go.Proofs.YtolodlnndojaiaaDoor.Hd
