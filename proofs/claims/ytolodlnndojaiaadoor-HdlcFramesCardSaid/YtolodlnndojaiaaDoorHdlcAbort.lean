/- A frame that is broken off by seven ones, in plain lists. -/
import Derived.Test.YtolodlnndojaiaaDoorHdlc
namespace Go.Proofs.YtolodlnndojaiaaDoor.Hd
open Go.RowKit Go.Proofs.YtolodlnndojaiaaDoor.Str Go.Proofs.YtolodlnndojaiaaDoor.Bits Go.Proofs.YtolodlnndojaiaaDoor.Oct
theorem good_stuffR (n : Nat) (l : List UInt8) (h : goodL l = true) : goodL (stuffR n l) = true := by
  induction l generalizing n with
  | nil => rfl
  | cons x l ih =>
    have hl : goodL l = true := by unfold goodL at h ⊢; simp at h ⊢; exact h.2
    unfold stuffR
    split
    · split
      · have := ih 0 hl; unfold goodL at this ⊢; simp at this ⊢; exact this
      · have := ih (n + 1) hl; unfold goodL at this ⊢; simp at this ⊢; exact this
    · have := ih 0 hl; unfold goodL at this ⊢; simp at this ⊢; exact this
theorem good_left (a b : List UInt8) (h : goodL (a ++ b) = true) : goodL a = true := by rw [good_append] at h; simp at h; exact h.1
theorem up_one (c : List UInt8) (m : Nat) (h : m ≤ 5) : ∃ c', stepS ⟨c, true, m⟩ 49 = (⟨c', true, m + 1⟩, none) := by
  unfold stepS
  rw [if_pos rfl, if_neg (by simp; omega)]
  unfold push
  split
  · exact ⟨_, rfl⟩
  · exact ⟨_, rfl⟩
theorem up_many (j : Nat) (c : List UInt8) (m : Nat) (h : m + j ≤ 6) : ∃ c', feedL ⟨c, true, m⟩ (List.replicate j 49) = (⟨c', true, m + j⟩, []) := by
  induction j generalizing c m with
  | zero => exact ⟨c, rfl⟩
  | succ j ih =>
    obtain ⟨c1, e1⟩ := up_one c m (by omega)
    obtain ⟨c2, e2⟩ := ih c1 (m + 1) (by omega)
    refine ⟨c2, ?_⟩
    rw [List.replicate_succ, feedL_cons _ _ _ (by decide), e1, e2]
    simp; omega
theorem out_many (j n : Nat) : feedL ⟨[], false, n⟩ (List.replicate j 49) = (⟨[], false, n + j⟩, []) := by
  induction j generalizing n with
  | zero => rfl
  | succ j ih =>
    have e : stepS ⟨[], false, n⟩ 49 = (⟨[], false, n + 1⟩, none) := by
      unfold stepS
      rw [if_pos rfl, if_neg (by simp)]
      rfl
    rw [List.replicate_succ, feedL_cons _ _ _ (by decide), e, ih]
    simp; omega
theorem seven (c : List UInt8) (m : Nat) (h : m ≤ 5) : feedL ⟨c, true, m⟩ [49, 49, 49, 49, 49, 49, 49, 48] = (⟨[], false, 0⟩, [(1, [])]) := by
  have e : ([49, 49, 49, 49, 49, 49, 49, 48] : List UInt8) = List.replicate (6 - m) 49 ++ ([49] ++ (List.replicate m 49 ++ [48])) := by
    match m, h with
    | 0, _ => rfl
    | 1, _ => rfl
    | 2, _ => rfl
    | 3, _ => rfl
    | 4, _ => rfl
    | 5, _ => rfl
  obtain ⟨c1, e1⟩ := up_many (6 - m) c m (by omega)
  have e2 : m + (6 - m) = 6 := by omega
  rw [e2] at e1
  have e3 : feedL ⟨c1, true, 6⟩ [49] = (⟨[], false, 7⟩, [(1, [])]) := by
    rw [feedL_cons _ _ _ (by decide)]
    rfl
  have e4 : feedL ⟨[], false, 7 + m⟩ [48] = (⟨[], false, 0⟩, []) := by
    rw [feedL_cons _ _ _ (by decide)]
    unfold stepS
    rw [if_neg (by decide), if_pos (by simp; omega), if_neg (by simp; omega)]
    rfl
  rw [e, feedL_append, e1, feedL_append, e3, feedL_append, out_many, e4]
  rfl
theorem feed_abort (l : List UInt8) (k : Nat) (h1 : 8 ≤ k) (h2 : k = 8 ∨ k + 8 < (encL l).length) (z : List UInt8) (h3 : z ≠ []) (h4 : z.length ≤ 266) :
    feedL St.new ((encL l).take k ++ [49, 49, 49, 49, 49, 49, 49, 48] ++ encL z) = (⟨[], true, 0⟩, [(1, []), (0, z)]) := by
  have hlen : (encL l).length = 16 + (stuffL (ofL l)).length := by
    unfold encL
    rw [List.length_append, List.length_append]
    show 8 + _ + 8 = _
    omega
  have e : (encL l).take k = flagL ++ (stuffL (ofL l)).take (k - 8) := by
    unfold encL
    rw [List.append_assoc, List.take_append, List.take_of_length_le (show flagL.length ≤ k from h1)]
    congr 1
    show ((stuffL (ofL l)) ++ flagL).take (k - 8) = _
    exact List.take_append_of_le_length (by omega)
  have hc : calm 0 ((stuffL (ofL l)).take (k - 8)) := by
    refine calm_left _ ((stuffL (ofL l)).drop (k - 8)) 0 ?_
    rw [List.take_append_drop, stuffL_R]
    exact calm_stuffR _ 0 (by omega)
  have hg : goodL ((stuffL (ofL l)).take (k - 8)) = true := by
    refine good_left _ ((stuffL (ofL l)).drop (k - 8)) ?_
    rw [List.take_append_drop, stuffL_R]
    exact good_stuffR 0 _ (good_of l)
  obtain ⟨c', m, hm, ef, _⟩ := feed_calm _ hg [] true 0 (by omega) hc
  rw [e, feedL_append, feedL_append, feedL_append, feed_ready St.new ready_new, ef, seven c' m hm, feed_one _ (Or.inr ⟨0, by omega, rfl⟩) z h3 h4]
  rfl
end Go.Proofs.YtolodlnndojaiaaDoor.Hd
