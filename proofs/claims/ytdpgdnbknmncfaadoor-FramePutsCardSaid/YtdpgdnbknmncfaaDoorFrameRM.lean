/- What the document's May and Carries come to. Plain Lean over the printed functions. -/
import Derived.Test.YtdpgdnbknmncfaaDoorPlainC
import Derived.Test.YtdpgdnbknmncfaaDoorPrint6
namespace Go.Proofs.YtdpgdnbknmncfaaDoor.Frm
open Go.RowKit Go.Proofs.YtdpgdnbknmncfaaDoorW.PrintWords Go.Proofs.YtdpgdnbknmncfaaDoorW.PrintLast Go.Proofs.YtdpgdnbknmncfaaDoorW.PrintMore Go.Proofs.YtdpgdnbknmncfaaDoor.Str Go.Proofs.YtdpgdnbknmncfaaDoor.Field Go.Proofs.YtdpgdnbknmncfaaDoor.Ctl Go.Proofs.YtdpgdnbknmncfaaDoor.Print Go.Proofs.YtdpgdnbknmncfaaDoorX
open Go.Proofs.YtdpgdnbknmncfaaDoor.Fcs (sealL checkL)
open Go.Proofs.YtdpgdnbknmncfaaDoor.Addr (putA getA)
theorem in_step (m : Nat) (a : Int) (l : List Int) (i : Nat) (hi : i < l.length) (hl : l.length < 100) : lapwingref06_in.l0 (m + 1) a l (i : Int) = if rd l (i : Int) = a then some true else lapwingref06_in.l0 m a l ((i + 1 : Nat) : Int) := by
  rw [lapwingref06_in.l0, if_pos (by omega), if_pos (by omega), w64 (n := (i : Int) + 1) (by omega) (by omega)]; rfl
theorem in_end (m : Nat) (a : Int) (l : List Int) : lapwingref06_in.l0 (m + 1) a l ((l.length : Nat) : Int) = some false := by
  rw [lapwingref06_in.l0, if_neg (by omega)]
theorem in3 (k : Nat) (hk : 3 < k) (a x y z : Int) : lapwingref06_in.f k a [x, y, z] = some (decide (a = x ∨ a = y ∨ a = z)) := by
  obtain ⟨m, rfl⟩ : ∃ m, k = m + 1 + 1 + 1 + 1 := ⟨k - 4, by omega⟩
  unfold lapwingref06_in.f
  refine (in_step _ a [x, y, z] 0 (by show 0 < 3; decide) (by show 3 < 100; decide)).trans ?_
  show (if x = a then _ else _) = _
  by_cases h1 : x = a
  · rw [if_pos h1, decide_eq_true (Or.inl h1.symm)]
  rw [if_neg h1]
  refine (in_step _ a [x, y, z] 1 (by show 1 < 3; decide) (by show 3 < 100; decide)).trans ?_
  show (if y = a then _ else _) = _
  by_cases h2 : y = a
  · rw [if_pos h2, decide_eq_true (Or.inr (Or.inl h2.symm))]
  rw [if_neg h2]
  refine (in_step _ a [x, y, z] 2 (by show 2 < 3; decide) (by show 3 < 100; decide)).trans ?_
  show (if z = a then _ else _) = _
  by_cases h3 : z = a
  · rw [if_pos h3, decide_eq_true (Or.inr (Or.inr h3.symm))]
  rw [if_neg h3]
  refine (in_end _ a [x, y, z]).trans ?_
  rw [decide_eq_false (by omega)]
theorem in4 (k : Nat) (hk : 4 < k) (a x y z u : Int) : lapwingref06_in.f k a [x, y, z, u] = some (decide (a = x ∨ a = y ∨ a = z ∨ a = u)) := by
  obtain ⟨m, rfl⟩ : ∃ m, k = m + 1 + 1 + 1 + 1 + 1 := ⟨k - 5, by omega⟩
  unfold lapwingref06_in.f
  refine (in_step _ a [x, y, z, u] 0 (by show 0 < 4; decide) (by show 4 < 100; decide)).trans ?_
  show (if x = a then _ else _) = _
  by_cases h1 : x = a
  · rw [if_pos h1, decide_eq_true (Or.inl h1.symm)]
  rw [if_neg h1]
  refine (in_step _ a [x, y, z, u] 1 (by show 1 < 4; decide) (by show 4 < 100; decide)).trans ?_
  show (if y = a then _ else _) = _
  by_cases h2 : y = a
  · rw [if_pos h2, decide_eq_true (Or.inr (Or.inl h2.symm))]
  rw [if_neg h2]
  refine (in_step _ a [x, y, z, u] 2 (by show 2 < 4; decide) (by show 4 < 100; decide)).trans ?_
  show (if z = a then _ else _) = _
  by_cases h3 : z = a
  · rw [if_pos h3, decide_eq_true (Or.inr (Or.inr (Or.inl h3.symm)))]
  rw [if_neg h3]
  refine (in_step _ a [x, y, z, u] 3 (by show 3 < 4; decide) (by show 4 < 100; decide)).trans ?_
  show (if u = a then _ else _) = _
  by_cases h4 : u = a
  · rw [if_pos h4, decide_eq_true (Or.inr (Or.inr (Or.inr h4.symm)))]
  rw [if_neg h4]
  refine (in_end _ a [x, y, z, u]).trans ?_
  rw [decide_eq_false (by omega)]
theorem rmay_eq (k : Nat) (hk : 4 < k) (a : Int) (c : Bool) : lapwingref06_May.f k a c = some (mayF a c) := by
  unfold lapwingref06_May.f
  refine bind_at (in3 k (by omega) a 1 2 3) (bind_at (in4 k hk a 0 4 6 7) (bind_at (in3 k (by omega) a 5 8 9) ?_))
  unfold mayF
  by_cases h1 : a = 1 ∨ a = 2 ∨ a = 3
  · rw [if_pos (decide_eq_true h1), if_neg (by omega), if_neg (by omega), decide_eq_true (by omega)]
  rw [if_neg (by simpa using h1)]
  by_cases h2 : a = 0 ∨ a = 4 ∨ a = 6 ∨ a = 7
  · rw [if_pos (decide_eq_true h2), if_pos h2, if_neg (show ¬ (decide (a = 5 ∨ a = 8 ∨ a = 9) = true) by simp; omega)]
    cases c <;> rfl
  · rw [if_neg (by simpa using h2), if_neg h2]
    by_cases h3 : a = 5 ∨ a = 8 ∨ a = 9
    · rw [if_pos (decide_eq_true h3), if_pos h3]
    · rw [if_neg (by simpa using h3), if_neg h3, decide_eq_false (by omega)]
theorem rcar_eq (k : Nat) (hk : 1 < k) (a n : Int) : lapwingref06_Carries.f k a n = some (carF a n) := by
  obtain ⟨m, rfl⟩ : ∃ m, k = m + 1 + 1 := ⟨k - 2, by omega⟩
  have key : ∀ b : Bool, b = decide (¬ (0 ≤ a ∧ a < 10)) → lapwingref06_Carries.j0 (m + 1 + 1) a n b = some (carF a n) := by
    intro b hb
    rw [lapwingref06_Carries.j0]
    unfold carF
    by_cases hr : 0 ≤ a ∧ a < 10
    · rw [if_neg (by rw [hb]; simpa using hr)]
      by_cases h0 : a = 0
      · rw [if_pos h0, if_pos (Or.inl h0), lapwingref06_Carries.j1, if_pos rfl]; exact small n
      rw [if_neg h0, lapwingref06_Carries.j1]
      by_cases h6 : a = 6
      · rw [if_pos (by simp [h6]), if_pos (Or.inr h6)]; exact small n
      rw [if_neg (by simpa using h6), if_neg (show ¬ (a = 0 ∨ a = 6) by omega)]
      by_cases h9 : a = 9
      · rw [if_pos h9, if_pos h9]
      rw [if_neg h9, if_neg h9, decide_eq_true hr, Bool.and_true]
    · rw [if_pos (by rw [hb, decide_eq_true hr]), if_neg (by omega), if_neg (by omega), decide_eq_false hr, Bool.and_false]
  unfold lapwingref06_Carries.f
  by_cases h : a < 0
  · rw [if_pos h]; exact key true (by rw [decide_eq_true (by omega)])
  · rw [if_neg h]; exact key _ (decide_eq_decide.2 (by omega))
end Go.Proofs.YtdpgdnbknmncfaaDoor.Frm
