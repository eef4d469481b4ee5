/- The plain statement of FrameSides over the printed functions: what one side sends as a command is no command, or no frame, if the other one is taken to have sent it. No condition. -/
import Derived.Test.YtdpgdnbknmncfaaDoorFrameGetP
import Derived.Test.YtdpgdnbknmncfaaDoorPrint22
namespace Go.Proofs.YtdpgdnbknmncfaaDoor.Pure
open Go.RowKit Go.Proofs.YtdpgdnbknmncfaaDoorW.PrintWords Go.Proofs.YtdpgdnbknmncfaaDoorW.PrintLast Go.Proofs.YtdpgdnbknmncfaaDoorW.PrintMore Go.Proofs.YtdpgdnbknmncfaaDoor.Str Go.Proofs.YtdpgdnbknmncfaaDoor.Field Go.Proofs.YtdpgdnbknmncfaaDoor.Frm Go.Proofs.YtdpgdnbknmncfaaDoor.Print
theorem both_of (a : Int) (c : Bool) (h : mayF a c = true) : mayF a (!c) = (mayF a true && mayF a false) := by
  cases c
  · show mayF a true = _
    rw [h, Bool.and_true]
  · show mayF a false = _
    rw [h, Bool.true_and]
theorem both_small (a : Int) (h1 : mayF a true = true) (h2 : mayF a false = true) : a ≤ 3 := by
  unfold mayF at h1 h2
  by_cases hc : a = 0 ∨ a = 4 ∨ a = 6 ∨ a = 7
  · rw [if_pos hc] at h2; exact absurd h2 (by decide)
  · by_cases hr : a = 5 ∨ a = 8 ∨ a = 9
    · rw [if_neg hc, if_pos hr] at h1; exact absurd h1 (by decide)
    · rw [if_neg hc, if_neg hr] at h1
      exact (of_decide_eq_true h1).2
theorem sides_rest (m : Nat) (hm : 60 < m) (s t : Int) (c : Bool) (a : Int) (p : Bool) (x y : Int) (I : ByteArray) (w : Bool) (hI : I.size ≤ 140737488351232) (hk : I.size + 100 < m) :
    lapwinglaw06_FrameSides.j0 (m + 1) w (putF s t c a p x y I w).1 ((putF s t c a p x y I w).2 != 0) s t c a p x y I = some true := by
  rw [lapwinglaw06_FrameSides.j0]
  by_cases h : (putF s t c a p x y I w).2 = 0
  · refine Eq.trans (if_neg (by rw [h]; decide)) ?_
    obtain ⟨h1, h2, h3, h4, h5, h6⟩ := read_back s t c a p x y I w (!w) h
    rw [eqn] at h1
    refine bind_at (get_F m _ (!w) (by omega) (by omega)) ?_
    rw [h1]
    refine bind_at (may_eq a true) ?_
    have hb := both_of a c h2
    by_cases hq : mayF a (!c) = true
    · rw [if_pos hq]
      rw [hq] at hb
      have ht : mayF a true = true := by
        cases hv : mayF a true
        · rw [hv] at hb; exact absurd hb (by simp)
        · rfl
      have hf : mayF a false = true := by
        cases hv : mayF a false
        · rw [hv, Bool.and_false] at hb; exact absurd hb (by simp)
        · rfl
      rw [if_pos ht]
      refine bind_at (may_eq a false) ?_
      rw [hf]
      refine Eq.trans (if_pos rfl) (Eq.trans (if_pos rfl) (Eq.trans (if_pos (beq_self_eq_true _)) (Eq.trans (if_pos rfl) ?_)))
      rw [if_pos (both_small a ht hf), beq_self_eq_true]
    · rw [if_neg hq]
      have hq' : mayF a (!c) = false := by simpa using hq
      by_cases ht : mayF a true = true
      · rw [if_pos ht]
        refine bind_at (may_eq a false) ?_
        have hf : mayF a false = false := by rw [hq', ht, Bool.true_and] at hb; exact hb.symm
        rw [hf]
        exact Eq.trans (if_pos rfl) (if_neg (by decide))
      · rw [if_neg ht]
        exact Eq.trans (if_pos rfl) (if_neg (by decide))
  · refine Eq.trans (if_pos (by simpa using h)) ?_
    exact bind_at (wakes_eq m (by omega)) rfl
theorem FrameSides : lapwinglaw06_FrameSides.Pure := by
  intro s t c a p x y I w _ _ _ _ _ hI
  obtain ⟨k, hk⟩ : ∃ k : Nat, I.size + 100 < k := ⟨I.size + 101, by omega⟩
  refine ⟨k + 1, ?_⟩
  unfold lapwinglaw06_FrameSides.f
  have h0 : lapwinglaw06_frames.f s t c a p x y I = some (s, t, c, a, p, x, y, I, s, t, c, a, p, x, y, I) := rfl
  refine bind_at h0 (bind_at (put_eq (k + 1) s t c a p x y I w hI (by omega)) (bind_at (wakes_eq (k + 1) (by omega)) ?_))
  exact Eq.trans (if_pos rfl) (sides_rest k (by omega) s t c a p x y I w hI hk)
end Go.Proofs.YtdpgdnbknmncfaaDoor.Pure
