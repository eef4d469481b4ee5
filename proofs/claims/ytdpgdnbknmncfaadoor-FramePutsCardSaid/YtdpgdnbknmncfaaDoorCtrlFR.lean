/- What the document's functions for control fields come to (in the seat of the frames): the octets or the error. Plain Lean over the printed functions. -/
import Derived.Test.YtdpgdnbknmncfaaDoorPlainC
import Derived.Test.YtdpgdnbknmncfaaDoorPrint10
namespace Go.Proofs.YtdpgdnbknmncfaaDoor.Ctl
open Go.RowKit Go.Proofs.YtdpgdnbknmncfaaDoorW.PrintWords Go.Proofs.YtdpgdnbknmncfaaDoorW.PrintLast Go.Proofs.YtdpgdnbknmncfaaDoorW.PrintMore Go.Proofs.YtdpgdnbknmncfaaDoor.Str Go.Proofs.YtdpgdnbknmncfaaDoor.Field Go.Proofs.YtdpgdnbknmncfaaDoor.Pack Go.Proofs.YtdpgdnbknmncfaaDoor.Print Go.Proofs.YtdpgdnbknmncfaaDoorX
theorem rnum_eq (a : Int) : lapwingref05_Numbered.f a = some (decide (0 ≤ a ∧ a ≤ 3)) := by
  unfold lapwingref05_Numbered.f
  by_cases h0 : a = 0
  · rw [if_pos h0]; subst h0; rfl
  · rw [if_neg h0]
    by_cases h1 : a = 1
    · rw [if_pos h1]; subst h1; rfl
    · rw [if_neg h1]
      by_cases h2 : a = 2
      · rw [if_pos h2]; subst h2; rfl
      · rw [if_neg h2]
        by_cases h3 : a = 3
        · subst h3; rfl
        · rw [beq_false_of_ne h3, decide_eq_false (by omega)]
theorem octet_eq {a : Int} (h : 0 ≤ a ∧ a < 10) : lapwingref05_octet.f a = some (rd glFirst a) := by
  rcases ten h with rfl | rfl | rfl | rfl | rfl | rfl | rfl | rfl | rfl | rfl <;> rfl
theorem rput_in (k : Nat) (hk : 3 < k) {a : Int} (h : 0 ≤ a ∧ a < 10) (p : Bool) (s r : Int) : lapwingref05_Put.j0 k false a p s r = some (putC a p s r) := by
  obtain ⟨m, hm, rfl⟩ : ∃ m, 0 < m ∧ k = m + 1 + 1 + 1 := ⟨k - 3, by omega, by omega⟩
  have hf := fo_range h
  have hp := b2i_range p
  rw [lapwingref05_Put.j0]
  refine Eq.trans (if_neg (by decide)) ?_
  refine bind_at (octet_eq h) ?_
  refine bind_at (rnum_eq a) ?_
  unfold putC
  rw [if_pos h]
  generalize rd glFirst a = x at *
  by_cases h3 : a ≤ 3
  · rw [if_pos (decide_eq_true ⟨h.1, h3⟩), if_pos h3]
    have hj1 : ∀ b, b = decide (¬ (0 ≤ r ∧ r < 128)) → lapwingref05_Put.j1 (m + 1 + 1) x b a p s r = some (if 0 ≤ r ∧ r < 128 then if a = 0 then (if 0 ≤ s ∧ s < 128 then (strOfNums [2 * s, 2 * r + b2i p], 0) else (⟨#[]⟩, 2)) else (strOfNums [x, 2 * r + b2i p], 0) else (⟨#[]⟩, 2)) := by
      intro b hb
      rw [lapwingref05_Put.j1]
      by_cases hr : 0 ≤ r ∧ r < 128
      · rw [if_neg (by rw [hb, decide_eq_false (by omega)]; decide), if_pos hr]
        have y0 : wrap64 (2 * r) = 2 * r := w64 (by omega) (by omega)
        have y1 : wrap64 (2 * r + 1) = 2 * r + 1 := w64 (by omega) (by omega)
        by_cases h0 : a = 0
        · rw [if_pos h0, if_pos h0]
          have hj2 : ∀ c, c = decide (¬ (0 ≤ s ∧ s < 128)) → lapwingref05_Put.j2 (m + 1) c a p s r = some (if 0 ≤ s ∧ s < 128 then (strOfNums [2 * s, 2 * r + b2i p], 0) else (⟨#[]⟩, 2)) := by
            intro c hc
            rw [lapwingref05_Put.j2]
            by_cases hs : 0 ≤ s ∧ s < 128
            · rw [if_neg (by rw [hc, decide_eq_false (by omega)]; decide), if_pos hs]
              have z0 : wrap64 (2 * s) = 2 * s := w64 (by omega) (by omega)
              rw [y0, y1, z0, show 2 * s % 256 = 2 * s from by omega, show 2 * r % 256 = 2 * r from by omega, show (2 * r + 1) % 256 = 2 * r + 1 from by omega]
              cases p
              · exact (if_neg (by decide)).trans (by rw [show b2i false = 0 from rfl, Int.add_zero])
              · exact if_pos rfl
            · rw [if_pos (by rw [hc, decide_eq_true hs]), if_neg hs]
          by_cases hs : s < 0
          · rw [if_pos hs]; exact hj2 true (decide_eq_true (by omega)).symm
          · rw [if_neg hs]
            refine hj2 _ ?_
            by_cases hs2 : s > 127
            · rw [decide_eq_true hs2, decide_eq_true (by omega)]
            · rw [decide_eq_false hs2, decide_eq_false (by omega)]
        · rw [if_neg h0, if_neg h0]
          rw [y0, y1, show x % 256 = x from by omega, show 2 * r % 256 = 2 * r from by omega, show (2 * r + 1) % 256 = 2 * r + 1 from by omega]
          cases p
          · exact (if_neg (by decide)).trans (by rw [show b2i false = 0 from rfl, Int.add_zero])
          · exact if_pos rfl
      · rw [if_pos (by rw [hb, decide_eq_true hr]), if_neg hr]
    by_cases hr : r < 0
    · rw [if_pos hr]; exact hj1 true (decide_eq_true (by omega)).symm
    · rw [if_neg hr]
      refine hj1 _ ?_
      by_cases hr2 : r > 127
      · rw [decide_eq_true hr2, decide_eq_true (by omega)]
      · rw [decide_eq_false hr2, decide_eq_false (by omega)]
  · rw [if_neg (by rw [decide_eq_false (fun q => h3 q.2)]; decide), if_neg h3]
    have y0 : wrap64 (x + 16) = x + 16 := w64 (by omega) (by omega)
    rw [y0, show x % 256 = x from by omega, show (x + 16) % 256 = x + 16 from by omega]
    cases p
    · exact (if_neg (by decide)).trans (by rw [show b2i false = 0 from rfl, Int.mul_zero, Int.add_zero])
    · exact if_pos rfl
theorem rput_out (k : Nat) (hk : 0 < k) {a : Int} (h : ¬ (0 ≤ a ∧ a < 10)) (p : Bool) (s r : Int) : lapwingref05_Put.j0 k true a p s r = some (putC a p s r) := by
  obtain ⟨m, rfl⟩ : ∃ m, k = m + 1 := ⟨k - 1, by omega⟩
  rw [lapwingref05_Put.j0, putC, if_neg h]
  exact if_pos rfl
theorem rput_eq (k : Nat) (hk : 3 < k) (a : Int) (p : Bool) (s r : Int) : lapwingref05_Put.f k a p s r = some (putC a p s r) := by
  unfold lapwingref05_Put.f
  by_cases h0 : a < 0
  · rw [if_pos h0]; exact rput_out k (by omega) (by omega) p s r
  · rw [if_neg h0]
    by_cases h1 : a ≥ 10
    · rw [decide_eq_true h1]; exact rput_out k (by omega) (by omega) p s r
    · rw [decide_eq_false h1]; exact rput_in k hk (by omega) p s r
end Go.Proofs.YtdpgdnbknmncfaaDoor.Ctl
