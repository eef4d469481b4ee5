/- The plain statement of TeimsgOnly over the printed functions: a message is told of no frame of another link, or kind, or of a response. No condition. -/
import Derived.Test.YtmgiolpooamkkaaDoorTeimsgOnlyO
import Derived.Test.YtmgiolpooamkkaaDoorOnly5
namespace Go.Proofs.YtmgiolpooamkkaaDoor.Pure
open Go.RowKit Go.Proofs.YtmgiolpooamkkaaDoorW.PrintWords Go.Proofs.YtmgiolpooamkkaaDoorW.PrintLast Go.Proofs.YtmgiolpooamkkaaDoorW.PrintMore Go.Proofs.YtmgiolpooamkkaaDoor.Str Go.Proofs.YtmgiolpooamkkaaDoor.Field Go.Proofs.YtmgiolpooamkkaaDoor.TeiO Go.Proofs.YtmgiolpooamkkaaDoor.Only
theorem putT_ok {t r a : Int} (h : (putT t r a).2 = 0) : (1 ≤ t ∧ t ≤ 7) ∧ (0 ≤ r ∧ r < 65536) ∧ (0 ≤ a ∧ a < 128) ∧ (putT t r a).1 = strOfNums [15, r / 256, r % 256, t, 2 * a + 1] := by
  unfold putT at h ⊢
  by_cases h1 : t < 1 ∨ t > 7
  · rw [if_pos h1] at h; exact absurd h (by decide)
  rw [if_neg h1] at h ⊢
  by_cases h2 : r < 0 ∨ r ≥ 65536
  · rw [if_pos h2] at h; exact absurd h (by decide)
  rw [if_neg h2] at h ⊢
  by_cases h3 : 0 ≤ a ∧ a < 128
  · rw [if_pos h3]; exact ⟨by omega, by omega, h3, rfl⟩
  · rw [if_neg h3] at h; exact absurd h (by decide)
theorem of_ok (x y : Int) (c : Bool) (d : Int) (l : List UInt8) (t r a : Int) (h : getT l = (t, r, a, 0)) : (ofT x y c d l (fromT t)).2.2.2 = decide (x = 63 ∧ y = 127 ∧ c = true ∧ d = 6) := by
  unfold ofT
  rw [h]
  by_cases hq : x = 63 ∧ y = 127 ∧ c = true ∧ d = 6
  · rw [if_pos ⟨hq.1, hq.2.1, hq.2.2.1, hq.2.2.2, rfl, rfl⟩, decide_eq_true hq]
  · rw [if_neg (fun z => hq ⟨z.1, z.2.1, z.2.2.1, z.2.2.2.1⟩), decide_eq_false hq]
theorem TeimsgOnly : lapwinglaw07_TeimsgOnly.Pure := by
  intro t r a y z _ _ _ _ _
  obtain ⟨k, hk⟩ : ∃ k : Nat, 5 < k := ⟨6, by omega⟩
  refine ⟨k + 1, ?_⟩
  unfold lapwinglaw07_TeimsgOnly.f
  have h0 : ∀ u v w : Int, lapwinglaw07_made.f u v w = some (u, v, w) := fun _ _ _ => rfl
  refine bind_at (h0 t r a) (bind_at (frame_eq (k + 1) (by omega) t r a) (bind_at (wakes_eq (k + 1) (by omega)) (Eq.trans (if_pos rfl) ?_)))
  rw [lapwinglaw07_TeimsgOnly.j0]
  unfold frameT
  by_cases h : (putT t r a).2 = 0
  · rw [if_pos h]
    obtain ⟨p1, p2, p3, p4⟩ := putT_ok h
    have hg : getT (L (putT t r a).1) = (t, r, a, 0) := by rw [p4]; exact get_put t r a p1.1 p1.2 p2.1 p2.2 p3.1 p3.2
    refine Eq.trans (if_neg (show ¬ ((0 : Int) != 0) = true by decide)) ?_
    refine bind_at (h0 t r a) (bind_at (from_eq t) ?_)
    refine bind_at (of_eq y z true 6 false 0 0 (putT t r a).1 (fromT t)) (bind_at (of_eq 63 127 true y false 0 0 (putT t r a).1 (fromT t)) (bind_at (of_eq 63 127 false 6 false 0 0 (putT t r a).1 (fromT t)) ?_))
    rw [of_ok y z true 6 _ t r a hg, of_ok 63 127 true y _ t r a hg, of_ok 63 127 false 6 _ t r a hg]
    have e1 : (decide (y = 63 ∧ z = 127 ∧ true = true ∧ (6 : Int) = 6) == (y == 63 && (z == 127))) = true := by
      by_cases hy : y = 63
      · by_cases hz : z = 127
        · rw [hy, hz]; decide
        · rw [beq_false_of_ne hz, Bool.and_false, decide_eq_false (fun q => hz q.2.1)]; rfl
      · rw [beq_false_of_ne hy, Bool.false_and, decide_eq_false (fun q => hy q.1)]; rfl
    have e2 : (decide ((63 : Int) = 63 ∧ (127 : Int) = 127 ∧ true = true ∧ y = 6) == (y == 6)) = true := by
      by_cases hy : y = 6
      · rw [hy]; decide
      · rw [beq_false_of_ne hy, decide_eq_false (fun q => hy q.2.2.2)]; rfl
    rw [if_pos e1, if_pos e2]
    rfl
  · rw [if_neg h]
    refine Eq.trans (if_pos (by simpa using h)) ?_
    exact bind_at (wakes_eq k hk) rfl
end Go.Proofs.YtmgiolpooamkkaaDoor.Pure
