/- What the printed functions teimsg.Of and the document's Of come to: the message of a frame, or none; the plain statement of TeimsgOf. No condition. -/
import Derived.Test.YtmgiolpooamkkaaDoorTeimsg
import Derived.Test.YtmgiolpooamkkaaDoorLaidLink
import Derived.Test.YtmgiolpooamkkaaDoorPrint5
namespace Go.Proofs.YtmgiolpooamkkaaDoor.Tei
open Go.RowKit Go.Proofs.YtmgiolpooamkkaaDoorW.PrintWords Go.Proofs.YtmgiolpooamkkaaDoorW.PrintLast Go.Proofs.YtmgiolpooamkkaaDoorW.PrintMore Go.Proofs.YtmgiolpooamkkaaDoor.Str Go.Proofs.YtmgiolpooamkkaaDoor.Field Go.Proofs.YtmgiolpooamkkaaDoor.Pack Go.Proofs.YtmgiolpooamkkaaDoor.Print Go.Proofs.YtmgiolpooamkkaaDoorX
theorem link0 : rd glLink 0 = 63 := rfl
theorem link1 : rd glLink 1 = 127 := rfl
def fromT (t : Int) : Bool := decide (t = 2 ∨ t = 3 ∨ t = 4 ∨ t = 6)
theorem rfrom_eq (t : Int) : lapwingref07_FromNetwork.f t = some (fromT t) := by
  unfold lapwingref07_FromNetwork.f fromT
  by_cases h2 : t = 2
  · rw [if_pos h2]; simp [h2]
  · rw [if_neg h2]
    by_cases h3 : t = 3
    · rw [if_pos h3]; simp [h3]
    · rw [if_neg h3]
      by_cases h4 : t = 4
      · rw [if_pos h4]; simp [h4]
      · rw [if_neg h4]
        by_cases h6 : t = 6
        · subst h6; rfl
        · rw [beq_false_of_ne h6]; simp [h2, h3, h4, h6]
/-- The message of a frame, or none. -/
def ofT (a b : Int) (c : Bool) (d : Int) (l : List UInt8) (n : Bool) : Int × Int × Int × Bool :=
  if a = 63 ∧ b = 127 ∧ c = true ∧ d = 6 ∧ (getT l).2.2.2 = 0 ∧ fromT (getT l).1 = n then ((getT l).1, (getT l).2.1, (getT l).2.2.1, true) else (0, 0, 0, false)
theorem of_eq (a b : Int) (c : Bool) (d : Int) (p : Bool) (x y : Int) (s : ByteArray) (n : Bool) : teimsg_Of.f a b c d p x y s n = some (ofT a b c d (L s) n) := by
  unfold teimsg_Of.f
  refine bind_at (get_eq s) ?_
  rw [link0, link1]
  unfold ofT
  generalize getT (L s) = g
  by_cases ha : a = 63
  · by_cases hb : b = 127
    · refine Eq.trans (if_neg (by rw [ha, hb]; decide)) ?_
      by_cases hd : d = 6
      · rw [if_pos hd]
        by_cases hc : c = true
        · rw [if_pos hc]
          by_cases he : g.2.2.2 = 0
          · rw [if_pos he]
            refine bind_at (from_eq g.1) ?_
            show (if (fromT g.1 != n) = true then _ else _) = _
            by_cases hn : fromT g.1 = n
            · rw [if_neg (by simp [hn]), if_pos ⟨ha, hb, hc, hd, he, hn⟩]
            · rw [if_pos (by simpa using hn), if_neg (fun h => hn h.2.2.2.2.2)]
          · rw [if_neg he, if_neg (fun h => he h.2.2.2.2.1)]
        · rw [if_neg hc, if_neg (fun h => hc h.2.2.1)]
      · rw [if_neg hd, if_neg (fun h => hd h.2.2.2.1)]
    · refine Eq.trans (if_pos (by simp [hb])) ?_
      rw [if_neg (fun h => hb h.2.1)]
  · refine Eq.trans (if_pos (by simp [ha])) ?_
    rw [if_neg (fun h => ha h.1)]
theorem rof_eq (a b : Int) (c : Bool) (d : Int) (p : Bool) (x y : Int) (s : ByteArray) (n : Bool) : lapwingref07_Of.f a b c d p x y s n = some (ofT a b c d (L s) n) := by
  unfold lapwingref07_Of.f
  refine bind_at (ref_get_eq s) ?_
  unfold ofT
  generalize getT (L s) = g
  refine bind_at (rfrom_eq g.1) ?_
  by_cases ha : a = 63
  · rw [if_pos ha]
    by_cases hb : b = 127
    · rw [if_pos hb]
      by_cases hc : c = true
      · rw [if_pos hc]
        by_cases hd : d = 6
        · rw [if_pos hd]
          by_cases he : g.2.2.2 = 0
          · rw [if_pos he]
            by_cases hn : fromT g.1 = n
            · rw [if_neg (by simp [hn]), if_pos ⟨ha, hb, hc, hd, he, hn⟩]
            · rw [if_pos (by simpa using hn), if_neg (fun h => hn h.2.2.2.2.2)]
          · rw [if_neg he, if_neg (fun h => he h.2.2.2.2.1)]
        · rw [if_neg hd, if_neg (fun h => hd h.2.2.2.1)]
      · rw [if_neg hc, if_neg (fun h => hc h.2.2.1)]
    · rw [if_neg hb, if_neg (fun h => hb h.2.1)]
  · rw [if_neg ha, if_neg (fun h => ha h.1)]
end Go.Proofs.YtmgiolpooamkkaaDoor.Tei
