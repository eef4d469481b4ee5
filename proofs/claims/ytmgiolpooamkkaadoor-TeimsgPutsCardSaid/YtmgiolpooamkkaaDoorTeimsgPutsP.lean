/- What the printed functions of package teimsg come to, sending: a message's octets, its frame, or the error; the document's the same; the plain statement of TeimsgPuts. No condition. -/
import Derived.Test.YtmgiolpooamkkaaDoorPackTwoP
import Derived.Test.YtmgiolpooamkkaaDoorLaidLink
import Derived.Test.YtmgiolpooamkkaaDoorPuts2
namespace Go.Proofs.YtmgiolpooamkkaaDoor.TeiP
open Go.RowKit Go.Proofs.YtmgiolpooamkkaaDoorW.PrintWords Go.Proofs.YtmgiolpooamkkaaDoorW.PrintLast Go.Proofs.YtmgiolpooamkkaaDoorW.PrintMore Go.Proofs.YtmgiolpooamkkaaDoor.Str Go.Proofs.YtmgiolpooamkkaaDoor.Field Go.Proofs.YtmgiolpooamkkaaDoor.PackP Go.Proofs.YtmgiolpooamkkaaDoor.Puts Go.Proofs.YtmgiolpooamkkaaDoorX
/-- A message's octets, or the error. -/
def putT (t r a : Int) : ByteArray × Int :=
  if t < 1 ∨ t > 7 then (⟨#[]⟩, 4) else if r < 0 ∨ r ≥ 65536 then (⟨#[]⟩, 2)
  else if 0 ≤ a ∧ a < 128 then (strOfNums [15, r / 256, r % 256, t, 2 * a + 1], 0) else (⟨#[]⟩, 2)
theorem put_eq (k : Nat) (hk : 5 < k) (t r a : Int) : teimsg_Put.f k t r a = some (putT t r a) := by
  obtain ⟨k, rfl⟩ : ∃ m, k = m + 1 + 1 := ⟨k - 2, by omega⟩
  unfold teimsg_Put.f putT
  by_cases h1 : t < 1
  · rw [if_pos h1, teimsg_Put.j0, if_pos rfl, if_pos (Or.inl h1)]
  · rw [if_neg h1, teimsg_Put.j0]
    by_cases h2 : t > 7
    · rw [if_pos (by simpa using h2), if_pos (Or.inr h2)]
    · have h3 : ¬ (t < 1 ∨ t > 7) := by omega
      rw [if_neg (by simpa using h2)]
      by_cases h4 : r < 0
      · rw [if_pos h4, teimsg_Put.j1, if_pos rfl, if_neg h3, if_pos (Or.inl h4)]
      · rw [if_neg h4, teimsg_Put.j1]
        by_cases h5 : r ≥ 65536
        · rw [if_pos (by simpa using h5), if_neg h3, if_pos (Or.inr h5)]
        · have h6 : ¬ (r < 0 ∨ r ≥ 65536) := by omega
          refine Eq.trans (if_neg (by simpa using h5)) ?_
          refine bind_at (pack_two k (by omega) 1 a (by decide)) ?_
          rw [if_neg h3, if_neg h6]
          by_cases h7 : 0 ≤ a ∧ a < 128
          · rw [if_pos h7, if_pos rfl, if_pos h7]
            rw [show r / 256 % 256 = r / 256 from by omega, show t % 256 = t from by omega]
          · rw [if_neg h7, if_neg (by decide), if_neg h7]
theorem from_eq (t : Int) : teimsg_Type_FromNetwork.f t = some (decide (t = 2 ∨ t = 3 ∨ t = 4 ∨ t = 6)) := by
  unfold teimsg_Type_FromNetwork.f
  by_cases h2 : t = 2
  · rw [if_pos h2]; simp [h2]
  · rw [if_neg h2]
    by_cases h3 : t = 3
    · rw [if_pos h3]; simp [h3]
    · rw [if_neg h3]
      by_cases h4 : t = 4
      · rw [if_pos h4]; simp [h4]
      · rw [if_neg h4]
        by_cases h6 : t = 6
        · rw [if_pos h6]; simp [h6]
        · rw [if_neg h6]; simp [h2, h3, h4, h6]
theorem first_put : putT 1 258 127 = (strOfNums [15, 1, 2, 1, 255], 0) := rfl
theorem first_list : (strOfNums [15, 1, 2, 1, 255]).toList = [15, 1, 2, 1, 255] := by decide +kernel
theorem wakes_eq (k : Nat) (hk : 5 < k) : lapwinglaw07_wakes.f k = some true := by
  unfold lapwinglaw07_wakes.f
  have h : teimsg_Put.f k 1 258 127 = some (strOfNums [15, 1, 2, 1, 255], 0) := put_eq k hk 1 258 127
  refine bind_at h (Eq.trans (if_pos rfl) (Eq.trans (if_pos first_list) ?_))
  exact bind_at (from_eq 6) rfl
theorem link0 : rd glLink 0 = 63 := rfl
theorem link1 : rd glLink 1 = 127 := rfl
def fromT (t : Int) : Bool := decide (t = 2 ∨ t = 3 ∨ t = 4 ∨ t = 6)
theorem rfrom_eq (t : Int) : lapwingref07_FromNetwork.f t = some (fromT t) := by
  unfold lapwingref07_FromNetwork.f fromT
  by_cases h2 : t = 2
  · rw [if_pos h2]; simp [h2]
  · rw [if_neg h2]
    by_cases h3 : t = 3
    · rw [if_pos h3]; simp [h3]
    · rw [if_neg h3]
      by_cases h4 : t = 4
      · rw [if_pos h4]; simp [h4]
      · rw [if_neg h4]
        by_cases h6 : t = 6
        · subst h6; rfl
        · rw [beq_false_of_ne h6]; simp [h2, h3, h4, h6]
theorem rput_eq (k : Nat) (hk : 5 < k) (t r a : Int) : lapwingref07_Put.f k t r a = some (putT t r a) := by
  obtain ⟨k, rfl⟩ : ∃ m, k = m + 1 + 1 := ⟨k - 2, by omega⟩
  unfold lapwingref07_Put.f putT
  by_cases h1 : t < 1
  · rw [if_pos h1, lapwingref07_Put.j0, if_pos rfl, if_pos (Or.inl h1)]
  · rw [if_neg h1, lapwingref07_Put.j0]
    by_cases h2 : t > 7
    · rw [if_pos (by simpa using h2), if_pos (Or.inr h2)]
    · have h3 : ¬ (t < 1 ∨ t > 7) := by omega
      refine Eq.trans (if_neg (by simpa using h2)) ?_
      rw [if_neg h3]
      by_cases h4 : r < 0
      · rw [if_pos h4, if_pos (Or.inl h4)]
      · rw [if_neg h4]
        by_cases h5 : r > 65535
        · rw [if_pos h5, if_pos (Or.inr (by omega))]
        · rw [if_neg h5, if_neg (show ¬ (r < 0 ∨ r ≥ 65536) by omega)]
          by_cases h6 : a < 0
          · rw [if_pos h6, if_neg (by omega)]
          · rw [if_neg h6]
            by_cases h7 : a > 127
            · rw [if_pos h7, if_neg (by omega)]
            · rw [if_neg h7, if_pos (by omega), Int.tdiv_eq_ediv_of_nonneg (by omega), Int.tmod_eq_emod_of_nonneg (by omega), w64 (n := r / 256) (by omega) (by omega), w64 (n := 2 * a) (by omega) (by omega), w64 (n := 2 * a + 1) (by omega) (by omega), show r / 256 % 256 = r / 256 from by omega, show r % 256 % 256 = r % 256 from by omega, show t % 256 = t from by omega, show (2 * a + 1) % 256 = 2 * a + 1 from by omega]
/-- A message's frame, or the error. -/
def frameT (t r a : Int) : Int × Int × Bool × Int × Bool × Int × Int × ByteArray × Int :=
  if (putT t r a).2 = 0 then (63, 127, true, 6, false, 0, 0, (putT t r a).1, 0) else (0, 0, false, 0, false, 0, 0, ⟨#[]⟩, (putT t r a).2)
theorem frame_eq (k : Nat) (hk : 5 < k) (t r a : Int) : teimsg_Frame.f k t r a = some (frameT t r a) := by
  unfold teimsg_Frame.f frameT
  refine bind_at (put_eq k hk t r a) ?_
  rw [link0, link1]
  generalize putT t r a = p
  by_cases h : p.2 = 0
  · rw [if_pos h, if_pos h]
  · rw [if_neg h, if_neg h]
theorem rframe_eq (k : Nat) (hk : 5 < k) (t r a : Int) : lapwingref07_Frame.f k t r a = some (frameT t r a) := by
  unfold lapwingref07_Frame.f frameT
  refine bind_at (rput_eq k hk t r a) ?_
  generalize putT t r a = p
  by_cases h : p.2 = 0
  · rw [if_pos h, if_pos h]
  · rw [if_neg h, if_neg h]
theorem same_frame (a b : Int) (c : Bool) (d : Int) (p : Bool) (x y : Int) (s : ByteArray) : lapwinglaw07_sameFrame.f a b c d p x y s a b c d p x y s = some true := by
  unfold lapwinglaw07_sameFrame.f
  rw [if_pos rfl, if_pos rfl, if_pos (beq_self_eq_true _), if_pos rfl, if_pos (beq_self_eq_true _), if_pos rfl, if_pos rfl, beq_self_eq_true]
end Go.Proofs.YtmgiolpooamkkaaDoor.TeiP
