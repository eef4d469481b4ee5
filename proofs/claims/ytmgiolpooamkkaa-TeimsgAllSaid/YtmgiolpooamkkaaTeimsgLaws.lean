/- The plain statements of TeimsgGets and TeimsgAll over the printed functions: both hold. No condition. -/
import Derived.Test.YtmgiolpooamkkaaTeimsg
import Derived.OpenShut
namespace Go.Proofs.Ytmgiolpooamkkaa.Pure
open Go.RowKit Go.Proofs.YtmgiolpooamkkaaW.PrintWords Go.Proofs.YtmgiolpooamkkaaW.PrintLast Go.Proofs.YtmgiolpooamkkaaW.PrintMore Go.Proofs.Ytmgiolpooamkkaa.Str Go.Proofs.Ytmgiolpooamkkaa.Field Go.Proofs.Ytmgiolpooamkkaa.Tei Go.Proofs.Ytmgiolpooamkkaa.Print
theorem same_eq (a b : Int × Int × Int × Int) (h : a = b) : lapwinglaw07_same.f a.1 a.2.1 a.2.2.1 b.1 b.2.1 b.2.2.1 = some true := by
  subst h
  unfold lapwinglaw07_same.f
  rw [if_pos rfl, if_pos rfl, beq_self_eq_true]
theorem first_get : getT [15, 1, 2, 1, 255] = (1, 258, 127, 0) := by decide +kernel
theorem TeimsgGets : lapwinglaw07_TeimsgGets.Pure := by
  intro s _
  unfold lapwinglaw07_TeimsgGets.f
  have h0 : teimsg_Get.f (⟨#[15, 1, 2, 1, 255]⟩ : ByteArray) = some (getT [15, 1, 2, 1, 255]) := get_eq _
  rw [first_get] at h0
  refine bind_at (get_eq s) (bind_at (ref_get_eq s) (bind_at h0 ?_))
  refine Eq.trans (if_pos rfl) (Eq.trans (if_pos rfl) ?_)
  exact bind_at (same_eq _ _ rfl) rfl
theorem all_step (k : Nat) (hk : 6 < k) (r a : Int) (hr : 0 ≤ r) (hr2 : r < 65536) (ha : 0 ≤ a) (ha2 : a ≤ 255) (n t : Int) (h1 : 1 ≤ t) (h7 : t ≤ 7) (hn : 0 ≤ n) (hn2 : n ≤ 100) :
    lapwinglaw07_TeimsgAll.l0 (k + 2) r a n t = lapwinglaw07_TeimsgAll.l0 k r a (if t = 2 ∨ t = 3 ∨ t = 4 ∨ t = 6 then n + 1 else n) (t + 1) := by
  have e2 : Go.bits .and .u8 a 127 = a % 128 := mask_u8 7 (by decide) a ha (by omega)
  rw [lapwinglaw07_TeimsgAll.l0, if_pos h7, e2, w64 (n := r) (by omega) (by omega), w64 (n := a % 128) (by omega) (by omega)]
  have hp : teimsg_Put.f (k + 1) t r (a % 128) = some (strOfNums [15, r / 256, r % 256, t, 2 * (a % 128) + 1], 0) := by
    rw [put_eq (k + 1) (by omega)]; unfold putT; rw [if_neg (by omega), if_neg (by omega), if_pos (by omega)]
  have hz : (strOfNums [15, r / 256, r % 256, t, 2 * (a % 128) + 1]).size = 5 := by rw [nums_size]; rfl
  have hg : teimsg_Get.f (strOfNums [15, r / 256, r % 256, t, 2 * (a % 128) + 1]) = some (t, r, a % 128, 0) := by
    rw [get_eq, get_put t r (a % 128) h1 h7 hr hr2 (by omega) (by omega)]
  refine bind_at hp (bind_at hg ?_)
  refine Eq.trans (if_pos rfl) (Eq.trans (if_pos rfl) (Eq.trans (if_neg (by simp)) ?_))
  have e5 : ((((strOfNums [15, r / 256, r % 256, t, 2 * (a % 128) + 1]).size : Nat) : Int) != 5) = false := by rw [hz]; rfl
  show lapwinglaw07_TeimsgAll.j1 (k + 1) r a n t ((((strOfNums [15, r / 256, r % 256, t, 2 * (a % 128) + 1]).size : Nat) : Int) != 5) = _
  rw [e5, lapwinglaw07_TeimsgAll.j1, if_neg (by decide)]
  refine bind_at (from_eq t) ?_
  rw [w64 (n := n + 1) (by omega) (by omega), w64 (n := t + 1) (by omega) (by omega)]
  by_cases h : t = 2 ∨ t = 3 ∨ t = 4 ∨ t = 6
  · rw [if_pos (by simpa using h), if_pos h]
  · rw [if_neg (by simpa using h), if_neg h]
theorem all_end (k : Nat) (hk : 6 < k) (r a : Int) : lapwinglaw07_TeimsgAll.l0 (k + 1) r a 4 8 = some true := by
  rw [lapwinglaw07_TeimsgAll.l0, if_neg (by decide)]
  exact bind_at (wakes_eq k (by omega)) rfl
theorem TeimsgAll : lapwinglaw07_TeimsgAll.Pure := by
  intro r a w0 w1
  obtain ⟨h0, h1⟩ := bounds_u16 w0
  obtain ⟨h2, h3⟩ := bounds_u8 w1
  obtain ⟨k, hk⟩ : ∃ k : Nat, 10 ≤ k := ⟨10, Nat.le_refl _⟩
  refine ⟨k + 1 + 2 + 2 + 2 + 2 + 2 + 2 + 2, ?_⟩
  unfold lapwinglaw07_TeimsgAll.f
  refine Eq.trans (all_step (k + 1 + 2 + 2 + 2 + 2 + 2 + 2) (by omega) r a h0 (by omega) h2 h3 0 1 (by decide) (by decide) (by decide) (by decide)) ?_
  refine Eq.trans (all_step (k + 1 + 2 + 2 + 2 + 2 + 2) (by omega) r a h0 (by omega) h2 h3 0 2 (by decide) (by decide) (by decide) (by decide)) ?_
  refine Eq.trans (all_step (k + 1 + 2 + 2 + 2 + 2) (by omega) r a h0 (by omega) h2 h3 1 3 (by decide) (by decide) (by decide) (by decide)) ?_
  refine Eq.trans (all_step (k + 1 + 2 + 2 + 2) (by omega) r a h0 (by omega) h2 h3 2 4 (by decide) (by decide) (by decide) (by decide)) ?_
  refine Eq.trans (all_step (k + 1 + 2 + 2) (by omega) r a h0 (by omega) h2 h3 3 5 (by decide) (by decide) (by decide) (by decide)) ?_
  refine Eq.trans (all_step (k + 1 + 2) (by omega) r a h0 (by omega) h2 h3 3 6 (by decide) (by decide) (by decide) (by decide)) ?_
  refine Eq.trans (all_step (k + 1) (by omega) r a h0 (by omega) h2 h3 4 7 (by decide) (by decide) (by decide) (by decide)) ?_
  exact all_end k (by omega) r a
end Go.Proofs.Ytmgiolpooamkkaa.Pure
