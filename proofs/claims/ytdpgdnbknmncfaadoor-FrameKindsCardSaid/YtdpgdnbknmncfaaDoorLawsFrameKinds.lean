/- The plain statement of FrameKinds over the printed functions: a frame of each kind, as a command and a response, with so much information, has octets just if it may be so. No condition. -/
import Derived.Test.YtdpgdnbknmncfaaDoorFrameGetP
import Derived.Test.YtdpgdnbknmncfaaDoorPrint23
namespace Go.Proofs.YtdpgdnbknmncfaaDoor.Pure
open Go.RowKit Go.Proofs.YtdpgdnbknmncfaaDoorW.PrintWords Go.Proofs.YtdpgdnbknmncfaaDoorW.PrintLast Go.Proofs.YtdpgdnbknmncfaaDoorW.PrintMore Go.Proofs.YtdpgdnbknmncfaaDoor.Str Go.Proofs.YtdpgdnbknmncfaaDoor.Field Go.Proofs.YtdpgdnbknmncfaaDoor.Frm Go.Proofs.YtdpgdnbknmncfaaDoor.Print
theorem zeros_size (n : Nat) : (strOfNums (List.replicate n 0)).size = n := by rw [nums_size, List.length_replicate]
theorem ok_iff (c : Bool) (a : Int) (ha : 0 ≤ a ∧ a < 10) (I : ByteArray) (w : Bool) : ((putF 0 64 c a false 0 0 I w).2 == 0) = (mayF a c && carF a (I.size : Int)) := by
  have hC : (Ctl.putC a false 0 0).2 = 0 := by
    unfold Ctl.putC
    rw [if_pos ha]
    by_cases h3 : a ≤ 3
    · rw [if_pos h3, if_pos (by decide)]
      by_cases h0 : a = 0
      · rw [if_pos h0, if_pos (by decide)]
      · rw [if_neg h0]
    · rw [if_neg h3]
  have hA : (Addr.putA 0 64 (c == w)).2 = 0 := by cases c <;> cases w <;> rfl
  unfold putF
  by_cases hm : mayF a c = true
  · rw [if_neg (show ¬ ((Ctl.putC a false 0 0).2 = 4 ∨ mayF a c = false) by rw [hC, hm]; decide), if_pos hC, if_pos hA, hm, Bool.true_and]
    by_cases hc : carF a (I.size : Int) = true
    · rw [if_pos hc, hc]; rfl
    · rw [if_neg hc]
      have : carF a (I.size : Int) = false := by simpa using hc
      rw [this]; rfl
  · have hm' : mayF a c = false := by simpa using hm
    rw [if_pos (Or.inr hm'), hm']; rfl
theorem inner_step (k : Nat) (hk : 500 < k) (n : Int) (hn : 0 ≤ n ∧ n < 300) (w : Bool) (a : Int) (ha : 0 ≤ a ∧ a < 10) (i : Int) (hi : i = 0 ∨ i = 1) :
    lapwinglaw06_FrameKinds.l1 (k + 1 + 1 + 1) n w a [false, true] 2 i = lapwinglaw06_FrameKinds.l1 k n w a [false, true] 2 (i + 1) := by
  have hw : wrap64 (i + 1) = i + 1 := w64 (by omega) (by omega)
  have hz := zeros_size n.toNat
  rw [lapwinglaw06_FrameKinds.l1, if_pos (by omega), if_pos (by omega), if_pos (show i < ((([false, true] : List Bool).length : Nat) : Int) by show i < 2; omega), if_pos hn.1, if_pos (by omega)]
  generalize rdOf false [false, true] i = c
  have hs : ((some (List.replicate n.toNat 0 : List Int)) : Option (List Int)) = some (List.replicate n.toNat 0) := rfl
  refine bind_at hs ?_
  generalize strOfNums (List.replicate n.toNat 0) = I at *
  have hI : (I.size : Int) = n := by omega
  refine bind_at (put_eq (k + 1 + 1) 0 64 c a false 0 0 I w (by omega) (by omega)) (bind_at (may_eq a c) ?_)
  have hok := ok_iff c a ha I w
  rw [hI] at hok
  have tail : ∀ b : Bool, b = ((putF 0 64 c a false 0 0 I w).2 == 0) → lapwinglaw06_FrameKinds.j2 (k + 1 + 1) n w a (putF 0 64 c a false 0 0 I w).1 (putF 0 64 c a false 0 0 I w).2 b [false, true] 2 i 0 64 c a false 0 0 I = lapwinglaw06_FrameKinds.l1 k n w a [false, true] 2 (i + 1) := by
    intro b hb
    rw [lapwinglaw06_FrameKinds.j2]
    refine Eq.trans (if_neg (by rw [hb]; simp)) ?_
    cases hbv : b
    · refine Eq.trans (if_neg (by decide)) ?_
      rw [lapwinglaw06_FrameKinds.j3]
      refine Eq.trans (if_neg (by decide)) ?_
      have hsz : (putF 0 64 c a false 0 0 I w).1.size ≤ 400 := by
        have : ¬ (putF 0 64 c a false 0 0 I w).2 = 0 := by
          intro h; rw [hbv, h] at hb; exact absurd hb (by decide)
        unfold putF at this ⊢
        (repeat' split) <;> first | exact Nat.zero_le _ | (exfalso; simp_all)
      obtain ⟨r, hr⟩ := get_some k (putF 0 64 c a false 0 0 I w).1 w (by omega) (by omega)
      refine bind_at hr (Eq.trans (if_neg (by decide)) ?_)
      rw [hw]
    · have h0 : (putF 0 64 c a false 0 0 I w).2 = 0 := by rw [hbv] at hb; exact beq_iff_eq.1 hb.symm
      obtain ⟨h1, h2, h3, h4, h5, h6⟩ := read_back 0 64 c a false 0 0 I w w h0
      rw [eqw, if_pos h2] at h1
      refine Eq.trans (if_pos rfl) ?_
      have hd : decide (((putF 0 64 c a false 0 0 I w).1.size : Int) < wrap64 (n + 5)) = false := decide_eq_false (by rw [w64 (n := n + 5) (by omega) (by omega)]; omega)
      rw [hd, lapwinglaw06_FrameKinds.j3]
      refine Eq.trans (if_neg (by decide)) ?_
      refine bind_at (get_F k _ w (by omega) (by omega)) ?_
      rw [h1]
      refine Eq.trans (if_pos rfl) (Eq.trans (if_pos rfl) ?_)
      refine Eq.trans (if_neg (by simp)) ?_
      rw [hw]
  by_cases hm : mayF a c = true
  · rw [if_pos hm]
    refine bind_at (car_eq (k + 1 + 1) (by omega) a n) (tail _ ?_)
    rw [hok, hm, Bool.true_and]
  · rw [if_neg hm]
    refine tail _ ?_
    have hm' : mayF a c = false := by simpa using hm
    rw [hok, hm']; rfl
theorem outer_step (k : Nat) (hk : 500 < k) (n : Int) (hn : 0 ≤ n ∧ n < 300) (w : Bool) (a : Int) (ha : 0 ≤ a ∧ a < 10) :
    lapwinglaw06_FrameKinds.l0 (k + 8) n w a = lapwinglaw06_FrameKinds.l0 k n w (a + 1) := by
  show lapwinglaw06_FrameKinds.l0 ((k + 1 + 1 + 1 + 1 + 1 + 1 + 1) + 1) n w a = _
  rw [lapwinglaw06_FrameKinds.l0, if_pos (by omega)]
  have hs : ((some (([false, true] : List Bool) : List Bool)) : Option (List Bool)) = some [false, true] := rfl
  refine bind_at hs ?_
  refine (inner_step (k + 1 + 1 + 1 + 1) (by omega) n hn w a ha 0 (Or.inl rfl)).trans ?_
  refine (inner_step (k + 1) (by omega) n hn w a ha 1 (Or.inr rfl)).trans ?_
  rw [lapwinglaw06_FrameKinds.l1, if_neg (by decide), w64 (n := a + 1) (by omega) (by omega)]
theorem kinds_loop (k : Nat) (hk : 500 < k) (n : Int) (hn : 0 ≤ n ∧ n < 300) (w : Bool) : ∀ (d : Nat) (a : Int), 0 ≤ a → a + d = 10 → lapwinglaw06_FrameKinds.l0 (k + 8 * d) n w a = lapwinglaw06_FrameKinds.l0 k n w 10
  | 0, a, _, h => by rw [show a = 10 from by omega]; rfl
  | d + 1, a, h0, h => by
    rw [show k + 8 * (d + 1) = (k + 8 * d) + 8 from by omega, outer_step (k + 8 * d) (by omega) n hn w a ⟨h0, by omega⟩]
    exact kinds_loop k hk n hn w d (a + 1) (by omega) (by omega)
theorem FrameKinds : lapwinglaw06_FrameKinds.Pure := by
  intro n w _
  obtain ⟨k, hk⟩ : ∃ k : Nat, 500 < k := ⟨501, by omega⟩
  refine ⟨(k + 1) + 8 * 10, ?_⟩
  unfold lapwinglaw06_FrameKinds.f
  have hr : 0 ≤ (mx 0 n) % 300 ∧ (mx 0 n) % 300 < 300 := ⟨Int.emod_nonneg _ (by decide), Int.emod_lt_of_pos _ (by decide)⟩
  refine (kinds_loop (k + 1) (by omega) _ hr w 10 0 (by decide) (by decide)).trans ?_
  rw [lapwinglaw06_FrameKinds.l0, if_neg (by decide)]
  exact bind_at (wakes_eq k (by omega)) rfl
end Go.Proofs.YtdpgdnbknmncfaaDoor.Pure
