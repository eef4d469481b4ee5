import Derived.Test.YtdpgdnbknmncfaaDoorPlainA
import Derived.Test.YtdpgdnbknmncfaaDoorLaidCtrl
import Derived.Test.YtdpgdnbknmncfaaDoorPrint3
import Derived.Test.YtdpgdnbknmncfaaDoorPlainB
import Derived.Test.YtdpgdnbknmncfaaDoorPrint5
/- What the printed functions of package ctrl come to (in the seat of the frames): a control field's octets or the error. Plain Lean over the printed functions. -/
namespace Go.Proofs.YtdpgdnbknmncfaaDoor.Ctl
open Go.RowKit Go.Proofs.YtdpgdnbknmncfaaDoorW.PrintWords Go.Proofs.YtdpgdnbknmncfaaDoorW.PrintLast Go.Proofs.YtdpgdnbknmncfaaDoorW.PrintMore Go.Proofs.YtdpgdnbknmncfaaDoor.Str Go.Proofs.YtdpgdnbknmncfaaDoor.Field Go.Proofs.YtdpgdnbknmncfaaDoor.Pack Go.Proofs.YtdpgdnbknmncfaaDoor.Print Go.Proofs.YtdpgdnbknmncfaaDoorX
theorem ten {a : Int} (h : 0 ≤ a ∧ a < 10) : a = 0 ∨ a = 1 ∨ a = 2 ∨ a = 3 ∨ a = 4 ∨ a = 5 ∨ a = 6 ∨ a = 7 ∨ a = 8 ∨ a = 9 := by omega
theorem good_eq (a : Int) : ctrl_Kind_good.f a = some (decide (0 ≤ a ∧ a < 10)) := by
  unfold ctrl_Kind_good.f
  by_cases h : a ≥ 0
  · rw [if_pos h]; simp [h]
  · rw [if_neg h]; simp [h]
theorem num_eq (a : Int) : ctrl_Kind_Numbered.f a = some (decide (0 ≤ a ∧ a ≤ 3)) := by
  unfold ctrl_Kind_Numbered.f
  by_cases h : a ≥ 0
  · rw [if_pos h]; simp [h]
  · rw [if_neg h]; simp [h]
/-- A bit as a number. -/
def b2i (b : Bool) : Int := if b = true then 1 else 0
theorem b2i_range (b : Bool) : 0 ≤ b2i b ∧ b2i b ≤ 1 := by cases b <;> decide
theorem one_eq (b : Bool) : ctrl_one.f b = some (b2i b) := by cases b <;> rfl
theorem fo_range {a : Int} (h : 0 ≤ a ∧ a < 10) : 0 ≤ rd glFirst a ∧ rd glFirst a ≤ 135 := by
  rcases ten h with rfl | rfl | rfl | rfl | rfl | rfl | rfl | rfl | rfl | rfl <;> decide
/-- A control field's octets, or the error. -/
def putC (a : Int) (p : Bool) (s r : Int) : ByteArray × Int :=
  if 0 ≤ a ∧ a < 10 then
    if a ≤ 3 then
      if 0 ≤ r ∧ r < 128 then
        if a = 0 then (if 0 ≤ s ∧ s < 128 then (strOfNums [2 * s, 2 * r + b2i p], 0) else (⟨#[]⟩, 2))
        else (strOfNums [rd glFirst a, 2 * r + b2i p], 0)
      else (⟨#[]⟩, 2)
    else (strOfNums [rd glFirst a + 16 * b2i p], 0)
  else (⟨#[]⟩, 4)
theorem with_bit {a : Int} (h : 0 ≤ a ∧ a < 10) (h3 : ¬ a ≤ 3) (p : Bool) : Go.bits .or .u8 (rd glFirst a) ((wrap64 (b2i p * 16)) % 256) = rd glFirst a + 16 * b2i p := by
  have : a = 4 ∨ a = 5 ∨ a = 6 ∨ a = 7 ∨ a = 8 ∨ a = 9 := by omega
  rcases this with rfl | rfl | rfl | rfl | rfl | rfl <;> cases p <;> decide +kernel
theorem put_eq (k : Nat) (hk : 5 < k) (a : Int) (p : Bool) (s r : Int) : ctrl_Put.f k a p s r = some (putC a p s r) := by
  obtain ⟨m, hm, rfl⟩ : ∃ m, 4 < m ∧ k = m + 1 := ⟨k - 1, by omega, by omega⟩
  have hp := b2i_range p
  unfold ctrl_Put.f putC
  refine bind_at (good_eq a) ?_
  by_cases h : 0 ≤ a ∧ a < 10
  · rw [if_pos (decide_eq_true h), if_pos h, if_pos h.1, if_pos h.2]
    refine bind_at (num_eq a) ?_
    by_cases h3 : a ≤ 3
    · rw [if_pos (decide_eq_true ⟨h.1, h3⟩), if_pos h3]
      refine bind_at (one_eq p) ?_
      refine bind_at (pack_two (m + 1) (by omega) (b2i p) r hp) ?_
      by_cases hr : 0 ≤ r ∧ r < 128
      · rw [if_pos hr, if_pos hr]
        refine Eq.trans (if_pos rfl) ?_
        rw [ctrl_Put.j0]
        by_cases h0 : a = 0
        · subst h0
          refine Eq.trans (if_pos rfl) ?_
          refine bind_at (pack_two m (by omega) 0 s (by decide)) ?_
          rw [if_pos rfl]
          by_cases hs : 0 ≤ s ∧ s < 128
          · rw [if_pos hs, if_pos hs]
            refine Eq.trans (if_pos rfl) ?_
            rw [Int.add_zero]
          · rw [if_neg hs, if_neg hs]
            exact if_neg (by decide)
        · rw [if_neg h0]
          refine Eq.trans (if_neg (by rw [beq_false_of_ne h0]; decide)) ?_
          exact if_pos rfl
      · rw [if_neg hr, if_neg hr]
        refine Eq.trans (if_neg (by decide)) ?_
        rw [ctrl_Put.j0]
        refine Eq.trans (if_neg (by decide)) ?_
        exact if_neg (by decide)
    · rw [if_neg (by rw [decide_eq_false (fun q => h3 q.2)]; decide), if_neg h3]
      refine bind_at (one_eq p) ?_
      rw [with_bit h h3 p]
  · rw [if_neg (by rw [decide_eq_false h]; decide), if_neg h]
end Go.Proofs.YtdpgdnbknmncfaaDoor.Ctl

/- What the printed functions of package frame come to: which frames may be, what they carry; a frame's octets, or the error. Plain Lean over the printed functions. -/
namespace Go.Proofs.YtdpgdnbknmncfaaDoor.Frm
open Go.RowKit Go.Proofs.YtdpgdnbknmncfaaDoorW.PrintWords Go.Proofs.YtdpgdnbknmncfaaDoorW.PrintLast Go.Proofs.YtdpgdnbknmncfaaDoorW.PrintMore Go.Proofs.YtdpgdnbknmncfaaDoor.Str Go.Proofs.YtdpgdnbknmncfaaDoor.Field Go.Proofs.YtdpgdnbknmncfaaDoor.Ctl Go.Proofs.YtdpgdnbknmncfaaDoor.Print Go.Proofs.YtdpgdnbknmncfaaDoorX
open Go.Proofs.YtdpgdnbknmncfaaDoor.Fcs (sealL checkL)
open Go.Proofs.YtdpgdnbknmncfaaDoor.Addr (putA getA)
/-- May a frame of that kind be a command, or a response? -/
def mayF (a : Int) (c : Bool) : Bool := if a = 0 ∨ a = 4 ∨ a = 6 ∨ a = 7 then c else if a = 5 ∨ a = 8 ∨ a = 9 then !c else decide (1 ≤ a ∧ a ≤ 3)
theorem may_eq (a : Int) (c : Bool) : frame_May.f a c = some (mayF a c) := by
  unfold frame_May.f mayF
  by_cases h0 : a = 0
  · rw [if_pos h0, if_pos (Or.inl h0)]
  by_cases h4 : a = 4
  · rw [if_neg h0, if_pos h4, if_pos (Or.inr (Or.inl h4))]
  by_cases h6 : a = 6
  · rw [if_neg h0, if_neg h4, if_pos h6, if_pos (Or.inr (Or.inr (Or.inl h6)))]
  by_cases h7 : a = 7
  · rw [if_neg h0, if_neg h4, if_neg h6, if_pos h7, if_pos (Or.inr (Or.inr (Or.inr h7)))]
  rw [if_neg h0, if_neg h4, if_neg h6, if_neg h7, if_neg (show ¬ (a = 0 ∨ a = 4 ∨ a = 6 ∨ a = 7) by omega)]
  by_cases h5 : a = 5
  · rw [if_pos h5, if_pos (Or.inl h5)]
  by_cases h8 : a = 8
  · rw [if_neg h5, if_pos h8, if_pos (Or.inr (Or.inl h8))]
  by_cases h9 : a = 9
  · rw [if_neg h5, if_neg h8, if_pos h9, if_pos (Or.inr (Or.inr h9))]
  rw [if_neg h5, if_neg h8, if_neg h9, if_neg (show ¬ (a = 5 ∨ a = 8 ∨ a = 9) by omega), num_eq]
  congr 1
  exact decide_eq_decide.2 (by omega)
/-- May a frame of that kind have so much information? -/
def carF (a n : Int) : Bool := if a = 0 ∨ a = 6 then decide (0 ≤ n ∧ n ≤ 260) else if a = 9 then n == 5 else n == 0 && decide (0 ≤ a ∧ a < 10)
theorem name_some (a : Int) : ∃ s, ctrl_Kind_Name.f a = some s ∧ (s.toList != ([] : List UInt8)) = decide (0 ≤ a ∧ a < 10) := by
  by_cases h : 0 ≤ a ∧ a < 10
  · rcases ten h with rfl | rfl | rfl | rfl | rfl | rfl | rfl | rfl | rfl | rfl <;> exact ⟨_, rfl, by decide +kernel⟩
  · refine ⟨⟨#[]⟩, ?_, ?_⟩
    · unfold ctrl_Kind_Name.f
      refine bind_at (good_eq a) (if_neg ?_)
      rw [decide_eq_false h]; decide
    · rw [decide_eq_false h]; decide +kernel
theorem small (n : Int) : (if n ≥ 0 then some (decide (n ≤ 260)) else some false) = some (decide (0 ≤ n ∧ n ≤ 260)) := by
  by_cases h : n ≥ 0
  · rw [if_pos h]; congr 1; exact decide_eq_decide.2 (by omega)
  · rw [if_neg h, decide_eq_false (by omega)]
theorem car_eq (k : Nat) (hk : 0 < k) (a n : Int) : frame_Carries.f k a n = some (carF a n) := by
  obtain ⟨m, rfl⟩ : ∃ m, k = m + 1 := ⟨k - 1, by omega⟩
  unfold frame_Carries.f carF
  by_cases h0 : a = 0
  · rw [if_pos h0, if_pos (Or.inl h0), frame_Carries.j0, if_pos (by simp [h0])]; exact small n
  rw [if_neg h0]
  by_cases h6 : a = 6
  · rw [if_pos (Or.inr h6), frame_Carries.j0, if_pos (by simp [h6])]; exact small n
  rw [if_neg (by omega), frame_Carries.j0, if_neg (by simpa using h6)]
  by_cases h9 : a = 9
  · rw [if_pos h9, if_pos h9]
  rw [if_neg h9, if_neg h9]
  by_cases hn : n = 0
  · rw [if_pos hn]
    obtain ⟨s, h1, h2⟩ := name_some a
    refine bind_at h1 ?_
    rw [h2, hn]; rfl
  · rw [if_neg hn, beq_false_of_ne hn]; rfl
theorem make_eq (s t : Int) (c w : Bool) : addr_Make.f s t c w = some (s, t, (c == w)) := rfl
theorem sizeA (s t : Int) (c : Bool) : (putA s t c).1.size ≤ 2 := by
  unfold Addr.putA
  split
  · exact Nat.le_of_eq (nums_size _)
  · exact Nat.zero_le _
theorem sizeC (a : Int) (p : Bool) (x y : Int) : (putC a p x y).1.size ≤ 2 := by
  unfold putC
  split
  · split
    · split
      · split
        · split
          · exact Nat.le_of_eq (nums_size _)
          · exact Nat.zero_le _
        · exact Nat.le_of_eq (nums_size _)
      · exact Nat.zero_le _
    · exact Nat.le_trans (Nat.le_of_eq (nums_size _)) (by show 1 ≤ 2; decide)
  · exact Nat.zero_le _
theorem size_app (s t : ByteArray) : (s ++ t).size = s.size + t.size := by rw [size_L, L_app, List.length_append, ← size_L, ← size_L]
/-- A frame's octets, or the error. -/
def putF (s t : Int) (c : Bool) (a : Int) (p : Bool) (x y : Int) (i : ByteArray) (w : Bool) : ByteArray × Int :=
  if (putC a p x y).2 = 4 ∨ mayF a c = false then (⟨#[]⟩, 4)
  else if (putC a p x y).2 = 0 then
    if (putA s t (c == w)).2 = 0 then
      if carF a (i.size : Int) = true then (⟨(sealL (L (((putA s t (c == w)).1 ++ (putC a p x y).1) ++ i))).toArray⟩, 0) else (⟨#[]⟩, 5)
    else (⟨#[]⟩, (putA s t (c == w)).2)
  else (⟨#[]⟩, (putC a p x y).2)
theorem put_eq (k : Nat) (s t : Int) (c : Bool) (a : Int) (p : Bool) (x y : Int) (i : ByteArray) (w : Bool) (hi : i.size ≤ 140737488351232) (hk : i.size + 40 < k) :
    frame_Put.f k s t c a p x y i w = some (putF s t c a p x y i w) := by
  obtain ⟨m, rfl⟩ : ∃ m, k = m + 1 := ⟨k - 1, by omega⟩
  have hA := sizeA s t (c == w)
  have hC := sizeC a p x y
  unfold frame_Put.f putF
  refine bind_at (Ctl.put_eq (m + 1) (by omega) a p x y) ?_
  generalize putC a p x y = C at *
  by_cases h4 : C.2 = 4
  · rw [if_pos h4, if_pos (Or.inl h4), frame_Put.j0, if_pos rfl]
  rw [if_neg h4]
  refine bind_at (may_eq a c) ?_
  rw [frame_Put.j0]
  by_cases hm : mayF a c = false
  · rw [if_pos (by rw [hm]; rfl), if_pos (Or.inr hm)]
  have hm' : mayF a c = true := by simpa using hm
  rw [if_neg (by rw [hm']; decide), if_neg (show ¬ (C.2 = 4 ∨ mayF a c = false) from fun h => h.elim h4 hm)]
  by_cases he : C.2 = 0
  · rw [if_pos he, if_pos he]
    refine bind_at (make_eq s t c w) (bind_at (Addr.put_eq m (by omega) s t (c == w)) ?_)
    generalize putA s t (c == w) = A at *
    by_cases ha : A.2 = 0
    · rw [if_pos ha, if_pos ha]
      refine bind_at (car_eq m (by omega) a (i.size : Int)) ?_
      by_cases hc : carF a (i.size : Int) = true
      · rw [if_pos hc, if_pos hc]
        have z1 : (A.1 ++ C.1).size ≤ 4 := by rw [size_app]; omega
        have z2 : ((A.1 ++ C.1) ++ i).size ≤ i.size + 4 := by rw [size_app]; omega
        rw [if_pos (by omega), if_pos (by omega)]
        exact bind_at (Fcs.seal_eq m ((A.1 ++ C.1) ++ i) (by omega) (by omega)) rfl
      · rw [if_neg hc, if_neg hc]
    · rw [if_neg ha, if_neg ha]
  · rw [if_neg he, if_neg he]
theorem first_put : putF 0 64 false 1 true 0 1 ⟨#[]⟩ false = (⟨(sealL [2, 129, 1, 3]).toArray⟩, 0) := rfl
theorem wakes_eq (k : Nat) (hk : 50 < k) : lapwinglaw06_wakes.f k = some true := by
  unfold lapwinglaw06_wakes.f
  have h0 := put_eq k 0 64 false 1 true 0 1 ⟨#[]⟩ false (by decide) (by show 0 + 40 < k; omega)
  rw [first_put] at h0
  refine bind_at h0 (Eq.trans (if_pos rfl) ?_)
  refine bind_at (Fcs.seal_eq k ⟨#[2, 129, 1, 3]⟩ (by decide) (by show 4 + 9 < k; omega)) ?_
  refine Eq.trans (if_pos rfl) ?_
  exact bind_at (may_eq 1 true) rfl
end Go.Proofs.YtdpgdnbknmncfaaDoor.Frm
