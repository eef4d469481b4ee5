/- What the printed frame.Get comes to at all octets: the frame, or the error; what was sealed is read back. Plain Lean over the printed functions. -/
import Derived.Test.YtdpgdnbknmncfaaDoorPlainC
import Derived.Test.YtdpgdnbknmncfaaDoorCtrlGetP
import Derived.Test.YtdpgdnbknmncfaaDoorPrint17
namespace Go.Proofs.YtdpgdnbknmncfaaDoor.Frm
open Go.RowKit Go.Proofs.YtdpgdnbknmncfaaDoorW.PrintWords Go.Proofs.YtdpgdnbknmncfaaDoorW.PrintLast Go.Proofs.YtdpgdnbknmncfaaDoorW.PrintMore Go.Proofs.YtdpgdnbknmncfaaDoor.Str Go.Proofs.YtdpgdnbknmncfaaDoor.Field Go.Proofs.YtdpgdnbknmncfaaDoor.Ctl Go.Proofs.YtdpgdnbknmncfaaDoor.Print Go.Proofs.YtdpgdnbknmncfaaDoorX
open Go.Proofs.YtdpgdnbknmncfaaDoor.Fcs (sealL checkL seal_length)
open Go.Proofs.YtdpgdnbknmncfaaDoor.Addr (putA getA okA)
open Go.Proofs.YtdpgdnbknmncfaaDoor.CtlG (kd)
/-- The control field that octets begin with, its length, or the error. -/
def getC (s : ByteArray) : Int × Bool × Int × Int × Int × Int :=
  if s.size = 0 then (0, false, 0, 0, 0, 3)
  else if bt s 0 % 2 = 0 then (if s.size < 2 then (0, false, 0, 0, 0, 3) else (0, (bt s 1 % 2 == 1), bt s 0 / 2, bt s 1 / 2, 2, 0))
  else if kd (bt s 0) = 0 ∨ (kd (bt s 0) ≤ 3 ∧ bt s 0 ≠ rd glFirst (kd (bt s 0))) then (0, false, 0, 0, 0, 4)
  else if kd (bt s 0) ≤ 3 then (if s.size < 2 then (0, false, 0, 0, 0, 3) else (kd (bt s 0), (bt s 1 % 2 == 1), 0, bt s 1 / 2, 2, 0))
  else (kd (bt s 0), (Go.bits .and .u8 (bt s 0) 16 != 0), 0, 0, 1, 0)
theorem kd_all : ∀ n : Fin 256, 0 ≤ kd ((n.val : Nat) : Int) ∧ kd ((n.val : Nat) : Int) ≤ 9 ∧ (4 ≤ kd ((n.val : Nat) : Int) → ((n.val : Nat) : Int) = rd glFirst (kd ((n.val : Nat) : Int)) + 16 * CtlG.b2i (Go.bits .and .u8 ((n.val : Nat) : Int) 16 != 0)) := by decide +kernel
theorem kd_facts (x : Int) (h0 : 0 ≤ x) (h1 : x ≤ 255) : 0 ≤ kd x ∧ kd x ≤ 9 ∧ (4 ≤ kd x → x = rd glFirst (kd x) + 16 * CtlG.b2i (Go.bits .and .u8 x 16 != 0)) := by
  have := kd_all ⟨x.toNat, by omega⟩
  rwa [show (((⟨x.toNat, by omega⟩ : Fin 256).val : Nat) : Int) = x from by show (x.toNat : Int) = x; omega] at this
theorem get_C (k : Nat) (hk : 9 < k) (s : ByteArray) : ctrl_Get.f k s = some (getC s) := by
  unfold getC
  by_cases h0 : s.size = 0
  · rw [if_pos h0]
    unfold ctrl_Get.f
    exact if_pos (by rw [toList_L]; exact List.length_eq_zero_iff.1 (by rw [← size_L]; exact h0))
  rw [if_neg h0]
  have hx : 0 ≤ bt s 0 ∧ bt s 0 ≤ 255 := by rw [bt_L]; exact at_range _ _
  have hy : 0 ≤ bt s 1 ∧ bt s 1 ≤ 255 := by rw [bt_L]; exact at_range _ _
  obtain ⟨m, rfl⟩ : ∃ m, k = m + 1 + 1 := ⟨k - 2, by omega⟩
  rw [CtlG.get_head _ hk s (by omega)]
  have hkd := kd_facts (bt s 0) hx.1 hx.2
  have l7 : bt s 1 / 2 % 128 = bt s 1 / 2 := by omega
  have l8 : bt s 0 / 2 % 128 = bt s 0 / 2 := by omega
  have f1 := CtlG.f17 (bt s 1) hy.1 hy.2
  have f0 := CtlG.f17 (bt s 0) hx.1 hx.2
  have lb1 := low_bit (bt s 1) hy.1 hy.2
  have lb0 := low_bit (bt s 0) hx.1 hx.2
  rw [l7] at f1
  rw [l8] at f0
  rw [ctrl_Get.j0, lb0]
  by_cases he : bt s 0 % 2 = 0
  · rw [if_pos he, if_pos he, ctrl_Get.j1]
    have hn : ctrl_Kind_Numbered.f 0 = some true := rfl
    refine bind_at hn (Eq.trans (if_pos rfl) ?_)
    by_cases hs : s.size < 2
    · rw [if_pos (by omega), if_pos hs]
    · rw [if_neg (by omega), if_neg hs, if_pos (by omega)]
      refine bind_at f1 (Eq.trans (if_pos rfl) (bind_at f0 ?_))
      rw [lb1]
  · rw [if_neg he, if_neg he]
    generalize hK : kd (bt s 0) = K at *
    by_cases h1 : K = 0
    · rw [if_pos h1, if_pos (Or.inl h1)]
    rw [if_neg h1]
    have hn : ctrl_Kind_Numbered.f K = some (decide (K ≤ 3)) := by rw [CtlG.num_eq]; congr 1; exact decide_eq_decide.2 (by omega)
    refine bind_at hn ?_
    by_cases h3 : K ≤ 3
    · rw [if_pos (decide_eq_true h3), if_pos (by omega), if_pos (by omega)]
      by_cases hf : bt s 0 = rd glFirst K
      · rw [if_pos hf, if_neg (show ¬ (K = 0 ∨ (K ≤ 3 ∧ bt s 0 ≠ rd glFirst K)) from fun h => h.elim h1 (fun h => h.2 hf)), if_pos h3, ctrl_Get.j1]
        refine bind_at hn (Eq.trans (if_pos (decide_eq_true h3)) ?_)
        by_cases hs : s.size < 2
        · rw [if_pos (by omega), if_pos hs]
        · rw [if_neg (by omega), if_neg hs, if_pos (by omega)]
          refine bind_at f1 (Eq.trans (if_neg h1) ?_)
          rw [lb1]
      · rw [if_neg hf, if_pos (Or.inr ⟨h3, hf⟩)]
    · rw [if_neg (by simpa using h3), if_neg (show ¬ (K = 0 ∨ (K ≤ 3 ∧ bt s 0 ≠ rd glFirst K)) from fun h => h.elim h1 (fun h => h3 h.1)), if_neg h3, ctrl_Get.j1]
      exact bind_at hn (if_neg (by simpa using h3))
theorem getC_bound (s : ByteArray) (h : (getC s).2.2.2.2.2 = 0) : 1 ≤ (getC s).2.2.2.2.1 ∧ (getC s).2.2.2.2.1 ≤ 2 ∧ (getC s).2.2.2.2.1 ≤ (s.size : Int) := by
  unfold getC at h ⊢
  by_cases h0 : s.size = 0
  · rw [if_pos h0] at h; exact absurd h (by decide)
  rw [if_neg h0] at h ⊢
  by_cases he : bt s 0 % 2 = 0
  · rw [if_pos he] at h ⊢
    by_cases hs : s.size < 2
    · rw [if_pos hs] at h; exact absurd h (by decide)
    · rw [if_neg hs]; exact ⟨by show (1 : Int) ≤ 2; decide, by show (2 : Int) ≤ 2; decide, by show (2 : Int) ≤ _; omega⟩
  rw [if_neg he] at h ⊢
  by_cases hb : kd (bt s 0) = 0 ∨ (kd (bt s 0) ≤ 3 ∧ bt s 0 ≠ rd glFirst (kd (bt s 0)))
  · rw [if_pos hb] at h; exact absurd h (by decide)
  rw [if_neg hb] at h ⊢
  by_cases h3 : kd (bt s 0) ≤ 3
  · rw [if_pos h3] at h ⊢
    by_cases hs : s.size < 2
    · rw [if_pos hs] at h; exact absurd h (by decide)
    · rw [if_neg hs]; exact ⟨by show (1 : Int) ≤ 2; decide, by show (2 : Int) ≤ 2; decide, by show (2 : Int) ≤ _; omega⟩
  · rw [if_neg h3]; exact ⟨by show (1 : Int) ≤ 1; decide, by show (1 : Int) ≤ 2; decide, by show (1 : Int) ≤ _; omega⟩
theorem command_eq (s t : Int) (c w : Bool) : addr_Address_Command.f s t c w = some (c == w) := rfl
theorem getA_len (l : List UInt8) (h : (getA l).2.2.2 = 0) : 2 ≤ l.length := by
  by_cases h2 : l.length < 2
  · exfalso; unfold Addr.getA at h; rw [if_pos h2] at h; exact absurd h (by decide)
  · omega
theorem check_len (l : List UInt8) : (checkL l).1.length ≤ l.length := by
  unfold Fcs.checkL
  split
  · exact Nat.zero_le _
  · split
    · exact List.length_take_le' _ _
    · exact Nat.zero_le _
theorem cut_from (b : ByteArray) (n : Nat) (_h : n ≤ b.size) : (b.extract n b.size).size = b.size - n := by simp
abbrev Fr : Type := Int × Int × Bool × Int × Bool × Int × Int × ByteArray × Int
def bad (e : Int) : Fr := (0, 0, false, 0, false, 0, 0, ⟨#[]⟩, e)
/-- The frame of a body that was found right, or the error. -/
def bodyF (b : ByteArray) (w : Bool) : Fr :=
  if (getA (L b)).2.2.2 = 0 then
    if (getC (b.extract 2 b.size)).2.2.2.2.2 = 0 then
      if mayF (getC (b.extract 2 b.size)).1 ((getA (L b)).2.2.1 == w) = true then
        if carF (getC (b.extract 2 b.size)).1 ((b.extract (2 + (getC (b.extract 2 b.size)).2.2.2.2.1).toNat b.size).size : Int) = true then
          ((getA (L b)).1, (getA (L b)).2.1, ((getA (L b)).2.2.1 == w), (getC (b.extract 2 b.size)).1, (getC (b.extract 2 b.size)).2.1, (getC (b.extract 2 b.size)).2.2.1, (getC (b.extract 2 b.size)).2.2.2.1, b.extract (2 + (getC (b.extract 2 b.size)).2.2.2.2.1).toNat b.size, 0)
        else bad 5
      else bad 4
    else bad (getC (b.extract 2 b.size)).2.2.2.2.2
  else bad (getA (L b)).2.2.2
/-- The frame that octets are, or the error. -/
def getF (s : ByteArray) (w : Bool) : Fr := if (checkL (L s)).2 = 0 then bodyF ⟨(checkL (L s)).1.toArray⟩ w else bad 6
theorem get_F (k : Nat) (s : ByteArray) (w : Bool) (hs : s.size ≤ 140737488355328) (hk : s.size + 60 < k) : frame_Get.f k s w = some (getF s w) := by
  obtain ⟨m, rfl⟩ : ∃ m, k = m + 1 := ⟨k - 1, by omega⟩
  have hl := check_len (L s)
  rw [← size_L] at hl
  have h1 := Fcs.check_eq (m + 1) s (by omega) (by omega)
  unfold frame_Get.f getF
  refine bind_at h1 ?_
  clear h1
  generalize checkL (L s) = q at *
  have hb : (⟨q.1.toArray⟩ : ByteArray).size = q.1.length := Fcs.size_mk q.1
  by_cases h0 : q.2 = 0
  · refine Eq.trans (if_pos h0) ?_
    rw [if_pos h0]
    dsimp only
    generalize (⟨q.1.toArray⟩ : ByteArray) = b at *
    unfold bodyF
    have g1 := Addr.get_eq (m + 1) (by omega) b
    have g3 := getA_len (L b)
    rw [← size_L] at g3
    refine bind_at g1 ?_
    generalize getA (L b) = A at *
    by_cases ha : A.2.2.2 = 0
    · have hb2 := g3 ha
      rw [if_pos ha, if_pos ha, if_pos (by omega)]
      have r1 := get_C (m + 1) (by omega) (b.extract 2 b.size)
      have r3 := getC_bound (b.extract 2 b.size)
      rw [cut_from b 2 hb2] at r3
      refine bind_at r1 (bind_at (command_eq _ _ _ w) ?_)
      generalize getC (b.extract 2 b.size) = r at *
      by_cases hr : r.2.2.2.2.2 = 0
      · obtain ⟨n1, n2, n3⟩ := r3 hr
        have hw : wrap64 (2 + r.2.2.2.2.1) = 2 + r.2.2.2.2.1 := w64 (by omega) (by omega)
        rw [if_pos hr, if_pos hr, hw, if_pos (by omega), if_pos (by omega), frame_Get.j0, if_pos hr]
        refine bind_at (may_eq _ _) ?_
        by_cases hm : mayF r.1 (A.2.2.1 == w) = true
        · rw [if_pos hm, if_pos hm]
          refine bind_at (car_eq m (by omega) _ _) ?_
          by_cases hc : carF r.1 ((b.extract (2 + r.2.2.2.2.1).toNat b.size).size : Int) = true
          · rw [if_pos hc, if_pos hc]
          · rw [if_neg hc, if_neg hc]; rfl
        · rw [if_neg hm, if_neg hm]; rfl
      · rw [if_neg hr, if_neg hr, frame_Get.j0, if_neg hr]; rfl
    · rw [if_neg ha, if_neg ha]; rfl
  · refine Eq.trans (if_neg h0) ?_
    rw [if_neg h0]; rfl
theorem get_some (k : Nat) (s : ByteArray) (w : Bool) (hs : s.size ≤ 140737488355328) (hk : s.size + 60 < k) : ∃ r : Fr, frame_Get.f k s w = some r := ⟨_, get_F k s w hs hk⟩
theorem u8_of (x : Int) (h0 : 0 ≤ x) (h1 : x ≤ 255) : ((UInt8.ofNat x.toNat).toNat : Int) = x := by
  rw [UInt8.toNat_ofNat']; omega
theorem at_zero (a b : UInt8) (l : List UInt8) : at_ ([a, b] ++ l) 0 = (a.toNat : Int) := rfl
theorem at_one (a b : UInt8) (l : List UInt8) : at_ ([a, b] ++ l) 1 = (b.toNat : Int) := rfl
theorem get_put (s t : Int) (cr : Bool) (h : okA s t) (l : List UInt8) : getA (L (strOfNums [4 * s + 2 * Addr.num cr, 2 * t + 1]) ++ l) = (s, t, cr, 0) := by
  obtain ⟨⟨h1, h2⟩, h3, h4⟩ := h
  have hn := Addr.num_range cr
  rw [L_nums]
  show getA ([UInt8.ofNat (4 * s + 2 * Addr.num cr).toNat, UInt8.ofNat (2 * t + 1).toNat] ++ l) = _
  unfold getA
  rw [at_zero, at_one, u8_of _ (by omega) (by omega), u8_of _ (by omega) (by omega), if_neg (by simp), if_pos (show (4 * s + 2 * Addr.num cr) % 2 = 0 ∧ (2 * t + 1) % 2 = 1 from ⟨by omega, by omega⟩)]
  have e1 : (4 * s + 2 * Addr.num cr) / 4 = s := by omega
  have e2 : (2 * t + 1) / 2 = t := by omega
  have e3 : (4 * s + 2 * Addr.num cr) / 2 % 2 = Addr.num cr := by omega
  rw [e1, e2, e3]
  cases cr <;> rfl
theorem size_two (x y : Int) : (strOfNums [x, y]).size = 2 := nums_size _
theorem size_one (x : Int) : (strOfNums [x]).size = 1 := nums_size _
theorem two_0 (x y : Int) (t : ByteArray) (h0 : 0 ≤ x) (h1 : x ≤ 255) : bt (strOfNums [x, y] ++ t) 0 = x := by
  rw [bt_L, L_app, L_nums]
  exact u8_of x h0 h1
theorem two_1 (x y : Int) (t : ByteArray) (h0 : 0 ≤ y) (h1 : y ≤ 255) : bt (strOfNums [x, y] ++ t) 1 = y := by
  rw [bt_L, L_app, L_nums]
  exact u8_of y h0 h1
theorem one_0 (x : Int) (t : ByteArray) (h0 : 0 ≤ x) (h1 : x ≤ 255) : bt (strOfNums [x] ++ t) 0 = x := by
  rw [bt_L, L_app, L_nums]
  exact u8_of x h0 h1
theorem bit_of (r : Int) (p : Bool) : ((2 * r + b2i p) % 2 == 1) = p := by
  cases p
  · exact beq_false_of_ne (by show ¬ (2 * r + 0) % 2 = 1; omega)
  · exact beq_iff_eq.2 (by show (2 * r + 1) % 2 = 1; omega)
theorem check_sealed (l : List UInt8) : checkL (sealL l) = (l, 0) := by
  unfold checkL
  rw [seal_length, if_neg (by omega), show l.length + 2 - 2 = l.length from by omega]
  have e : (sealL l).take l.length = l := by unfold sealL; simp
  rw [e, if_pos rfl]
theorem mk_L (s : ByteArray) : (⟨(L s).toArray⟩ : ByteArray) = s := inj (L_mk _)
theorem get_sealed (b : ByteArray) (w : Bool) : getF ⟨(sealL (L b)).toArray⟩ w = bodyF b w := by
  unfold getF
  rw [L_mk, check_sealed]
  show (if (0 : Int) = 0 then bodyF ⟨(L b).toArray⟩ w else bad 6) = _
  rw [if_pos rfl, mk_L]
theorem cut_two (A C I : ByteArray) (hA : A.size = 2) : ((A ++ C) ++ I).extract 2 ((A ++ C) ++ I).size = C ++ I := by
  apply inj
  rw [L_cut, L_app, L_app, L_app, size_L, L_app, L_app]
  rw [size_L] at hA
  rw [List.take_of_length_le (Nat.le_refl _), List.append_assoc, ← hA, List.drop_left]
theorem cut_more (A C I : ByteArray) (n : Nat) (hn : (A ++ C).size = n) : ((A ++ C) ++ I).extract n ((A ++ C) ++ I).size = I := by
  apply inj
  rw [L_cut, L_app, size_L, L_app]
  rw [size_L] at hn
  rw [List.take_of_length_le (Nat.le_refl _), ← hn, List.drop_left]
theorem getC_of {s : ByteArray} {r : Int × Bool × Int × Int × Int × Int} (h : ctrl_Get.f 10 s = some r) : getC s = r := Option.some.inj ((get_C 10 (by decide) s).symm.trans h)
theorem b2i_same (p : Bool) : CtlG.b2i p = b2i p := rfl
/-- A control field is read back from its octets, whatever follows. -/
theorem getC_put (a : Int) (p : Bool) (x y : Int) (I : ByteArray) (h : (putC a p x y).2 = 0) :
    getC ((putC a p x y).1 ++ I) = (a, p, (if a = 0 then x else 0), (if a ≤ 3 then y else 0), ((putC a p x y).1.size : Int), 0) ∧ (0 ≤ a ∧ a < 10) ∧ 1 ≤ (putC a p x y).1.size := by
  have hp := b2i_range p
  unfold putC at h ⊢
  by_cases ha : 0 ≤ a ∧ a < 10
  · rw [if_pos ha] at h ⊢
    by_cases h3 : a ≤ 3
    · rw [if_pos h3] at h ⊢
      by_cases hy : 0 ≤ y ∧ y < 128
      · rw [if_pos hy] at h ⊢
        by_cases h0 : a = 0
        · rw [if_pos h0] at h ⊢
          by_cases hx : 0 ≤ x ∧ x < 128
          · rw [if_pos hx]
            have z := size_two (2 * x) (2 * y + b2i p)
            have g := CtlG.get_I 10 (by decide) (strOfNums [2 * x, 2 * y + b2i p] ++ I) (by rw [size_app, z]; omega) (2 * x) (two_0 _ _ I (by omega) (by omega)) (by omega) (by omega) (by omega) (2 * y + b2i p) (two_1 _ _ I (by omega) (by omega)) (by omega) (by omega)
            refine ⟨?_, ha, by rw [z]; decide⟩
            rw [getC_of g, if_pos h3, if_pos h0, z, bit_of, show 2 * x / 2 % 128 = x from by omega, show (2 * y + b2i p) / 2 % 128 = y from by omega, h0]; rfl
          · rw [if_neg hx] at h; exact absurd h (by decide)
        · rw [if_neg h0]
          have hf := fo_range (a := a) ha
          have z := size_two (rd glFirst a) (2 * y + b2i p)
          have g := CtlG.get_S 10 (by decide) (strOfNums [rd glFirst a, 2 * y + b2i p] ++ I) (by rw [size_app, z]; omega) (a := a) (by omega) (two_0 _ _ I (by omega) (by omega)) (2 * y + b2i p) (two_1 _ _ I (by omega) (by omega)) (by omega) (by omega)
          refine ⟨?_, ha, by rw [z]; decide⟩
          rw [getC_of g, if_pos h3, if_neg h0, z, bit_of, show (2 * y + b2i p) / 2 % 128 = y from by omega]; rfl
      · rw [if_neg hy] at h; exact absurd h (by decide)
    · rw [if_neg h3]
      have hf := fo_range (a := a) ha
      have z := size_one (rd glFirst a + 16 * b2i p)
      have g := CtlG.get_U 10 (by decide) (strOfNums [rd glFirst a + 16 * b2i p] ++ I) (by rw [size_app, z]; omega) (a := a) (by omega) p (one_0 _ I (by omega) (by omega))
      refine ⟨?_, ha, by rw [z]; decide⟩
      rw [getC_of g, if_neg h3, if_neg (by omega), z]; rfl
  · rw [if_neg ha] at h; exact absurd h (by decide)
theorem putA_ok {s t : Int} {c : Bool} (h : (putA s t c).2 = 0) : okA s t ∧ (putA s t c).1 = strOfNums [4 * s + 2 * Addr.num c, 2 * t + 1] := by
  unfold Addr.putA at h ⊢
  by_cases hs : okA s t
  · rw [if_pos hs]; exact ⟨hs, rfl⟩
  · rw [if_neg hs] at h; exact absurd h (by decide)
/-- What a frame's octets are read as, by either side. -/
theorem read_back (s t : Int) (c : Bool) (a : Int) (p : Bool) (x y : Int) (I : ByteArray) (w w2 : Bool) (h : (putF s t c a p x y I w).2 = 0) :
    getF (putF s t c a p x y I w).1 w2 = (if mayF a ((c == w) == w2) = true then (s, t, ((c == w) == w2), a, p, (if a = 0 then x else 0), (if a ≤ 3 then y else 0), I, 0) else bad 4) ∧
    mayF a c = true ∧ carF a (I.size : Int) = true ∧ (0 ≤ a ∧ a < 10) ∧ I.size + 5 ≤ (putF s t c a p x y I w).1.size ∧ (putF s t c a p x y I w).1.size ≤ I.size + 6 := by
  unfold putF at h ⊢
  by_cases h4 : (putC a p x y).2 = 4 ∨ mayF a c = false
  · rw [if_pos h4] at h; exact absurd h (by decide)
  rw [if_neg h4] at h ⊢
  by_cases hC : (putC a p x y).2 = 0
  · rw [if_pos hC] at h ⊢
    by_cases hA : (putA s t (c == w)).2 = 0
    · rw [if_pos hA] at h ⊢
      by_cases hc : carF a (I.size : Int) = true
      · rw [if_pos hc]
        obtain ⟨hok, hAs⟩ := putA_ok hA
        obtain ⟨hg, ha, hc1⟩ := getC_put a p x y I hC
        have hc2 := sizeC a p x y
        have hmay : mayF a c = true := by
          by_cases hm : mayF a c = false
          · exact absurd (Or.inr hm) h4
          · simpa using hm
        have hA2 : (putA s t (c == w)).1.size = 2 := by rw [hAs]; exact nums_size _
        refine ⟨?_, hmay, hc, ha, ?_, ?_⟩
        · show getF ⟨(sealL (L (((putA s t (c == w)).1 ++ (putC a p x y).1) ++ I))).toArray⟩ w2 = _
          rw [get_sealed]
          generalize putC a p x y = C at *
          generalize (putA s t (c == w)).1 = A at *
          have e1 := cut_two A C.1 I hA2
          have e2 : getA (L ((A ++ C.1) ++ I)) = (s, t, (c == w), 0) := by
            rw [L_app, L_app, List.append_assoc, hAs]; exact get_put s t (c == w) hok _
          have e3 : ((A ++ C.1) ++ I).extract (2 + (C.1.size : Int)).toNat ((A ++ C.1) ++ I).size = I := cut_more A C.1 I _ (by rw [size_app, hA2]; omega)
          unfold bodyF
          rw [e2, e1, hg]
          dsimp only
          rw [if_pos rfl, if_pos rfl, e3]
          by_cases hm : mayF a ((c == w) == w2) = true
          · rw [if_pos hm, if_pos hm, if_pos hc]
          · rw [if_neg hm, if_neg hm]
        · show _ ≤ (⟨(sealL (L (((putA s t (c == w)).1 ++ (putC a p x y).1) ++ I))).toArray⟩ : ByteArray).size
          rw [Fcs.size_mk (sealL _), seal_length, ← size_L, size_app, size_app, hA2]; omega
        · show (⟨(sealL (L (((putA s t (c == w)).1 ++ (putC a p x y).1) ++ I))).toArray⟩ : ByteArray).size ≤ _
          rw [Fcs.size_mk (sealL _), seal_length, ← size_L, size_app, size_app, hA2]; omega
      · rw [if_neg hc] at h; exact absurd h (by decide)
    · rw [if_neg hA] at h; exact absurd h hA
  · rw [if_neg hC] at h; exact absurd h hC
theorem eqw (c w : Bool) : ((c == w) == w) = c := by cases c <;> cases w <;> rfl
theorem eqn (c w : Bool) : ((c == w) == (!w)) = (!c) := by cases c <;> cases w <;> rfl
end Go.Proofs.YtdpgdnbknmncfaaDoor.Frm
