/- The plain statement of FrameBack over the printed functions: a frame is read back from its octets by the other side; octets that are read are just its own. No condition. -/
import Derived.Test.YtdpgdnbknmncfaaDoorFrameGetP
import Derived.Test.YtdpgdnbknmncfaaDoorPrint21
namespace Go.Proofs.YtdpgdnbknmncfaaDoor.Pure
open Go.RowKit Go.Proofs.YtdpgdnbknmncfaaDoorW.PrintWords Go.Proofs.YtdpgdnbknmncfaaDoorW.PrintLast Go.Proofs.YtdpgdnbknmncfaaDoorW.PrintMore Go.Proofs.YtdpgdnbknmncfaaDoor.Str Go.Proofs.YtdpgdnbknmncfaaDoor.Field Go.Proofs.YtdpgdnbknmncfaaDoor.Frm Go.Proofs.YtdpgdnbknmncfaaDoor.Print
open Go.Proofs.YtdpgdnbknmncfaaDoor.Addr (putA getA okA)
open Go.Proofs.YtdpgdnbknmncfaaDoor.Ctl (putC b2i)
open Go.Proofs.YtdpgdnbknmncfaaDoor.Fcs (sealL checkL)
open Go.Proofs.YtdpgdnbknmncfaaDoor.CtlG (kd)
open Go.Proofs.YtdpgdnbknmncfaaDoorX
theorem putA_get (l : List UInt8) (h : (getA l).2.2.2 = 0) : okA (getA l).1 (getA l).2.1 ∧ L (strOfNums [4 * (getA l).1 + 2 * Addr.num (getA l).2.2.1, 2 * (getA l).2.1 + 1]) = l.take 2 ∧ 2 ≤ l.length := by
  unfold getA at h ⊢
  by_cases h2 : l.length < 2
  · rw [if_pos h2] at h; cases h
  · rw [if_neg h2] at h ⊢
    by_cases h3 : at_ l 0 % 2 = 0 ∧ at_ l 1 % 2 = 1
    · rw [if_pos h3]
      have r0 := at_range l 0
      have r1 := at_range l 1
      refine ⟨⟨⟨by show 0 ≤ at_ l 0 / 4; omega, by show at_ l 0 / 4 < 64; omega⟩, by show 0 ≤ at_ l 1 / 2; omega, by show at_ l 1 / 2 < 128; omega⟩, ?_, by omega⟩
      show L (strOfNums [4 * (at_ l 0 / 4) + 2 * Addr.num (at_ l 0 / 2 % 2 == 1), 2 * (at_ l 1 / 2) + 1]) = _
      have e : Addr.num (at_ l 0 / 2 % 2 == 1) = at_ l 0 / 2 % 2 := by
        have : at_ l 0 / 2 % 2 = 0 ∨ at_ l 0 / 2 % 2 = 1 := by omega
        rcases this with h | h <;> rw [h] <;> rfl
      rw [e, show 4 * (at_ l 0 / 4) + 2 * (at_ l 0 / 2 % 2) = at_ l 0 from by omega, show 2 * (at_ l 1 / 2) + 1 = at_ l 1 from by omega, L_nums]
      match l, h2 with
      | a :: b :: r, _ =>
        show [UInt8.ofNat (at_ (a :: b :: r) 0).toNat, UInt8.ofNat (at_ (a :: b :: r) 1).toNat] = [a, b]
        simp [at_]
    · rw [if_neg h3] at h; cases h
theorem b2i_of (y : Int) (_h : 0 ≤ y) : b2i (y % 2 == 1) = y % 2 := by
  have : y % 2 = 0 ∨ y % 2 = 1 := by omega
  rcases this with h | h <;> rw [h] <;> rfl
theorem one_list (l : List UInt8) (h : 1 ≤ l.length) : [UInt8.ofNat (at_ l 0).toNat] = l.take 1 := by
  match l, h with
  | a :: r, _ =>
    show [UInt8.ofNat (at_ (a :: r) 0).toNat] = [a]
    simp [at_]
theorem two_list (l : List UInt8) (h : 2 ≤ l.length) : [UInt8.ofNat (at_ l 0).toNat, UInt8.ofNat (at_ l 1).toNat] = l.take 2 := by
  match l, h with
  | a :: b :: r, _ =>
    show [UInt8.ofNat (at_ (a :: b :: r) 0).toNat, UInt8.ofNat (at_ (a :: b :: r) 1).toNat] = [a, b]
    simp [at_]
/-- A control field that was read is put as it was. -/
theorem putC_get (s : ByteArray) (h : (getC s).2.2.2.2.2 = 0) :
    (putC (getC s).1 (getC s).2.1 (getC s).2.2.1 (getC s).2.2.2.1).2 = 0 ∧ L (putC (getC s).1 (getC s).2.1 (getC s).2.2.1 (getC s).2.2.2.1).1 = (L s).take (getC s).2.2.2.2.1.toNat := by
  have hx : 0 ≤ bt s 0 ∧ bt s 0 ≤ 255 := by rw [bt_L]; exact at_range _ _
  have hy : 0 ≤ bt s 1 ∧ bt s 1 ≤ 255 := by rw [bt_L]; exact at_range _ _
  have b0 : bt s 0 = at_ (L s) 0 := bt_L s 0
  have b1 : bt s 1 = at_ (L s) 1 := bt_L s 1
  have hz := size_L s
  have hkd := kd_facts (bt s 0) hx.1 hx.2
  unfold getC at h ⊢
  by_cases h0 : s.size = 0
  · rw [if_pos h0] at h; exact absurd h (by decide)
  rw [if_neg h0] at h ⊢
  by_cases he : bt s 0 % 2 = 0
  · rw [if_pos he] at h ⊢
    by_cases hs : s.size < 2
    · rw [if_pos hs] at h; exact absurd h (by decide)
    · rw [if_neg hs]
      have e : putC 0 (bt s 1 % 2 == 1) (bt s 0 / 2) (bt s 1 / 2) = (strOfNums [bt s 0, bt s 1], 0) := by
        unfold putC
        rw [if_pos (by decide), if_pos (by decide), if_pos (by omega), if_pos rfl, if_pos (by omega), b2i_of _ hy.1, show 2 * (bt s 0 / 2) = bt s 0 from by omega, show 2 * (bt s 1 / 2) + bt s 1 % 2 = bt s 1 from by omega]
      show (putC 0 (bt s 1 % 2 == 1) (bt s 0 / 2) (bt s 1 / 2)).2 = 0 ∧ L (putC 0 (bt s 1 % 2 == 1) (bt s 0 / 2) (bt s 1 / 2)).1 = (L s).take 2
      rw [e]
      refine ⟨rfl, ?_⟩
      rw [L_nums, b0, b1]
      exact two_list (L s) (by omega)
  rw [if_neg he] at h ⊢
  by_cases hb : kd (bt s 0) = 0 ∨ (kd (bt s 0) ≤ 3 ∧ bt s 0 ≠ rd glFirst (kd (bt s 0)))
  · rw [if_pos hb] at h; exact absurd h (by decide)
  rw [if_neg hb] at h ⊢
  have hk0 : ¬ kd (bt s 0) = 0 := fun z => hb (Or.inl z)
  by_cases h3 : kd (bt s 0) ≤ 3
  · rw [if_pos h3] at h ⊢
    by_cases hs : s.size < 2
    · rw [if_pos hs] at h; exact absurd h (by decide)
    · rw [if_neg hs]
      have hf : bt s 0 = rd glFirst (kd (bt s 0)) := by
        by_cases hf : bt s 0 = rd glFirst (kd (bt s 0))
        · exact hf
        · exact absurd (Or.inr ⟨h3, hf⟩) hb
      have e : putC (kd (bt s 0)) (bt s 1 % 2 == 1) 0 (bt s 1 / 2) = (strOfNums [bt s 0, bt s 1], 0) := by
        unfold putC
        rw [if_pos (by omega), if_pos h3, if_pos (by omega), if_neg hk0, b2i_of _ hy.1, ← hf, show 2 * (bt s 1 / 2) + bt s 1 % 2 = bt s 1 from by omega]
      show (putC (kd (bt s 0)) (bt s 1 % 2 == 1) 0 (bt s 1 / 2)).2 = 0 ∧ L (putC (kd (bt s 0)) (bt s 1 % 2 == 1) 0 (bt s 1 / 2)).1 = (L s).take 2
      rw [e]
      refine ⟨rfl, ?_⟩
      rw [L_nums, b0, b1]
      exact two_list (L s) (by omega)
  · rw [if_neg h3]
    have hf := hkd.2.2 (by omega)
    have e : putC (kd (bt s 0)) (Go.bits .and .u8 (bt s 0) 16 != 0) 0 0 = (strOfNums [bt s 0], 0) := by
      unfold putC
      rw [if_pos (by omega), if_neg h3]
      have : rd glFirst (kd (bt s 0)) + 16 * b2i (Go.bits .and .u8 (bt s 0) 16 != 0) = bt s 0 := hf.symm
      rw [this]
    show (putC (kd (bt s 0)) (Go.bits .and .u8 (bt s 0) 16 != 0) 0 0).2 = 0 ∧ L (putC (kd (bt s 0)) (Go.bits .and .u8 (bt s 0) 16 != 0) 0 0).1 = (L s).take 1
    rw [e]
    refine ⟨rfl, ?_⟩
    rw [L_nums, b0]
    exact one_list (L s) (by omega)
theorem seal_of (l : List UInt8) (h : (checkL l).2 = 0) : sealL (checkL l).1 = l := by
  unfold Fcs.checkL at h ⊢
  by_cases h2 : l.length < 2
  · rw [if_pos h2] at h; exact absurd h (by decide)
  · rw [if_neg h2] at h ⊢
    by_cases h3 : sealL (l.take (l.length - 2)) = l
    · rw [if_pos h3]; exact h3
    · rw [if_neg h3] at h; exact absurd h (by decide)
/-- A frame that was read is put as it was. -/
theorem put_read (s : ByteArray) (w : Bool) (h : (getF s w).2.2.2.2.2.2.2.2 = 0) :
    putF (getF s w).1 (getF s w).2.1 (getF s w).2.2.1 (getF s w).2.2.2.1 (getF s w).2.2.2.2.1 (getF s w).2.2.2.2.2.1 (getF s w).2.2.2.2.2.2.1 (getF s w).2.2.2.2.2.2.2.1 w = (s, 0) := by
  unfold getF at h ⊢
  by_cases hc : (checkL (L s)).2 = 0
  · rw [if_pos hc] at h ⊢
    have hsl := seal_of (L s) hc
    have hLb : L (⟨(checkL (L s)).1.toArray⟩ : ByteArray) = (checkL (L s)).1 := L_mk _
    rw [← hLb] at hsl
    generalize (⟨(checkL (L s)).1.toArray⟩ : ByteArray) = b at *
    unfold bodyF at h ⊢
    have pA := putA_get (L b)
    by_cases ha : (getA (L b)).2.2.2 = 0
    · rw [if_pos ha] at h ⊢
      have pC := putC_get (b.extract 2 b.size)
      have bC := getC_bound (b.extract 2 b.size)
      by_cases hr : (getC (b.extract 2 b.size)).2.2.2.2.2 = 0
      · rw [if_pos hr] at h ⊢
        obtain ⟨c1, c2⟩ := pC hr
        obtain ⟨d1, d2, d3⟩ := bC hr
        obtain ⟨a1, a2, a3⟩ := pA ha
        have hb2 : 2 ≤ b.size := by rw [size_L]; exact a3
        rw [cut_from b 2 hb2] at d3
        have hLr : L (b.extract 2 b.size) = (L b).drop 2 := by rw [L_cut, size_L, List.take_of_length_le (Nat.le_refl _)]
        rw [hLr] at c2
        generalize getC (b.extract 2 b.size) = r at *
        generalize getA (L b) = A at *
        have hLi : L (b.extract (2 + r.2.2.2.2.1).toNat b.size) = (L b).drop (2 + r.2.2.2.2.1).toNat := by rw [L_cut, size_L, List.take_of_length_le (Nat.le_refl _)]
        by_cases hm : mayF r.1 (A.2.2.1 == w) = true
        · rw [if_pos hm] at h ⊢
          by_cases hcar : carF r.1 ((b.extract (2 + r.2.2.2.2.1).toNat b.size).size : Int) = true
          · rw [if_pos hcar]
            generalize b.extract (2 + r.2.2.2.2.1).toNat b.size = I at *
            show putF A.1 A.2.1 (A.2.2.1 == w) r.1 r.2.1 r.2.2.1 r.2.2.2.1 I w = (s, 0)
            have hpa : putA A.1 A.2.1 A.2.2.1 = (strOfNums [4 * A.1 + 2 * Addr.num A.2.2.1, 2 * A.2.1 + 1], 0) := by unfold Addr.putA; rw [if_pos a1]
            unfold putF
            rw [eqw, hpa, if_neg (show ¬ ((putC r.1 r.2.1 r.2.2.1 r.2.2.2.1).2 = 4 ∨ mayF r.1 (A.2.2.1 == w) = false) by rw [c1, hm]; decide), if_pos c1, if_pos rfl, if_pos hcar]
            have hall : L ((strOfNums [4 * A.1 + 2 * Addr.num A.2.2.1, 2 * A.2.1 + 1] ++ (putC r.1 r.2.1 r.2.2.1 r.2.2.2.1).1) ++ I) = L b := by
              rw [L_app, L_app, a2, c2, hLi, show (2 + r.2.2.2.2.1).toNat = 2 + r.2.2.2.2.1.toNat from by omega, ← List.drop_drop, List.append_assoc, List.take_append_drop, List.take_append_drop]
            show ((⟨(sealL (L ((strOfNums [4 * A.1 + 2 * Addr.num A.2.2.1, 2 * A.2.1 + 1] ++ (putC r.1 r.2.1 r.2.2.1 r.2.2.2.1).1) ++ I))).toArray⟩ : ByteArray), (0 : Int)) = (s, 0)
            rw [hall, hsl, mk_L]
          · rw [if_neg hcar] at h; exact absurd h (by decide)
        · rw [if_neg hm] at h; exact absurd h (by decide)
      · rw [if_neg hr] at h; exact absurd h hr
    · rw [if_neg ha] at h; exact absurd h ha
  · rw [if_neg hc] at h; exact absurd h (by decide)
theorem bad_of (s : ByteArray) (w : Bool) (h : ¬ (getF s w).2.2.2.2.2.2.2.2 = 0) : ∃ e, getF s w = bad e := by
  unfold getF at h ⊢
  by_cases hc : (checkL (L s)).2 = 0
  · rw [if_pos hc] at h ⊢
    unfold bodyF at h ⊢
    by_cases ha : (getA (L (⟨(checkL (L s)).1.toArray⟩ : ByteArray))).2.2.2 = 0
    · rw [if_pos ha] at h ⊢
      generalize (⟨(checkL (L s)).1.toArray⟩ : ByteArray) = b at *
      by_cases hr : (getC (b.extract 2 b.size)).2.2.2.2.2 = 0
      · rw [if_pos hr] at h ⊢
        by_cases hm : mayF (getC (b.extract 2 b.size)).1 ((getA (L b)).2.2.1 == w) = true
        · rw [if_pos hm] at h ⊢
          by_cases hcar : carF (getC (b.extract 2 b.size)).1 ((b.extract (2 + (getC (b.extract 2 b.size)).2.2.2.2.1).toNat b.size).size : Int) = true
          · rw [if_pos hcar] at h; exact absurd rfl h
          · rw [if_neg hcar]; exact ⟨_, rfl⟩
        · rw [if_neg hm]; exact ⟨_, rfl⟩
      · rw [if_neg hr]; exact ⟨_, rfl⟩
    · rw [if_neg ha]; exact ⟨_, rfl⟩
  · rw [if_neg hc]; exact ⟨_, rfl⟩
theorem back_two (m : Nat) (s : ByteArray) (w : Bool) (hs : s.size ≤ 140737488351232) (hk : s.size + 300 < m) : lapwinglaw06_FrameBack.j1 (m + 1) s w = some true := by
  rw [lapwinglaw06_FrameBack.j1]
  refine bind_at (get_F m s w (by omega) (by omega)) ?_
  by_cases h : (getF s w).2.2.2.2.2.2.2.2 = 0
  · rw [if_pos h]
    have hp := put_read s w h
    have hsz : (getF s w).2.2.2.2.2.2.2.1.size ≤ s.size := by
      have hr := read_back (getF s w).1 (getF s w).2.1 (getF s w).2.2.1 (getF s w).2.2.2.1 (getF s w).2.2.2.2.1 (getF s w).2.2.2.2.2.1 (getF s w).2.2.2.2.2.2.1 (getF s w).2.2.2.2.2.2.2.1 w w (by rw [hp])
      have h5 := hr.2.2.2.2.1
      rw [hp] at h5
      have h5' : (getF s w).2.2.2.2.2.2.2.1.size + 5 ≤ s.size := h5
      omega
    refine bind_at (put_eq m _ _ _ _ _ _ _ _ w (by omega) (by omega)) ?_
    rw [hp]
    refine Eq.trans (if_pos rfl) ?_
    rw [beq_self_eq_true]
  · rw [if_neg h]
    obtain ⟨e, he⟩ := bad_of s w h
    rw [he]
    show some ((((0 : Int) == 0 && ((0 : Int) == 0)) && (!false && ((0 : Int) == 0 && (!false && ((0 : Int) == 0 && ((0 : Int) == 0 && ((⟨#[]⟩ : ByteArray).toList == ([] : List UInt8))))))))) = some true
    have : ((⟨#[]⟩ : ByteArray).toList == ([] : List UInt8)) = true := by decide +kernel
    rw [this]; rfl
theorem back_one (m : Nat) (S : ByteArray) (w : Bool) (hS : S.size ≤ 140737488351232) (hk : S.size + 400 < m) (s t : Int) (c : Bool) (a : Int) (ha : 0 ≤ a) (p : Bool) (x y : Int) (I : ByteArray) (v : Int) (hv : v = if a = 0 then x else 0) :
    lapwinglaw06_FrameBack.j0 (m + 1) S w 0 s t c a p v y I s t c a p (if a = 0 then x else 0) (if a ≤ 3 then y else 0) I = some true := by
  obtain ⟨n, rfl⟩ : ∃ n, m = n + 1 := ⟨m - 1, by omega⟩
  rw [lapwinglaw06_FrameBack.j0]
  refine bind_at (Ctl.num_eq a) ?_
  by_cases h3 : a ≤ 3
  · rw [if_pos (decide_eq_true ⟨ha, h3⟩), if_pos rfl, if_pos h3, ← hv]
    refine Eq.trans (if_neg (by simp)) ?_
    exact back_two n S w hS (by omega)
  · rw [if_neg (by simpa using fun _ => (by omega : 3 < a)), if_pos rfl, if_neg h3, ← hv]
    refine Eq.trans (if_neg (by simp)) ?_
    exact back_two n S w hS (by omega)
theorem FrameBack : lapwinglaw06_FrameBack.Pure := by
  intro s t c a p x y I S w _ _ _ _ _ hI hS
  obtain ⟨k, hk⟩ : ∃ k : Nat, I.size + S.size + 500 < k := ⟨I.size + S.size + 501, by omega⟩
  refine ⟨k + 1, ?_⟩
  unfold lapwinglaw06_FrameBack.f
  have h0 : lapwinglaw06_frames.f s t c a p x y I = some (s, t, c, a, p, x, y, I, s, t, c, a, p, x, y, I) := rfl
  refine bind_at h0 (bind_at (put_eq (k + 1) s t c a p x y I w hI (by omega)) (bind_at (wakes_eq (k + 1) (by omega)) (Eq.trans (if_pos rfl) ?_)))
  by_cases h : (putF s t c a p x y I w).2 = 0
  · refine Eq.trans (if_pos h) ?_
    obtain ⟨h1, h2, h3, h4, h5, h6⟩ := read_back s t c a p x y I w w h
    rw [eqw, if_pos h2] at h1
    refine bind_at (get_F (k + 1) _ w (by omega) (by omega)) ?_
    rw [h1]
    by_cases hz : a = 0
    · refine Eq.trans (if_pos hz) ?_
      exact back_one k S w hS (by omega) s t c a h4.1 p x y I x (by rw [if_pos hz])
    · refine Eq.trans (if_neg hz) ?_
      exact back_one k S w hS (by omega) s t c a h4.1 p x y I 0 (by rw [if_neg hz])
  · refine Eq.trans (if_neg h) ?_
    exact back_two k S w hS (by omega)
end Go.Proofs.YtdpgdnbknmncfaaDoor.Pure
