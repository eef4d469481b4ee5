/- What the printed ctrl.Get comes to at the octets of a control field, whatever follows; the plain statement of CtrlBack. Plain Lean over the printed functions. -/
import Derived.Test.YtbailgigabdhaaaDoorCtrl
import Derived.Test.YtbailgigabdhaaaDoorField
import Derived.Test.YtbailgigabdhaaaDoorPrint6
namespace Go.Proofs.YtbailgigabdhaaaDoor.Ctl
open Go.RowKit Go.Proofs.YtbailgigabdhaaaDoorW.PrintWords Go.Proofs.YtbailgigabdhaaaDoorW.PrintLast Go.Proofs.YtbailgigabdhaaaDoorW.PrintMore Go.Proofs.YtbailgigabdhaaaDoor.Str Go.Proofs.YtbailgigabdhaaaDoor.Field Go.Proofs.YtbailgigabdhaaaDoor.Pack Go.Proofs.YtbailgigabdhaaaDoor.Print Go.Proofs.YtbailgigabdhaaaDoorX
/-- Where an octet stands in the table of first octets, the first left out. -/
def idx (x : Int) : Int := if x = 1 then 0 else if x = 5 then 1 else if x = 9 then 2 else if x = 111 then 3 else if x = 15 then 4 else if x = 3 then 5 else if x = 67 then 6 else if x = 99 then 7 else if x = 135 then 8 else -1
theorem idx_range (x : Int) : -1 ≤ idx x ∧ idx x ≤ 8 := by unfold idx; (repeat' split) <;> omega
theorem idx_step (m : Nat) (x : Int) (i : Nat) (hi : i < 9) : slices_Index_byte_byte.l0 (m + 1) glFirst1 x 9 (i : Int) = if x = rd glFirst1 (i : Int) then some (i : Int) else slices_Index_byte_byte.l0 m glFirst1 x 9 ((i + 1 : Nat) : Int) := by
  rw [slices_Index_byte_byte.l0, if_pos (by omega), if_pos (by omega), if_pos (show (i : Int) < ((glFirst1.length : Nat) : Int) by show (i : Int) < 9; omega)]
  rw [w64 (n := (i : Int) + 1) (by omega) (by omega)]; rfl
theorem idx_eq (k : Nat) (hk : 9 < k) (x : Int) : slices_Index_byte_byte.f k glFirst1 x = some (idx x) := by
  obtain ⟨m, rfl⟩ : ∃ m, k = m + 10 := ⟨k - 10, by omega⟩
  unfold slices_Index_byte_byte.f idx
  show slices_Index_byte_byte.l0 (m + 10) glFirst1 x 9 ((0 : Nat) : Int) = _
  rw [show m + 10 = m + 9 + 1 from rfl, idx_step _ x 0 (by decide), show rd glFirst1 ((0 : Nat) : Int) = 1 from rfl]
  by_cases h0 : x = 1
  · rw [if_pos h0, if_pos h0]; rfl
  rw [if_neg h0, if_neg h0]
  rw [show m + 9 = m + 8 + 1 from rfl, idx_step _ x 1 (by decide), show rd glFirst1 ((1 : Nat) : Int) = 5 from rfl]
  by_cases h1 : x = 5
  · rw [if_pos h1, if_pos h1]; rfl
  rw [if_neg h1, if_neg h1]
  rw [show m + 8 = m + 7 + 1 from rfl, idx_step _ x 2 (by decide), show rd glFirst1 ((2 : Nat) : Int) = 9 from rfl]
  by_cases h2 : x = 9
  · rw [if_pos h2, if_pos h2]; rfl
  rw [if_neg h2, if_neg h2]
  rw [show m + 7 = m + 6 + 1 from rfl, idx_step _ x 3 (by decide), show rd glFirst1 ((3 : Nat) : Int) = 111 from rfl]
  by_cases h3 : x = 111
  · rw [if_pos h3, if_pos h3]; rfl
  rw [if_neg h3, if_neg h3]
  rw [show m + 6 = m + 5 + 1 from rfl, idx_step _ x 4 (by decide), show rd glFirst1 ((4 : Nat) : Int) = 15 from rfl]
  by_cases h4 : x = 15
  · rw [if_pos h4, if_pos h4]; rfl
  rw [if_neg h4, if_neg h4]
  rw [show m + 5 = m + 4 + 1 from rfl, idx_step _ x 5 (by decide), show rd glFirst1 ((5 : Nat) : Int) = 3 from rfl]
  by_cases h5 : x = 3
  · rw [if_pos h5, if_pos h5]; rfl
  rw [if_neg h5, if_neg h5]
  rw [show m + 4 = m + 3 + 1 from rfl, idx_step _ x 6 (by decide), show rd glFirst1 ((6 : Nat) : Int) = 67 from rfl]
  by_cases h6 : x = 67
  · rw [if_pos h6, if_pos h6]; rfl
  rw [if_neg h6, if_neg h6]
  rw [show m + 3 = m + 2 + 1 from rfl, idx_step _ x 7 (by decide), show rd glFirst1 ((7 : Nat) : Int) = 99 from rfl]
  by_cases h7 : x = 99
  · rw [if_pos h7, if_pos h7]; rfl
  rw [if_neg h7, if_neg h7]
  rw [show m + 2 = m + 1 + 1 from rfl, idx_step _ x 8 (by decide), show rd glFirst1 ((8 : Nat) : Int) = 135 from rfl]
  by_cases h8 : x = 135
  · rw [if_pos h8, if_pos h8]; rfl
  rw [if_neg h8, if_neg h8]
  rw [slices_Index_byte_byte.l0]
  exact if_neg (by decide)
/-- The kind that a first octet is looked up as. -/
def kd (x : Int) : Int := if idx x + 1 = 0 then idx (Go.bits .andNot .u8 x 16) + 1 else idx x + 1
theorem get_head (k : Nat) (hk : 9 < k) (s : ByteArray) (h : 0 < s.size) : ctrl_Get.f k s = ctrl_Get.j0 k s (bt s 0) (kd (bt s 0)) := by
  unfold ctrl_Get.f
  have hn : ¬ s.toList = ([] : List UInt8) := by
    rw [toList_L]; intro e
    rw [size_L, e] at h; exact absurd h (by decide)
  rw [if_neg hn, if_pos (by omega)]
  generalize bt s 0 = x
  have r := idx_range x
  refine bind_at (idx_eq k hk x) ?_
  have w : wrap64 (idx x + 1) = idx x + 1 := w64 (by omega) (by omega)
  rw [w]
  unfold kd
  by_cases h0 : idx x + 1 = 0
  · rw [if_pos h0, if_pos h0]
    have r2 := idx_range (Go.bits .andNot .u8 x 16)
    refine bind_at (idx_eq k hk _) ?_
    rw [w64 (n := idx (Go.bits .andNot .u8 x 16) + 1) (by omega) (by omega)]
  · rw [if_neg h0, if_neg h0]
theorem six {a : Int} (h : 4 ≤ a ∧ a < 10) : a = 4 ∨ a = 5 ∨ a = 6 ∨ a = 7 ∨ a = 8 ∨ a = 9 := by omega
theorem u_facts {a : Int} (h : 4 ≤ a ∧ a < 10) (p : Bool) : kd (rd glFirst a + 16 * b2i p) = a ∧ ¬ Go.bits .and .u8 (rd glFirst a + 16 * b2i p) 1 = 0 ∧ (Go.bits .and .u8 (rd glFirst a + 16 * b2i p) 16 != 0) = p := by
  rcases six h with rfl | rfl | rfl | rfl | rfl | rfl <;> cases p <;> decide +kernel
theorem get_U (k : Nat) (hk : 9 < k) (s : ByteArray) (hs : 0 < s.size) {a : Int} (h : 4 ≤ a ∧ a < 10) (p : Bool) (hb : bt s 0 = rd glFirst a + 16 * b2i p) : ctrl_Get.f k s = some (a, p, 0, 0, 1, 0) := by
  obtain ⟨m, rfl⟩ : ∃ m, k = m + 1 + 1 := ⟨k - 2, by omega⟩
  obtain ⟨f1, f2, f3⟩ := u_facts h p
  rw [get_head _ hk s hs, hb, f1]
  generalize rd glFirst a + 16 * b2i p = x at *
  have hn : ctrl_Kind_Numbered.f a = some false := by rw [num_eq, decide_eq_false (by omega)]
  rw [ctrl_Get.j0, if_neg f2, if_neg (by omega)]
  refine bind_at hn (Eq.trans (if_neg (by decide)) ?_)
  rw [ctrl_Get.j1]
  refine bind_at hn (Eq.trans (if_neg (by decide)) ?_)
  rw [f3]
theorem s_facts {a : Int} (h : 1 ≤ a ∧ a ≤ 3) : kd (rd glFirst a) = a ∧ ¬ Go.bits .and .u8 (rd glFirst a) 1 = 0 := by
  have : a = 1 ∨ a = 2 ∨ a = 3 := by omega
  rcases this with rfl | rfl | rfl <;> decide +kernel
theorem two_S (m : Nat) (s : ByteArray) (hs : 2 ≤ s.size) (x y : Int) {a : Int} (h : 1 ≤ a ∧ a ≤ 3) (hy : bt s 1 = y) (y0 : 0 ≤ y) (y1 : y ≤ 255) : ctrl_Get.j1 (m + 1) s x a = some (a, (y % 2 == 1), 0, y / 2 % 128, 2, 0) := by
  rw [ctrl_Get.j1]
  have hn : ctrl_Kind_Numbered.f a = some true := by rw [num_eq, decide_eq_true (by omega)]
  refine bind_at hn (Eq.trans (if_pos rfl) ?_)
  rw [if_neg (by omega), if_pos (by omega), hy]
  refine bind_at (f17 y y0 y1) ?_
  rw [if_neg (by omega), low_bit y y0 y1]
theorem get_S (k : Nat) (hk : 9 < k) (s : ByteArray) (hs : 2 ≤ s.size) {a : Int} (h : 1 ≤ a ∧ a ≤ 3) (hb : bt s 0 = rd glFirst a) (y : Int) (hy : bt s 1 = y) (y0 : 0 ≤ y) (y1 : y ≤ 255) : ctrl_Get.f k s = some (a, (y % 2 == 1), 0, y / 2 % 128, 2, 0) := by
  obtain ⟨m, rfl⟩ : ∃ m, k = m + 1 + 1 := ⟨k - 2, by omega⟩
  obtain ⟨f1, f2⟩ := s_facts h
  rw [get_head _ hk s (by omega), hb, f1]
  have hn : ctrl_Kind_Numbered.f a = some true := by rw [num_eq, decide_eq_true (by omega)]
  rw [ctrl_Get.j0, if_neg f2, if_neg (by omega)]
  refine bind_at hn (Eq.trans (if_pos rfl) ?_)
  rw [if_pos (by omega), if_pos (by omega), if_pos rfl]
  exact two_S m s hs _ y h hy y0 y1
theorem get_I (k : Nat) (hk : 9 < k) (s : ByteArray) (hs : 2 ≤ s.size) (x : Int) (hb : bt s 0 = x) (x0 : 0 ≤ x) (x1 : x ≤ 255) (he : x % 2 = 0) (y : Int) (hy : bt s 1 = y) (y0 : 0 ≤ y) (y1 : y ≤ 255) : ctrl_Get.f k s = some (0, (y % 2 == 1), x / 2 % 128, y / 2 % 128, 2, 0) := by
  obtain ⟨m, rfl⟩ : ∃ m, k = m + 1 + 1 := ⟨k - 2, by omega⟩
  rw [get_head _ hk s (by omega), hb]
  rw [ctrl_Get.j0, if_pos (by rw [low_bit x x0 x1]; exact he), ctrl_Get.j1]
  have hn : ctrl_Kind_Numbered.f 0 = some true := rfl
  refine bind_at hn (Eq.trans (if_pos rfl) ?_)
  rw [if_neg (by omega), if_pos (by omega), hy]
  refine bind_at (f17 y y0 y1) ?_
  rw [if_pos rfl]
  refine bind_at (f17 x x0 x1) ?_
  rw [low_bit y y0 y1]
theorem u8_of (x : Int) (h0 : 0 ≤ x) (h1 : x ≤ 255) : ((UInt8.ofNat x.toNat).toNat : Int) = x := by
  rw [UInt8.toNat_ofNat']; omega
theorem size_two (x y : Int) : (strOfNums [x, y]).size = 2 := nums_size _
theorem size_one (x : Int) : (strOfNums [x]).size = 1 := nums_size _
theorem size_app (s t : ByteArray) : (s ++ t).size = s.size + t.size := by rw [size_L, L_app, List.length_append, ← size_L, ← size_L]
theorem two_0 (x y : Int) (t : ByteArray) (h0 : 0 ≤ x) (h1 : x ≤ 255) : bt (strOfNums [x, y] ++ t) 0 = x := by
  rw [bt_L, L_app, L_nums]
  exact u8_of x h0 h1
theorem two_1 (x y : Int) (t : ByteArray) (h0 : 0 ≤ y) (h1 : y ≤ 255) : bt (strOfNums [x, y] ++ t) 1 = y := by
  rw [bt_L, L_app, L_nums]
  exact u8_of y h0 h1
theorem one_0 (x : Int) (t : ByteArray) (h0 : 0 ≤ x) (h1 : x ≤ 255) : bt (strOfNums [x] ++ t) 0 = x := by
  rw [bt_L, L_app, L_nums]
  exact u8_of x h0 h1
theorem back_err (k : Nat) (hk : 6 < k) (a : Int) (p : Bool) (s r : Int) (t : ByteArray) (e : Int) (he : e ≠ 0) (hP : putC a p s r = (⟨#[]⟩, e)) : lapwinglaw05_CtrlBack.j0 k t (putC a p s r).1 ((putC a p s r).2 != 0) a p s r = some true := by
  obtain ⟨m, rfl⟩ : ∃ m, k = m + 1 := ⟨k - 1, by omega⟩
  rw [hP, lapwinglaw05_CtrlBack.j0]
  refine Eq.trans (if_pos (by simpa using he)) ?_
  refine bind_at (wakes_eq m (by omega)) (Eq.trans (if_pos rfl) ?_)
  have : ((⟨#[]⟩ : ByteArray).toList == ([] : List UInt8)) = true := by decide +kernel
  rw [this]
theorem bit_of (r : Int) (p : Bool) : ((2 * r + b2i p) % 2 == 1) = p := by
  cases p
  · exact beq_false_of_ne (by show ¬ (2 * r + 0) % 2 = 1; omega)
  · exact beq_iff_eq.2 (by show (2 * r + 1) % 2 = 1; omega)
theorem back_I (k : Nat) (hk : 10 < k) (p : Bool) (s r : Int) (hs : 0 ≤ s ∧ s < 128) (hr : 0 ≤ r ∧ r < 128) (t : ByteArray) (ht : t.size ≤ 140737488351232) : lapwinglaw05_CtrlBack.j0 k t (strOfNums [2 * s, 2 * r + b2i p]) false 0 p s r = some true := by
  obtain ⟨m, rfl⟩ : ∃ m, k = m + 1 := ⟨k - 1, by omega⟩
  have hp := b2i_range p
  have z := size_two (2 * s) (2 * r + b2i p)
  have g := get_I m (by omega) (strOfNums [2 * s, 2 * r + b2i p] ++ t) (by rw [size_app, z]; omega) (2 * s) (two_0 _ _ t (by omega) (by omega)) (by omega) (by omega) (by omega) (2 * r + b2i p) (two_1 _ _ t (by omega) (by omega)) (by omega) (by omega)
  rw [lapwinglaw05_CtrlBack.j0]
  refine Eq.trans (if_neg (by decide)) ?_
  refine bind_at (num_eq 0) (Eq.trans (if_pos rfl) (Eq.trans (if_pos rfl) ?_))
  rw [if_pos (by rw [z]; omega)]
  refine bind_at g ?_
  rw [bit_of r p, show 2 * s / 2 % 128 = s from by omega, show (2 * r + b2i p) / 2 % 128 = r from by omega]
  refine Eq.trans (if_pos rfl) (Eq.trans (if_pos (by rw [z]; rfl)) ?_)
  simp
theorem back_S (k : Nat) (hk : 10 < k) {a : Int} (h : 1 ≤ a ∧ a ≤ 3) (p : Bool) (s r : Int) (hr : 0 ≤ r ∧ r < 128) (t : ByteArray) (ht : t.size ≤ 140737488351232) : lapwinglaw05_CtrlBack.j0 k t (strOfNums [rd glFirst a, 2 * r + b2i p]) false a p s r = some true := by
  obtain ⟨m, rfl⟩ : ∃ m, k = m + 1 := ⟨k - 1, by omega⟩
  have hp := b2i_range p
  have hf := fo_range (a := a) (by omega)
  have z := size_two (rd glFirst a) (2 * r + b2i p)
  have g := get_S m (by omega) (strOfNums [rd glFirst a, 2 * r + b2i p] ++ t) (by rw [size_app, z]; omega) h (two_0 _ _ t (by omega) (by omega)) (2 * r + b2i p) (two_1 _ _ t (by omega) (by omega)) (by omega) (by omega)
  rw [lapwinglaw05_CtrlBack.j0]
  refine Eq.trans (if_neg (by decide)) ?_
  refine bind_at (num_eq a) ?_
  rw [if_pos (decide_eq_true (by omega)), if_neg (by omega), if_pos (by rw [z]; omega)]
  refine bind_at g ?_
  rw [bit_of r p, show (2 * r + b2i p) / 2 % 128 = r from by omega]
  refine Eq.trans (if_pos rfl) (Eq.trans (if_pos (by rw [z]; rfl)) ?_)
  simp
theorem back_U (k : Nat) (hk : 10 < k) {a : Int} (h : 4 ≤ a ∧ a < 10) (p : Bool) (s r : Int) (t : ByteArray) (ht : t.size ≤ 140737488351232) : lapwinglaw05_CtrlBack.j0 k t (strOfNums [rd glFirst a + 16 * b2i p]) false a p s r = some true := by
  obtain ⟨m, rfl⟩ : ∃ m, k = m + 1 := ⟨k - 1, by omega⟩
  have hp := b2i_range p
  have hf := fo_range (a := a) (by omega)
  have z := size_one (rd glFirst a + 16 * b2i p)
  have g := get_U m (by omega) (strOfNums [rd glFirst a + 16 * b2i p] ++ t) (by rw [size_app, z]; omega) h p (one_0 _ t (by omega) (by omega))
  rw [lapwinglaw05_CtrlBack.j0]
  refine Eq.trans (if_neg (by decide)) ?_
  refine bind_at (num_eq a) ?_
  rw [if_neg (by rw [decide_eq_false (by omega)]; decide), if_neg (by omega), if_pos (by rw [z]; omega)]
  refine bind_at g ?_
  refine Eq.trans (if_pos rfl) (Eq.trans (if_pos (by rw [z]; rfl)) ?_)
  simp
end Go.Proofs.YtbailgigabdhaaaDoor.Ctl
namespace Go.Proofs.YtbailgigabdhaaaDoor.Pure
open Go.RowKit Go.Proofs.YtbailgigabdhaaaDoorW.PrintWords Go.Proofs.YtbailgigabdhaaaDoorW.PrintLast Go.Proofs.YtbailgigabdhaaaDoorW.PrintMore Go.Proofs.YtbailgigabdhaaaDoor.Str Go.Proofs.YtbailgigabdhaaaDoor.Field Go.Proofs.YtbailgigabdhaaaDoor.Ctl Go.Proofs.YtbailgigabdhaaaDoor.Print Go.Proofs.YtbailgigabdhaaaDoorX
theorem CtrlBack : lapwinglaw05_CtrlBack.Pure := by
  intro a p s r t _ _ _ ht
  obtain ⟨k, hk⟩ : ∃ k, 10 < k := ⟨11, by omega⟩
  refine ⟨k, ?_⟩
  unfold lapwinglaw05_CtrlBack.f
  refine bind_at (show lapwinglaw05_made.f a p s r = some (a, p, s, r) from rfl) ?_
  refine bind_at (put_eq k (by omega) a p s r) (bind_at (wakes_eq k (by omega)) (Eq.trans (if_pos rfl) ?_))
  by_cases h : 0 ≤ a ∧ a < 10
  · by_cases h3 : a ≤ 3
    · by_cases hr : 0 ≤ r ∧ r < 128
      · by_cases h0 : a = 0
        · subst h0
          by_cases hs : 0 ≤ s ∧ s < 128
          · have hP : putC 0 p s r = (strOfNums [2 * s, 2 * r + b2i p], 0) := by unfold putC; rw [if_pos h, if_pos h3, if_pos hr, if_pos rfl, if_pos hs]
            rw [hP]
            exact back_I k hk p s r hs hr t ht
          · exact back_err k (by omega) 0 p s r t 2 (by decide) (by unfold putC; rw [if_pos h, if_pos h3, if_pos hr, if_pos rfl, if_neg hs])
        · have hP : putC a p s r = (strOfNums [rd glFirst a, 2 * r + b2i p], 0) := by unfold putC; rw [if_pos h, if_pos h3, if_pos hr, if_neg h0]
          rw [hP]
          exact back_S k hk (by omega) p s r hr t ht
      · exact back_err k (by omega) a p s r t 2 (by decide) (by unfold putC; rw [if_pos h, if_pos h3, if_neg hr])
    · have hP : putC a p s r = (strOfNums [rd glFirst a + 16 * b2i p], 0) := by unfold putC; rw [if_pos h, if_neg h3]
      rw [hP]
      exact back_U k hk (by omega) p s r t ht
  · exact back_err k (by omega) a p s r t 4 (by decide) (by unfold putC; rw [if_neg h])
end Go.Proofs.YtbailgigabdhaaaDoor.Pure
