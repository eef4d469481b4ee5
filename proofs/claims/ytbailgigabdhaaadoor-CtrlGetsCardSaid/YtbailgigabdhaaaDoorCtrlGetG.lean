/- What the printed ctrl.Get comes to at all octets: the document's Get says the same. Plain Lean over the printed functions. -/
import Derived.Test.YtbailgigabdhaaaDoorArith
import Derived.Test.YtbailgigabdhaaaDoorLaidCtrl
import Derived.Test.YtbailgigabdhaaaDoorGets3
namespace Go.Proofs.YtbailgigabdhaaaDoor.CtlG
open Go.RowKit Go.Proofs.YtbailgigabdhaaaDoorW.PrintWords Go.Proofs.YtbailgigabdhaaaDoorW.PrintLast Go.Proofs.YtbailgigabdhaaaDoorW.PrintMore Go.Proofs.YtbailgigabdhaaaDoor.Str Go.Proofs.YtbailgigabdhaaaDoor.Field Go.Proofs.YtbailgigabdhaaaDoor.Gets Go.Proofs.YtbailgigabdhaaaDoorX
theorem field_at (x : Int) (h0 : 0 ≤ x) (h1 : x ≤ 255) (l c : Nat) (hl : l < 8) (hc : 1 ≤ c) (hc8 : c ≤ 8) :
    bits_Field.f x (l : Int) (c : Int) = some (x / 2 ^ l % 2 ^ c) := by
  unfold bits_Field.f
  rw [if_neg (by omega), if_neg (by omega), if_neg (by omega), if_pos (by omega)]
  have hm : mn (c : Int) 8 = c := by unfold mn; omega
  rw [hm, if_pos (by omega)]
  have hd : shr .u8 x (l : Int) = x / 2 ^ l := by
    unfold shr
    rw [show min ((l : Int).toNat) (IntKind.u8).bits = l from by simp [IntKind.bits]; omega]
  have hx : 0 ≤ x / 2 ^ l ∧ x / 2 ^ l ≤ 255 := by
    have : l = 0 ∨ l = 1 ∨ l = 2 ∨ l = 3 ∨ l = 4 ∨ l = 5 ∨ l = 6 ∨ l = 7 := by omega
    rcases this with rfl | rfl | rfl | rfl | rfl | rfl | rfl | rfl <;> simp <;> omega
  have hw : wrap64 (x / 2 ^ l) = x / 2 ^ l := by unfold wrap64; omega
  have hp : wrap64 (wrap64 (2 ^ ((c : Int)).toNat) - 1) = 2 ^ c - 1 := by
    have : c = 1 ∨ c = 2 ∨ c = 3 ∨ c = 4 ∨ c = 5 ∨ c = 6 ∨ c = 7 ∨ c = 8 := by omega
    rcases this with rfl | rfl | rfl | rfl | rfl | rfl | rfl | rfl <;> simp [wrap64]
  rw [hd, hw, hp, mask_i64 c (by omega) _ hx.1 (by omega)]
theorem f17 (x : Int) (h0 : 0 ≤ x) (h1 : x ≤ 255) : bits_Field.f x 1 7 = some (x / 2 % 128) := field_at x h0 h1 1 7 (by decide) (by decide) (by decide)
theorem ten {a : Int} (h : 0 ≤ a ∧ a < 10) : a = 0 ∨ a = 1 ∨ a = 2 ∨ a = 3 ∨ a = 4 ∨ a = 5 ∨ a = 6 ∨ a = 7 ∨ a = 8 ∨ a = 9 := by omega
theorem num_eq (a : Int) : ctrl_Kind_Numbered.f a = some (decide (0 ≤ a ∧ a ≤ 3)) := by
  unfold ctrl_Kind_Numbered.f
  by_cases h : a ≥ 0
  · rw [if_pos h]; simp [h]
  · rw [if_neg h]; simp [h]
theorem rnum_eq (a : Int) : lapwingref05_Numbered.f a = some (decide (0 ≤ a ∧ a ≤ 3)) := by
  unfold lapwingref05_Numbered.f
  by_cases h0 : a = 0
  · rw [if_pos h0]; subst h0; rfl
  · rw [if_neg h0]
    by_cases h1 : a = 1
    · rw [if_pos h1]; subst h1; rfl
    · rw [if_neg h1]
      by_cases h2 : a = 2
      · rw [if_pos h2]; subst h2; rfl
      · rw [if_neg h2]
        by_cases h3 : a = 3
        · subst h3; rfl
        · rw [beq_false_of_ne h3, decide_eq_false (by omega)]
/-- A bit as a number. -/
def b2i (b : Bool) : Int := if b = true then 1 else 0
theorem b2i_range (b : Bool) : 0 ≤ b2i b ∧ b2i b ≤ 1 := by cases b <;> decide
theorem fo_range {a : Int} (h : 0 ≤ a ∧ a < 10) : 0 ≤ rd glFirst a ∧ rd glFirst a ≤ 135 := by
  rcases ten h with rfl | rfl | rfl | rfl | rfl | rfl | rfl | rfl | rfl | rfl <;> decide
theorem octet_eq {a : Int} (h : 0 ≤ a ∧ a < 10) : lapwingref05_octet.f a = some (rd glFirst a) := by
  rcases ten h with rfl | rfl | rfl | rfl | rfl | rfl | rfl | rfl | rfl | rfl <;> rfl
/-- Where an octet stands in the table of first octets, the first left out. -/
def idx (x : Int) : Int := if x = 1 then 0 else if x = 5 then 1 else if x = 9 then 2 else if x = 111 then 3 else if x = 15 then 4 else if x = 3 then 5 else if x = 67 then 6 else if x = 99 then 7 else if x = 135 then 8 else -1
theorem idx_range (x : Int) : -1 ≤ idx x ∧ idx x ≤ 8 := by unfold idx; (repeat' split) <;> omega
theorem idx_step (m : Nat) (x : Int) (i : Nat) (hi : i < 9) : slices_Index_byte_byte.l0 (m + 1) glFirst1 x 9 (i : Int) = if x = rd glFirst1 (i : Int) then some (i : Int) else slices_Index_byte_byte.l0 m glFirst1 x 9 ((i + 1 : Nat) : Int) := by
  rw [slices_Index_byte_byte.l0, if_pos (by omega), if_pos (by omega), if_pos (show (i : Int) < ((glFirst1.length : Nat) : Int) by show (i : Int) < 9; omega)]
  rw [w64 (n := (i : Int) + 1) (by omega) (by omega)]; rfl
theorem idx_eq (k : Nat) (hk : 9 < k) (x : Int) : slices_Index_byte_byte.f k glFirst1 x = some (idx x) := by
  obtain ⟨m, rfl⟩ : ∃ m, k = m + 10 := ⟨k - 10, by omega⟩
  unfold slices_Index_byte_byte.f idx
  show slices_Index_byte_byte.l0 (m + 10) glFirst1 x 9 ((0 : Nat) : Int) = _
  rw [show m + 10 = m + 9 + 1 from rfl, idx_step _ x 0 (by decide), show rd glFirst1 ((0 : Nat) : Int) = 1 from rfl]
  by_cases h0 : x = 1
  · rw [if_pos h0, if_pos h0]; rfl
  rw [if_neg h0, if_neg h0]
  rw [show m + 9 = m + 8 + 1 from rfl, idx_step _ x 1 (by decide), show rd glFirst1 ((1 : Nat) : Int) = 5 from rfl]
  by_cases h1 : x = 5
  · rw [if_pos h1, if_pos h1]; rfl
  rw [if_neg h1, if_neg h1]
  rw [show m + 8 = m + 7 + 1 from rfl, idx_step _ x 2 (by decide), show rd glFirst1 ((2 : Nat) : Int) = 9 from rfl]
  by_cases h2 : x = 9
  · rw [if_pos h2, if_pos h2]; rfl
  rw [if_neg h2, if_neg h2]
  rw [show m + 7 = m + 6 + 1 from rfl, idx_step _ x 3 (by decide), show rd glFirst1 ((3 : Nat) : Int) = 111 from rfl]
  by_cases h3 : x = 111
  · rw [if_pos h3, if_pos h3]; rfl
  rw [if_neg h3, if_neg h3]
  rw [show m + 6 = m + 5 + 1 from rfl, idx_step _ x 4 (by decide), show rd glFirst1 ((4 : Nat) : Int) = 15 from rfl]
  by_cases h4 : x = 15
  · rw [if_pos h4, if_pos h4]; rfl
  rw [if_neg h4, if_neg h4]
  rw [show m + 5 = m + 4 + 1 from rfl, idx_step _ x 5 (by decide), show rd glFirst1 ((5 : Nat) : Int) = 3 from rfl]
  by_cases h5 : x = 3
  · rw [if_pos h5, if_pos h5]; rfl
  rw [if_neg h5, if_neg h5]
  rw [show m + 4 = m + 3 + 1 from rfl, idx_step _ x 6 (by decide), show rd glFirst1 ((6 : Nat) : Int) = 67 from rfl]
  by_cases h6 : x = 67
  · rw [if_pos h6, if_pos h6]; rfl
  rw [if_neg h6, if_neg h6]
  rw [show m + 3 = m + 2 + 1 from rfl, idx_step _ x 7 (by decide), show rd glFirst1 ((7 : Nat) : Int) = 99 from rfl]
  by_cases h7 : x = 99
  · rw [if_pos h7, if_pos h7]; rfl
  rw [if_neg h7, if_neg h7]
  rw [show m + 2 = m + 1 + 1 from rfl, idx_step _ x 8 (by decide), show rd glFirst1 ((8 : Nat) : Int) = 135 from rfl]
  by_cases h8 : x = 135
  · rw [if_pos h8, if_pos h8]; rfl
  rw [if_neg h8, if_neg h8]
  rw [slices_Index_byte_byte.l0]
  exact if_neg (by decide)
/-- The kind that a first octet is looked up as. -/
def kd (x : Int) : Int := if idx x + 1 = 0 then idx (Go.bits .andNot .u8 x 16) + 1 else idx x + 1
theorem get_head (k : Nat) (hk : 9 < k) (s : ByteArray) (h : 0 < s.size) : ctrl_Get.f k s = ctrl_Get.j0 k s (bt s 0) (kd (bt s 0)) := by
  unfold ctrl_Get.f
  have hn : ¬ s.toList = ([] : List UInt8) := by
    rw [toList_L]; intro e
    rw [size_L, e] at h; exact absurd h (by decide)
  rw [if_neg hn, if_pos (by omega)]
  generalize bt s 0 = x
  have r := idx_range x
  refine bind_at (idx_eq k hk x) ?_
  have w : wrap64 (idx x + 1) = idx x + 1 := w64 (by omega) (by omega)
  rw [w]
  unfold kd
  by_cases h0 : idx x + 1 = 0
  · rw [if_pos h0, if_pos h0]
    have r2 := idx_range (Go.bits .andNot .u8 x 16)
    refine bind_at (idx_eq k hk _) ?_
    rw [w64 (n := idx (Go.bits .andNot .u8 x 16) + 1) (by omega) (by omega)]
  · rw [if_neg h0, if_neg h0]
theorem six {a : Int} (h : 4 ≤ a ∧ a < 10) : a = 4 ∨ a = 5 ∨ a = 6 ∨ a = 7 ∨ a = 8 ∨ a = 9 := by omega
theorem u_facts {a : Int} (h : 4 ≤ a ∧ a < 10) (p : Bool) : kd (rd glFirst a + 16 * b2i p) = a ∧ ¬ Go.bits .and .u8 (rd glFirst a + 16 * b2i p) 1 = 0 ∧ (Go.bits .and .u8 (rd glFirst a + 16 * b2i p) 16 != 0) = p := by
  rcases six h with rfl | rfl | rfl | rfl | rfl | rfl <;> cases p <;> decide +kernel
theorem get_U (k : Nat) (hk : 9 < k) (s : ByteArray) (hs : 0 < s.size) {a : Int} (h : 4 ≤ a ∧ a < 10) (p : Bool) (hb : bt s 0 = rd glFirst a + 16 * b2i p) : ctrl_Get.f k s = some (a, p, 0, 0, 1, 0) := by
  obtain ⟨m, rfl⟩ : ∃ m, k = m + 1 + 1 := ⟨k - 2, by omega⟩
  obtain ⟨f1, f2, f3⟩ := u_facts h p
  rw [get_head _ hk s hs, hb, f1]
  generalize rd glFirst a + 16 * b2i p = x at *
  have hn : ctrl_Kind_Numbered.f a = some false := by rw [num_eq, decide_eq_false (by omega)]
  rw [ctrl_Get.j0, if_neg f2, if_neg (by omega)]
  refine bind_at hn (Eq.trans (if_neg (by decide)) ?_)
  rw [ctrl_Get.j1]
  refine bind_at hn (Eq.trans (if_neg (by decide)) ?_)
  rw [f3]
theorem s_facts {a : Int} (h : 1 ≤ a ∧ a ≤ 3) : kd (rd glFirst a) = a ∧ ¬ Go.bits .and .u8 (rd glFirst a) 1 = 0 := by
  have : a = 1 ∨ a = 2 ∨ a = 3 := by omega
  rcases this with rfl | rfl | rfl <;> decide +kernel
theorem two_S (m : Nat) (s : ByteArray) (hs : 2 ≤ s.size) (x y : Int) {a : Int} (h : 1 ≤ a ∧ a ≤ 3) (hy : bt s 1 = y) (y0 : 0 ≤ y) (y1 : y ≤ 255) : ctrl_Get.j1 (m + 1) s x a = some (a, (y % 2 == 1), 0, y / 2 % 128, 2, 0) := by
  rw [ctrl_Get.j1]
  have hn : ctrl_Kind_Numbered.f a = some true := by rw [num_eq, decide_eq_true (by omega)]
  refine bind_at hn (Eq.trans (if_pos rfl) ?_)
  rw [if_neg (by omega), if_pos (by omega), hy]
  refine bind_at (f17 y y0 y1) ?_
  rw [if_neg (by omega), low_bit y y0 y1]
theorem get_S (k : Nat) (hk : 9 < k) (s : ByteArray) (hs : 2 ≤ s.size) {a : Int} (h : 1 ≤ a ∧ a ≤ 3) (hb : bt s 0 = rd glFirst a) (y : Int) (hy : bt s 1 = y) (y0 : 0 ≤ y) (y1 : y ≤ 255) : ctrl_Get.f k s = some (a, (y % 2 == 1), 0, y / 2 % 128, 2, 0) := by
  obtain ⟨m, rfl⟩ : ∃ m, k = m + 1 + 1 := ⟨k - 2, by omega⟩
  obtain ⟨f1, f2⟩ := s_facts h
  rw [get_head _ hk s (by omega), hb, f1]
  have hn : ctrl_Kind_Numbered.f a = some true := by rw [num_eq, decide_eq_true (by omega)]
  rw [ctrl_Get.j0, if_neg f2, if_neg (by omega)]
  refine bind_at hn (Eq.trans (if_pos rfl) ?_)
  rw [if_pos (by omega), if_pos (by omega), if_pos rfl]
  exact two_S m s hs _ y h hy y0 y1
theorem get_I (k : Nat) (hk : 9 < k) (s : ByteArray) (hs : 2 ≤ s.size) (x : Int) (hb : bt s 0 = x) (x0 : 0 ≤ x) (x1 : x ≤ 255) (he : x % 2 = 0) (y : Int) (hy : bt s 1 = y) (y0 : 0 ≤ y) (y1 : y ≤ 255) : ctrl_Get.f k s = some (0, (y % 2 == 1), x / 2 % 128, y / 2 % 128, 2, 0) := by
  obtain ⟨m, rfl⟩ : ∃ m, k = m + 1 + 1 := ⟨k - 2, by omega⟩
  rw [get_head _ hk s (by omega), hb]
  rw [ctrl_Get.j0, if_pos (by rw [low_bit x x0 x1]; exact he), ctrl_Get.j1]
  have hn : ctrl_Kind_Numbered.f 0 = some true := rfl
  refine bind_at hn (Eq.trans (if_pos rfl) ?_)
  rw [if_neg (by omega), if_pos (by omega), hy]
  refine bind_at (f17 y y0 y1) ?_
  rw [if_pos rfl]
  refine bind_at (f17 x x0 x1) ?_
  rw [low_bit y y0 y1]
/-- Does the document's kind j not begin with x? -/
def miss (x : Int) (j : Nat) : Bool := if j = 0 then decide (x % 2 ≠ 0) else if j ≤ 3 then decide (x ≠ rd glFirst (j : Int)) else decide (x ≠ rd glFirst (j : Int) ∧ x ≠ rd glFirst (j : Int) + 16)
theorem ref_step (m : Nat) (s : ByteArray) (x : Int) (x0 : 0 ≤ x) (j : Nat) (hj : j < 10) (h : miss x j = true) : lapwingref05_Get.l0 (m + 2) s x (j : Int) = lapwingref05_Get.l0 m s x ((j + 1 : Nat) : Int) := by
  have w1 : wrap64 ((j : Int) + 1) = ((j + 1 : Nat) : Int) := by rw [w64 (by omega) (by omega)]; rfl
  have hr := fo_range (a := (j : Int)) (by omega)
  have w2 : wrap64 (rd glFirst (j : Int) + 16) = rd glFirst (j : Int) + 16 := w64 (by omega) (by omega)
  rw [lapwingref05_Get.l0, if_pos (by omega)]
  refine bind_at (rnum_eq _) (bind_at (octet_eq (by omega)) ?_)
  unfold miss at h
  by_cases h0 : j = 0
  · subst h0
    rw [if_pos rfl] at h
    have h := of_decide_eq_true h
    rw [if_pos (by decide), if_pos (show ((0 : Nat) : Int) = 0 from rfl), if_neg (by rw [Int.tmod_eq_emod_of_nonneg x0]; exact h), lapwingref05_Get.j1]
    refine Eq.trans (if_neg (by decide)) (Eq.trans (if_pos (by decide)) ?_)
    rw [w1]
  · rw [if_neg h0] at h
    by_cases h3 : j ≤ 3
    · rw [if_pos h3] at h
      have h := of_decide_eq_true h
      rw [if_pos (decide_eq_true (by omega)), if_neg (by omega), lapwingref05_Get.j1, if_neg (by simpa using h), if_pos (decide_eq_true (by omega)), w1]
    · rw [if_neg h3] at h
      have h := of_decide_eq_true h
      rw [if_neg (by simp; omega), lapwingref05_Get.j1]
      refine Eq.trans (if_neg (by decide)) ?_
      rw [if_neg (by simp; omega), if_neg h.1, w2, if_neg h.2, w1]
theorem ref_to (m : Nat) (s : ByteArray) (x : Int) (x0 : 0 ≤ x) : ∀ (n i : Nat), i + n ≤ 10 → (∀ j, i ≤ j → j < i + n → miss x j = true) → lapwingref05_Get.l0 (m + 2 * n) s x (i : Int) = lapwingref05_Get.l0 m s x ((i + n : Nat) : Int)
  | 0, i, _, _ => rfl
  | n + 1, i, hi, h => by
    rw [show m + 2 * (n + 1) = (m + 2 * n) + 2 from by omega, ref_step (m + 2 * n) s x x0 i (by omega) (h i (Nat.le_refl _) (by omega)), ref_to m s x x0 n (i + 1) (by omega) (fun j h1 h2 => h j (by omega) (by omega)), show i + 1 + n = i + (n + 1) from by omega]
theorem ref_I (m : Nat) (s : ByteArray) (x : Int) (x0 : 0 ≤ x) (x1 : x ≤ 255) (he : x % 2 = 0) :
    lapwingref05_Get.l0 (m + 2) s x 0 = (if (s.size : Int) < 2 then some (0, false, 0, 0, 0, 3) else some (0, (bt s 1 % 2 == 1), x / 2, bt s 1 / 2, 2, 0)) := by
  have hb : 0 ≤ bt s 1 ∧ bt s 1 ≤ 255 := by rw [bt_L]; exact at_range _ _
  rw [lapwingref05_Get.l0, if_pos (by decide)]
  refine bind_at (rnum_eq _) (bind_at (octet_eq (by omega)) ?_)
  rw [if_pos (by decide), if_pos rfl, if_pos (by rw [Int.tmod_eq_emod_of_nonneg x0]; exact he), lapwingref05_Get.j1, if_pos rfl]
  by_cases hs : (s.size : Int) < 2
  · rw [if_pos hs, if_pos hs]
  · rw [if_neg hs, if_neg hs, if_pos (by omega), if_pos rfl, w64 (n := bt s 1) (by omega) (by omega), Int.tmod_eq_emod_of_nonneg hb.1, Int.tdiv_eq_ediv_of_nonneg hb.1, Int.tdiv_eq_ediv_of_nonneg x0, w64 (n := x / 2) (by omega) (by omega), w64 (n := bt s 1 / 2) (by omega) (by omega)]
theorem ref_S (m : Nat) (s : ByteArray) (j : Nat) (hj : 1 ≤ j ∧ j ≤ 3) (x : Int) (hx : x = rd glFirst (j : Int)) :
    lapwingref05_Get.l0 (m + 2) s x (j : Int) = (if (s.size : Int) < 2 then some (0, false, 0, 0, 0, 3) else some ((j : Int), (bt s 1 % 2 == 1), 0, bt s 1 / 2, 2, 0)) := by
  have hb : 0 ≤ bt s 1 ∧ bt s 1 ≤ 255 := by rw [bt_L]; exact at_range _ _
  rw [lapwingref05_Get.l0, if_pos (by omega)]
  refine bind_at (rnum_eq _) (bind_at (octet_eq (by omega)) ?_)
  rw [if_pos (decide_eq_true (by omega)), if_neg (by omega), lapwingref05_Get.j1, if_pos (by simpa using hx)]
  by_cases hs : (s.size : Int) < 2
  · rw [if_pos hs, if_pos hs]
  · rw [if_neg hs, if_neg hs, if_pos (by omega), if_neg (by omega), w64 (n := bt s 1) (by omega) (by omega), Int.tmod_eq_emod_of_nonneg hb.1, Int.tdiv_eq_ediv_of_nonneg hb.1, w64 (n := bt s 1 / 2) (by omega) (by omega)]
theorem ref_U (m : Nat) (s : ByteArray) (j : Nat) (hj : 4 ≤ j ∧ j < 10) (p : Bool) (x : Int) (hx : x = rd glFirst (j : Int) + 16 * b2i p) :
    lapwingref05_Get.l0 (m + 2) s x (j : Int) = some ((j : Int), p, 0, 0, 1, 0) := by
  have hr := fo_range (a := (j : Int)) (by omega)
  have w2 : wrap64 (rd glFirst (j : Int) + 16) = rd glFirst (j : Int) + 16 := w64 (by omega) (by omega)
  rw [lapwingref05_Get.l0, if_pos (by omega)]
  refine bind_at (rnum_eq _) (bind_at (octet_eq (by omega)) ?_)
  rw [if_neg (by simp; omega), lapwingref05_Get.j1]
  refine Eq.trans (if_neg (by decide)) ?_
  rw [if_neg (by simp; omega), w2]
  cases p
  · have hx : x = rd glFirst (j : Int) := by rw [hx]; show _ + 16 * 0 = _; omega
    rw [if_pos hx, beq_false_of_ne (by omega)]
  · have hx : x = rd glFirst (j : Int) + 16 := hx
    rw [if_neg (by omega), if_pos hx, hx, beq_self_eq_true]
theorem ref_end (m : Nat) (s : ByteArray) (x : Int) : lapwingref05_Get.l0 (m + 1) s x ((10 : Nat) : Int) = some (0, false, 0, 0, 0, 4) := by
  rw [lapwingref05_Get.l0, if_neg (by decide)]
/-- Of every first octet: which kind's it is. -/
theorem octets_all : ∀ n : Fin 256, ((n.val : Nat) : Int) % 2 = 0 ∨ (∃ j : Fin 10, (1 ≤ j.val ∧ j.val ≤ 3) ∧ ((n.val : Nat) : Int) = rd glFirst ((j.val : Nat) : Int) ∧ ∀ i : Fin 10, i < j → miss ((n.val : Nat) : Int) i.val = true) ∨
    (∃ j : Fin 10, ∃ p : Bool, (4 ≤ j.val) ∧ ((n.val : Nat) : Int) = rd glFirst ((j.val : Nat) : Int) + 16 * b2i p ∧ ∀ i : Fin 10, i < j → miss ((n.val : Nat) : Int) i.val = true) ∨
    (((n.val : Nat) : Int) % 2 = 1 ∧ (kd ((n.val : Nat) : Int) = 0 ∨ ((1 ≤ kd ((n.val : Nat) : Int) ∧ kd ((n.val : Nat) : Int) ≤ 3) ∧ ((n.val : Nat) : Int) ≠ rd glFirst (kd ((n.val : Nat) : Int)))) ∧ ∀ i : Fin 10, miss ((n.val : Nat) : Int) i.val = true) := by decide +kernel
/-- The control field that octets begin with, and its length, or the error: both packages say the same. -/
theorem get_same (k : Nat) (hk : 30 < k) (s : ByteArray) : ∃ r : Int × Bool × Int × Int × Int × Int, ctrl_Get.f k s = some r ∧ lapwingref05_Get.f k s = some r := by
  by_cases h0 : s.size = 0
  · refine ⟨(0, false, 0, 0, 0, 3), ?_, ?_⟩
    · unfold ctrl_Get.f
      exact if_pos (by rw [toList_L]; exact List.length_eq_zero_iff.1 (by rw [← size_L]; exact h0))
    · unfold lapwingref05_Get.f
      exact if_pos (by omega)
  have hx : 0 ≤ bt s 0 ∧ bt s 0 ≤ 255 := by rw [bt_L]; exact at_range _ _
  have hy : 0 ≤ bt s 1 ∧ bt s 1 ≤ 255 := by rw [bt_L]; exact at_range _ _
  have href : lapwingref05_Get.f k s = lapwingref05_Get.l0 k s (bt s 0) 0 := by
    unfold lapwingref05_Get.f
    rw [if_neg (by omega), if_pos (by omega), w64 (n := bt s 0) (by omega) (by omega)]
  have hall := octets_all ⟨(bt s 0).toNat, by omega⟩
  rw [show (((⟨(bt s 0).toNat, by omega⟩ : Fin 256).val : Nat) : Int) = bt s 0 from by show ((bt s 0).toNat : Int) = bt s 0; omega] at hall
  rcases hall with he | ⟨j, hj, hv, hm⟩ | ⟨j, p, hj, hv, hm⟩ | ⟨ho, hb, hm⟩
  · have href2 := href.trans ((congrArg (fun z => lapwingref05_Get.l0 z s (bt s 0) 0) (show k = (k - 2) + 2 by omega)).trans (ref_I (k - 2) s (bt s 0) hx.1 hx.2 he))
    by_cases hs : (s.size : Int) < 2
    · rw [if_pos hs] at href2
      refine ⟨_, ?_, href2⟩
      obtain ⟨m, rfl⟩ : ∃ m, k = m + 1 + 1 := ⟨k - 2, by omega⟩
      rw [get_head _ (by omega) s (by omega), ctrl_Get.j0, if_pos (by rw [low_bit _ hx.1 hx.2]; exact he), ctrl_Get.j1]
      have hn : ctrl_Kind_Numbered.f 0 = some true := rfl
      exact bind_at hn (Eq.trans (if_pos rfl) (if_pos hs))
    · rw [if_neg hs] at href2
      refine ⟨_, ?_, href2⟩
      rw [get_I k (by omega) s (by omega) (bt s 0) rfl hx.1 hx.2 he (bt s 1) rfl hy.1 hy.2, show bt s 0 / 2 % 128 = bt s 0 / 2 from by omega, show bt s 1 / 2 % 128 = bt s 1 / 2 from by omega]
  · have hto := ref_to (k - 2 * j.val - 2 + 2) s (bt s 0) hx.1 j.val 0 (by omega) (fun i _ h2 => hm ⟨i, by omega⟩ (show i < j.val by omega))
    rw [Nat.zero_add] at hto
    have href2 := href.trans ((congrArg (fun z => lapwingref05_Get.l0 z s (bt s 0) 0) (show k = (k - 2 * j.val - 2) + 2 + 2 * j.val by omega)).trans (hto.trans (ref_S (k - 2 * j.val - 2) s j.val hj (bt s 0) hv)))
    by_cases hs : (s.size : Int) < 2
    · rw [if_pos hs] at href2
      refine ⟨_, ?_, href2⟩
      obtain ⟨m, rfl⟩ : ∃ m, k = m + 1 + 1 := ⟨k - 2, by omega⟩
      obtain ⟨f1, f2⟩ := s_facts (a := (j.val : Int)) (by omega)
      rw [get_head _ (by omega) s (by omega), hv, f1]
      have hn : ctrl_Kind_Numbered.f (j.val : Int) = some true := by rw [num_eq, decide_eq_true (by omega)]
      rw [ctrl_Get.j0, if_neg f2, if_neg (by omega)]
      refine bind_at hn (Eq.trans (if_pos rfl) ?_)
      rw [if_pos (by omega), if_pos (by omega), if_pos rfl, ctrl_Get.j1]
      exact bind_at hn (Eq.trans (if_pos rfl) (if_pos hs))
    · rw [if_neg hs] at href2
      refine ⟨_, ?_, href2⟩
      rw [get_S k (by omega) s (by omega) (a := (j.val : Int)) (by omega) hv (bt s 1) rfl hy.1 hy.2, show bt s 1 / 2 % 128 = bt s 1 / 2 from by omega]
  · refine ⟨_, get_U k (by omega) s (by omega) (a := (j.val : Int)) (by omega) p hv, ?_⟩
    have hto := ref_to (k - 2 * j.val - 2 + 2) s (bt s 0) hx.1 j.val 0 (by omega) (fun i _ h2 => hm ⟨i, by omega⟩ (show i < j.val by omega))
    rw [Nat.zero_add] at hto
    exact href.trans ((congrArg (fun z => lapwingref05_Get.l0 z s (bt s 0) 0) (show k = (k - 2 * j.val - 2) + 2 + 2 * j.val by omega)).trans (hto.trans (ref_U (k - 2 * j.val - 2) s j.val (by omega) p (bt s 0) hv)))
  · refine ⟨(0, false, 0, 0, 0, 4), ?_, ?_⟩
    · obtain ⟨m, rfl⟩ : ∃ m, k = m + 1 := ⟨k - 1, by omega⟩
      rw [get_head _ (by omega) s (by omega), ctrl_Get.j0, if_neg (by rw [low_bit _ hx.1 hx.2]; omega)]
      rcases hb with hb | ⟨hb, hne⟩
      · rw [if_pos hb]
      · rw [if_neg (by omega)]
        have hn : ctrl_Kind_Numbered.f (kd (bt s 0)) = some true := by rw [num_eq, decide_eq_true (by omega)]
        refine bind_at hn (Eq.trans (if_pos rfl) ?_)
        rw [if_pos (by omega), if_pos (by omega), if_neg hne]
    · have hto := ref_to (k - 20 - 1 + 1) s (bt s 0) hx.1 10 0 (by omega) (fun i _ h2 => hm ⟨i, by omega⟩)
      exact href.trans ((congrArg (fun z => lapwingref05_Get.l0 z s (bt s 0) 0) (show k = (k - 20 - 1) + 1 + 2 * 10 by omega)).trans (hto.trans (ref_end (k - 20 - 1) s (bt s 0))))
end Go.Proofs.YtbailgigabdhaaaDoor.CtlG
