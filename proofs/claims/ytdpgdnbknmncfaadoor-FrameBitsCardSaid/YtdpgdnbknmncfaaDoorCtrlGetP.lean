/- What the printed ctrl.Get comes to at the octets of a control field. Plain Lean over the printed functions. -/
import Derived.Test.YtdpgdnbknmncfaaDoorPlainA
import Derived.Test.YtdpgdnbknmncfaaDoorLaidCtrl
import Derived.Test.YtdpgdnbknmncfaaDoorPrint16
namespace Go.Proofs.YtdpgdnbknmncfaaDoor.CtlG
open Go.RowKit Go.Proofs.YtdpgdnbknmncfaaDoorW.PrintWords Go.Proofs.YtdpgdnbknmncfaaDoorW.PrintLast Go.Proofs.YtdpgdnbknmncfaaDoorW.PrintMore Go.Proofs.YtdpgdnbknmncfaaDoor.Str Go.Proofs.YtdpgdnbknmncfaaDoor.Field Go.Proofs.YtdpgdnbknmncfaaDoor.Print Go.Proofs.YtdpgdnbknmncfaaDoorX
theorem field_at (x : Int) (h0 : 0 ≤ x) (h1 : x ≤ 255) (l c : Nat) (hl : l < 8) (hc : 1 ≤ c) (hc8 : c ≤ 8) :
    bits_Field.f x (l : Int) (c : Int) = some (x / 2 ^ l % 2 ^ c) := by
  unfold bits_Field.f
  rw [if_neg (by omega), if_neg (by omega), if_neg (by omega), if_pos (by omega)]
  have hm : mn (c : Int) 8 = c := by unfold mn; omega
  rw [hm, if_pos (by omega)]
  have hd : shr .u8 x (l : Int) = x / 2 ^ l := by
    unfold shr
    rw [show min ((l : Int).toNat) (IntKind.u8).bits = l from by simp [IntKind.bits]; omega]
  have hx : 0 ≤ x / 2 ^ l ∧ x / 2 ^ l ≤ 255 := by
    have : l = 0 ∨ l = 1 ∨ l = 2 ∨ l = 3 ∨ l = 4 ∨ l = 5 ∨ l = 6 ∨ l = 7 := by omega
    rcases this with rfl | rfl | rfl | rfl | rfl | rfl | rfl | rfl <;> simp <;> omega
  have hw : wrap64 (x / 2 ^ l) = x / 2 ^ l := by unfold wrap64; omega
  have hp : wrap64 (wrap64 (2 ^ ((c : Int)).toNat) - 1) = 2 ^ c - 1 := by
    have : c = 1 ∨ c = 2 ∨ c = 3 ∨ c = 4 ∨ c = 5 ∨ c = 6 ∨ c = 7 ∨ c = 8 := by omega
    rcases this with rfl | rfl | rfl | rfl | rfl | rfl | rfl | rfl <;> simp [wrap64]
  rw [hd, hw, hp, mask_i64 c (by omega) _ hx.1 (by omega)]
theorem f17 (x : Int) (h0 : 0 ≤ x) (h1 : x ≤ 255) : bits_Field.f x 1 7 = some (x / 2 % 128) := field_at x h0 h1 1 7 (by decide) (by decide) (by decide)
theorem ten {a : Int} (h : 0 ≤ a ∧ a < 10) : a = 0 ∨ a = 1 ∨ a = 2 ∨ a = 3 ∨ a = 4 ∨ a = 5 ∨ a = 6 ∨ a = 7 ∨ a = 8 ∨ a = 9 := by omega
theorem num_eq (a : Int) : ctrl_Kind_Numbered.f a = some (decide (0 ≤ a ∧ a ≤ 3)) := by
  unfold ctrl_Kind_Numbered.f
  by_cases h : a ≥ 0
  · rw [if_pos h]; simp [h]
  · rw [if_neg h]; simp [h]
/-- A bit as a number. -/
def b2i (b : Bool) : Int := if b = true then 1 else 0
theorem b2i_range (b : Bool) : 0 ≤ b2i b ∧ b2i b ≤ 1 := by cases b <;> decide
theorem fo_range {a : Int} (h : 0 ≤ a ∧ a < 10) : 0 ≤ rd glFirst a ∧ rd glFirst a ≤ 135 := by
  rcases ten h with rfl | rfl | rfl | rfl | rfl | rfl | rfl | rfl | rfl | rfl <;> decide
/-- Where an octet stands in the table of first octets, the first left out. -/
def idx (x : Int) : Int := if x = 1 then 0 else if x = 5 then 1 else if x = 9 then 2 else if x = 111 then 3 else if x = 15 then 4 else if x = 3 then 5 else if x = 67 then 6 else if x = 99 then 7 else if x = 135 then 8 else -1
theorem idx_range (x : Int) : -1 ≤ idx x ∧ idx x ≤ 8 := by unfold idx; (repeat' split) <;> omega
theorem idx_step (m : Nat) (x : Int) (i : Nat) (hi : i < 9) : slices_Index_byte_byte.l0 (m + 1) glFirst1 x 9 (i : Int) = if x = rd glFirst1 (i : Int) then some (i : Int) else slices_Index_byte_byte.l0 m glFirst1 x 9 ((i + 1 : Nat) : Int) := by
  rw [slices_Index_byte_byte.l0, if_pos (by omega), if_pos (by omega), if_pos (show (i : Int) < ((glFirst1.length : Nat) : Int) by show (i : Int) < 9; omega)]
  rw [w64 (n := (i : Int) + 1) (by omega) (by omega)]; rfl
theorem idx_eq (k : Nat) (hk : 9 < k) (x : Int) : slices_Index_byte_byte.f k glFirst1 x = some (idx x) := by
  obtain ⟨m, rfl⟩ : ∃ m, k = m + 10 := ⟨k - 10, by omega⟩
  unfold slices_Index_byte_byte.f idx
  show slices_Index_byte_byte.l0 (m + 10) glFirst1 x 9 ((0 : Nat) : Int) = _
  rw [show m + 10 = m + 9 + 1 from rfl, idx_step _ x 0 (by decide), show rd glFirst1 ((0 : Nat) : Int) = 1 from rfl]
  by_cases h0 : x = 1
  · rw [if_pos h0, if_pos h0]; rfl
  rw [if_neg h0, if_neg h0]
  rw [show m + 9 = m + 8 + 1 from rfl, idx_step _ x 1 (by decide), show rd glFirst1 ((1 : Nat) : Int) = 5 from rfl]
  by_cases h1 : x = 5
  · rw [if_pos h1, if_pos h1]; rfl
  rw [if_neg h1, if_neg h1]
  rw [show m + 8 = m + 7 + 1 from rfl, idx_step _ x 2 (by decide), show rd glFirst1 ((2 : Nat) : Int) = 9 from rfl]
  by_cases h2 : x = 9
  · rw [if_pos h2, if_pos h2]; rfl
  rw [if_neg h2, if_neg h2]
  rw [show m + 7 = m + 6 + 1 from rfl, idx_step _ x 3 (by decide), show rd glFirst1 ((3 : Nat) : Int) = 111 from rfl]
  by_cases h3 : x = 111
  · rw [if_pos h3, if_pos h3]; rfl
  rw [if_neg h3, if_neg h3]
  rw [show m + 6 = m + 5 + 1 from rfl, idx_step _ x 4 (by decide), show rd glFirst1 ((4 : Nat) : Int) = 15 from rfl]
  by_cases h4 : x = 15
  · rw [if_pos h4, if_pos h4]; rfl
  rw [if_neg h4, if_neg h4]
  rw [show m + 5 = m + 4 + 1 from rfl, idx_step _ x 5 (by decide), show rd glFirst1 ((5 : Nat) : Int) = 3 from rfl]
  by_cases h5 : x = 3
  · rw [if_pos h5, if_pos h5]; rfl
  rw [if_neg h5, if_neg h5]
  rw [show m + 4 = m + 3 + 1 from rfl, idx_step _ x 6 (by decide), show rd glFirst1 ((6 : Nat) : Int) = 67 from rfl]
  by_cases h6 : x = 67
  · rw [if_pos h6, if_pos h6]; rfl
  rw [if_neg h6, if_neg h6]
  rw [show m + 3 = m + 2 + 1 from rfl, idx_step _ x 7 (by decide), show rd glFirst1 ((7 : Nat) : Int) = 99 from rfl]
  by_cases h7 : x = 99
  · rw [if_pos h7, if_pos h7]; rfl
  rw [if_neg h7, if_neg h7]
  rw [show m + 2 = m + 1 + 1 from rfl, idx_step _ x 8 (by decide), show rd glFirst1 ((8 : Nat) : Int) = 135 from rfl]
  by_cases h8 : x = 135
  · rw [if_pos h8, if_pos h8]; rfl
  rw [if_neg h8, if_neg h8]
  rw [slices_Index_byte_byte.l0]
  exact if_neg (by decide)
/-- The kind that a first octet is looked up as. -/
def kd (x : Int) : Int := if idx x + 1 = 0 then idx (Go.bits .andNot .u8 x 16) + 1 else idx x + 1
theorem get_head (k : Nat) (hk : 9 < k) (s : ByteArray) (h : 0 < s.size) : ctrl_Get.f k s = ctrl_Get.j0 k s (bt s 0) (kd (bt s 0)) := by
  unfold ctrl_Get.f
  have hn : ¬ s.toList = ([] : List UInt8) := by
    rw [toList_L]; intro e
    rw [size_L, e] at h; exact absurd h (by decide)
  rw [if_neg hn, if_pos (by omega)]
  generalize bt s 0 = x
  have r := idx_range x
  refine bind_at (idx_eq k hk x) ?_
  have w : wrap64 (idx x + 1) = idx x + 1 := w64 (by omega) (by omega)
  rw [w]
  unfold kd
  by_cases h0 : idx x + 1 = 0
  · rw [if_pos h0, if_pos h0]
    have r2 := idx_range (Go.bits .andNot .u8 x 16)
    refine bind_at (idx_eq k hk _) ?_
    rw [w64 (n := idx (Go.bits .andNot .u8 x 16) + 1) (by omega) (by omega)]
  · rw [if_neg h0, if_neg h0]
theorem six {a : Int} (h : 4 ≤ a ∧ a < 10) : a = 4 ∨ a = 5 ∨ a = 6 ∨ a = 7 ∨ a = 8 ∨ a = 9 := by omega
theorem u_facts {a : Int} (h : 4 ≤ a ∧ a < 10) (p : Bool) : kd (rd glFirst a + 16 * b2i p) = a ∧ ¬ Go.bits .and .u8 (rd glFirst a + 16 * b2i p) 1 = 0 ∧ (Go.bits .and .u8 (rd glFirst a + 16 * b2i p) 16 != 0) = p := by
  rcases six h with rfl | rfl | rfl | rfl | rfl | rfl <;> cases p <;> decide +kernel
theorem get_U (k : Nat) (hk : 9 < k) (s : ByteArray) (hs : 0 < s.size) {a : Int} (h : 4 ≤ a ∧ a < 10) (p : Bool) (hb : bt s 0 = rd glFirst a + 16 * b2i p) : ctrl_Get.f k s = some (a, p, 0, 0, 1, 0) := by
  obtain ⟨m, rfl⟩ : ∃ m, k = m + 1 + 1 := ⟨k - 2, by omega⟩
  obtain ⟨f1, f2, f3⟩ := u_facts h p
  rw [get_head _ hk s hs, hb, f1]
  generalize rd glFirst a + 16 * b2i p = x at *
  have hn : ctrl_Kind_Numbered.f a = some false := by rw [num_eq, decide_eq_false (by omega)]
  rw [ctrl_Get.j0, if_neg f2, if_neg (by omega)]
  refine bind_at hn (Eq.trans (if_neg (by decide)) ?_)
  rw [ctrl_Get.j1]
  refine bind_at hn (Eq.trans (if_neg (by decide)) ?_)
  rw [f3]
theorem s_facts {a : Int} (h : 1 ≤ a ∧ a ≤ 3) : kd (rd glFirst a) = a ∧ ¬ Go.bits .and .u8 (rd glFirst a) 1 = 0 := by
  have : a = 1 ∨ a = 2 ∨ a = 3 := by omega
  rcases this with rfl | rfl | rfl <;> decide +kernel
theorem two_S (m : Nat) (s : ByteArray) (hs : 2 ≤ s.size) (x y : Int) {a : Int} (h : 1 ≤ a ∧ a ≤ 3) (hy : bt s 1 = y) (y0 : 0 ≤ y) (y1 : y ≤ 255) : ctrl_Get.j1 (m + 1) s x a = some (a, (y % 2 == 1), 0, y / 2 % 128, 2, 0) := by
  rw [ctrl_Get.j1]
  have hn : ctrl_Kind_Numbered.f a = some true := by rw [num_eq, decide_eq_true (by omega)]
  refine bind_at hn (Eq.trans (if_pos rfl) ?_)
  rw [if_neg (by omega), if_pos (by omega), hy]
  refine bind_at (f17 y y0 y1) ?_
  rw [if_neg (by omega), low_bit y y0 y1]
theorem get_S (k : Nat) (hk : 9 < k) (s : ByteArray) (hs : 2 ≤ s.size) {a : Int} (h : 1 ≤ a ∧ a ≤ 3) (hb : bt s 0 = rd glFirst a) (y : Int) (hy : bt s 1 = y) (y0 : 0 ≤ y) (y1 : y ≤ 255) : ctrl_Get.f k s = some (a, (y % 2 == 1), 0, y / 2 % 128, 2, 0) := by
  obtain ⟨m, rfl⟩ : ∃ m, k = m + 1 + 1 := ⟨k - 2, by omega⟩
  obtain ⟨f1, f2⟩ := s_facts h
  rw [get_head _ hk s (by omega), hb, f1]
  have hn : ctrl_Kind_Numbered.f a = some true := by rw [num_eq, decide_eq_true (by omega)]
  rw [ctrl_Get.j0, if_neg f2, if_neg (by omega)]
  refine bind_at hn (Eq.trans (if_pos rfl) ?_)
  rw [if_pos (by omega), if_pos (by omega), if_pos rfl]
  exact two_S m s hs _ y h hy y0 y1
theorem get_I (k : Nat) (hk : 9 < k) (s : ByteArray) (hs : 2 ≤ s.size) (x : Int) (hb : bt s 0 = x) (x0 : 0 ≤ x) (x1 : x ≤ 255) (he : x % 2 = 0) (y : Int) (hy : bt s 1 = y) (y0 : 0 ≤ y) (y1 : y ≤ 255) : ctrl_Get.f k s = some (0, (y % 2 == 1), x / 2 % 128, y / 2 % 128, 2, 0) := by
  obtain ⟨m, rfl⟩ : ∃ m, k = m + 1 + 1 := ⟨k - 2, by omega⟩
  rw [get_head _ hk s (by omega), hb]
  rw [ctrl_Get.j0, if_pos (by rw [low_bit x x0 x1]; exact he), ctrl_Get.j1]
  have hn : ctrl_Kind_Numbered.f 0 = some true := rfl
  refine bind_at hn (Eq.trans (if_pos rfl) ?_)
  rw [if_neg (by omega), if_pos (by omega), hy]
  refine bind_at (f17 y y0 y1) ?_
  rw [if_pos rfl]
  refine bind_at (f17 x x0 x1) ?_
  rw [low_bit y y0 y1]
end Go.Proofs.YtdpgdnbknmncfaaDoor.CtlG
