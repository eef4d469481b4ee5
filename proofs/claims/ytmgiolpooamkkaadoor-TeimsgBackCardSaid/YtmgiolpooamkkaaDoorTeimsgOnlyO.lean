/- What the printed functions of package teimsg come to (for TeimsgOnly): a message's octets, its frame, the message of a frame. Plain Lean over the printed functions. -/
import Derived.Test.YtmgiolpooamkkaaDoorPackTwoO
import Derived.Test.YtmgiolpooamkkaaDoorLaidLink
import Derived.Test.YtmgiolpooamkkaaDoorOnly4
namespace Go.Proofs.YtmgiolpooamkkaaDoor.TeiO
open Go.RowKit Go.Proofs.YtmgiolpooamkkaaDoorW.PrintWords Go.Proofs.YtmgiolpooamkkaaDoorW.PrintLast Go.Proofs.YtmgiolpooamkkaaDoorW.PrintMore Go.Proofs.YtmgiolpooamkkaaDoor.Str Go.Proofs.YtmgiolpooamkkaaDoor.Field Go.Proofs.YtmgiolpooamkkaaDoor.PackO Go.Proofs.YtmgiolpooamkkaaDoor.Only Go.Proofs.YtmgiolpooamkkaaDoorX
theorem field_at (x : Int) (h0 : 0 ≤ x) (h1 : x ≤ 255) (l c : Nat) (hl : l < 8) (hc : 1 ≤ c) (hc8 : c ≤ 8) :
    bits_Field.f x (l : Int) (c : Int) = some (x / 2 ^ l % 2 ^ c) := by
  unfold bits_Field.f
  rw [if_neg (by omega), if_neg (by omega), if_neg (by omega), if_pos (by omega)]
  have hm : mn (c : Int) 8 = c := by unfold mn; omega
  rw [hm, if_pos (by omega)]
  have hd : shr .u8 x (l : Int) = x / 2 ^ l := by
    unfold shr
    rw [show min ((l : Int).toNat) (IntKind.u8).bits = l from by simp [IntKind.bits]; omega]
  have hx : 0 ≤ x / 2 ^ l ∧ x / 2 ^ l ≤ 255 := by
    have : l = 0 ∨ l = 1 ∨ l = 2 ∨ l = 3 ∨ l = 4 ∨ l = 5 ∨ l = 6 ∨ l = 7 := by omega
    rcases this with rfl | rfl | rfl | rfl | rfl | rfl | rfl | rfl <;> simp <;> omega
  have hw : wrap64 (x / 2 ^ l) = x / 2 ^ l := by unfold wrap64; omega
  have hp : wrap64 (wrap64 (2 ^ ((c : Int)).toNat) - 1) = 2 ^ c - 1 := by
    have : c = 1 ∨ c = 2 ∨ c = 3 ∨ c = 4 ∨ c = 5 ∨ c = 6 ∨ c = 7 ∨ c = 8 := by omega
    rcases this with rfl | rfl | rfl | rfl | rfl | rfl | rfl | rfl <;> simp [wrap64]
  rw [hd, hw, hp, mask_i64 c (by omega) _ hx.1 (by omega)]
theorem f17 (x : Int) (h0 : 0 ≤ x) (h1 : x ≤ 255) : bits_Field.f x 1 7 = some (x / 2 % 128) := field_at x h0 h1 1 7 (by decide) (by decide) (by decide)
/-- The message that octets are, or the error. -/
def getT (l : List UInt8) : Int × Int × Int × Int :=
  if l.length < 5 then (0, 0, 0, 3) else if l.length > 5 then (0, 0, 0, 5)
  else if at_ l 0 = 15 ∧ 1 ≤ at_ l 3 ∧ at_ l 3 ≤ 7 ∧ at_ l 4 % 2 = 1 then (at_ l 3, 256 * at_ l 1 + at_ l 2, at_ l 4 / 2, 0) else (0, 0, 0, 4)
theorem get_eq (s : ByteArray) : teimsg_Get.f s = some (getT (L s)) := by
  have r0 := at_range (L s) 0
  have r1 := at_range (L s) 1
  have r2 := at_range (L s) 2
  have r3 := at_range (L s) 3
  have r4 := at_range (L s) 4
  have b0 : bt s 0 = at_ (L s) 0 := bt_L s 0
  have b1 : bt s 1 = at_ (L s) 1 := bt_L s 1
  have b2 : bt s 2 = at_ (L s) 2 := bt_L s 2
  have b3 : bt s 3 = at_ (L s) 3 := bt_L s 3
  have b4 : bt s 4 = at_ (L s) 4 := bt_L s 4
  unfold teimsg_Get.f getT
  rw [← size_L]
  by_cases h5 : s.size < 5
  · rw [if_pos (by omega), if_pos h5]
  · rw [if_neg (by omega), if_neg h5]
    by_cases h6 : s.size > 5
    · rw [if_pos (by omega), if_pos h6]
    · rw [if_neg (by omega), if_neg h6, if_pos (by omega), if_pos (by omega), if_pos (by omega), if_pos (by omega), b0, b1, b2, b3, b4]
      generalize at_ (L s) 0 = x0 at *
      generalize at_ (L s) 1 = x1 at *
      generalize at_ (L s) 2 = x2 at *
      generalize at_ (L s) 3 = x3 at *
      generalize at_ (L s) 4 = x4 at *
      refine bind_at (f17 _ r4.1 r4.2) (Eq.trans (if_pos (by omega)) ?_)
      rw [w64 (n := x3) (by omega) (by omega), w64 (n := x1) (by omega) (by omega), w64 (n := x2) (by omega) (by omega), w64 (n := x1 * 256) (by omega) (by omega), low_bit _ r4.1 r4.2]
      by_cases h0 : x0 = 15
      · rw [if_pos h0]
        by_cases h1 : x3 < 1
        · rw [if_pos h1, if_neg (by omega)]
        · rw [if_neg h1]
          by_cases h2 : x3 > 7
          · rw [if_pos h2, if_neg (by omega)]
          · rw [if_neg h2]
            by_cases h3 : x4 % 2 = 0
            · rw [if_pos h3, if_neg (by omega)]
            · rw [if_neg h3, if_pos (show x0 = 15 ∧ 1 ≤ x3 ∧ x3 ≤ 7 ∧ x4 % 2 = 1 from ⟨h0, by omega, by omega, by omega⟩)]
              rw [bits_join .i64 63 (by decide) wraps_i64 8 (x1 * 256) x2 (by omega) (by omega) (by omega) (by omega) (by omega) (by omega), show x4 / 2 % 128 = x4 / 2 from by omega, Int.mul_comm x1]
      · rw [if_neg h0, if_neg (fun h => h0 h.1)]
/-- A message's octets, or the error. -/
def putT (t r a : Int) : ByteArray × Int :=
  if t < 1 ∨ t > 7 then (⟨#[]⟩, 4) else if r < 0 ∨ r ≥ 65536 then (⟨#[]⟩, 2)
  else if 0 ≤ a ∧ a < 128 then (strOfNums [15, r / 256, r % 256, t, 2 * a + 1], 0) else (⟨#[]⟩, 2)
theorem put_eq (k : Nat) (hk : 5 < k) (t r a : Int) : teimsg_Put.f k t r a = some (putT t r a) := by
  obtain ⟨k, rfl⟩ : ∃ m, k = m + 1 + 1 := ⟨k - 2, by omega⟩
  unfold teimsg_Put.f putT
  by_cases h1 : t < 1
  · rw [if_pos h1, teimsg_Put.j0, if_pos rfl, if_pos (Or.inl h1)]
  · rw [if_neg h1, teimsg_Put.j0]
    by_cases h2 : t > 7
    · rw [if_pos (by simpa using h2), if_pos (Or.inr h2)]
    · have h3 : ¬ (t < 1 ∨ t > 7) := by omega
      rw [if_neg (by simpa using h2)]
      by_cases h4 : r < 0
      · rw [if_pos h4, teimsg_Put.j1, if_pos rfl, if_neg h3, if_pos (Or.inl h4)]
      · rw [if_neg h4, teimsg_Put.j1]
        by_cases h5 : r ≥ 65536
        · rw [if_pos (by simpa using h5), if_neg h3, if_pos (Or.inr h5)]
        · have h6 : ¬ (r < 0 ∨ r ≥ 65536) := by omega
          refine Eq.trans (if_neg (by simpa using h5)) ?_
          refine bind_at (pack_two k (by omega) 1 a (by decide)) ?_
          rw [if_neg h3, if_neg h6]
          by_cases h7 : 0 ≤ a ∧ a < 128
          · rw [if_pos h7, if_pos rfl, if_pos h7]
            rw [show r / 256 % 256 = r / 256 from by omega, show t % 256 = t from by omega]
          · rw [if_neg h7, if_neg (by decide), if_neg h7]
theorem from_eq (t : Int) : teimsg_Type_FromNetwork.f t = some (decide (t = 2 ∨ t = 3 ∨ t = 4 ∨ t = 6)) := by
  unfold teimsg_Type_FromNetwork.f
  by_cases h2 : t = 2
  · rw [if_pos h2]; simp [h2]
  · rw [if_neg h2]
    by_cases h3 : t = 3
    · rw [if_pos h3]; simp [h3]
    · rw [if_neg h3]
      by_cases h4 : t = 4
      · rw [if_pos h4]; simp [h4]
      · rw [if_neg h4]
        by_cases h6 : t = 6
        · rw [if_pos h6]; simp [h6]
        · rw [if_neg h6]; simp [h2, h3, h4, h6]
theorem u8_of (x : Int) (h0 : 0 ≤ x) (h1 : x ≤ 255) : ((UInt8.ofNat x.toNat).toNat : Int) = x := by
  rw [UInt8.toNat_ofNat']; omega
theorem get_put (t r a : Int) (h1 : 1 ≤ t) (h2 : t ≤ 7) (h3 : 0 ≤ r) (h4 : r < 65536) (h5 : 0 ≤ a) (h6 : a < 128) : getT (L (strOfNums [15, r / 256, r % 256, t, 2 * a + 1])) = (t, r, a, 0) := by
  rw [L_nums]
  show getT [UInt8.ofNat (15 : Int).toNat, UInt8.ofNat (r / 256).toNat, UInt8.ofNat (r % 256).toNat, UInt8.ofNat t.toNat, UInt8.ofNat (2 * a + 1).toNat] = _
  unfold getT
  have e0 : at_ [UInt8.ofNat (15 : Int).toNat, UInt8.ofNat (r / 256).toNat, UInt8.ofNat (r % 256).toNat, UInt8.ofNat t.toNat, UInt8.ofNat (2 * a + 1).toNat] 0 = 15 := rfl
  have e1 : at_ [UInt8.ofNat (15 : Int).toNat, UInt8.ofNat (r / 256).toNat, UInt8.ofNat (r % 256).toNat, UInt8.ofNat t.toNat, UInt8.ofNat (2 * a + 1).toNat] 1 = r / 256 := u8_of _ (by omega) (by omega)
  have e2 : at_ [UInt8.ofNat (15 : Int).toNat, UInt8.ofNat (r / 256).toNat, UInt8.ofNat (r % 256).toNat, UInt8.ofNat t.toNat, UInt8.ofNat (2 * a + 1).toNat] 2 = r % 256 := u8_of _ (by omega) (by omega)
  have e3 : at_ [UInt8.ofNat (15 : Int).toNat, UInt8.ofNat (r / 256).toNat, UInt8.ofNat (r % 256).toNat, UInt8.ofNat t.toNat, UInt8.ofNat (2 * a + 1).toNat] 3 = t := u8_of _ (by omega) (by omega)
  have e4 : at_ [UInt8.ofNat (15 : Int).toNat, UInt8.ofNat (r / 256).toNat, UInt8.ofNat (r % 256).toNat, UInt8.ofNat t.toNat, UInt8.ofNat (2 * a + 1).toNat] 4 = 2 * a + 1 := u8_of _ (by omega) (by omega)
  rw [e0, e1, e2, e3, e4, if_neg (by simp), if_neg (by simp), if_pos ⟨rfl, h1, h2, by omega⟩]
  rw [show 256 * (r / 256) + r % 256 = r from by omega, show (2 * a + 1) / 2 = a from by omega]
theorem first_put : putT 1 258 127 = (strOfNums [15, 1, 2, 1, 255], 0) := rfl
theorem first_list : (strOfNums [15, 1, 2, 1, 255]).toList = [15, 1, 2, 1, 255] := by decide +kernel
theorem wakes_eq (k : Nat) (hk : 5 < k) : lapwinglaw07_wakes.f k = some true := by
  unfold lapwinglaw07_wakes.f
  have h : teimsg_Put.f k 1 258 127 = some (strOfNums [15, 1, 2, 1, 255], 0) := put_eq k hk 1 258 127
  refine bind_at h (Eq.trans (if_pos rfl) (Eq.trans (if_pos first_list) ?_))
  exact bind_at (from_eq 6) rfl
theorem link0 : rd glLink 0 = 63 := rfl
theorem link1 : rd glLink 1 = 127 := rfl
def fromT (t : Int) : Bool := decide (t = 2 ∨ t = 3 ∨ t = 4 ∨ t = 6)
/-- The message of a frame, or none. -/
def ofT (a b : Int) (c : Bool) (d : Int) (l : List UInt8) (n : Bool) : Int × Int × Int × Bool :=
  if a = 63 ∧ b = 127 ∧ c = true ∧ d = 6 ∧ (getT l).2.2.2 = 0 ∧ fromT (getT l).1 = n then ((getT l).1, (getT l).2.1, (getT l).2.2.1, true) else (0, 0, 0, false)
theorem of_eq (a b : Int) (c : Bool) (d : Int) (p : Bool) (x y : Int) (s : ByteArray) (n : Bool) : teimsg_Of.f a b c d p x y s n = some (ofT a b c d (L s) n) := by
  unfold teimsg_Of.f
  refine bind_at (get_eq s) ?_
  rw [link0, link1]
  unfold ofT
  generalize getT (L s) = g
  by_cases ha : a = 63
  · by_cases hb : b = 127
    · refine Eq.trans (if_neg (by rw [ha, hb]; decide)) ?_
      by_cases hd : d = 6
      · rw [if_pos hd]
        by_cases hc : c = true
        · rw [if_pos hc]
          by_cases he : g.2.2.2 = 0
          · rw [if_pos he]
            refine bind_at (from_eq g.1) ?_
            show (if (fromT g.1 != n) = true then _ else _) = _
            by_cases hn : fromT g.1 = n
            · rw [if_neg (by simp [hn]), if_pos ⟨ha, hb, hc, hd, he, hn⟩]
            · rw [if_pos (by simpa using hn), if_neg (fun h => hn h.2.2.2.2.2)]
          · rw [if_neg he, if_neg (fun h => he h.2.2.2.2.1)]
        · rw [if_neg hc, if_neg (fun h => hc h.2.2.1)]
      · rw [if_neg hd, if_neg (fun h => hd h.2.2.2.1)]
    · refine Eq.trans (if_pos (by simp [hb])) ?_
      rw [if_neg (fun h => hb h.2.1)]
  · refine Eq.trans (if_pos (by simp [ha])) ?_
    rw [if_neg (fun h => ha h.1)]
/-- A message's frame, or the error. -/
def frameT (t r a : Int) : Int × Int × Bool × Int × Bool × Int × Int × ByteArray × Int :=
  if (putT t r a).2 = 0 then (63, 127, true, 6, false, 0, 0, (putT t r a).1, 0) else (0, 0, false, 0, false, 0, 0, ⟨#[]⟩, (putT t r a).2)
theorem frame_eq (k : Nat) (hk : 5 < k) (t r a : Int) : teimsg_Frame.f k t r a = some (frameT t r a) := by
  unfold teimsg_Frame.f frameT
  refine bind_at (put_eq k hk t r a) ?_
  rw [link0, link1]
  generalize putT t r a = p
  by_cases h : p.2 = 0
  · rw [if_pos h, if_pos h]
  · rw [if_neg h, if_neg h]
end Go.Proofs.YtmgiolpooamkkaaDoor.TeiO
