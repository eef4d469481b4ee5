/- What the printed reference functions of the check sequence come to: the same register as the program's. Plain Lean over the printed functions. -/
import Derived.Test.YtdpgdnbknmncfaaDoorRefOf
import Derived.Test.YtdpgdnbknmncfaaDoorPlainB
import Derived.Test.YtdpgdnbknmncfaaDoorPrint18
namespace Go.Proofs.YtdpgdnbknmncfaaDoor.FcsRef
open Go.RowKit Go.Proofs.YtdpgdnbknmncfaaDoorW.PrintWords Go.Proofs.YtdpgdnbknmncfaaDoorW.PrintLast Go.Proofs.YtdpgdnbknmncfaaDoorW.PrintMore Go.Proofs.YtdpgdnbknmncfaaDoor.Str Go.Proofs.YtdpgdnbknmncfaaDoor.Crc Go.Proofs.YtdpgdnbknmncfaaDoor.Fcs Go.Proofs.YtdpgdnbknmncfaaDoor.RefOf Go.Proofs.YtdpgdnbknmncfaaDoor.Print

theorem xor_step (a b i : Nat) : (a ^^^ b) % 2 ^ (i + 1) = (a ^^^ b) % 2 ^ i + (if a / 2 ^ i % 2 = b / 2 ^ i % 2 then 0 else 2 ^ i) := by
  rw [Nat.mod_pow_succ]
  have h := Nat.testBit_xor a b i
  have ha := Nat.testBit_eq_decide_div_mod_eq (x := a) (i := i)
  have hb := Nat.testBit_eq_decide_div_mod_eq (x := b) (i := i)
  have hc := Nat.testBit_eq_decide_div_mod_eq (x := a ^^^ b) (i := i)
  rw [ha, hb, hc] at h
  have h1 : a / 2 ^ i % 2 < 2 := Nat.mod_lt _ (by decide)
  have h2 : b / 2 ^ i % 2 < 2 := Nat.mod_lt _ (by decide)
  have h3 : (a ^^^ b) / 2 ^ i % 2 < 2 := Nat.mod_lt _ (by decide)
  generalize a / 2 ^ i % 2 = x at *
  generalize b / 2 ^ i % 2 = y at *
  generalize (a ^^^ b) / 2 ^ i % 2 = z at *
  have hx : x = 0 ∨ x = 1 := by omega
  have hy : y = 0 ∨ y = 1 := by omega
  have hz : z = 0 ∨ z = 1 := by omega
  rcases hx with rfl | rfl <;> rcases hy with rfl | rfl <;> rcases hz with rfl | rfl <;> simp at h ⊢

theorem half_bit (n p : Nat) (hn : n < 65536) : Int.tmod (wrap64 (Int.tdiv (n : Int) (p : Int))) 2 = ((n / p % 2 : Nat) : Int) := by
  have h1 : n / p ≤ n := Nat.div_le_self _ _
  rw [Int.tdiv_eq_ediv_of_nonneg (Int.natCast_nonneg n), ← Int.natCast_ediv]
  generalize n / p = m at *
  rw [w64 (by omega) (by omega), Int.tmod_eq_emod_of_nonneg (by omega)]
  omega
theorem unlike_round (k a b n p i : Nat) (ha : a < 65536) (hb : b < 65536) (hp : 0 < p) (hp1 : p ≤ 32768) (hn : n ≤ 65536) (hi : i < 16) :
    lapwingref02_unlike.l0 (k + 1) (a : Int) (b : Int) (n : Int) (p : Int) (i : Int) =
      lapwingref02_unlike.l0 k (a : Int) (b : Int) ((n + (if a / p % 2 = b / p % 2 then 0 else p) : Nat) : Int) ((2 * p : Nat) : Int) ((i + 1 : Nat) : Int) := by
  have e1 : wrap64 (2 * (p : Int)) = ((2 * p : Nat) : Int) := by rw [w64 (by omega) (by omega)]; omega
  have e2 : wrap64 ((i : Int) + 1) = ((i + 1 : Nat) : Int) := by rw [w64 (by omega) (by omega)]; omega
  rw [lapwingref02_unlike.l0, if_pos (by omega), if_neg (by omega), half_bit a p ha, half_bit b p hb, e1, e2]
  by_cases hc : a / p % 2 = b / p % 2
  · rw [if_pos (by rw [hc]), if_pos hc]; rfl
  · rw [if_neg (fun h => hc (by exact_mod_cast h)), if_neg hc, w64 (by omega) (by omega), ← Int.natCast_add]
theorem unlike_loop (a b : Nat) (ha : a < 65536) (hb : b < 65536) (d : Nat) : ∀ (k i : Nat), i + d = 16 → d < k →
    lapwingref02_unlike.l0 k (a : Int) (b : Int) (((a ^^^ b) % 2 ^ i : Nat) : Int) ((2 ^ i : Nat) : Int) (i : Int) = some (((a ^^^ b) % 2 ^ 16 : Nat) : Int) := by
  induction d with
  | zero =>
    intro k i h hk
    obtain ⟨k, rfl⟩ : ∃ m, k = m + 1 := ⟨k - 1, by omega⟩
    obtain rfl : i = 16 := by omega
    rw [lapwingref02_unlike.l0, if_neg (by decide)]
  | succ d ih =>
    intro k i h hk
    obtain ⟨k, rfl⟩ : ∃ m, k = m + 1 := ⟨k - 1, by omega⟩
    have hp : 2 ^ i ≤ 2 ^ 15 := Nat.pow_le_pow_right (by decide) (by omega)
    have hp0 : 0 < 2 ^ i := Nat.two_pow_pos i
    have hm : (a ^^^ b) % 2 ^ i < 2 ^ i := Nat.mod_lt _ hp0
    have hpow : 2 * 2 ^ i = 2 ^ (i + 1) := by rw [Nat.pow_succ, Nat.mul_comm]
    rw [unlike_round k a b _ _ i ha hb hp0 hp (Nat.le_trans (Nat.le_of_lt hm) (Nat.le_trans hp (by decide))) (by omega), ← xor_step, hpow]
    exact ih k (i + 1) (by omega) (by omega)

theorem unlike_eq (k : Nat) (hk : 16 < k) (r s : R) : lapwingref02_unlike.f k (num r) (num s) = some (num (r ^^^ s)) := by
  have h := unlike_loop r.toNat s.toNat r.isLt s.isLt 16 k 0 (by omega) hk
  have e : (r.toNat ^^^ s.toNat) % 2 ^ 16 = (r ^^^ s).toNat := by
    rw [BitVec.toNat_xor]; exact Nat.mod_eq_of_lt (Nat.xor_lt_two_pow r.isLt s.isLt)
  rw [e] at h
  unfold lapwingref02_unlike.f
  simpa [num, Nat.mod_one] using h

def dig (b : Bool) : Int := if b then 1 else 0
theorem bit_eq (k : Nat) (hk : 16 < k) (r : R) (b : Bool) : lapwingref02_bit.f k (num r) (dig b) = some (num (bstep r b)) := by
  have hr := num_lt r
  have hq : wrap64 (Int.tdiv (num r) 2) = num (r >>> 1) := by
    rw [Int.tdiv_eq_ediv_of_nonneg hr.1, w64 (by omega) (by omega), half]
  have hm : Int.tmod (num r) 2 = dig (r.getLsbD 0) := by
    rw [Int.tmod_eq_emod_of_nonneg hr.1]
    unfold num dig
    rw [BitVec.getLsbD, Nat.testBit_zero]
    by_cases h : r.toNat % 2 = 1
    · rw [if_pos (by simpa using h)]; omega
    · rw [if_neg (by simpa using h)]; omega
  unfold lapwingref02_bit.f
  rw [hm, hq]
  have hc : (33800 : Int) = num 0x8408#16 := rfl
  rw [hc, unlike_eq k hk]
  simp only [Option.bind_some]
  unfold bstep
  cases r.getLsbD 0 <;> cases b <;> simp [dig]

theorem digit_num (b : Bool) : ((((digit b).toNat : Nat) : Int) - 48) % 256 = dig b := by cases b <;> rfl

theorem step_loop (l : List Bool) (hl : l.length = 8) (d : Nat) : ∀ (k : Nat) (r : R) (i : Nat), i + d = 8 → d + 17 < k →
    lapwingref02_Step.l0 k (num r) ⟨(l.map digit).toArray⟩ (i : Int) = some (num (run r (l.drop i))) := by
  induction d with
  | zero =>
    intro k r i h hk
    obtain ⟨k, rfl⟩ : ∃ m, k = m + 1 := ⟨k - 1, by omega⟩
    rw [lapwingref02_Step.l0, if_neg (by omega), List.drop_of_length_le (by omega)]; rfl
  | succ d ih =>
    intro k r i h hk
    obtain ⟨k, rfl⟩ : ∃ m, k = m + 1 := ⟨k - 1, by omega⟩
    have hi : i < l.length := by omega
    have hsz : (⟨(l.map digit).toArray⟩ : ByteArray).size = 8 := by rw [size_L, L_mk, List.length_map, hl]
    rw [lapwingref02_Step.l0, if_pos (by omega), if_pos (by omega), if_pos (by rw [hsz]; omega), bt_nat, L_mk, at_get _ _ (by simpa using hi), List.getElem_map, digit_num, bit_eq k (by omega)]
    simp only [Option.bind_some]
    have e : wrap64 ((i : Int) + 1) = ((i + 1 : Nat) : Int) := by rw [w64 (by omega) (by omega)]; omega
    rw [e, ih k _ (i + 1) (by omega) (by omega), List.drop_eq_getElem_cons hi]
    rfl

theorem one_oct (o : UInt8) : strOfNums [(o.toNat : Int)] = ⟨[o].toArray⟩ := nums_of [o]
theorem step_eq (k : Nat) (hk : 26 < k) (r : R) (o : UInt8) : lapwingref02_Step.f k (num r) (o.toNat : Int) = some (num (stepB r o)) := by
  unfold lapwingref02_Step.f
  have hs : (⟨[o].toArray⟩ : ByteArray).size = 1 := rfl
  rw [one_oct, of_bits k _ (by rw [hs]; decide) (by rw [hs]; omega), L_mk]
  simp only [Option.bind_some]
  have e : allBits [o] = obits o.toNat := by simp [allBits, bitsOf, obits]
  rw [e]
  have := step_loop (obits o.toNat) (obits_length _) 8 k r 0 (by omega) (by omega)
  rw [List.drop_zero] at this
  exact this

theorem sum_loop (s : ByteArray) (hn : s.size ≤ 9223372036854775806) (d : Nat) : ∀ (k : Nat) (r : R) (i : Nat), i + d = s.size → d + 27 < k →
    lapwingref02_Sum.l0 k s (num r) (i : Int) = some (num (~~~ sumR r ((L s).drop i))) := by
  induction d with
  | zero =>
    intro k r i h hk
    obtain ⟨k, rfl⟩ : ∃ m, k = m + 1 := ⟨k - 1, by omega⟩
    have hr := num_lt r
    rw [lapwingref02_Sum.l0, if_neg (by omega), List.drop_of_length_le (by rw [← size_L]; omega), w64 (by omega) (by omega)]
    have hlt := r.isLt
    show some (65535 - num r) = some (num (~~~ r))
    unfold num
    rw [BitVec.toNat_not]
    congr 1; omega
  | succ d ih =>
    intro k r i h hk
    obtain ⟨k, rfl⟩ : ∃ m, k = m + 1 := ⟨k - 1, by omega⟩
    have hl : i < (L s).length := by rw [← size_L]; omega
    rw [lapwingref02_Sum.l0, if_pos (by omega), if_pos (by omega), bt_nat, at_get _ _ hl, step_eq k (by omega)]
    simp only [Option.bind_some]
    have e : wrap64 ((i : Int) + 1) = ((i + 1 : Nat) : Int) := by rw [w64 (by omega) (by omega)]; omega
    rw [e, ih k _ (i + 1) (by omega) (by omega), List.drop_eq_getElem_cons hl]
    rfl

theorem sum_eq (k : Nat) (s : ByteArray) (hn : s.size ≤ 9223372036854775806) (hk : s.size + 27 < k) : lapwingref02_Sum.f k s = some (num (crc (L s))) := by
  unfold lapwingref02_Sum.f
  have := sum_loop s hn s.size k 0xffff#16 0 (by omega) hk
  rw [List.drop_zero] at this
  exact this
theorem seal_eq (k : Nat) (s : ByteArray) (hn : s.size ≤ 9223372036854775805) (hk : s.size + 27 < k) : lapwingref02_Seal.f k s = some ⟨(sealL (L s)).toArray⟩ := by
  have hr := num_lt (crc (L s))
  unfold lapwingref02_Seal.f
  rw [sum_eq k s (by omega) hk]
  simp only [Option.bind_some]
  have e1 : Int.tmod (num (crc (L s))) 256 % 256 = num (crc (L s)) % 256 := by rw [Int.tmod_eq_emod_of_nonneg hr.1]; omega
  have e2 : wrap64 (Int.tdiv (num (crc (L s))) 256) % 256 = num (crc (L s)) / 256 % 256 := by
    rw [Int.tdiv_eq_ediv_of_nonneg hr.1, w64 (by omega) (by omega)]
  rw [e1, e2, seal_nums]
  have e : (⟨[lo (crc (L s)), hi (crc (L s))].toArray⟩ : ByteArray).size = 2 := rfl
  rw [e, if_pos (by omega)]
  exact congrArg some (inj (by rw [L_app, L_mk, L_mk]; rfl))
theorem check_eq (k : Nat) (s : ByteArray) (hn : s.size ≤ 9223372036854775805) (hk : s.size + 27 < k) : lapwingref02_Check.f k s = some (⟨(checkL (L s)).1.toArray⟩, (checkL (L s)).2) := by
  unfold lapwingref02_Check.f checkL
  rw [← size_L]
  by_cases h : s.size < 2
  · rw [if_pos (by omega), if_pos h]
  · have hw : wrap64 ((s.size : Int) - 2) = ((s.size - 2 : Nat) : Int) := by rw [w64 (by omega) (by omega)]; omega
    rw [if_neg (by omega), if_neg h, hw, if_pos (by omega), if_pos (by omega), Int.toNat_natCast]
    have hs : (s.extract 0 (s.size - 2)).size = s.size - 2 := size_take s _ (by omega)
    rw [seal_eq k _ (by omega) (by omega)]
    simp only [Option.bind_some]
    rw [toList_L, toList_L, L_mk, L_take]
    by_cases he : sealL ((L s).take (s.size - 2)) = L s
    · rw [if_pos he, if_pos he]
      congr 2
      apply inj
      rw [L_take, L_mk]
    · rw [if_neg he, if_neg he]
end Go.Proofs.YtdpgdnbknmncfaaDoor.FcsRef
