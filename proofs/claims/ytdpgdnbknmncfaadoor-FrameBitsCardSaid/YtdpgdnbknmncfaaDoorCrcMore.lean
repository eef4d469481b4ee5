/- The CRC register over octets: linear; over a sealed text it ends at one number; octets' bits. Plain Lean, no condition. -/
import Derived.Test.YtdpgdnbknmncfaaDoorPlainA
namespace Go.Proofs.YtdpgdnbknmncfaaDoor.Crc

/-- The lowest n bits of a register, the lowest first. -/
def bitsR : Nat → R → List Bool
  | 0, _ => []
  | n + 1, q => q.getLsbD 0 :: bitsR n (q >>> 1)
theorem own_bit (q : R) : bstep q (q.getLsbD 0) = q >>> 1 := by simp [bstep]
theorem own_bits (n : Nat) (q : R) : run q (bitsR n q) = q >>> n := by
  induction n generalizing q with
  | zero => simp [bitsR, run]
  | succ n ih =>
    simp only [bitsR, run, List.foldl_cons]
    rw [own_bit]
    have := ih (q >>> 1)
    unfold run at this
    rw [this]
    apply BitVec.eq_of_getLsbD_eq
    intro i hi
    simp only [BitVec.getLsbD_ushiftRight]
    congr 1; omega
theorem bitsR_length (n : Nat) (q : R) : (bitsR n q).length = n := by
  induction n generalizing q with
  | zero => rfl
  | succ n ih => simp [bitsR, ih]
theorem bitsR_get (n : Nat) (q : R) (i : Nat) (h : i < n) : (bitsR n q)[i]? = some (q.getLsbD i) := by
  induction n generalizing q i with
  | zero => omega
  | succ n ih =>
    cases i with
    | zero => simp [bitsR]
    | succ i =>
      simp only [bitsR, List.getElem?_cons_succ]
      rw [ih _ _ (by omega)]
      simp [Nat.add_comm]
def lo' (r : R) : Nat := r.toNat % 256
def hi' (r : R) : Nat := r.toNat / 256
theorem obits_len (o : Nat) : (obits o).length = 8 := by simp [obits]
theorem obits_get (o i : Nat) (h : i < 8) : (obits o)[i]? = some (o.testBit i) := by
  unfold obits
  rw [List.getElem?_map, List.getElem?_range h]; rfl
theorem two_octs (q : R) : obits (lo' q) ++ obits (hi' q) = bitsR 16 q := by
  apply List.ext_getElem?
  intro i
  by_cases h8 : i < 8
  · rw [List.getElem?_append_left (by rw [obits_len]; exact h8), obits_get _ _ h8, bitsR_get _ _ _ (by omega)]
    unfold lo'
    rw [show (256 : Nat) = 2 ^ 8 from rfl, Nat.testBit_mod_two_pow, BitVec.getLsbD]
    simp [h8]
  · rw [List.getElem?_append_right (by rw [obits_len]; omega), obits_len]
    by_cases h16 : i < 16
    · rw [obits_get _ _ (by omega), bitsR_get _ _ _ h16]
      unfold hi'
      rw [show (256 : Nat) = 2 ^ 8 from rfl, Nat.testBit_div_two_pow, BitVec.getLsbD]
      congr 2; omega
    · rw [List.getElem?_eq_none (by rw [obits_len]; omega), List.getElem?_eq_none (by rw [bitsR_length]; omega)]
theorem not_bits (n : Nat) (q : R) (hn : n ≤ 16) : bitsR n (~~~ q) = List.zipWith (· ^^ ·) (bitsR n q) (List.replicate n true) := by
  apply List.ext_getElem?
  intro i
  by_cases h : i < n
  · rw [bitsR_get _ _ _ h, List.getElem?_zipWith, bitsR_get _ _ _ h, List.getElem?_replicate, if_pos h, BitVec.getLsbD_not]
    simp [show i < 16 by omega]
  · rw [List.getElem?_eq_none (by rw [bitsR_length]; omega), List.getElem?_eq_none (by simp [bitsR_length]; omega)]
set_option maxRecDepth 10000 in
theorem residue (q : R) : run q (bitsR 16 (~~~ q)) = 0xf0b8#16 := by
  rw [not_bits 16 q (Nat.le_refl _)]
  have h := run_xor (bitsR 16 q) (List.replicate 16 true) (by simp [bitsR_length]) q 0#16
  rw [own_bits, show q ^^^ 0#16 = q from by simp] at h
  rw [h, show q >>> 16 = 0#16 from by apply BitVec.eq_of_getLsbD_eq; intro i hi; simp]
  decide +kernel
theorem sumR_append (r : R) (a b : List UInt8) : sumR r (a ++ b) = sumR (sumR r a) b := by simp [sumR]
theorem run_two (r : R) (a b : UInt8) : sumR r [a, b] = run r (obits a.toNat ++ obits b.toNat) := by
  rw [run_append]; rfl
theorem residue_oct (q : R) : sumR q [UInt8.ofNat ((~~~ q).toNat % 256), UInt8.ofNat ((~~~ q).toNat / 256)] = 0xf0b8#16 := by
  have hq := (~~~ q).isLt
  rw [run_two]
  have e1 : (UInt8.ofNat ((~~~ q).toNat % 256)).toNat = lo' (~~~ q) := by
    rw [UInt8.toNat_ofNat']; unfold lo'; omega
  have e2 : (UInt8.ofNat ((~~~ q).toNat / 256)).toNat = hi' (~~~ q) := by
    rw [UInt8.toNat_ofNat']; unfold hi'; omega
  rw [e1, e2, two_octs, residue]
theorem obits_xor (a b : UInt8) : obits (a ^^^ b).toNat = List.zipWith (· ^^ ·) (obits a.toNat) (obits b.toNat) := by
  apply List.ext_getElem?
  intro i
  by_cases h : i < 8
  · rw [obits_get _ _ h, List.getElem?_zipWith, obits_get _ _ h, obits_get _ _ h, UInt8.toNat_xor, Nat.testBit_xor]
  · rw [List.getElem?_eq_none (by rw [obits_len]; omega), List.getElem?_eq_none (by simp [obits_len]; omega)]
theorem stepB_xor (r s : R) (a b : UInt8) : stepB (r ^^^ s) (a ^^^ b) = stepB r a ^^^ stepB s b := by
  unfold stepB
  rw [obits_xor, run_xor _ _ (by rw [obits_len, obits_len])]
theorem sumR_xor (l m : List UInt8) (h : l.length = m.length) (r s : R) : sumR (r ^^^ s) (List.zipWith (· ^^^ ·) l m) = sumR r l ^^^ sumR s m := by
  induction l generalizing m r s with
  | nil => cases m with | nil => rfl | cons => simp at h
  | cons a l ih => cases m with
    | nil => simp at h
    | cons b m =>
      simp only [List.zipWith_cons_cons, sumR, List.foldl_cons]
      rw [stepB_xor]; exact ih m (by simpa using h) _ _
end Go.Proofs.YtdpgdnbknmncfaaDoor.Crc
