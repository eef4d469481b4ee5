/- Bits that are turned in what was sealed, all less than sixteen places apart, are found. Plain lists, the register, no program but the printed functions' meanings. No condition. -/
import Derived.Test.YtdpgdnbknmncfaaDoorPlainB
import Derived.Test.YtdpgdnbknmncfaaDoorCrcMore
import Derived.Test.YtdpgdnbknmncfaaDoorOct
namespace Go.Proofs.YtdpgdnbknmncfaaDoor.Burst
open Go.RowKit Go.Proofs.YtdpgdnbknmncfaaDoor.Str Go.Proofs.YtdpgdnbknmncfaaDoor.Bits Go.Proofs.YtdpgdnbknmncfaaDoor.Oct Go.Proofs.YtdpgdnbknmncfaaDoor.Crc Go.Proofs.YtdpgdnbknmncfaaDoor.Fcs

def dig (b : Bool) : UInt8 := if b then 49 else 48
/-- All octets' bits, each octet's lowest first. -/
def bl (l : List UInt8) : List Bool := l.flatMap fun b => obits b.toNat
theorem bl_cons (b : UInt8) (l : List UInt8) : bl (b :: l) = obits b.toNat ++ bl l := rfl
theorem bl_length (l : List UInt8) : (bl l).length = 8 * l.length := by
  induction l with
  | nil => rfl
  | cons b l ih => rw [bl_cons, List.length_append, obits_length, ih, List.length_cons]; omega
theorem bits_dig (b : UInt8) : bitsB b = (obits b.toNat).map dig := by
  unfold bitsB obits
  rw [List.map_map]
  apply List.map_congr_left
  intro i _
  show _ = dig (b.toNat.testBit i)
  unfold dig bitB
  rw [Nat.testBit_eq_decide_div_mod_eq]
  have h : b.toNat / 2 ^ i % 2 = 0 ∨ b.toNat / 2 ^ i % 2 = 1 := by omega
  rcases h with h | h <;> rw [h] <;> rfl
theorem ofL_dig (l : List UInt8) : ofL l = (bl l).map dig := by
  induction l with
  | nil => rfl
  | cons b l ih => rw [ofL_cons, bl_cons, List.map_append, ← bits_dig, ih]
theorem sum_bl (r : R) (l : List UInt8) : sumR r l = run r (bl l) := by
  induction l generalizing r with
  | nil => rfl
  | cons b l ih =>
    rw [bl_cons, run_append]
    exact ih (stepB r b)
theorem dig_good (bs : List Bool) : goodL (bs.map dig) = true := by
  unfold goodL
  rw [List.all_eq_true]
  intro x hx
  obtain ⟨b, _, rfl⟩ := List.mem_map.1 hx
  cases b <;> rfl
set_option maxRecDepth 10000 in
theorem eight (b0 b1 b2 b3 b4 b5 b6 b7 : Bool) : obits (UInt8.ofNat (val ([b0, b1, b2, b3, b4, b5, b6, b7].map dig))).toNat = [b0, b1, b2, b3, b4, b5, b6, b7] := by
  revert b0 b1 b2 b3 b4 b5 b6 b7
  decide +kernel
theorem row_next (l : List UInt8) (j : Nat) : row l (j + 1) = row (l.drop 8) j := by
  unfold row
  rw [List.drop_drop]
  congr 2
  omega
theorem octs_next (l : List UInt8) (n : Nat) (h : l.length = 8 * (n + 1)) : octsL l = Oct.oct l 0 :: octsL (l.drop 8) := by
  unfold octsL
  have e1 : l.length / 8 = n + 1 := by omega
  have e2 : (l.drop 8).length / 8 = n := by rw [List.length_drop]; omega
  rw [e1, e2, List.range_succ_eq_map, List.map_cons, List.map_map]
  congr 1
  apply List.map_congr_left
  intro j _
  show Oct.oct l (j + 1) = Oct.oct (l.drop 8) j
  unfold Oct.oct
  rw [row_next]
theorem bl_octs (n : Nat) (bs : List Bool) (h : bs.length = 8 * n) : bl (octsL (bs.map dig)) = bs := by
  induction n generalizing bs with
  | zero =>
    obtain rfl : bs = [] := List.eq_nil_of_length_eq_zero (by omega)
    rfl
  | succ n ih =>
    rw [octs_next _ n (by rw [List.length_map]; exact h), bl_cons, ← List.map_drop, ih (bs.drop 8) (by rw [List.length_drop]; omega)]
    match bs, h with
    | b0 :: b1 :: b2 :: b3 :: b4 :: b5 :: b6 :: b7 :: r, _ =>
      have : Oct.oct ((b0 :: b1 :: b2 :: b3 :: b4 :: b5 :: b6 :: b7 :: r).map dig) 0 = UInt8.ofNat (val ([b0, b1, b2, b3, b4, b5, b6, b7].map dig)) := by
        simp [Oct.oct, row]
      rw [this, eight]
      rfl
theorem octs_length (n : Nat) (bs : List Bool) (h : bs.length = 8 * n) : (octsL (bs.map dig)).length = n := by
  unfold octsL
  rw [List.length_map, List.length_range, List.length_map, h]
  omega
/-- Bits turned where f says so. -/
def zx (bs : List Bool) (f : Nat → Bool) : List Bool := bs.mapIdx fun j b => b ^^ f j
theorem zx_length (bs : List Bool) (f : Nat → Bool) : (zx bs f).length = bs.length := by simp [zx]
theorem zx_none (bs : List Bool) : zx bs (fun _ => false) = bs := by
  apply List.ext_getElem (by simp [zx])
  intro i h1 h2
  simp [zx]
theorem turn_zx (bs : List Bool) (f : Nat → Bool) (i : Nat) (hi : i < bs.length) : turn1 ((zx bs f).map dig) (i : Int) = (zx bs fun j => f j ^^ decide (j = i)).map dig := by
  have hl : i < ((zx bs f).map dig).length := by rw [List.length_map, zx_length]; exact hi
  have hg : ((zx bs f).map dig).getD i 0 = dig (bs[i] ^^ f i) := by
    rw [List.getD_eq_getElem?_getD, List.getElem?_eq_getElem hl]
    simp [zx]
  unfold turn1
  rw [Int.toNat_natCast, hg, if_pos ⟨by omega, by omega, by cases (bs[i] ^^ f i) <;> simp [dig]⟩]
  apply List.ext_getElem (by simp [zx])
  intro j h1 h2
  rw [List.getElem_set]
  by_cases h : i = j
  · subst h
    rw [if_pos rfl]
    simp only [List.getElem_map, zx, List.getElem_mapIdx]
    cases bs[i] <;> cases f i <;> simp [dig] <;> decide
  · rw [if_neg h]
    have h' : ¬ j = i := fun e => h e.symm
    simp [zx, h']
/-- The places of a pattern's bits, from a place on. -/
def places (p : Nat → Bool) (a : Nat) : Nat → List Int
  | 0 => []
  | k + 1 => places p a k ++ (if p k then [((a + k : Nat) : Int)] else [])
theorem places_le (p : Nat → Bool) (a k : Nat) : (places p a k).length ≤ k := by
  induction k with
  | zero => exact Nat.le_refl _
  | succ k ih =>
    rw [places, List.length_append]
    split <;> simp <;> omega
theorem places_none (p : Nat → Bool) (a k : Nat) (h : places p a k ≠ []) : ∃ i, i < k ∧ p i = true := by
  induction k with
  | zero => exact absurd rfl h
  | succ k ih =>
    cases hp : p k with
    | true => exact ⟨k, by omega, hp⟩
    | false =>
      have e : places p a (k + 1) = places p a k := by simp [places, hp]
      rw [e] at h
      obtain ⟨i, h1, h2⟩ := ih h
      exact ⟨i, by omega, h2⟩
def mask (p : Nat → Bool) (a k : Nat) (j : Nat) : Bool := decide (a ≤ j) && decide (j < a + k) && p (j - a)
theorem turn_places (bs : List Bool) (p : Nat → Bool) (a k : Nat) (h : a + k ≤ bs.length) : turnL (bs.map dig) (places p a k) = (zx bs (mask p a k)).map dig := by
  induction k with
  | zero =>
    have e : mask p a 0 = fun _ => false := by
      funext j
      unfold mask
      by_cases h1 : a ≤ j
      · have h2 : decide (j < a + 0) = false := decide_eq_false (by omega)
        rw [h2]; simp
      · rw [decide_eq_false h1]; rfl
    rw [e, zx_none]; rfl
  | succ k ih =>
    have e0 : turnL (bs.map dig) (places p a (k + 1)) = turnL (turnL (bs.map dig) (places p a k)) (if p k then [((a + k : Nat) : Int)] else []) := by
      simp [places, turnL, List.foldl_append]
    rw [e0, ih (by omega)]
    cases hp : p k with
    | false =>
      have e : mask p a (k + 1) = mask p a k := by
        funext j
        unfold mask
        by_cases hj : j = a + k
        · subst hj
          have : a + k - a = k := by omega
          rw [this, hp]; simp
        · have : (j < a + (k + 1)) = (j < a + k) := by apply propext; omega
          simp only [this]
      rw [e]; rfl
    | true =>
      have e : mask p a (k + 1) = fun j => mask p a k j ^^ decide (j = a + k) := by
        funext j
        unfold mask
        by_cases hj : j = a + k
        · subst hj
          have h1 : a + k - a = k := by omega
          have h2 : ¬ (a + k < a + k) := by omega
          rw [h1, hp]
          simp [h2]
        · have : (j < a + (k + 1)) = (j < a + k) := by apply propext; omega
          simp [this, hj]
      rw [e]
      exact turn_zx bs (mask p a k) (a + k) (by omega)
theorem zx_zip (bs : List Bool) (f : Nat → Bool) : zx bs f = List.zipWith (· ^^ ·) bs ((List.range bs.length).map f) := by
  apply List.ext_getElem (by simp [zx])
  intro i h1 h2
  simp [zx]
theorem range_parts (f : Nat → Bool) (a n : Nat) (h : a + 16 ≤ n) (hf : ∀ j, f j = true → a ≤ j ∧ j < a + 16) :
    (List.range n).map f = List.replicate a false ++ ((List.range 16).map fun i => f (a + i)) ++ List.replicate (n - a - 16) false := by
  apply List.ext_getElem (by simp; omega)
  intro i h1 h2
  simp only [List.getElem_map, List.getElem_range]
  have hno : ∀ j, ¬ (a ≤ j ∧ j < a + 16) → f j = false := by
    intro j hj
    cases hv : f j with
    | false => rfl
    | true => exact absurd (hf j hv) hj
  by_cases c1 : i < a
  · rw [List.getElem_append_left (by simp; omega), List.getElem_append_left (by simpa using c1), List.getElem_replicate]
    exact hno i (by omega)
  · by_cases c2 : i < a + 16
    · rw [List.getElem_append_left (by simp; omega), List.getElem_append_right (by simpa using c1)]
      simp only [List.length_replicate, List.getElem_map, List.getElem_range]
      congr 1
      omega
    · rw [List.getElem_append_right (by simp; omega), List.getElem_replicate]
      exact hno i (by omega)
theorem seal_residue (l : List UInt8) : sumR 0xffff#16 (sealL l) = 0xf0b8#16 := by
  unfold sealL
  rw [sumR_append]
  exact residue_oct (sumR 0xffff#16 l)
/-- What was sealed, bits of it turned within sixteen places, is found wrong. -/
theorem found (l : List UInt8) (f : Nat → Bool) (a : Nat) (h : a + 16 ≤ 8 * (l.length + 2)) (hf : ∀ j, f j = true → a ≤ j ∧ j < a + 16) (hne : ∃ j, f j = true) :
    checkL (octsL ((zx (bl (sealL l)) f).map dig)) = ([], 6) := by
  have hbl : (bl (sealL l)).length = 8 * (l.length + 2) := by rw [bl_length, seal_length]
  have hz : (zx (bl (sealL l)) f).length = 8 * (l.length + 2) := by rw [zx_length, hbl]
  have hb := bl_octs _ _ hz
  have hlen := octs_length _ _ hz
  generalize octsL ((zx (bl (sealL l)) f).map dig) = t at hb hlen
  unfold checkL
  rw [if_neg (by omega), if_neg]
  intro hs
  have h1 : sumR 0xffff#16 t = 0xf0b8#16 := by rw [← hs]; exact seal_residue _
  have h2 := seal_residue l
  rw [sum_bl, hb, zx_zip] at h1
  rw [sum_bl] at h2
  have h3 := run_xor (bl (sealL l)) ((List.range (bl (sealL l)).length).map f) (by simp) 0xffff#16 0#16
  rw [show 0xffff#16 ^^^ 0#16 = 0xffff#16 from rfl, h1, h2] at h3
  have h4 : run 0#16 ((List.range (bl (sealL l)).length).map f) = 0#16 := by
    have h5 := congrArg (fun z => 0xf0b8#16 ^^^ z) h3
    simp only [← BitVec.xor_assoc, BitVec.xor_self, BitVec.zero_xor] at h5
    exact h5.symm
  rw [hbl, range_parts f a _ h hf] at h4
  have h6 := burst _ _ _ (by simp) h4
  obtain ⟨j, hj⟩ := hne
  obtain ⟨h7, h8⟩ := hf j hj
  have h9 := h6 (f j) (List.mem_map.2 ⟨j - a, by simp; omega, by congr 1; omega⟩)
  rw [hj] at h9
  cases h9
theorem octR_zx (n : Nat) (bs : List Bool) (f : Nat → Bool) (h : bs.length = 8 * n) : octR ((zx bs f).map dig) = (octsL ((zx bs f).map dig), 0) := by
  unfold octR
  rw [if_pos (dig_good _), if_pos (by rw [List.length_map, zx_length, h]; omega)]
/-- The law's own words: a pattern of sixteen bits from a place on. -/
theorem found_places (l : List UInt8) (p : Nat → Bool) (a : Nat) (h : a + 16 ≤ 8 * (l.length + 2)) :
    octR (turnL (ofL (sealL l)) (places p a 16)) = (octsL (turnL (ofL (sealL l)) (places p a 16)), 0) ∧ ((∃ i, i < 16 ∧ p i = true) → checkL (octsL (turnL (ofL (sealL l)) (places p a 16))) = ([], 6)) := by
  have hbl : (bl (sealL l)).length = 8 * (l.length + 2) := by rw [bl_length, seal_length]
  rw [ofL_dig, turn_places _ p a 16 (by omega)]
  refine ⟨octR_zx _ _ _ hbl, fun ⟨i, hi, hp⟩ => found l _ a h (fun j hj => ?_) ⟨a + i, ?_⟩⟩
  · unfold mask at hj
    simp at hj
    omega
  · unfold mask
    have e : a + i - a = i := by omega
    rw [e, hp]
    simp
    omega
theorem found_one (l : List UInt8) (i : Nat) (h : i < 8 * (l.length + 2)) :
    octR (turn1 (ofL (sealL l)) (i : Int)) = (octsL (turn1 (ofL (sealL l)) (i : Int)), 0) ∧ checkL (octsL (turn1 (ofL (sealL l)) (i : Int))) = ([], 6) := by
  have hbl : (bl (sealL l)).length = 8 * (l.length + 2) := by rw [bl_length, seal_length]
  have e := turn_zx (bl (sealL l)) (fun _ => false) i (by omega)
  rw [zx_none] at e
  rw [ofL_dig, e]
  refine ⟨octR_zx _ _ _ hbl, ?_⟩
  by_cases hc : i + 16 ≤ 8 * (l.length + 2)
  · refine found l _ i hc (fun j hj => ?_) ⟨i, by simp⟩
    simp at hj
    omega
  · refine found l _ (8 * (l.length + 2) - 16) (by omega) (fun j hj => ?_) ⟨i, by simp⟩
    simp at hj
    omega
end Go.Proofs.YtdpgdnbknmncfaaDoor.Burst
