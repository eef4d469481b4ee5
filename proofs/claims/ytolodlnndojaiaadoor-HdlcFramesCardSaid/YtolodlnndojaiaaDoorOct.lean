/- Octets out of bits, in plain lists: what Octets comes to; it takes Of back; turned twice bits are as they were. No program in sight, no condition. -/
import Derived.Test.YtolodlnndojaiaaDoorBits
namespace Go.Proofs.YtolodlnndojaiaaDoor.Oct
open Go.RowKit Go.Proofs.YtolodlnndojaiaaDoor.Str Go.Proofs.YtolodlnndojaiaaDoor.Bits

/-- Digits as a number, the lowest first. -/
def val : List UInt8 → Nat
  | [] => 0
  | c :: r => c.toNat % 2 + 2 * val r
theorem val_lt (l : List UInt8) : val l < 2 ^ l.length := by
  induction l with
  | nil => decide
  | cons c r ih => simp only [val, List.length_cons, Nat.pow_succ]; omega
theorem val_snoc (l : List UInt8) (c : UInt8) : val (l ++ [c]) = val l + c.toNat % 2 * 2 ^ l.length := by
  induction l with
  | nil => simp [val]
  | cons d r ih =>
    simp only [List.cons_append, val, ih, List.length_cons, Nat.pow_succ]
    generalize 2 ^ r.length = q
    rw [Nat.mul_add, ← Nat.mul_assoc, ← Nat.mul_assoc, Nat.mul_comm 2 (c.toNat % 2), Nat.mul_assoc (c.toNat % 2) q 2, Nat.mul_assoc (c.toNat % 2) 2 q, Nat.mul_comm 2 q]
    omega
def goodL (l : List UInt8) : Bool := l.all fun c => c == 48 || c == 49
/-- The eight digits of octet j. -/
def row (l : List UInt8) (j : Nat) : List UInt8 := (l.drop (8 * j)).take 8
def oct (l : List UInt8) (j : Nat) : UInt8 := UInt8.ofNat (val (row l j))
def octsL (l : List UInt8) : List UInt8 := (List.range (l.length / 8)).map (oct l)
def octR (l : List UInt8) : List UInt8 × Int := if goodL l = true then (if l.length % 8 = 0 then (octsL l, 0) else ([], 3)) else ([], 4)
theorem row_length (l : List UInt8) (j : Nat) : (row l j).length ≤ 8 := List.length_take_le _ _
theorem oct_num (l : List UInt8) (j : Nat) : ((oct l j).toNat : Int) = (val (row l j) : Int) := by
  have h := val_lt (row l j)
  have h2 : 2 ^ (row l j).length ≤ 2 ^ 8 := Nat.pow_le_pow_right (by decide) (row_length l j)
  unfold oct
  rw [UInt8.toNat_ofNat', Nat.mod_eq_of_lt (Nat.lt_of_lt_of_le h h2)]
/-- What n octets hold when the first i digits are in. -/
def partL (l : List UInt8) (n i : Nat) : List UInt8 := (List.range n).map (oct (l.take i))
theorem partL_length (l : List UInt8) (n i : Nat) : (partL l n i).length = n := by simp [partL]
theorem partL_zero (l : List UInt8) (n : Nat) : partL l n 0 = List.replicate n 0 := by
  apply List.ext_getElem (by simp [partL])
  intro i h1 h2
  simp [partL, oct, row, val]
theorem partL_all (l : List UInt8) : partL l (l.length / 8) l.length = octsL l := by
  unfold partL octsL
  rw [List.take_of_length_le (Nat.le_refl _)]
theorem partL_get (l : List UInt8) (n i j : Nat) (h : j < n) : (partL l n i)[j]'(by rw [partL_length]; exact h) = oct (l.take i) j := by simp [partL]
theorem row_same (l : List UInt8) (i j : Nat) (hi : i < l.length) (hj : j ≠ i / 8) : row (l.take (i + 1)) j = row (l.take i) j := by
  unfold row
  rw [List.take_succ_eq_append_getElem hi]
  by_cases h : j < i / 8
  · rw [List.drop_append_of_le_length (by rw [List.length_take]; omega), List.take_append_of_le_length (by rw [List.length_drop, List.length_take]; omega)]
  · rw [List.drop_of_length_le (by simp; omega), List.drop_of_length_le (by simp; omega)]
theorem row_new (l : List UInt8) (i : Nat) (hi : i < l.length) : row (l.take (i + 1)) (i / 8) = row (l.take i) (i / 8) ++ [l[i]] ∧ (row (l.take i) (i / 8)).length = i % 8 := by
  unfold row
  have hd : (List.drop (8 * (i / 8)) (List.take i l)).length = i % 8 := by rw [List.length_drop, List.length_take]; omega
  refine ⟨?_, by rw [List.length_take, hd]; omega⟩
  have h1 : List.take 8 (List.drop (8 * (i / 8)) (List.take i l)) = List.drop (8 * (i / 8)) (List.take i l) := List.take_of_length_le (by rw [hd]; omega)
  rw [h1, List.take_succ_eq_append_getElem hi, List.drop_append_of_le_length (by rw [List.length_take]; omega)]
  exact List.take_of_length_le (by rw [List.length_append, hd]; simp; omega)
theorem partL_step (l : List UInt8) (n i : Nat) (hi : i < l.length) (_hn : i / 8 < n) (c : UInt8) (hc : (c.toNat : Int) = (val (row (l.take i) (i / 8)) : Int) + (l[i].toNat : Int) % 2 * 2 ^ (i % 8)) :
    partL l n (i + 1) = (partL l n i).set (i / 8) c := by
  apply List.ext_getElem (by simp [partL])
  intro j h1 h2
  rw [partL_length] at h1
  rw [partL_get l n _ j h1, List.getElem_set]
  by_cases h : i / 8 = j
  · rw [if_pos h]
    subst h
    obtain ⟨hr, hl⟩ := row_new l i hi
    apply UInt8.toNat_inj.1
    have h3 := oct_num (l.take (i + 1)) (i / 8)
    rw [hr, val_snoc, hl] at h3
    have : ((oct (l.take (i + 1)) (i / 8)).toNat : Int) = (c.toNat : Int) := by
      rw [h3, hc]
      simp
    omega
  · rw [if_neg h, partL_get l n i j h1]
    unfold oct
    rw [row_same l i j hi (fun e => h e.symm)]
/-! ### back and forth -/
set_option maxRecDepth 10000 in
theorem val_bits (b : UInt8) : UInt8.ofNat (val (bitsB b)) = b := by
  have : ∀ n : Fin 256, UInt8.ofNat (val (bitsB (UInt8.ofNat n.val))) = UInt8.ofNat n.val := by decide +kernel
  have h := this ⟨b.toNat, b.toNat_lt⟩
  simpa using h
theorem row_of (l : List UInt8) (j : Nat) (h : j < l.length) : row (ofL l) j = bitsB l[j] := by
  unfold row
  have e : ofL l = ofL (l.take j) ++ (bitsB l[j] ++ ofL (l.drop (j + 1))) := by
    rw [← ofL_cons, ← ofL_append, List.getElem_cons_drop, List.take_append_drop]
  have hl : (ofL (l.take j)).length = 8 * j := by rw [ofL_length, List.length_take]; omega
  rw [e, ← hl, List.drop_left, List.take_append_of_le_length (by rw [bitsB_length]; exact Nat.le_refl _), bitsB_all]
theorem octs_of (l : List UInt8) : octsL (ofL l) = l := by
  unfold octsL
  have e : (ofL l).length / 8 = l.length := by rw [ofL_length]; omega
  rw [e]
  apply List.ext_getElem (by simp)
  intro i h1 h2
  simp only [List.getElem_map, List.getElem_range]
  unfold oct
  rw [row_of l i h2, val_bits]
set_option maxRecDepth 10000 in
theorem good_bits (b : UInt8) : goodL (bitsB b) = true := by
  have : ∀ n : Fin 256, goodL (bitsB (UInt8.ofNat n.val)) = true := by decide +kernel
  have h := this ⟨b.toNat, b.toNat_lt⟩
  simpa using h
theorem good_append (a b : List UInt8) : goodL (a ++ b) = (goodL a && goodL b) := by simp [goodL]
theorem good_of (l : List UInt8) : goodL (ofL l) = true := by
  induction l with
  | nil => rfl
  | cons b l ih => rw [ofL_cons, good_append, good_bits, ih]; rfl
theorem octR_of (l : List UInt8) : octR (ofL l) = (l, 0) := by
  unfold octR
  rw [if_pos (good_of l), if_pos (by rw [ofL_length]; omega), octs_of]
/-! ### turned twice -/
theorem dig_back (c : UInt8) (h : c = 48 ∨ c = 49) : (97 - c = 48 ∨ 97 - c = 49) ∧ 97 - (97 - c) = c := by rcases h with rfl | rfl <;> decide
theorem turn1_back (l : List UInt8) (i : Int) : turn1 (turn1 l i) i = l := by
  by_cases h : 0 ≤ i ∧ i < (l.length : Int) ∧ (l.getD i.toNat 0 = 48 ∨ l.getD i.toNat 0 = 49)
  · have e : turn1 l i = l.set i.toNat (97 - l.getD i.toNat 0) := by unfold turn1; rw [if_pos h]
    obtain ⟨h1, h2, h3⟩ := h
    have hl : i.toNat < l.length := by omega
    rw [e]
    unfold turn1
    have e2 : (l.set i.toNat (97 - l.getD i.toNat 0)).getD i.toNat 0 = 97 - l.getD i.toNat 0 := by
      rw [List.getD_eq_getElem?_getD, List.getElem?_set_self hl]; rfl
    rw [e2, if_pos ⟨h1, by simpa using h2, (dig_back _ h3).1⟩, (dig_back _ h3).2, List.set_set]
    rw [List.getD_eq_getElem?_getD, List.getElem?_eq_getElem hl]
    simp
  · have e : turn1 l i = l := by unfold turn1; rw [if_neg h]
    rw [e, e]
theorem turn1_swap (l : List UInt8) (i j : Int) : turn1 (turn1 l i) j = turn1 (turn1 l j) i := by
  by_cases hij : i = j
  · subst hij; rfl
  by_cases hi : 0 ≤ i ∧ i < (l.length : Int) ∧ (l.getD i.toNat 0 = 48 ∨ l.getD i.toNat 0 = 49)
  · by_cases hj : 0 ≤ j ∧ j < (l.length : Int) ∧ (l.getD j.toNat 0 = 48 ∨ l.getD j.toNat 0 = 49)
    · have hne : i.toNat ≠ j.toNat := by omega
      have ei : turn1 l i = l.set i.toNat (97 - l.getD i.toNat 0) := by unfold turn1; rw [if_pos hi]
      have ej : turn1 l j = l.set j.toNat (97 - l.getD j.toNat 0) := by unfold turn1; rw [if_pos hj]
      have gi : (l.set i.toNat (97 - l.getD i.toNat 0)).getD j.toNat 0 = l.getD j.toNat 0 := by
        simp only [List.getD_eq_getElem?_getD]; rw [List.getElem?_set_ne hne]
      have gj : (l.set j.toNat (97 - l.getD j.toNat 0)).getD i.toNat 0 = l.getD i.toNat 0 := by
        simp only [List.getD_eq_getElem?_getD]; rw [List.getElem?_set_ne (Ne.symm hne)]
      rw [ei, ej]
      unfold turn1
      rw [gi, gj, if_pos (by simpa using hj), if_pos (by simpa using hi), List.set_comm _ _ hne]
    · have ej : turn1 l j = l := by unfold turn1; rw [if_neg hj]
      have ei : turn1 l i = l.set i.toNat (97 - l.getD i.toNat 0) := by unfold turn1; rw [if_pos hi]
      rw [ej, ei]
      unfold turn1
      rw [if_neg]
      rintro ⟨h1, h2, h3⟩
      have hne : i.toNat ≠ j.toNat := by omega
      have gi : (l.set i.toNat (97 - l.getD i.toNat 0)).getD j.toNat 0 = l.getD j.toNat 0 := by
        simp only [List.getD_eq_getElem?_getD]; rw [List.getElem?_set_ne hne]
      rw [gi] at h3
      exact hj ⟨h1, by simpa using h2, h3⟩
  · have ei : turn1 l i = l := by unfold turn1; rw [if_neg hi]
    rw [ei]
    by_cases hj : 0 ≤ j ∧ j < (l.length : Int) ∧ (l.getD j.toNat 0 = 48 ∨ l.getD j.toNat 0 = 49)
    · have ej : turn1 l j = l.set j.toNat (97 - l.getD j.toNat 0) := by unfold turn1; rw [if_pos hj]
      rw [ej]
      symm
      unfold turn1
      rw [if_neg]
      rintro ⟨h1, h2, h3⟩
      have hne : j.toNat ≠ i.toNat := by omega
      have gj : (l.set j.toNat (97 - l.getD j.toNat 0)).getD i.toNat 0 = l.getD i.toNat 0 := by
        simp only [List.getD_eq_getElem?_getD]; rw [List.getElem?_set_ne hne]
      rw [gj] at h3
      exact hi ⟨h1, by simpa using h2, h3⟩
    · have ej : turn1 l j = l := by unfold turn1; rw [if_neg hj]
      rw [ej, ei]
theorem turnL_swap (l : List UInt8) (m : List Int) (i : Int) : turn1 (turnL l m) i = turnL (turn1 l i) m := by
  unfold turnL
  induction m generalizing l with
  | nil => rfl
  | cons j m ih => rw [List.foldl_cons, List.foldl_cons, ih, turn1_swap]
theorem turnL_back (l : List UInt8) (m : List Int) : turnL (turnL l m) m = l := by
  induction m generalizing l with
  | nil => rfl
  | cons i m ih =>
    have e : ∀ x, turnL x (i :: m) = turnL (turn1 x i) m := fun _ => rfl
    rw [e, e, turnL_swap, turn1_back, ih]
end Go.Proofs.YtolodlnndojaiaaDoor.Oct
