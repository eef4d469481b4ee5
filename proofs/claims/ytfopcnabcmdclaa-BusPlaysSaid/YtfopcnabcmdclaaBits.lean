/- Octets as bits, in plain lists of octets: what Of, Good, Octets and Flip come to. No program in sight, no condition. -/
import Derived.Test.YtfopcnabcmdclaaStr
namespace Go.Proofs.Ytfopcnabcmdclaa.Bits
open Go.RowKit Go.Proofs.Ytfopcnabcmdclaa.Str

/-- Bit k of an octet, as the octet of its digit. -/
def bitB (b : UInt8) (k : Nat) : UInt8 := UInt8.ofNat (48 + b.toNat / 2 ^ k % 2)
def bitsB (b : UInt8) : List UInt8 := (List.range 8).map (bitB b)
def ofL (l : List UInt8) : List UInt8 := l.flatMap bitsB
theorem bitsB_length (b : UInt8) : (bitsB b).length = 8 := by simp [bitsB]
theorem ofL_nil : ofL [] = [] := rfl
theorem ofL_cons (b : UInt8) (l : List UInt8) : ofL (b :: l) = bitsB b ++ ofL l := rfl
theorem ofL_append (a b : List UInt8) : ofL (a ++ b) = ofL a ++ ofL b := by simp [ofL]
theorem ofL_length (l : List UInt8) : (ofL l).length = 8 * l.length := by
  induction l with
  | nil => rfl
  | cons b l ih => rw [ofL_cons, List.length_append, bitsB_length, ih, List.length_cons]; omega
theorem bitsB_take (b : UInt8) (k : Nat) (h : k < 8) : (bitsB b).take (k + 1) = (bitsB b).take k ++ [bitB b k] := by
  rw [List.take_succ_eq_append_getElem (by rw [bitsB_length]; exact h)]
  simp [bitsB]
theorem bitsB_all (b : UInt8) : (bitsB b).take 8 = bitsB b := List.take_of_length_le (by rw [bitsB_length]; exact Nat.le_refl _)
theorem ofL_take (l : List UInt8) (i : Nat) (h : i < l.length) : ofL (l.take (i + 1)) = ofL (l.take i) ++ bitsB l[i] := by
  rw [List.take_succ_eq_append_getElem h, ofL_append, ofL_cons, ofL_nil, List.append_nil]
/-- The octet's bit as the machine makes it. -/
theorem bitB_num (b : UInt8) (k : Nat) : ((bitB b k).toNat : Int) = 48 + (b.toNat : Int) / 2 ^ k % 2 := by
  have h : b.toNat / 2 ^ k % 2 < 2 := Nat.mod_lt _ (by decide)
  unfold bitB
  rw [UInt8.toNat_ofNat']
  have e : (48 + b.toNat / 2 ^ k % 2) % 2 ^ 8 = 48 + b.toNat / 2 ^ k % 2 := by omega
  rw [e]
  simp
/-- A bit turned, if there is one at that place. -/
def turn1 (l : List UInt8) (i : Int) : List UInt8 := if 0 ≤ i ∧ i < (l.length : Int) ∧ (l.getD i.toNat 0 = 48 ∨ l.getD i.toNat 0 = 49) then l.set i.toNat (97 - l.getD i.toNat 0) else l
def turnL (l : List UInt8) (at_ : List Int) : List UInt8 := at_.foldl turn1 l
theorem turn1_length (l : List UInt8) (i : Int) : (turn1 l i).length = l.length := by unfold turn1; split <;> simp
theorem turnL_length (l : List UInt8) (m : List Int) : (turnL l m).length = l.length := by
  unfold turnL
  induction m generalizing l with
  | nil => rfl
  | cons i m ih => rw [List.foldl_cons, ih, turn1_length]
theorem turnL_take (l : List UInt8) (m : List Int) (k : Nat) (h : k < m.length) : turnL l (m.take (k + 1)) = turn1 (turnL l (m.take k)) m[k] := by
  unfold turnL
  rw [List.take_succ_eq_append_getElem h, List.foldl_append]; rfl
end Go.Proofs.Ytfopcnabcmdclaa.Bits
