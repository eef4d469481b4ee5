/- Texts as lists of octets: lengths, places, cuts, joins. Plain Lean, no condition. -/
import Derived.Test.YtmgiolpooamkkaaDoorWMore
import Derived.Laws.BytesArg
import Derived.WideShapes
import Derived.Lib.Strings
import Derived.Lib.IndexBytes
namespace Go.Proofs.YtmgiolpooamkkaaDoor.Str
open Go.RowKit Go.Proofs.YtmgiolpooamkkaaDoorW.PrintWords Go.Proofs.YtmgiolpooamkkaaDoorW.PrintLast Go.Proofs.YtmgiolpooamkkaaDoorW.PrintMore

abbrev L (s : ByteArray) : List UInt8 := s.data.toList
theorem size_L (s : ByteArray) : s.size = (L s).length := (data_length s).symm
theorem inj {a b : ByteArray} (h : L a = L b) : a = b := Go.WideShapes.bytes_inj h
theorem L_mk (l : List UInt8) : L ⟨l.toArray⟩ = l := rfl
theorem L_app (a b : ByteArray) : L (a ++ b) = L a ++ L b := by simp [L]
theorem toList_L (s : ByteArray) : s.toList = L s := Lib.toList_data s
theorem L_take (s : ByteArray) (k : Nat) : L (s.extract 0 k) = (L s).take k := by simp [L]
theorem L_cut (s : ByteArray) (j k : Nat) : L (s.extract j k) = ((L s).take k).drop j := by simp [L, List.drop_take]
theorem size_take (s : ByteArray) (k : Nat) (h : k ≤ s.size) : (s.extract 0 k).size = k := by
  rw [size_L] at h
  rw [size_L, L_take, List.length_take]; omega
/-- An octet of a list, as a number; 0 outside. -/
def at_ (l : List UInt8) (i : Nat) : Int := ((l.getD i 0).toNat : Int)
theorem bt_L (s : ByteArray) (i : Int) : bt s i = at_ (L s) i.toNat := by
  unfold bt at_
  by_cases h : i.toNat < s.size
  · rw [dif_pos h]
    have h' : i.toNat < (L s).length := by rw [← size_L]; exact h
    rw [List.getD_eq_getElem?_getD, List.getElem?_eq_getElem h']
    rfl
  · rw [dif_neg h]
    have h' : ¬ i.toNat < (L s).length := by rw [← size_L]; exact h
    rw [List.getD_eq_getElem?_getD, List.getElem?_eq_none (by omega)]
    rfl
theorem bt_nat (s : ByteArray) (i : Nat) : bt s (i : Int) = at_ (L s) i := by rw [bt_L]; simp
theorem at_range (l : List UInt8) (i : Nat) : 0 ≤ at_ l i ∧ at_ l i ≤ 255 := by
  have := (l.getD i 0).toNat_lt
  unfold at_; omega
theorem at_get (l : List UInt8) (i : Nat) (h : i < l.length) : at_ l i = ((l[i]).toNat : Int) := by
  unfold at_; rw [List.getD_eq_getElem?_getD, List.getElem?_eq_getElem h]; rfl
theorem L_nums (xs : List Int) : L (strOfNums xs) = xs.map fun n => UInt8.ofNat n.toNat := rfl
theorem nums_size (xs : List Int) : (strOfNums xs).size = xs.length := strOfNums_size xs
theorem nums_of (l : List UInt8) : strOfNums (l.map fun b => (b.toNat : Int)) = ⟨l.toArray⟩ := by
  apply inj
  rw [L_nums, List.map_map, L_mk]
  conv => rhs; rw [← List.map_id l]
  apply List.map_congr_left
  intro b _
  simp
/-- A test on a min of a length and a number. -/
theorem mn_nat (a b : Nat) : mn (a : Int) (b : Int) = ((min a b : Nat) : Int) := by unfold mn; omega
theorem w64 {n : Int} (h0 : -9223372036854775808 ≤ n) (h1 : n ≤ 9223372036854775807) : wrap64 n = n := by unfold wrap64; omega
end Go.Proofs.YtmgiolpooamkkaaDoor.Str
