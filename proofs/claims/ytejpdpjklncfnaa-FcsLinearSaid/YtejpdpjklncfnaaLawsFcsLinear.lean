/- The plain statement of FcsLinear over the printed functions: the check sequence of what two texts differ in, held against that of noughts, is what theirs differ in. No condition. -/
import Derived.Test.YtejpdpjklncfnaaFcsLin
import Derived.Test.YtejpdpjklncfnaaCrcMore
import Derived.Test.YtejpdpjklncfnaaPrint2
namespace Go.Proofs.Ytejpdpjklncfnaa.Pure
open Go.RowKit Go.Proofs.YtejpdpjklncfnaaW.PrintWords Go.Proofs.YtejpdpjklncfnaaW.PrintLast Go.Proofs.YtejpdpjklncfnaaW.PrintMore Go.Proofs.Ytejpdpjklncfnaa.Str Go.Proofs.Ytejpdpjklncfnaa.Crc Go.Proofs.Ytejpdpjklncfnaa.Fcs Go.Proofs.Ytejpdpjklncfnaa.Print
theorem bind_at {α β : Type} {o : Option α} {a : α} {f : α → Option β} {r : Option β} (h : o = some a) (h2 : f a = r) : o.bind f = r := by rw [h]; exact h2
theorem known : num (crc [49, 50, 51, 52, 53, 54, 55, 56, 57]) = 36974 := by decide +kernel
theorem known_sum (k : Nat) (hk : 18 < k) : fcs_Sum.f k (⟨#[49, 50, 51, 52, 53, 54, 55, 56, 57]⟩ : ByteArray) = some 36974 := by
  have hs : (⟨#[49, 50, 51, 52, 53, 54, 55, 56, 57]⟩ : ByteArray).size = 9 := rfl
  rw [sum_eq k _ (by rw [hs]; decide) (by rw [hs]; omega), show L (⟨#[49, 50, 51, 52, 53, 54, 55, 56, 57]⟩ : ByteArray) = [49, 50, 51, 52, 53, 54, 55, 56, 57] from rfl, known]
theorem xor8 (a b : UInt8) : Go.bits .xor .u8 (a.toNat : Int) (b.toNat : Int) = ((a ^^^ b).toNat : Int) := by
  show IntKind.u8.wrap (((BitVec.ofInt 8 (a.toNat : Int)) ^^^ (BitVec.ofInt 8 (b.toNat : Int))).toNat : Int) = _
  have ha : BitVec.ofInt 8 (a.toNat : Int) = a.toBitVec := by rw [BitVec.ofInt_natCast]; exact BitVec.eq_of_toNat_eq (by simp)
  have hb : BitVec.ofInt 8 (b.toNat : Int) = b.toBitVec := by rw [BitVec.ofInt_natCast]; exact BitVec.eq_of_toNat_eq (by simp)
  rw [ha, hb]
  have h : (a.toBitVec ^^^ b.toBitVec).toNat = (a ^^^ b).toNat := rfl
  have hl := (a ^^^ b).toNat_lt
  rw [h]
  have hw : ∀ n : Nat, n < 256 → IntKind.u8.wrap (n : Int) = (n : Int) := by
    intro n hn
    simp [IntKind.wrap, IntKind.bits, IntKind.signed]
    omega
  exact hw _ hl
/-- What two texts differ in, octet by octet. -/
def xl (s t : ByteArray) (n : Nat) : List Int := (List.range n).map fun j => Go.bits .xor .u8 (bt s ((j : Nat) : Int)) (bt t ((j : Nat) : Int))
theorem xl_length (s t : ByteArray) (n : Nat) : (xl s t n).length = n := by simp [xl]
theorem xl_get (s t : ByteArray) (n i : Nat) (h : i < (xl s t n).length) : (xl s t n)[i] = Go.bits .xor .u8 (bt s ((i : Nat) : Int)) (bt t ((i : Nat) : Int)) := by simp [xl]
theorem set_step (l : List Int) (i d : Nat) (h : i < l.length) : (l.take i ++ List.replicate (d + 1) 0).set i l[i] = l.take (i + 1) ++ List.replicate d 0 := by
  have hl : (l.take i).length = i := by rw [List.length_take]; omega
  rw [List.set_append_right _ _ (by omega), hl, Nat.sub_self, List.replicate_succ, List.set_cons_zero, List.take_succ_eq_append_getElem h, List.append_assoc]
  rfl
theorem L_xl (s t : ByteArray) (n : Nat) (hs : n ≤ s.size) (ht : n ≤ t.size) : L (strOfNums (xl s t n)) = List.zipWith (· ^^^ ·) ((L s).take n) ((L t).take n) := by
  rw [size_L] at hs ht
  rw [L_nums]
  apply List.ext_getElem
  · rw [List.length_map, xl_length, List.length_zipWith, List.length_take, List.length_take]; omega
  · intro i h1 h2
    rw [List.length_map, xl_length] at h1
    rw [List.getElem_map, xl_get, bt_nat, bt_nat, at_get _ _ (by omega), at_get _ _ (by omega), xor8, Int.toNat_natCast, List.getElem_zipWith, List.getElem_take, List.getElem_take]
    exact UInt8.ofNat_toNat
theorem L_zero (n : Nat) : L (strOfNums (List.replicate n 0)) = List.replicate n 0 := by
  rw [L_nums, List.map_replicate]; rfl
theorem zip_zero (l : List UInt8) : List.zipWith (· ^^^ ·) l (List.replicate l.length 0) = l := by
  induction l with
  | nil => rfl
  | cons a l ih => rw [List.length_cons, List.replicate_succ, List.zipWith_cons_cons, ih, UInt8.xor_zero]
theorem not_not (a b : R) : ~~~ a ^^^ ~~~ b = a ^^^ b := by
  apply BitVec.eq_of_getLsbD_eq
  intro i hi
  rw [BitVec.getLsbD_xor, BitVec.getLsbD_xor, BitVec.getLsbD_not, BitVec.getLsbD_not]
  simp [hi]
theorem crc_two (l m : List UInt8) (h : l.length = m.length) : crc l ^^^ crc m = sumR 0#16 (List.zipWith (· ^^^ ·) l m) := by
  unfold crc
  rw [not_not, ← sumR_xor l m h]
  rfl
theorem crc_linear (l m : List UInt8) (n : Nat) (hl : l.length = n) (hm : m.length = n) : crc l ^^^ crc m = crc (List.zipWith (· ^^^ ·) l m) ^^^ crc (List.replicate n 0) := by
  have hz : (List.zipWith (· ^^^ ·) l m).length = n := by rw [List.length_zipWith]; omega
  rw [crc_two l m (by omega), crc_two _ _ (by rw [hz, List.length_replicate]), ← hz, zip_zero]
theorem linear_loop (s t : ByteArray) (n : Nat) (hn : n ≤ 600) (hs : n ≤ s.size) (ht : n ≤ t.size) (d : Nat) : ∀ (k i : Nat), i + d = n → d + 1300 < k →
    lapwinglaw02_FcsLinear.l0 k s t (n : Int) ((xl s t n).take i ++ List.replicate d 0) (List.replicate n 0) (n : Int) (i : Int) = some true := by
  induction d with
  | zero =>
    intro k i h hk
    obtain ⟨k, rfl⟩ : ∃ m, k = m + 1 := ⟨k - 1, by omega⟩
    have z1 : (s.extract 0 n).size = n := size_take s n hs
    have z2 : (t.extract 0 n).size = n := size_take t n ht
    have z3 : (strOfNums (xl s t n)).size = n := by rw [nums_size, xl_length]
    have z4 : (strOfNums (List.replicate n 0)).size = n := by rw [nums_size, List.length_replicate]
    rw [List.replicate_zero, List.append_nil, List.take_of_length_le (by rw [xl_length]; omega), lapwinglaw02_FcsLinear.l0, if_neg (by omega)]
    refine bind_at (known_sum k (by omega)) ?_
    rw [if_pos rfl, if_pos (by omega), if_pos (by omega), Int.toNat_natCast]
    refine bind_at (sum_eq k (s.extract 0 n) (by omega) (by omega)) ?_
    rw [if_pos (by omega)]
    refine bind_at (sum_eq k (t.extract 0 n) (by omega) (by omega)) (bind_at (sum_eq k (strOfNums (xl s t n)) (by omega) (by omega)) (bind_at (sum_eq k (strOfNums (List.replicate n 0)) (by omega) (by omega)) ?_))
    rw [xor16, xor16, L_take, L_take, L_xl s t n hs ht, L_zero]
    rw [size_L] at hs ht
    rw [crc_linear ((L s).take n) ((L t).take n) n (by rw [List.length_take]; omega) (by rw [List.length_take]; omega), beq_self_eq_true]
  | succ d ih =>
    intro k i h hk
    obtain ⟨k, rfl⟩ : ∃ m, k = m + 1 := ⟨k - 1, by omega⟩
    have hx : i < (xl s t n).length := by rw [xl_length]; omega
    have hlen : ((xl s t n).take i ++ List.replicate (d + 1) 0).length = n := by rw [List.length_append, List.length_take, List.length_replicate, xl_length]; omega
    rw [lapwinglaw02_FcsLinear.l0, if_pos (by omega), if_pos (by omega), if_pos (by omega), if_pos (by omega), if_pos (by rw [hlen]; omega), Int.toNat_natCast, ← xl_get s t n i hx, set_step _ _ _ hx]
    have e : wrap64 ((i : Int) + 1) = ((i + 1 : Nat) : Int) := by rw [w64 (by omega) (by omega)]; omega
    rw [e]
    exact ih k (i + 1) (by omega) (by omega)
theorem FcsLinear : lapwinglaw02_FcsLinear.Pure := by
  intro s t _ _
  obtain ⟨k, hk⟩ : ∃ k : Nat, 2000 < k := ⟨2001, by omega⟩
  refine ⟨k, ?_⟩
  have e1 : mn (s.size : Int) (t.size : Int) = ((min s.size t.size : Nat) : Int) := mn_nat s.size t.size
  have e2 : mn ((min s.size t.size : Nat) : Int) 600 = ((min (min s.size t.size) 600 : Nat) : Int) := mn_nat (min s.size t.size) 600
  unfold lapwinglaw02_FcsLinear.f
  rw [e1, e2]
  generalize hn : min (min s.size t.size) 600 = n
  rw [if_pos (by omega), Int.toNat_natCast, if_pos (by omega)]
  have := linear_loop s t n (by omega) (by omega) (by omega) n k 0 (by omega) (by omega)
  rw [List.take_zero, List.nil_append] at this
  exact this
end Go.Proofs.Ytejpdpjklncfnaa.Pure
