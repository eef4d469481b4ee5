import Derived.Test.YtdpgdnbknmncfaaDoorWMore
import Derived.Laws.BytesArg
import Derived.WideShapes
import Derived.Lib.Strings
import Derived.Lib.IndexBytes
import Derived.Test.YtdpgdnbknmncfaaDoorWWords
import Derived.Laws.BitsLemmas
import Derived.Test.YtdpgdnbknmncfaaDoorPrint2
import Derived.Test.YtdpgdnbknmncfaaDoorPrint15
import Derived.Test.YtdpgdnbknmncfaaDoorPrint4
import Derived.Test.YtdpgdnbknmncfaaDoorLaidCtrl
import Derived.Test.YtdpgdnbknmncfaaDoorPrint3
import Derived.Test.YtdpgdnbknmncfaaDoorPrint5
import Derived.Test.YtdpgdnbknmncfaaDoorPrint6
import Derived.Test.YtdpgdnbknmncfaaDoorPrint18
import Derived.Test.YtdpgdnbknmncfaaDoorPrint12
import Derived.Test.YtdpgdnbknmncfaaDoorPrint16
import Derived.Test.YtdpgdnbknmncfaaDoorPrint17
import Derived.Test.YtdpgdnbknmncfaaDoorPrint19
import Derived.Test.YtdpgdnbknmncfaaDoorPrint20
/- Texts as lists of octets: lengths, places, cuts, joins. Plain Lean, no condition. -/
namespace Go.Proofs.YtdpgdnbknmncfaaDoor.Str
open Go.RowKit Go.Proofs.YtdpgdnbknmncfaaDoorW.PrintWords Go.Proofs.YtdpgdnbknmncfaaDoorW.PrintLast Go.Proofs.YtdpgdnbknmncfaaDoorW.PrintMore

abbrev L (s : ByteArray) : List UInt8 := s.data.toList
theorem size_L (s : ByteArray) : s.size = (L s).length := (data_length s).symm
theorem inj {a b : ByteArray} (h : L a = L b) : a = b := Go.WideShapes.bytes_inj h
theorem L_mk (l : List UInt8) : L ⟨l.toArray⟩ = l := rfl
theorem L_app (a b : ByteArray) : L (a ++ b) = L a ++ L b := by simp [L]
theorem toList_L (s : ByteArray) : s.toList = L s := Lib.toList_data s
theorem L_take (s : ByteArray) (k : Nat) : L (s.extract 0 k) = (L s).take k := by simp [L]
theorem L_cut (s : ByteArray) (j k : Nat) : L (s.extract j k) = ((L s).take k).drop j := by simp [L, List.drop_take]
theorem size_take (s : ByteArray) (k : Nat) (h : k ≤ s.size) : (s.extract 0 k).size = k := by
  rw [size_L] at h
  rw [size_L, L_take, List.length_take]; omega
/-- An octet of a list, as a number; 0 outside. -/
def at_ (l : List UInt8) (i : Nat) : Int := ((l.getD i 0).toNat : Int)
theorem bt_L (s : ByteArray) (i : Int) : bt s i = at_ (L s) i.toNat := by
  unfold bt at_
  by_cases h : i.toNat < s.size
  · rw [dif_pos h]
    have h' : i.toNat < (L s).length := by rw [← size_L]; exact h
    rw [List.getD_eq_getElem?_getD, List.getElem?_eq_getElem h']
    rfl
  · rw [dif_neg h]
    have h' : ¬ i.toNat < (L s).length := by rw [← size_L]; exact h
    rw [List.getD_eq_getElem?_getD, List.getElem?_eq_none (by omega)]
    rfl
theorem bt_nat (s : ByteArray) (i : Nat) : bt s (i : Int) = at_ (L s) i := by rw [bt_L]; simp
theorem at_range (l : List UInt8) (i : Nat) : 0 ≤ at_ l i ∧ at_ l i ≤ 255 := by
  have := (l.getD i 0).toNat_lt
  unfold at_; omega
theorem at_get (l : List UInt8) (i : Nat) (h : i < l.length) : at_ l i = ((l[i]).toNat : Int) := by
  unfold at_; rw [List.getD_eq_getElem?_getD, List.getElem?_eq_getElem h]; rfl
theorem L_nums (xs : List Int) : L (strOfNums xs) = xs.map fun n => UInt8.ofNat n.toNat := rfl
theorem nums_size (xs : List Int) : (strOfNums xs).size = xs.length := strOfNums_size xs
theorem nums_of (l : List UInt8) : strOfNums (l.map fun b => (b.toNat : Int)) = ⟨l.toArray⟩ := by
  apply inj
  rw [L_nums, List.map_map, L_mk]
  conv => rhs; rw [← List.map_id l]
  apply List.map_congr_left
  intro b _
  simp
/-- A test on a min of a length and a number. -/
theorem mn_nat (a b : Nat) : mn (a : Int) (b : Int) = ((min a b : Nat) : Int) := by unfold mn; omega
theorem w64 {n : Int} (h0 : -9223372036854775808 ≤ n) (h1 : n ≤ 9223372036854775807) : wrap64 n = n := by unfold wrap64; omega
end Go.Proofs.YtdpgdnbknmncfaaDoor.Str

/- Masks and joins of machine numbers. Plain Lean, no program in sight. -/
namespace Go.Proofs.YtdpgdnbknmncfaaDoor.Field
open Go.RowKit Go.Proofs.YtdpgdnbknmncfaaDoorW.PrintWords Go.Proofs.YtdpgdnbknmncfaaDoorW.PrintLast Go.Proofs.YtdpgdnbknmncfaaDoorW.PrintMore Go.Proofs.YtdpgdnbknmncfaaDoor.Str
theorem bind_at {α β : Type} {o : Option α} {a : α} {f : α → Option β} {r : Option β} (h : o = some a) (h2 : f a = r) : o.bind f = r := by rw [h]; exact h2
theorem wraps_i64 (n : Int) (h₀ : 0 ≤ n) (h₁ : n < 2 ^ 63) : IntKind.i64.wrap n = n := by rw [IntKind.wrap_i64]; omega
theorem mask_i64 (i : Nat) (hi : i ≤ 63) (x : Int) (h₀ : 0 ≤ x) (h₁ : x < 2 ^ 63) : Go.bits .and .i64 x (2 ^ i - 1) = x % 2 ^ i :=
  bits_mask .i64 63 (by decide) wraps_i64 i hi x h₀ h₁
theorem mask_u8 (i : Nat) (hi : i ≤ 8) (x : Int) (h₀ : 0 ≤ x) (h₁ : x < 2 ^ 8) : Go.bits .and .u8 x (2 ^ i - 1) = x % 2 ^ i :=
  bits_mask .u8 8 (by decide) wraps_u8 i hi x h₀ h₁
theorem low_bit (x : Int) (h0 : 0 ≤ x) (h1 : x ≤ 255) : Go.bits .and .u8 x 1 = x % 2 := mask_u8 1 (by decide) x h0 (by omega)
/-- A small number below a multiple: the machine's 'or' adds. -/
theorem or_add (i a b : Nat) (ha : a < 2 ^ i) (hb : b * 2 ^ i < 2 ^ 62) (hi : i ≤ 62) : Go.bits .or .i64 (a : Int) ((b * 2 ^ i : Nat) : Int) = ((a + b * 2 ^ i : Nat) : Int) := by
  have h1 : a < 2 ^ 63 := Nat.lt_of_lt_of_le ha (Nat.pow_le_pow_right (by decide) (by omega))
  have h2 : b * 2 ^ i < 2 ^ 63 := Nat.lt_trans hb (by decide)
  rw [(bits_nat .i64 63 (by decide) wraps_i64 a _ h1 h2).2]
  rw [Nat.or_comm, Nat.mul_comm b, ← Nat.two_pow_add_eq_or_of_lt ha b]
  congr 1; omega
theorem or_some (a b : Nat) (n : Nat) (hn : n ≤ 62) (ha : a < 2 ^ n) (hb : b < 2 ^ n) : ∃ c : Nat, Go.bits .or .i64 (a : Int) (b : Int) = (c : Int) ∧ c < 2 ^ n := by
  have h63 : 2 ^ n ≤ 2 ^ 63 := Nat.pow_le_pow_right (by decide) (by omega)
  exact ⟨a ||| b, (bits_nat .i64 63 (by decide) wraps_i64 a b (Nat.lt_of_lt_of_le ha h63) (Nat.lt_of_lt_of_le hb h63)).2, Nat.or_lt_two_pow ha hb⟩
end Go.Proofs.YtdpgdnbknmncfaaDoor.Field

/- The bitwise CRC register: one bit, many bits; linear; a burst of at most sixteen bits never comes to nought. Plain Lean, no condition. -/
namespace Go.Proofs.YtdpgdnbknmncfaaDoor.Crc
abbrev R := BitVec 16
/-- one bit -/
def bstep (r : R) (b : Bool) : R := (r >>> 1) ^^^ (if (r.getLsbD 0 != b) then 0x8408#16 else 0#16)
def run (r : R) (l : List Bool) : R := l.foldl bstep r

theorem bstep_xor (r s : R) (a b : Bool) : bstep (r ^^^ s) (a ^^ b) = bstep r a ^^^ bstep s b := by
  unfold bstep
  have h : (r ^^^ s) >>> 1 = r >>> 1 ^^^ s >>> 1 := by
    apply BitVec.eq_of_getLsbD_eq; intro i hi; simp
  rw [h, BitVec.getLsbD_xor]
  cases r.getLsbD 0 <;> cases s.getLsbD 0 <;> cases a <;> cases b <;> simp <;> (try ac_rfl) <;> (apply BitVec.eq_of_getLsbD_eq; intro i hi; simp <;> cases r.getLsbD (1+i) <;> cases s.getLsbD (1+i) <;> cases ((0x8408#16).getLsbD i) <;> rfl)

theorem run_xor (l m : List Bool) (h : l.length = m.length) (r s : R) : run (r ^^^ s) (List.zipWith (· ^^ ·) l m) = run r l ^^^ run s m := by
  induction l generalizing m r s with
  | nil => cases m with | nil => rfl | cons => simp at h
  | cons a l ih => cases m with
    | nil => simp at h
    | cons b m =>
      simp only [List.zipWith_cons_cons, run, List.foldl_cons]
      rw [bstep_xor]; exact ih m (by simpa using h) _ _

theorem bstep_msb (r : R) (b : Bool) : (bstep r b).getLsbD 15 = (r.getLsbD 0 != b) := by
  unfold bstep
  rw [BitVec.getLsbD_xor]
  cases r.getLsbD 0 <;> cases b <;> simp

theorem bstep_zero (r : R) (h : bstep r false = 0#16) : r = 0#16 := by
  have h1 := bstep_msb r false
  rw [h] at h1
  have h2 : r.getLsbD 0 = false := by simpa using h1.symm
  unfold bstep at h
  rw [h2] at h
  simp at h
  apply BitVec.eq_of_getLsbD_eq; intro i hi
  cases i with
  | zero => simpa using h2
  | succ i =>
    have := congrArg (fun x => x.getLsbD i) h
    simp at this
    rw [Nat.add_comm] at this
    simpa using this
end Go.Proofs.YtdpgdnbknmncfaaDoor.Crc
namespace Go.Proofs.YtdpgdnbknmncfaaDoor.Crc
theorem run_V (p : List Bool) (r : R) (hp : p.length ≤ 16) (h : run r p = 0#16) : ∀ i, i < 16 → r.getLsbD i = p.getD i false := by
  induction p generalizing r with
  | nil => 
    have : r = 0#16 := h
    subst this
    intro i hi; simp
  | cons b p ih =>
    simp at hp
    have h1 := ih (bstep r b) (by omega) h
    have hm := bstep_msb r b
    rw [h1 15 (by omega)] at hm
    have h15 : p.getD 15 false = false := by
      rw [List.getD_eq_getElem?_getD, List.getElem?_eq_none (by omega)]; rfl
    rw [h15] at hm
    have hb : r.getLsbD 0 = b := by revert hm; cases r.getLsbD 0 <;> cases b <;> simp
    intro i hi
    cases i with
    | zero => simpa using hb
    | succ i =>
      have := h1 i (by omega)
      unfold bstep at this
      rw [hb] at this
      simp at this
      rw [Nat.add_comm] at this
      simpa using this
theorem run_append (r : R) (a b : List Bool) : run r (a ++ b) = run (run r a) b := by simp [run]
theorem run_zeros (n : Nat) (r : R) (h : run r (List.replicate n false) = 0#16) : r = 0#16 := by
  induction n generalizing r with
  | zero => exact h
  | succ n ih => exact bstep_zero r (ih _ h)
theorem run_zeros0 (n : Nat) : run 0#16 (List.replicate n false) = 0#16 := by
  induction n with
  | zero => rfl
  | succ n ih => exact ih
theorem burst (a c : Nat) (p : List Bool) (hp : p.length ≤ 16) (h : run 0#16 (List.replicate a false ++ p ++ List.replicate c false) = 0#16) : ∀ x ∈ p, x = false := by
  rw [run_append, run_append, run_zeros0] at h
  have h1 := run_V p _ hp (run_zeros _ _ h)
  intro x hx
  obtain ⟨i, hi, rfl⟩ := List.mem_iff_getElem.1 hx
  have := h1 i (by omega)
  simp [List.getD_eq_getElem?_getD, hi] at this
  exact this
end Go.Proofs.YtdpgdnbknmncfaaDoor.Crc

/- Octets through the CRC register, and what the machine's word 'bits' gives on sixteen bits. Plain Lean, no condition. -/
namespace Go.Proofs.YtdpgdnbknmncfaaDoor.Crc
open Go.RowKit Go.Proofs.YtdpgdnbknmncfaaDoorW.PrintWords

/-- An octet's bits, the lowest first. -/
def obits (o : Nat) : List Bool := (List.range 8).map fun i => o.testBit i
def stepB (r : R) (o : UInt8) : R := run r (obits o.toNat)
def sumR (r : R) (l : List UInt8) : R := l.foldl stepB r
def num (r : R) : Int := (r.toNat : Int)
theorem num_lt (r : R) : 0 ≤ num r ∧ num r < 65536 := by
  have := r.isLt
  unfold num; omega
theorem num_inj {r s : R} (h : num r = num s) : r = s := by
  unfold num at h
  exact BitVec.eq_of_toNat_eq (by omega)

theorem wrap_u16 (n : Int) : IntKind.u16.wrap n = n % 65536 := by simp [IntKind.wrap, IntKind.bits, IntKind.signed]

theorem of_num (r : R) : BitVec.ofInt 16 (num r) = r := by
  unfold num
  rw [BitVec.ofInt_natCast, BitVec.ofNat_toNat, BitVec.setWidth_eq]
theorem wrap_num (r : R) : IntKind.u16.wrap (r.toNat : Int) = num r := by
  have h := r.isLt
  rw [wrap_u16]; unfold num; omega
theorem xor16 (r s : R) : Go.bits .xor .u16 (num r) (num s) = num (r ^^^ s) := by
  show IntKind.u16.wrap (((BitVec.ofInt 16 (num r)) ^^^ (BitVec.ofInt 16 (num s))).toNat : Int) = _
  rw [of_num, of_num, wrap_num]
theorem and16 (r : R) : Go.bits .and .u16 (num r) 1 = if r.getLsbD 0 then 1 else 0 := by
  show IntKind.u16.wrap (((BitVec.ofInt 16 (num r)) &&& (BitVec.ofInt 16 1)).toNat : Int) = _
  rw [of_num]
  have e : (r &&& BitVec.ofInt 16 1) = if r.getLsbD 0 then 1#16 else 0#16 := by
    apply BitVec.eq_of_getLsbD_eq
    intro i hi
    cases h : r.getLsbD 0 <;> rcases i with _ | i <;> simp_all
  rw [e]
  cases r.getLsbD 0 <;> simp [wrap_u16]

theorem half (r : R) : num r / (2 : Int) = num (r >>> 1) := by
  unfold num
  simp [BitVec.toNat_ushiftRight, Nat.shiftRight_eq_div_pow]
end Go.Proofs.YtdpgdnbknmncfaaDoor.Crc

/- What the printed bits.Pack comes to: fields laid one above the other, or its error. Plain Lean over the printed function. -/
namespace Go.Proofs.YtdpgdnbknmncfaaDoor.Pack
open Go.RowKit Go.Proofs.YtdpgdnbknmncfaaDoorW.PrintWords Go.Proofs.YtdpgdnbknmncfaaDoorW.PrintLast Go.Proofs.YtdpgdnbknmncfaaDoorW.PrintMore Go.Proofs.YtdpgdnbknmncfaaDoor.Str Go.Proofs.YtdpgdnbknmncfaaDoor.Field Go.Proofs.YtdpgdnbknmncfaaDoor.Print

/-- A field as it may be: a width, a number below it. -/
def good (f : S54) : Prop := 1 ≤ f.f0 ∧ f.f0 ≤ 8 ∧ 0 ≤ f.f1 ∧ f.f1 < 2 ^ f.f0.toNat
instance (f : S54) : Decidable (good f) := by unfold good; infer_instance
/-- Behind n, of so many bits (9: more than eight): the rest's answer. -/
def pk : Nat → Nat → List S54 → Int × Int
  | low, n, [] => if low > 8 then (0, 5) else ((n : Int) % 256, 0)
  | low, n, f :: fs => if good f then (if low ≤ 8 then pk (min (low + f.f0.toNat) 9) (n + f.f1.toNat * 2 ^ low) fs else pk 9 0 fs) else (0, 2)
theorem rd_at (l : List S54) (i : Nat) (h : i < l.length) : rd_T54 l (i : Int) = l[i] := by
  unfold rd_T54
  rw [Int.toNat_natCast, List.getD_eq_getElem?_getD, List.getElem?_eq_getElem h]; rfl

theorem round_bad (l : List S54) (k i : Nat) (out low : Int) (h : i < l.length) (_hl : l.length ≤ 9223372036854775806) (hb : ¬ good l[i]) :
    bits_Pack.l0 (k + 1) out low l (l.length : Int) (i : Int) = some (0, 2) := by
  rw [bits_Pack.l0, if_pos (by omega), if_pos (by omega), if_pos (by omega), rd_at l i h]
  generalize l[i] = f at *
  unfold good at hb
  by_cases h1 : f.f0 < 1
  · rw [if_pos h1]
  · rw [if_neg h1]
    by_cases h2 : f.f0 > 8
    · rw [if_pos h2]
    · rw [if_neg h2]
      by_cases h3 : f.f1 < 0
      · rw [if_pos h3]
      · rw [if_neg h3, if_pos (by omega)]
        have hs : ¬ shr .i64 f.f1 f.f0 = 0 := by
          unfold shr
          rw [show min f.f0.toNat (IntKind.i64).bits = f.f0.toNat from by show min f.f0.toNat 64 = _; omega]
          intro hz
          have hp : (0 : Int) < 2 ^ f.f0.toNat := Int.pow_pos (by decide)
          have hg : ¬ f.f1 < 2 ^ f.f0.toNat := fun h5 => hb ⟨by omega, by omega, by omega, h5⟩
          generalize (2 : Int) ^ f.f0.toNat = p at *
          have := Int.le_ediv_of_mul_le hp (show 1 * p ≤ f.f1 by omega)
          omega
        rw [if_neg hs]

theorem small_pow (f : S54) (h : good f) : f.f1 ≤ 255 ∧ (2 : Int) ^ f.f0.toNat ≤ 256 := by
  obtain ⟨h1, h2, h3, h4⟩ := h
  have h5 : (2 : Nat) ^ f.f0.toNat ≤ 2 ^ 8 := Nat.pow_le_pow_right (by decide) (by omega)
  have h6 : (2 : Int) ^ f.f0.toNat ≤ 256 := by
    have h7 : (((2 : Nat) ^ f.f0.toNat : Nat) : Int) ≤ 256 := by omega
    rw [Int.natCast_pow] at h7; exact h7
  omega
theorem shr_none (f : S54) (h : good f) : shr .i64 f.f1 f.f0 = 0 := by
  obtain ⟨h1, h2, h3, h4⟩ := h
  unfold shr
  rw [show min f.f0.toNat (IntKind.i64).bits = f.f0.toNat from by show min f.f0.toNat 64 = _; omega]
  exact Int.ediv_eq_zero_of_lt h3 h4
theorem nat_lt (f : S54) (h : good f) : f.f1.toNat < 2 ^ f.f0.toNat := by
  obtain ⟨h1, h2, h3, h4⟩ := h
  have : ((f.f1.toNat : Nat) : Int) < ((2 ^ f.f0.toNat : Nat) : Int) := by rw [Int.toNat_of_nonneg h3]; exact_mod_cast h4
  exact_mod_cast this
/-- One field more, with the bits' number so far. -/
theorem round_good (l : List S54) (k i out low : Nat) (h : i < l.length) (hl : l.length ≤ 9223372036854775806) (hg : good l[i]) (hlow : low ≤ 9) :
    bits_Pack.l0 (k + 1) (out : Int) (low : Int) l (l.length : Int) (i : Int) =
      bits_Pack.l0 k (Go.bits .or .i64 (out : Int) ((l[i].f1.toNat * 2 ^ min low 8 : Nat) : Int)) ((min (low + l[i].f0.toNat) 9 : Nat) : Int) l (l.length : Int) ((i + 1 : Nat) : Int) := by
  have hs := small_pow _ hg
  have hq := shr_none _ hg
  rw [bits_Pack.l0, if_pos (by omega), if_pos (by omega), if_pos (by omega), rd_at l i h]
  generalize l[i] = f at *
  obtain ⟨h1, h2, h3, h4⟩ := hg
  have e1 : mn (low : Int) 8 = ((min low 8 : Nat) : Int) := mn_nat low 8
  have e2 : wrap64 ((low : Int) + f.f0) = ((low + f.f0.toNat : Nat) : Int) := by rw [w64 (by omega) (by omega)]; omega
  have e3 : mn ((low + f.f0.toNat : Nat) : Int) 9 = ((min (low + f.f0.toNat) 9 : Nat) : Int) := mn_nat _ 9
  have e4 : wrap64 ((i : Int) + 1) = ((i + 1 : Nat) : Int) := by rw [w64 (by omega) (by omega)]; omega
  have hm : (2 : Nat) ^ min low 8 ≤ 2 ^ 8 := Nat.pow_le_pow_right (by decide) (by omega)
  have e5 : wrap64 (f.f1 * 2 ^ (min low 8)) = ((f.f1.toNat * 2 ^ min low 8 : Nat) : Int) := by
    obtain ⟨v, hv⟩ := Int.eq_ofNat_of_zero_le h3
    rw [hv] at hs ⊢
    rw [Int.toNat_natCast, show ((v : Int) * 2 ^ min low 8) = ((v * 2 ^ min low 8 : Nat) : Int) from by push_cast; rfl]
    have : v * 2 ^ min low 8 ≤ 255 * 256 := Nat.mul_le_mul (by omega) hm
    rw [w64 (by omega) (by omega)]
  rw [if_neg (by omega), if_neg (by omega), if_neg (by omega), if_pos (by omega), if_pos hq, e1, if_pos (by omega), Int.toNat_natCast, e5, e2, e3, e4]

theorem over_loop (l : List S54) (hl : l.length ≤ 9223372036854775806) (d : Nat) : ∀ (k i out : Nat), i + d = l.length → d < k → out < 2 ^ 17 →
    bits_Pack.l0 k (out : Int) 9 l (l.length : Int) (i : Int) = some (pk 9 0 (l.drop i)) := by
  induction d with
  | zero =>
    intro k i out h hk _
    obtain ⟨k, rfl⟩ : ∃ m, k = m + 1 := ⟨k - 1, by omega⟩
    rw [bits_Pack.l0, if_neg (by omega), if_pos (by omega), List.drop_of_length_le (by omega)]; rfl
  | succ d ih =>
    intro k i out h hk ho
    obtain ⟨k, rfl⟩ : ∃ m, k = m + 1 := ⟨k - 1, by omega⟩
    have hi : i < l.length := by omega
    rw [List.drop_eq_getElem_cons hi]
    by_cases hg : good l[i]
    · have hr := round_good l k i out 9 hi hl hg (by omega)
      have hs := small_pow _ hg
      have hv : l[i].f1.toNat * 2 ^ min 9 8 < 2 ^ 17 := by
        have : l[i].f1.toNat * 2 ^ min 9 8 ≤ 255 * 256 := Nat.mul_le_mul (by omega) (by decide)
        omega
      obtain ⟨c, hc, hc2⟩ := or_some out (l[i].f1.toNat * 2 ^ min 9 8) 17 (by decide) ho hv
      rw [hc, show min (9 + l[i].f0.toNat) 9 = 9 from by omega] at hr
      refine Eq.trans hr (Eq.trans (ih k (i + 1) c (by omega) (by omega) hc2) ?_)
      rw [pk, if_pos hg, if_neg (by decide)]
    · rw [round_bad l k i _ _ hi hl hg, pk, if_neg hg]

theorem pack_loop (l : List S54) (hl : l.length ≤ 9223372036854775806) (d : Nat) : ∀ (k i out low : Nat), i + d = l.length → d < k → low ≤ 8 → out < 2 ^ low →
    bits_Pack.l0 k (out : Int) (low : Int) l (l.length : Int) (i : Int) = some (pk low out (l.drop i)) := by
  induction d with
  | zero =>
    intro k i out low h hk h8 ho
    obtain ⟨k, rfl⟩ : ∃ m, k = m + 1 := ⟨k - 1, by omega⟩
    rw [bits_Pack.l0, if_neg (by omega), if_neg (by omega), List.drop_of_length_le (by omega), pk, if_neg (by omega)]
  | succ d ih =>
    intro k i out low h hk h8 ho
    obtain ⟨k, rfl⟩ : ∃ m, k = m + 1 := ⟨k - 1, by omega⟩
    have hi : i < l.length := by omega
    rw [List.drop_eq_getElem_cons hi]
    by_cases hg : good l[i]
    · have hr := round_good l k i out low hi hl hg (by omega)
      have hs := small_pow _ hg
      have hn := nat_lt _ hg
      have h1 := hg.1
      rw [show min low 8 = low from by omega] at hr
      have hp8 : (2 : Nat) ^ low ≤ 2 ^ 8 := Nat.pow_le_pow_right (by decide) h8
      have hv : l[i].f1.toNat * 2 ^ low ≤ 255 * 256 := Nat.mul_le_mul (by omega) hp8
      rw [or_add low out _ ho (by omega) (by omega)] at hr
      refine Eq.trans hr ?_
      rw [pk, if_pos hg, if_pos h8]
      have hsum : out + l[i].f1.toNat * 2 ^ low < 2 ^ (low + l[i].f0.toNat) := by
        have h2 : (l[i].f1.toNat + 1) * 2 ^ low ≤ 2 ^ l[i].f0.toNat * 2 ^ low := Nat.mul_le_mul_right _ hn
        rw [Nat.pow_add, Nat.mul_comm (2 ^ low)]
        rw [Nat.add_mul] at h2
        omega
      by_cases hle : low + l[i].f0.toNat ≤ 8
      · rw [show min (low + l[i].f0.toNat) 9 = low + l[i].f0.toNat from by omega]
        exact ih k (i + 1) _ _ (by omega) (by omega) hle hsum
      · rw [show min (low + l[i].f0.toNat) 9 = 9 from by omega]
        refine Eq.trans (over_loop l hl d k (i + 1) _ (by omega) (by omega) (by omega)) ?_
        cases hd : l.drop (i + 1) with
        | nil => rfl
        | cons f fs => simp only [pk]; simp
    · rw [round_bad l k i _ _ hi hl hg, pk, if_neg hg]
theorem pack_eq (l : List S54) (k : Nat) (hl : l.length ≤ 9223372036854775806) (hk : l.length < k) : bits_Pack.f k l = some (pk 0 0 l) := by
  have := pack_loop l hl l.length k 0 0 0 (by omega) hk (by omega) (by omega)
  rw [List.drop_zero] at this
  exact this
end Go.Proofs.YtdpgdnbknmncfaaDoor.Pack

/- Fields laid one above the other: the small rows of fields that the program lays. Plain Lean over the printed bits.Pack. -/
namespace Go.Proofs.YtdpgdnbknmncfaaDoor.Pack
open Go.RowKit Go.Proofs.YtdpgdnbknmncfaaDoorW.PrintWords Go.Proofs.YtdpgdnbknmncfaaDoorW.PrintLast Go.Proofs.YtdpgdnbknmncfaaDoorW.PrintMore Go.Proofs.YtdpgdnbknmncfaaDoor.Str Go.Proofs.YtdpgdnbknmncfaaDoor.Field Go.Proofs.YtdpgdnbknmncfaaDoor.Print
theorem pk_last (low n : Nat) (h : low ≤ 8) : pk low n [] = ((n : Int) % 256, 0) := by rw [pk, if_neg (by omega)]
theorem pk_good (low n w : Nat) (v : Int) (fs : List S54) (hw : 1 ≤ w) (hw8 : w ≤ 8) (h0 : 0 ≤ v) (hv : v < 2 ^ w) (hl : low + w ≤ 8) :
    pk low n (⟨(w : Int), v⟩ :: fs) = pk (low + w) (n + v.toNat * 2 ^ low) fs := by
  have hg : good (⟨(w : Int), v⟩ : S54) := ⟨by show (1 : Int) ≤ w; omega, by show (w : Int) ≤ 8; omega, h0, by show v < 2 ^ (w : Int).toNat; simpa using hv⟩
  rw [pk, if_pos hg, if_pos (by omega)]
  show pk (min (low + (w : Int).toNat) 9) _ fs = _
  rw [Int.toNat_natCast, show min (low + w) 9 = low + w from by omega]
theorem pk_bad (low n w : Nat) (v : Int) (fs : List S54) (h : ¬ (0 ≤ v ∧ v < 2 ^ w)) : pk low n (⟨(w : Int), v⟩ :: fs) = (0, 2) := by
  rw [pk, if_neg]
  intro hg
  exact h ⟨hg.2.2.1, by have := hg.2.2.2; simpa using this⟩
theorem pk3 (c s : Int) (hc : 0 ≤ c ∧ c ≤ 1) : pk 0 0 [(⟨1, 0⟩ : S54), (⟨1, c⟩ : S54), (⟨6, s⟩ : S54)] = if 0 ≤ s ∧ s < 64 then (4 * s + 2 * c, 0) else (0, 2) := by
  have a := pk_good 0 0 1 0 [(⟨1, c⟩ : S54), (⟨6, s⟩ : S54)] (by omega) (by omega) (by omega) (by decide) (by omega)
  have b := pk_good 1 (0 + (0 : Int).toNat * 2 ^ 0) 1 c [(⟨6, s⟩ : S54)] (by omega) (by omega) hc.1 (by omega) (by omega)
  refine Eq.trans a (Eq.trans b ?_)
  by_cases h : 0 ≤ s ∧ s < 64
  · rw [if_pos h]
    have d := pk_good 2 (0 + (0 : Int).toNat * 2 ^ 0 + c.toNat * 2 ^ 1) 6 s [] (by omega) (by omega) h.1 (by omega) (by omega)
    refine Eq.trans d ?_
    rw [pk_last _ _ (by omega)]
    congr 1; omega
  · rw [if_neg h]
    exact pk_bad 2 _ 6 s [] (by intro q; exact h ⟨q.1, by omega⟩)
theorem pk2 (c t : Int) (hc : 0 ≤ c ∧ c ≤ 1) : pk 0 0 [(⟨1, c⟩ : S54), (⟨7, t⟩ : S54)] = if 0 ≤ t ∧ t < 128 then (2 * t + c, 0) else (0, 2) := by
  have a := pk_good 0 0 1 c [(⟨7, t⟩ : S54)] (by omega) (by omega) hc.1 (by omega) (by omega)
  refine Eq.trans a ?_
  by_cases h : 0 ≤ t ∧ t < 128
  · rw [if_pos h]
    have d := pk_good 1 (0 + c.toNat * 2 ^ 0) 7 t [] (by omega) (by omega) h.1 (by omega) (by omega)
    refine Eq.trans d ?_
    rw [pk_last _ _ (by omega)]
    congr 1; omega
  · rw [if_neg h]
    exact pk_bad 1 _ 7 t [] (by intro q; exact h ⟨q.1, by omega⟩)

theorem pack_two (k : Nat) (hk : 3 < k) (c t : Int) (hc : 0 ≤ c ∧ c ≤ 1) : bits_Pack.f k [(⟨1, c⟩ : S54), (⟨7, t⟩ : S54)] = some (if 0 ≤ t ∧ t < 128 then (2 * t + c, 0) else (0, 2)) := by
  rw [pack_eq _ k (by show 2 ≤ 9223372036854775806; omega) (by show 2 < k; omega), pk2 _ _ hc]
theorem pack_three (k : Nat) (hk : 3 < k) (c s : Int) (hc : 0 ≤ c ∧ c ≤ 1) : bits_Pack.f k [(⟨1, 0⟩ : S54), (⟨1, c⟩ : S54), (⟨6, s⟩ : S54)] = some (if 0 ≤ s ∧ s < 64 then (4 * s + 2 * c, 0) else (0, 2)) := by
  rw [pack_eq _ k (by show 3 ≤ 9223372036854775806; omega) (by show 3 < k; omega), pk3 _ _ hc]
end Go.Proofs.YtdpgdnbknmncfaaDoor.Pack

/- What the printed bits.Field comes to at a place and a width that count; masks and joins of machine numbers. Plain Lean over the printed function. -/
namespace Go.Proofs.YtdpgdnbknmncfaaDoor.Field
open Go.RowKit Go.Proofs.YtdpgdnbknmncfaaDoorW.PrintWords Go.Proofs.YtdpgdnbknmncfaaDoorW.PrintLast Go.Proofs.YtdpgdnbknmncfaaDoorW.PrintMore Go.Proofs.YtdpgdnbknmncfaaDoor.Str Go.Proofs.YtdpgdnbknmncfaaDoor.Print
theorem field_at (x : Int) (h0 : 0 ≤ x) (h1 : x ≤ 255) (l c : Nat) (hl : l < 8) (hc : 1 ≤ c) (hc8 : c ≤ 8) :
    bits_Field.f x (l : Int) (c : Int) = some (x / 2 ^ l % 2 ^ c) := by
  unfold bits_Field.f
  rw [if_neg (by omega), if_neg (by omega), if_neg (by omega), if_pos (by omega)]
  have hm : mn (c : Int) 8 = c := by unfold mn; omega
  rw [hm, if_pos (by omega)]
  have hd : shr .u8 x (l : Int) = x / 2 ^ l := by
    unfold shr
    rw [show min ((l : Int).toNat) (IntKind.u8).bits = l from by simp [IntKind.bits]; omega]
  have hx : 0 ≤ x / 2 ^ l ∧ x / 2 ^ l ≤ 255 := by
    have : l = 0 ∨ l = 1 ∨ l = 2 ∨ l = 3 ∨ l = 4 ∨ l = 5 ∨ l = 6 ∨ l = 7 := by omega
    rcases this with rfl | rfl | rfl | rfl | rfl | rfl | rfl | rfl <;> simp <;> omega
  have hw : wrap64 (x / 2 ^ l) = x / 2 ^ l := by unfold wrap64; omega
  have hp : wrap64 (wrap64 (2 ^ ((c : Int)).toNat) - 1) = 2 ^ c - 1 := by
    have : c = 1 ∨ c = 2 ∨ c = 3 ∨ c = 4 ∨ c = 5 ∨ c = 6 ∨ c = 7 ∨ c = 8 := by omega
    rcases this with rfl | rfl | rfl | rfl | rfl | rfl | rfl | rfl <;> simp [wrap64]
  rw [hd, hw, hp, mask_i64 c (by omega) _ hx.1 (by omega)]
theorem f26 (x : Int) (h0 : 0 ≤ x) (h1 : x ≤ 255) : bits_Field.f x 2 6 = some (x / 4 % 64) := field_at x h0 h1 2 6 (by decide) (by decide) (by decide)
theorem f17 (x : Int) (h0 : 0 ≤ x) (h1 : x ≤ 255) : bits_Field.f x 1 7 = some (x / 2 % 128) := field_at x h0 h1 1 7 (by decide) (by decide) (by decide)
theorem f11 (x : Int) (h0 : 0 ≤ x) (h1 : x ≤ 255) : bits_Field.f x 1 1 = some (x / 2 % 2) := field_at x h0 h1 1 1 (by decide) (by decide) (by decide)
end Go.Proofs.YtdpgdnbknmncfaaDoor.Field

/- What the printed functions of package fcs, and of its reference, come to: the CRC register of plain lists. Plain Lean over the printed functions. -/
namespace Go.Proofs.YtdpgdnbknmncfaaDoor.Fcs
open Go.RowKit Go.Proofs.YtdpgdnbknmncfaaDoorW.PrintWords Go.Proofs.YtdpgdnbknmncfaaDoorW.PrintLast Go.Proofs.YtdpgdnbknmncfaaDoorW.PrintMore Go.Proofs.YtdpgdnbknmncfaaDoor.Str Go.Proofs.YtdpgdnbknmncfaaDoor.Crc Go.Proofs.YtdpgdnbknmncfaaDoor.Print

theorem bit_step (r : R) : Go.bits .xor .u16 (num r / 2) (IntKind.u16.wrap (Go.bits .and .u16 (num r) 1 * 33800)) = num (bstep r false) := by
  have e : IntKind.u16.wrap (Go.bits .and .u16 (num r) 1 * 33800) = num (if (r.getLsbD 0 != false) then 0x8408#16 else 0#16) := by
    rw [and16, wrap_u16]
    cases r.getLsbD 0 <;> rfl
  rw [e, half, xor16]; rfl

theorem step_loop (d : Nat) : ∀ (k : Nat) (r : R) (i : Int), 0 ≤ i → i + d = 8 → d < k →
    fcs_Step.l0 k (num r) i = some (num (run r (List.replicate d false))) := by
  induction d with
  | zero =>
    intro k r i h0 h hk
    obtain ⟨k, rfl⟩ : ∃ m, k = m + 1 := ⟨k - 1, by omega⟩
    simp only [fcs_Step.l0]
    rw [if_neg (by omega)]; rfl
  | succ d ih =>
    intro k r i h0 h hk
    obtain ⟨k, rfl⟩ : ∃ m, k = m + 1 := ⟨k - 1, by omega⟩
    simp only [fcs_Step.l0]
    rw [if_pos (by omega), bit_step, w64 (by omega) (by omega), ih k _ (i + 1) (by omega) (by omega) (by omega)]
    rfl

def oct (o : Nat) : R := BitVec.ofNat 16 o
theorem oct_num (o : Nat) (_h : o < 256) : IntKind.u16.wrap (o : Int) = num (oct o) := by
  rw [wrap_u16]; unfold num oct
  rw [BitVec.toNat_ofNat]; omega
set_option maxRecDepth 10000 in
theorem oct_bits (o : Nat) (h : o < 256) : run (oct o) (List.replicate 8 false) = run 0#16 (obits o) := by
  have : ∀ o : Fin 256, run (oct o.val) (List.replicate 8 false) = run 0#16 (obits o.val) := by decide +kernel
  exact this ⟨o, h⟩
theorem obits_length (o : Nat) : (obits o).length = 8 := by simp [obits]
theorem false_xor (l : List Bool) : List.zipWith (· ^^ ·) (List.replicate l.length false) l = l := by
  induction l with
  | nil => rfl
  | cons a l ih => simpa [List.replicate_succ] using ih
theorem zip_false (n : Nat) : List.zipWith (· ^^ ·) (List.replicate n false) (List.replicate n false) = List.replicate n false := by
  have := false_xor (List.replicate n false)
  rwa [List.length_replicate] at this
theorem oct_step (r : R) (o : Nat) (h : o < 256) : run (r ^^^ oct o) (List.replicate 8 false) = run r (obits o) := by
  have h1 := run_xor (List.replicate 8 false) (List.replicate 8 false) rfl r (oct o)
  rw [zip_false, oct_bits o h] at h1
  have h2 := run_xor (List.replicate 8 false) (obits o) (by simp [obits_length]) r 0#16
  have e : List.zipWith (· ^^ ·) (List.replicate 8 false) (obits o) = obits o := by
    have := false_xor (obits o); rwa [obits_length] at this
  rw [e] at h2
  rw [h1, ← h2]; simp

theorem step_eq (k : Nat) (hk : 8 < k) (r : R) (o : UInt8) : fcs_Step.f k (num r) (o.toNat : Int) = some (num (stepB r o)) := by
  have ho := o.toNat_lt
  unfold fcs_Step.f
  rw [oct_num _ (by omega), xor16, step_loop 8 k _ 0 (by omega) (by omega) (by omega), oct_step _ _ (by omega)]
  rfl

theorem compl16 (r : R) : Go.bits .xor .u16 65535 (num r) = num (~~~ r) := by
  have e : (65535 : Int) = num 0xffff#16 := rfl
  rw [e, xor16]
  rfl

theorem sum_loop (s : ByteArray) (hn : s.size ≤ 9223372036854775806) (d : Nat) : ∀ (k : Nat) (r : R) (i : Nat), i + d = s.size → d + 9 < k →
    fcs_Sum.l0 k s (num r) (s.size : Int) (i : Int) = some (num (~~~ sumR r ((L s).drop i))) := by
  induction d with
  | zero =>
    intro k r i h hk
    obtain ⟨k, rfl⟩ : ∃ m, k = m + 1 := ⟨k - 1, by omega⟩
    simp only [fcs_Sum.l0]
    rw [if_neg (by omega), compl16, List.drop_of_length_le (by rw [← size_L]; omega)]; rfl
  | succ d ih =>
    intro k r i h hk
    obtain ⟨k, rfl⟩ : ∃ m, k = m + 1 := ⟨k - 1, by omega⟩
    have hl : i < (L s).length := by rw [← size_L]; omega
    simp only [fcs_Sum.l0]
    rw [if_pos (by omega), if_pos (by omega), if_pos (by omega), bt_nat, at_get _ _ hl, step_eq k (by omega)]
    simp only [Option.bind_some]
    rw [w64 (by omega) (by omega)]
    have := ih k (stepB r (L s)[i]) (i + 1) (by omega) (by omega)
    simp only [Int.natCast_add, Int.cast_ofNat_Int] at this
    rw [this, List.drop_eq_getElem_cons hl]
    rfl

/-- The check sequence. -/
def crc (l : List UInt8) : R := ~~~ sumR 0xffff#16 l
theorem sum_eq (k : Nat) (s : ByteArray) (hn : s.size ≤ 9223372036854775806) (hk : s.size + 9 < k) : fcs_Sum.f k s = some (num (crc (L s))) := by
  unfold fcs_Sum.f
  have := sum_loop s hn s.size k 0xffff#16 0 (by omega) hk
  rw [List.drop_zero] at this
  exact this
def lo (r : R) : UInt8 := UInt8.ofNat (r.toNat % 256)
def hi (r : R) : UInt8 := UInt8.ofNat (r.toNat / 256)
def sealL (l : List UInt8) : List UInt8 := l ++ [lo (crc l), hi (crc l)]
theorem seal_nums (r : R) : strOfNums [num r % 256, num r / 256 % 256] = ⟨[lo r, hi r].toArray⟩ := by
  have h := r.isLt
  apply inj
  rw [L_nums, L_mk]
  unfold lo hi num
  simp only [List.map_cons, List.map_nil]
  have e1 : ((r.toNat : Int) % 256).toNat = r.toNat % 256 := by omega
  have e2 : ((r.toNat : Int) / 256 % 256).toNat = r.toNat / 256 := by omega
  rw [e1, e2]
theorem seal_eq (k : Nat) (s : ByteArray) (hn : s.size ≤ 9223372036854775805) (hk : s.size + 9 < k) : fcs_Seal.f k s = some ⟨(sealL (L s)).toArray⟩ := by
  unfold fcs_Seal.f
  rw [sum_eq k s (by omega) hk]
  simp only [Option.bind_some]
  rw [seal_nums]
  have e : (⟨[lo (crc (L s)), hi (crc (L s))].toArray⟩ : ByteArray).size = 2 := rfl
  rw [e, if_pos (by omega)]
  exact congrArg some (inj (by rw [L_app, L_mk, L_mk]; rfl))
theorem size_mk (l : List UInt8) : (⟨l.toArray⟩ : ByteArray).size = l.length := by rw [size_L]
theorem seal_length (l : List UInt8) : (sealL l).length = l.length + 2 := by simp [sealL]
/-- What a text is, without its last two octets, if these are right. -/
def checkL (l : List UInt8) : List UInt8 × Int := if l.length < 2 then ([], 3) else if sealL (l.take (l.length - 2)) = l then (l.take (l.length - 2), 0) else ([], 6)
theorem check_eq (k : Nat) (s : ByteArray) (hn : s.size ≤ 9223372036854775805) (hk : s.size + 9 < k) : fcs_Check.f k s = some (⟨(checkL (L s)).1.toArray⟩, (checkL (L s)).2) := by
  unfold fcs_Check.f checkL
  rw [← size_L]
  by_cases h : s.size < 2
  · rw [if_pos (by omega), if_pos h]
  · have hw : wrap64 ((s.size : Int) - 2) = ((s.size - 2 : Nat) : Int) := by rw [w64 (by omega) (by omega)]; omega
    rw [if_neg (by omega), if_neg h, hw, if_pos (by omega), if_pos (by omega), Int.toNat_natCast]
    have hs : (s.extract 0 (s.size - 2)).size = s.size - 2 := size_take s _ (by omega)
    rw [seal_eq k _ (by omega) (by omega)]
    simp only [Option.bind_some]
    rw [toList_L, toList_L, L_mk, L_take]
    by_cases he : sealL ((L s).take (s.size - 2)) = L s
    · rw [if_pos he, if_pos he]
      congr 2
      apply inj
      rw [L_take, L_mk]
    · rw [if_neg he, if_neg he]
end Go.Proofs.YtdpgdnbknmncfaaDoor.Fcs

/- What the printed functions of package addr come to: an address' two octets, or the error; the address that octets begin with. Plain Lean over the printed functions. -/
namespace Go.Proofs.YtdpgdnbknmncfaaDoor.Addr
open Go.RowKit Go.Proofs.YtdpgdnbknmncfaaDoorW.PrintWords Go.Proofs.YtdpgdnbknmncfaaDoorW.PrintLast Go.Proofs.YtdpgdnbknmncfaaDoorW.PrintMore Go.Proofs.YtdpgdnbknmncfaaDoor.Str Go.Proofs.YtdpgdnbknmncfaaDoor.Field Go.Proofs.YtdpgdnbknmncfaaDoor.Pack Go.Proofs.YtdpgdnbknmncfaaDoor.Print

def num (b : Bool) : Int := if b then 1 else 0
theorem num_range (b : Bool) : 0 ≤ num b ∧ num b ≤ 1 := by cases b <;> simp [num]
theorem one_eq (b : Bool) : addr_one.f b = some (num b) := by cases b <;> rfl
theorem pk_last (low n : Nat) (h : low ≤ 8) : pk low n [] = ((n : Int) % 256, 0) := by rw [pk, if_neg (by omega)]
theorem pk_good (low n w : Nat) (v : Int) (fs : List S54) (hw : 1 ≤ w) (hw8 : w ≤ 8) (h0 : 0 ≤ v) (hv : v < 2 ^ w) (hl : low + w ≤ 8) :
    pk low n (⟨(w : Int), v⟩ :: fs) = pk (low + w) (n + v.toNat * 2 ^ low) fs := by
  have hg : good (⟨(w : Int), v⟩ : S54) := ⟨by show (1 : Int) ≤ w; omega, by show (w : Int) ≤ 8; omega, h0, by show v < 2 ^ (w : Int).toNat; simpa using hv⟩
  rw [pk, if_pos hg, if_pos (by omega)]
  show pk (min (low + (w : Int).toNat) 9) _ fs = _
  rw [Int.toNat_natCast, show min (low + w) 9 = low + w from by omega]
theorem pk_bad (low n w : Nat) (v : Int) (fs : List S54) (h : ¬ (0 ≤ v ∧ v < 2 ^ w)) : pk low n (⟨(w : Int), v⟩ :: fs) = (0, 2) := by
  rw [pk, if_neg]
  intro hg
  exact h ⟨hg.2.2.1, by have := hg.2.2.2; simpa using this⟩
theorem pk3 (c s : Int) (hc : 0 ≤ c ∧ c ≤ 1) : pk 0 0 [(⟨1, 0⟩ : S54), (⟨1, c⟩ : S54), (⟨6, s⟩ : S54)] = if 0 ≤ s ∧ s < 64 then (4 * s + 2 * c, 0) else (0, 2) := by
  have a := pk_good 0 0 1 0 [(⟨1, c⟩ : S54), (⟨6, s⟩ : S54)] (by omega) (by omega) (by omega) (by decide) (by omega)
  have b := pk_good 1 (0 + (0 : Int).toNat * 2 ^ 0) 1 c [(⟨6, s⟩ : S54)] (by omega) (by omega) hc.1 (by omega) (by omega)
  refine Eq.trans a (Eq.trans b ?_)
  by_cases h : 0 ≤ s ∧ s < 64
  · rw [if_pos h]
    have d := pk_good 2 (0 + (0 : Int).toNat * 2 ^ 0 + c.toNat * 2 ^ 1) 6 s [] (by omega) (by omega) h.1 (by omega) (by omega)
    refine Eq.trans d ?_
    rw [pk_last _ _ (by omega)]
    congr 1; omega
  · rw [if_neg h]
    exact pk_bad 2 _ 6 s [] (by intro q; exact h ⟨q.1, by omega⟩)
theorem pk2 (c t : Int) (hc : 0 ≤ c ∧ c ≤ 1) : pk 0 0 [(⟨1, c⟩ : S54), (⟨7, t⟩ : S54)] = if 0 ≤ t ∧ t < 128 then (2 * t + c, 0) else (0, 2) := by
  have a := pk_good 0 0 1 c [(⟨7, t⟩ : S54)] (by omega) (by omega) hc.1 (by omega) (by omega)
  refine Eq.trans a ?_
  by_cases h : 0 ≤ t ∧ t < 128
  · rw [if_pos h]
    have d := pk_good 1 (0 + c.toNat * 2 ^ 0) 7 t [] (by omega) (by omega) h.1 (by omega) (by omega)
    refine Eq.trans d ?_
    rw [pk_last _ _ (by omega)]
    congr 1; omega
  · rw [if_neg h]
    exact pk_bad 1 _ 7 t [] (by intro q; exact h ⟨q.1, by omega⟩)

def okA (s t : Int) : Prop := (0 ≤ s ∧ s < 64) ∧ (0 ≤ t ∧ t < 128)
instance (s t : Int) : Decidable (okA s t) := by unfold okA; infer_instance
def putA (s t : Int) (cr : Bool) : ByteArray × Int := if okA s t then (strOfNums [4 * s + 2 * num cr, 2 * t + 1], 0) else (⟨#[]⟩, 2)
theorem put_eq (k : Nat) (hk : 3 < k) (s t : Int) (cr : Bool) : addr_Put.f k s t cr = some (putA s t cr) := by
  have h3 : bits_Pack.f k [(⟨1, 0⟩ : S54), (⟨1, num cr⟩ : S54), (⟨6, s⟩ : S54)] = some (if 0 ≤ s ∧ s < 64 then (4 * s + 2 * num cr, 0) else (0, 2)) := by
    rw [pack_eq _ k (by show 3 ≤ 9223372036854775806; omega) (by show 3 < k; omega), pk3 _ _ (num_range cr)]
  have h2 : bits_Pack.f k [(⟨1, 1⟩ : S54), (⟨7, t⟩ : S54)] = some (if 0 ≤ t ∧ t < 128 then (2 * t + 1, 0) else (0, 2)) := by
    rw [pack_eq _ k (by show 2 ≤ 9223372036854775806; omega) (by show 2 < k; omega), pk2 _ _ (by decide)]
  unfold addr_Put.f
  refine bind_at (one_eq cr) (bind_at h3 (bind_at h2 ?_))
  unfold putA
  by_cases hs : 0 ≤ s ∧ s < 64
  · by_cases ht : 0 ≤ t ∧ t < 128
    · rw [if_pos hs, if_pos ht, if_pos rfl, if_pos rfl, if_pos (show okA s t from ⟨hs, ht⟩)]
    · rw [if_pos hs, if_neg ht, if_pos rfl, if_neg (by decide), if_neg (fun h : okA s t => ht h.2)]
  · rw [if_neg hs, if_neg (by decide), if_neg (fun h : okA s t => hs h.1)]
/-- The address that octets begin with, or the error. -/
def getA (l : List UInt8) : Int × Int × Bool × Int :=
  if l.length < 2 then (0, 0, false, 3)
  else if at_ l 0 % 2 = 0 ∧ at_ l 1 % 2 = 1 then (at_ l 0 / 4, at_ l 1 / 2, (at_ l 0 / 2 % 2 == 1), 0) else (0, 0, false, 4)
theorem get_eq (k : Nat) (hk : 0 < k) (s : ByteArray) : addr_Get.f k s = some (getA (L s)) := by
  obtain ⟨k, rfl⟩ : ∃ m, k = m + 1 := ⟨k - 1, by omega⟩
  have h0 := at_range (L s) 0
  have h1 := at_range (L s) 1
  have b0 : bt s 0 = at_ (L s) 0 := bt_L s 0
  have b1 : bt s 1 = at_ (L s) 1 := bt_L s 1
  unfold addr_Get.f getA
  rw [← size_L]
  by_cases hs : s.size < 2
  · rw [if_pos (by omega), if_pos hs]
  · rw [if_neg (by omega), if_neg hs, if_pos (by omega), b0, b1, low_bit _ h0.1 h0.2, low_bit _ h1.1 h1.2]
    by_cases e0 : at_ (L s) 0 % 2 = 0
    · rw [if_pos e0, if_pos (by omega), addr_Get.j0]
      by_cases e1 : at_ (L s) 1 % 2 = 1
      · rw [if_neg (by simp; omega), if_pos (show at_ (L s) 0 % 2 = 0 ∧ at_ (L s) 1 % 2 = 1 from ⟨e0, e1⟩), b0, b1]
        refine Eq.trans (if_pos (by omega)) ?_
        refine bind_at (f26 _ h0.1 h0.2) ?_
        refine Eq.trans (if_pos (by omega)) ?_
        refine bind_at (f17 _ h1.1 h1.2) (bind_at (f11 _ h0.1 h0.2) ?_)
        rw [show at_ (L s) 0 / 4 % 64 = at_ (L s) 0 / 4 from by omega, show at_ (L s) 1 / 2 % 128 = at_ (L s) 1 / 2 from by omega]
      · rw [if_pos (by simp; omega), if_neg (fun h : at_ (L s) 0 % 2 = 0 ∧ at_ (L s) 1 % 2 = 1 => e1 h.2)]
    · rw [if_neg e0, addr_Get.j0, if_pos rfl, if_neg (fun h : at_ (L s) 0 % 2 = 0 ∧ at_ (L s) 1 % 2 = 1 => e0 h.1)]
end Go.Proofs.YtdpgdnbknmncfaaDoor.Addr

/- What the printed functions of package ctrl come to (in the seat of the frames): a control field's octets or the error. Plain Lean over the printed functions. -/
namespace Go.Proofs.YtdpgdnbknmncfaaDoor.Ctl
open Go.RowKit Go.Proofs.YtdpgdnbknmncfaaDoorW.PrintWords Go.Proofs.YtdpgdnbknmncfaaDoorW.PrintLast Go.Proofs.YtdpgdnbknmncfaaDoorW.PrintMore Go.Proofs.YtdpgdnbknmncfaaDoor.Str Go.Proofs.YtdpgdnbknmncfaaDoor.Field Go.Proofs.YtdpgdnbknmncfaaDoor.Pack Go.Proofs.YtdpgdnbknmncfaaDoor.Print Go.Proofs.YtdpgdnbknmncfaaDoorX
theorem ten {a : Int} (h : 0 ≤ a ∧ a < 10) : a = 0 ∨ a = 1 ∨ a = 2 ∨ a = 3 ∨ a = 4 ∨ a = 5 ∨ a = 6 ∨ a = 7 ∨ a = 8 ∨ a = 9 := by omega
theorem good_eq (a : Int) : ctrl_Kind_good.f a = some (decide (0 ≤ a ∧ a < 10)) := by
  unfold ctrl_Kind_good.f
  by_cases h : a ≥ 0
  · rw [if_pos h]; simp [h]
  · rw [if_neg h]; simp [h]
theorem num_eq (a : Int) : ctrl_Kind_Numbered.f a = some (decide (0 ≤ a ∧ a ≤ 3)) := by
  unfold ctrl_Kind_Numbered.f
  by_cases h : a ≥ 0
  · rw [if_pos h]; simp [h]
  · rw [if_neg h]; simp [h]
/-- A bit as a number. -/
def b2i (b : Bool) : Int := if b = true then 1 else 0
theorem b2i_range (b : Bool) : 0 ≤ b2i b ∧ b2i b ≤ 1 := by cases b <;> decide
theorem one_eq (b : Bool) : ctrl_one.f b = some (b2i b) := by cases b <;> rfl
theorem fo_range {a : Int} (h : 0 ≤ a ∧ a < 10) : 0 ≤ rd glFirst a ∧ rd glFirst a ≤ 135 := by
  rcases ten h with rfl | rfl | rfl | rfl | rfl | rfl | rfl | rfl | rfl | rfl <;> decide
/-- A control field's octets, or the error. -/
def putC (a : Int) (p : Bool) (s r : Int) : ByteArray × Int :=
  if 0 ≤ a ∧ a < 10 then
    if a ≤ 3 then
      if 0 ≤ r ∧ r < 128 then
        if a = 0 then (if 0 ≤ s ∧ s < 128 then (strOfNums [2 * s, 2 * r + b2i p], 0) else (⟨#[]⟩, 2))
        else (strOfNums [rd glFirst a, 2 * r + b2i p], 0)
      else (⟨#[]⟩, 2)
    else (strOfNums [rd glFirst a + 16 * b2i p], 0)
  else (⟨#[]⟩, 4)
theorem with_bit {a : Int} (h : 0 ≤ a ∧ a < 10) (h3 : ¬ a ≤ 3) (p : Bool) : Go.bits .or .u8 (rd glFirst a) ((wrap64 (b2i p * 16)) % 256) = rd glFirst a + 16 * b2i p := by
  have : a = 4 ∨ a = 5 ∨ a = 6 ∨ a = 7 ∨ a = 8 ∨ a = 9 := by omega
  rcases this with rfl | rfl | rfl | rfl | rfl | rfl <;> cases p <;> decide +kernel
theorem put_eq (k : Nat) (hk : 5 < k) (a : Int) (p : Bool) (s r : Int) : ctrl_Put.f k a p s r = some (putC a p s r) := by
  obtain ⟨m, hm, rfl⟩ : ∃ m, 4 < m ∧ k = m + 1 := ⟨k - 1, by omega, by omega⟩
  have hp := b2i_range p
  unfold ctrl_Put.f putC
  refine bind_at (good_eq a) ?_
  by_cases h : 0 ≤ a ∧ a < 10
  · rw [if_pos (decide_eq_true h), if_pos h, if_pos h.1, if_pos h.2]
    refine bind_at (num_eq a) ?_
    by_cases h3 : a ≤ 3
    · rw [if_pos (decide_eq_true ⟨h.1, h3⟩), if_pos h3]
      refine bind_at (one_eq p) ?_
      refine bind_at (pack_two (m + 1) (by omega) (b2i p) r hp) ?_
      by_cases hr : 0 ≤ r ∧ r < 128
      · rw [if_pos hr, if_pos hr]
        refine Eq.trans (if_pos rfl) ?_
        rw [ctrl_Put.j0]
        by_cases h0 : a = 0
        · subst h0
          refine Eq.trans (if_pos rfl) ?_
          refine bind_at (pack_two m (by omega) 0 s (by decide)) ?_
          rw [if_pos rfl]
          by_cases hs : 0 ≤ s ∧ s < 128
          · rw [if_pos hs, if_pos hs]
            refine Eq.trans (if_pos rfl) ?_
            rw [Int.add_zero]
          · rw [if_neg hs, if_neg hs]
            exact if_neg (by decide)
        · rw [if_neg h0]
          refine Eq.trans (if_neg (by rw [beq_false_of_ne h0]; decide)) ?_
          exact if_pos rfl
      · rw [if_neg hr, if_neg hr]
        refine Eq.trans (if_neg (by decide)) ?_
        rw [ctrl_Put.j0]
        refine Eq.trans (if_neg (by decide)) ?_
        exact if_neg (by decide)
    · rw [if_neg (by rw [decide_eq_false (fun q => h3 q.2)]; decide), if_neg h3]
      refine bind_at (one_eq p) ?_
      rw [with_bit h h3 p]
  · rw [if_neg (by rw [decide_eq_false h]; decide), if_neg h]
end Go.Proofs.YtdpgdnbknmncfaaDoor.Ctl

/- What the printed functions of package frame come to: which frames may be, what they carry; a frame's octets, or the error. Plain Lean over the printed functions. -/
namespace Go.Proofs.YtdpgdnbknmncfaaDoor.Frm
open Go.RowKit Go.Proofs.YtdpgdnbknmncfaaDoorW.PrintWords Go.Proofs.YtdpgdnbknmncfaaDoorW.PrintLast Go.Proofs.YtdpgdnbknmncfaaDoorW.PrintMore Go.Proofs.YtdpgdnbknmncfaaDoor.Str Go.Proofs.YtdpgdnbknmncfaaDoor.Field Go.Proofs.YtdpgdnbknmncfaaDoor.Ctl Go.Proofs.YtdpgdnbknmncfaaDoor.Print Go.Proofs.YtdpgdnbknmncfaaDoorX
open Go.Proofs.YtdpgdnbknmncfaaDoor.Fcs (sealL checkL)
open Go.Proofs.YtdpgdnbknmncfaaDoor.Addr (putA getA)
/-- May a frame of that kind be a command, or a response? -/
def mayF (a : Int) (c : Bool) : Bool := if a = 0 ∨ a = 4 ∨ a = 6 ∨ a = 7 then c else if a = 5 ∨ a = 8 ∨ a = 9 then !c else decide (1 ≤ a ∧ a ≤ 3)
theorem may_eq (a : Int) (c : Bool) : frame_May.f a c = some (mayF a c) := by
  unfold frame_May.f mayF
  by_cases h0 : a = 0
  · rw [if_pos h0, if_pos (Or.inl h0)]
  by_cases h4 : a = 4
  · rw [if_neg h0, if_pos h4, if_pos (Or.inr (Or.inl h4))]
  by_cases h6 : a = 6
  · rw [if_neg h0, if_neg h4, if_pos h6, if_pos (Or.inr (Or.inr (Or.inl h6)))]
  by_cases h7 : a = 7
  · rw [if_neg h0, if_neg h4, if_neg h6, if_pos h7, if_pos (Or.inr (Or.inr (Or.inr h7)))]
  rw [if_neg h0, if_neg h4, if_neg h6, if_neg h7, if_neg (show ¬ (a = 0 ∨ a = 4 ∨ a = 6 ∨ a = 7) by omega)]
  by_cases h5 : a = 5
  · rw [if_pos h5, if_pos (Or.inl h5)]
  by_cases h8 : a = 8
  · rw [if_neg h5, if_pos h8, if_pos (Or.inr (Or.inl h8))]
  by_cases h9 : a = 9
  · rw [if_neg h5, if_neg h8, if_pos h9, if_pos (Or.inr (Or.inr h9))]
  rw [if_neg h5, if_neg h8, if_neg h9, if_neg (show ¬ (a = 5 ∨ a = 8 ∨ a = 9) by omega), num_eq]
  congr 1
  exact decide_eq_decide.2 (by omega)
/-- May a frame of that kind have so much information? -/
def carF (a n : Int) : Bool := if a = 0 ∨ a = 6 then decide (0 ≤ n ∧ n ≤ 260) else if a = 9 then n == 5 else n == 0 && decide (0 ≤ a ∧ a < 10)
theorem name_some (a : Int) : ∃ s, ctrl_Kind_Name.f a = some s ∧ (s.toList != ([] : List UInt8)) = decide (0 ≤ a ∧ a < 10) := by
  by_cases h : 0 ≤ a ∧ a < 10
  · rcases ten h with rfl | rfl | rfl | rfl | rfl | rfl | rfl | rfl | rfl | rfl <;> exact ⟨_, rfl, by decide +kernel⟩
  · refine ⟨⟨#[]⟩, ?_, ?_⟩
    · unfold ctrl_Kind_Name.f
      refine bind_at (good_eq a) (if_neg ?_)
      rw [decide_eq_false h]; decide
    · rw [decide_eq_false h]; decide +kernel
theorem small (n : Int) : (if n ≥ 0 then some (decide (n ≤ 260)) else some false) = some (decide (0 ≤ n ∧ n ≤ 260)) := by
  by_cases h : n ≥ 0
  · rw [if_pos h]; congr 1; exact decide_eq_decide.2 (by omega)
  · rw [if_neg h, decide_eq_false (by omega)]
theorem car_eq (k : Nat) (hk : 0 < k) (a n : Int) : frame_Carries.f k a n = some (carF a n) := by
  obtain ⟨m, rfl⟩ : ∃ m, k = m + 1 := ⟨k - 1, by omega⟩
  unfold frame_Carries.f carF
  by_cases h0 : a = 0
  · rw [if_pos h0, if_pos (Or.inl h0), frame_Carries.j0, if_pos (by simp [h0])]; exact small n
  rw [if_neg h0]
  by_cases h6 : a = 6
  · rw [if_pos (Or.inr h6), frame_Carries.j0, if_pos (by simp [h6])]; exact small n
  rw [if_neg (by omega), frame_Carries.j0, if_neg (by simpa using h6)]
  by_cases h9 : a = 9
  · rw [if_pos h9, if_pos h9]
  rw [if_neg h9, if_neg h9]
  by_cases hn : n = 0
  · rw [if_pos hn]
    obtain ⟨s, h1, h2⟩ := name_some a
    refine bind_at h1 ?_
    rw [h2, hn]; rfl
  · rw [if_neg hn, beq_false_of_ne hn]; rfl
theorem make_eq (s t : Int) (c w : Bool) : addr_Make.f s t c w = some (s, t, (c == w)) := rfl
theorem sizeA (s t : Int) (c : Bool) : (putA s t c).1.size ≤ 2 := by
  unfold Addr.putA
  split
  · exact Nat.le_of_eq (nums_size _)
  · exact Nat.zero_le _
theorem sizeC (a : Int) (p : Bool) (x y : Int) : (putC a p x y).1.size ≤ 2 := by
  unfold putC
  split
  · split
    · split
      · split
        · split
          · exact Nat.le_of_eq (nums_size _)
          · exact Nat.zero_le _
        · exact Nat.le_of_eq (nums_size _)
      · exact Nat.zero_le _
    · exact Nat.le_trans (Nat.le_of_eq (nums_size _)) (by show 1 ≤ 2; decide)
  · exact Nat.zero_le _
theorem size_app (s t : ByteArray) : (s ++ t).size = s.size + t.size := by rw [size_L, L_app, List.length_append, ← size_L, ← size_L]
/-- A frame's octets, or the error. -/
def putF (s t : Int) (c : Bool) (a : Int) (p : Bool) (x y : Int) (i : ByteArray) (w : Bool) : ByteArray × Int :=
  if (putC a p x y).2 = 4 ∨ mayF a c = false then (⟨#[]⟩, 4)
  else if (putC a p x y).2 = 0 then
    if (putA s t (c == w)).2 = 0 then
      if carF a (i.size : Int) = true then (⟨(sealL (L (((putA s t (c == w)).1 ++ (putC a p x y).1) ++ i))).toArray⟩, 0) else (⟨#[]⟩, 5)
    else (⟨#[]⟩, (putA s t (c == w)).2)
  else (⟨#[]⟩, (putC a p x y).2)
theorem put_eq (k : Nat) (s t : Int) (c : Bool) (a : Int) (p : Bool) (x y : Int) (i : ByteArray) (w : Bool) (hi : i.size ≤ 140737488351232) (hk : i.size + 40 < k) :
    frame_Put.f k s t c a p x y i w = some (putF s t c a p x y i w) := by
  obtain ⟨m, rfl⟩ : ∃ m, k = m + 1 := ⟨k - 1, by omega⟩
  have hA := sizeA s t (c == w)
  have hC := sizeC a p x y
  unfold frame_Put.f putF
  refine bind_at (Ctl.put_eq (m + 1) (by omega) a p x y) ?_
  generalize putC a p x y = C at *
  by_cases h4 : C.2 = 4
  · rw [if_pos h4, if_pos (Or.inl h4), frame_Put.j0, if_pos rfl]
  rw [if_neg h4]
  refine bind_at (may_eq a c) ?_
  rw [frame_Put.j0]
  by_cases hm : mayF a c = false
  · rw [if_pos (by rw [hm]; rfl), if_pos (Or.inr hm)]
  have hm' : mayF a c = true := by simpa using hm
  rw [if_neg (by rw [hm']; decide), if_neg (show ¬ (C.2 = 4 ∨ mayF a c = false) from fun h => h.elim h4 hm)]
  by_cases he : C.2 = 0
  · rw [if_pos he, if_pos he]
    refine bind_at (make_eq s t c w) (bind_at (Addr.put_eq m (by omega) s t (c == w)) ?_)
    generalize putA s t (c == w) = A at *
    by_cases ha : A.2 = 0
    · rw [if_pos ha, if_pos ha]
      refine bind_at (car_eq m (by omega) a (i.size : Int)) ?_
      by_cases hc : carF a (i.size : Int) = true
      · rw [if_pos hc, if_pos hc]
        have z1 : (A.1 ++ C.1).size ≤ 4 := by rw [size_app]; omega
        have z2 : ((A.1 ++ C.1) ++ i).size ≤ i.size + 4 := by rw [size_app]; omega
        rw [if_pos (by omega), if_pos (by omega)]
        exact bind_at (Fcs.seal_eq m ((A.1 ++ C.1) ++ i) (by omega) (by omega)) rfl
      · rw [if_neg hc, if_neg hc]
    · rw [if_neg ha, if_neg ha]
  · rw [if_neg he, if_neg he]
theorem first_put : putF 0 64 false 1 true 0 1 ⟨#[]⟩ false = (⟨(sealL [2, 129, 1, 3]).toArray⟩, 0) := rfl
theorem wakes_eq (k : Nat) (hk : 50 < k) : lapwinglaw06_wakes.f k = some true := by
  unfold lapwinglaw06_wakes.f
  have h0 := put_eq k 0 64 false 1 true 0 1 ⟨#[]⟩ false (by decide) (by show 0 + 40 < k; omega)
  rw [first_put] at h0
  refine bind_at h0 (Eq.trans (if_pos rfl) ?_)
  refine bind_at (Fcs.seal_eq k ⟨#[2, 129, 1, 3]⟩ (by decide) (by show 4 + 9 < k; omega)) ?_
  refine Eq.trans (if_pos rfl) ?_
  exact bind_at (may_eq 1 true) rfl
end Go.Proofs.YtdpgdnbknmncfaaDoor.Frm

/- What the document's May and Carries come to. Plain Lean over the printed functions. -/
namespace Go.Proofs.YtdpgdnbknmncfaaDoor.Frm
open Go.RowKit Go.Proofs.YtdpgdnbknmncfaaDoorW.PrintWords Go.Proofs.YtdpgdnbknmncfaaDoorW.PrintLast Go.Proofs.YtdpgdnbknmncfaaDoorW.PrintMore Go.Proofs.YtdpgdnbknmncfaaDoor.Str Go.Proofs.YtdpgdnbknmncfaaDoor.Field Go.Proofs.YtdpgdnbknmncfaaDoor.Ctl Go.Proofs.YtdpgdnbknmncfaaDoor.Print Go.Proofs.YtdpgdnbknmncfaaDoorX
open Go.Proofs.YtdpgdnbknmncfaaDoor.Fcs (sealL checkL)
open Go.Proofs.YtdpgdnbknmncfaaDoor.Addr (putA getA)
theorem in_step (m : Nat) (a : Int) (l : List Int) (i : Nat) (hi : i < l.length) (hl : l.length < 100) : lapwingref06_in.l0 (m + 1) a l (i : Int) = if rd l (i : Int) = a then some true else lapwingref06_in.l0 m a l ((i + 1 : Nat) : Int) := by
  rw [lapwingref06_in.l0, if_pos (by omega), if_pos (by omega), w64 (n := (i : Int) + 1) (by omega) (by omega)]; rfl
theorem in_end (m : Nat) (a : Int) (l : List Int) : lapwingref06_in.l0 (m + 1) a l ((l.length : Nat) : Int) = some false := by
  rw [lapwingref06_in.l0, if_neg (by omega)]
theorem in3 (k : Nat) (hk : 3 < k) (a x y z : Int) : lapwingref06_in.f k a [x, y, z] = some (decide (a = x ∨ a = y ∨ a = z)) := by
  obtain ⟨m, rfl⟩ : ∃ m, k = m + 1 + 1 + 1 + 1 := ⟨k - 4, by omega⟩
  unfold lapwingref06_in.f
  refine (in_step _ a [x, y, z] 0 (by show 0 < 3; decide) (by show 3 < 100; decide)).trans ?_
  show (if x = a then _ else _) = _
  by_cases h1 : x = a
  · rw [if_pos h1, decide_eq_true (Or.inl h1.symm)]
  rw [if_neg h1]
  refine (in_step _ a [x, y, z] 1 (by show 1 < 3; decide) (by show 3 < 100; decide)).trans ?_
  show (if y = a then _ else _) = _
  by_cases h2 : y = a
  · rw [if_pos h2, decide_eq_true (Or.inr (Or.inl h2.symm))]
  rw [if_neg h2]
  refine (in_step _ a [x, y, z] 2 (by show 2 < 3; decide) (by show 3 < 100; decide)).trans ?_
  show (if z = a then _ else _) = _
  by_cases h3 : z = a
  · rw [if_pos h3, decide_eq_true (Or.inr (Or.inr h3.symm))]
  rw [if_neg h3]
  refine (in_end _ a [x, y, z]).trans ?_
  rw [decide_eq_false (by omega)]
theorem in4 (k : Nat) (hk : 4 < k) (a x y z u : Int) : lapwingref06_in.f k a [x, y, z, u] = some (decide (a = x ∨ a = y ∨ a = z ∨ a = u)) := by
  obtain ⟨m, rfl⟩ : ∃ m, k = m + 1 + 1 + 1 + 1 + 1 := ⟨k - 5, by omega⟩
  unfold lapwingref06_in.f
  refine (in_step _ a [x, y, z, u] 0 (by show 0 < 4; decide) (by show 4 < 100; decide)).trans ?_
  show (if x = a then _ else _) = _
  by_cases h1 : x = a
  · rw [if_pos h1, decide_eq_true (Or.inl h1.symm)]
  rw [if_neg h1]
  refine (in_step _ a [x, y, z, u] 1 (by show 1 < 4; decide) (by show 4 < 100; decide)).trans ?_
  show (if y = a then _ else _) = _
  by_cases h2 : y = a
  · rw [if_pos h2, decide_eq_true (Or.inr (Or.inl h2.symm))]
  rw [if_neg h2]
  refine (in_step _ a [x, y, z, u] 2 (by show 2 < 4; decide) (by show 4 < 100; decide)).trans ?_
  show (if z = a then _ else _) = _
  by_cases h3 : z = a
  · rw [if_pos h3, decide_eq_true (Or.inr (Or.inr (Or.inl h3.symm)))]
  rw [if_neg h3]
  refine (in_step _ a [x, y, z, u] 3 (by show 3 < 4; decide) (by show 4 < 100; decide)).trans ?_
  show (if u = a then _ else _) = _
  by_cases h4 : u = a
  · rw [if_pos h4, decide_eq_true (Or.inr (Or.inr (Or.inr h4.symm)))]
  rw [if_neg h4]
  refine (in_end _ a [x, y, z, u]).trans ?_
  rw [decide_eq_false (by omega)]
theorem rmay_eq (k : Nat) (hk : 4 < k) (a : Int) (c : Bool) : lapwingref06_May.f k a c = some (mayF a c) := by
  unfold lapwingref06_May.f
  refine bind_at (in3 k (by omega) a 1 2 3) (bind_at (in4 k hk a 0 4 6 7) (bind_at (in3 k (by omega) a 5 8 9) ?_))
  unfold mayF
  by_cases h1 : a = 1 ∨ a = 2 ∨ a = 3
  · rw [if_pos (decide_eq_true h1), if_neg (by omega), if_neg (by omega), decide_eq_true (by omega)]
  rw [if_neg (by simpa using h1)]
  by_cases h2 : a = 0 ∨ a = 4 ∨ a = 6 ∨ a = 7
  · rw [if_pos (decide_eq_true h2), if_pos h2, if_neg (show ¬ (decide (a = 5 ∨ a = 8 ∨ a = 9) = true) by simp; omega)]
    cases c <;> rfl
  · rw [if_neg (by simpa using h2), if_neg h2]
    by_cases h3 : a = 5 ∨ a = 8 ∨ a = 9
    · rw [if_pos (decide_eq_true h3), if_pos h3]
    · rw [if_neg (by simpa using h3), if_neg h3, decide_eq_false (by omega)]
theorem rcar_eq (k : Nat) (hk : 1 < k) (a n : Int) : lapwingref06_Carries.f k a n = some (carF a n) := by
  obtain ⟨m, rfl⟩ : ∃ m, k = m + 1 + 1 := ⟨k - 2, by omega⟩
  have key : ∀ b : Bool, b = decide (¬ (0 ≤ a ∧ a < 10)) → lapwingref06_Carries.j0 (m + 1 + 1) a n b = some (carF a n) := by
    intro b hb
    rw [lapwingref06_Carries.j0]
    unfold carF
    by_cases hr : 0 ≤ a ∧ a < 10
    · rw [if_neg (by rw [hb]; simpa using hr)]
      by_cases h0 : a = 0
      · rw [if_pos h0, if_pos (Or.inl h0), lapwingref06_Carries.j1, if_pos rfl]; exact small n
      rw [if_neg h0, lapwingref06_Carries.j1]
      by_cases h6 : a = 6
      · rw [if_pos (by simp [h6]), if_pos (Or.inr h6)]; exact small n
      rw [if_neg (by simpa using h6), if_neg (show ¬ (a = 0 ∨ a = 6) by omega)]
      by_cases h9 : a = 9
      · rw [if_pos h9, if_pos h9]
      rw [if_neg h9, if_neg h9, decide_eq_true hr, Bool.and_true]
    · rw [if_pos (by rw [hb, decide_eq_true hr]), if_neg (by omega), if_neg (by omega), decide_eq_false hr, Bool.and_false]
  unfold lapwingref06_Carries.f
  by_cases h : a < 0
  · rw [if_pos h]; exact key true (by rw [decide_eq_true (by omega)])
  · rw [if_neg h]; exact key _ (decide_eq_decide.2 (by omega))
end Go.Proofs.YtdpgdnbknmncfaaDoor.Frm

/- What the printed reference functions for addresses come to: the same as the program's. Plain Lean over the printed functions. -/
namespace Go.Proofs.YtdpgdnbknmncfaaDoor.AddrRef
open Go.RowKit Go.Proofs.YtdpgdnbknmncfaaDoorW.PrintWords Go.Proofs.YtdpgdnbknmncfaaDoorW.PrintLast Go.Proofs.YtdpgdnbknmncfaaDoorW.PrintMore Go.Proofs.YtdpgdnbknmncfaaDoor.Str Go.Proofs.YtdpgdnbknmncfaaDoor.Field Go.Proofs.YtdpgdnbknmncfaaDoor.Pack Go.Proofs.YtdpgdnbknmncfaaDoor.Addr Go.Proofs.YtdpgdnbknmncfaaDoor.Print
theorem get_eq (s : ByteArray) : lapwingref04_Get.f s = some (getA (L s)) := by
  have h0 := at_range (L s) 0
  have h1 := at_range (L s) 1
  have b0 : bt s 0 = at_ (L s) 0 := bt_L s 0
  have b1 : bt s 1 = at_ (L s) 1 := bt_L s 1
  unfold lapwingref04_Get.f getA
  rw [← size_L]
  by_cases hs : s.size < 2
  · rw [if_pos (by omega), if_pos hs]
  · rw [if_neg (by omega), if_neg hs, if_pos (by omega), if_pos (by omega), b0, b1]
    generalize at_ (L s) 0 = x at *
    generalize at_ (L s) 1 = y at *
    rw [w64 (n := x) (by omega) (by omega), w64 (n := y) (by omega) (by omega), Int.tmod_eq_emod_of_nonneg h0.1, Int.tmod_eq_emod_of_nonneg h1.1, Int.tdiv_eq_ediv_of_nonneg h0.1, Int.tdiv_eq_ediv_of_nonneg h0.1, Int.tdiv_eq_ediv_of_nonneg h1.1]
    by_cases e0 : x % 2 = 0
    · by_cases e1 : y % 2 = 1
      · rw [if_neg (by omega), if_neg (by omega), if_pos (show x % 2 = 0 ∧ y % 2 = 1 from ⟨e0, e1⟩), w64 (n := x / 4) (by omega) (by omega), w64 (n := y / 2) (by omega) (by omega), w64 (n := x / 2) (by omega) (by omega), Int.tmod_eq_emod_of_nonneg (by omega)]
      · rw [if_neg (by omega), if_pos (by omega), if_neg (fun h : x % 2 = 0 ∧ y % 2 = 1 => e1 h.2)]
    · rw [if_pos (by omega), if_neg (fun h : x % 2 = 0 ∧ y % 2 = 1 => e0 h.1)]
end Go.Proofs.YtdpgdnbknmncfaaDoor.AddrRef

/- What the printed reference function Of comes to: each octet's eight bits, the lowest first, as the digits 0 and 1. Plain Lean over the printed function. -/
namespace Go.Proofs.YtdpgdnbknmncfaaDoor.RefOf
open Go.RowKit Go.Proofs.YtdpgdnbknmncfaaDoorW.PrintWords Go.Proofs.YtdpgdnbknmncfaaDoorW.PrintLast Go.Proofs.YtdpgdnbknmncfaaDoorW.PrintMore Go.Proofs.YtdpgdnbknmncfaaDoor.Str Go.Proofs.YtdpgdnbknmncfaaDoor.Print

/-- The lowest d bits of n, as digits. -/
def gen : Nat → Nat → List Int
  | 0, _ => []
  | d + 1, n => (48 + ((n % 2 : Nat) : Int)) :: gen d (n / 2)
theorem gen_length (d n : Nat) : (gen d n).length = d := by
  induction d generalizing n with
  | zero => rfl
  | succ d ih => simp [gen, ih]
def genAll (l : List UInt8) : List Int := l.flatMap fun b => gen 8 b.toNat
theorem genAll_length (l : List UInt8) : (genAll l).length = 8 * l.length := by
  induction l with
  | nil => rfl
  | cons a l ih => simp only [genAll, List.flatMap_cons, List.length_append, gen_length, List.length_cons] at ih ⊢; omega

theorem inner (s : ByteArray) (d : Nat) : ∀ (k : Nat) (acc : List Int) (i : Int) (n j : Nat), j + d = 8 → n < 256 → acc.length + d ≤ 140737488355328 →
    lapwingref01_Of.l1 (k + d + 1) s acc i (n : Int) (j : Int) = lapwingref01_Of.l0 k s (acc ++ gen d n) (wrap64 (i + 1)) := by
  induction d with
  | zero =>
    intro k acc i n j h _ _
    simp only [lapwingref01_Of.l1, gen, List.append_nil]
    rw [if_neg (by omega)]
  | succ d ih =>
    intro k acc i n j h hn ha
    rw [show k + (d + 1) + 1 = (k + d + 1) + 1 from by omega, lapwingref01_Of.l1]
    rw [if_pos (by omega), if_pos (by omega)]
    have e1 : (wrap64 (48 + Int.tmod (n : Int) 2)) % 256 = 48 + ((n % 2 : Nat) : Int) := by
      rw [Int.tmod_eq_emod_of_nonneg (by omega), w64 (by omega) (by omega)]; omega
    have e2 : wrap64 (Int.tdiv (n : Int) 2) = ((n / 2 : Nat) : Int) := by
      rw [Int.tdiv_eq_ediv_of_nonneg (by omega), w64 (by omega) (by omega)]; omega
    have e3 : wrap64 ((j : Int) + 1) = ((j + 1 : Nat) : Int) := by rw [w64 (by omega) (by omega)]; omega
    rw [e1, e2, e3, ih k _ i (n / 2) (j + 1) (by omega) (by omega) (by simp; omega)]
    simp [gen]

theorem outer (s : ByteArray) (hn : s.size * 8 ≤ 140737488355328) (d : Nat) : ∀ (k : Nat) (acc : List Int) (i : Nat), i + d = s.size → acc.length = 8 * i → 10 * d < k →
    lapwingref01_Of.l0 k s acc (i : Int) = some (strOfNums (acc ++ genAll ((L s).drop i))) := by
  induction d with
  | zero =>
    intro k acc i h _ hk
    obtain ⟨k, rfl⟩ : ∃ m, k = m + 1 := ⟨k - 1, by omega⟩
    simp only [lapwingref01_Of.l0]
    rw [if_neg (by omega), List.drop_of_length_le (by rw [← size_L]; omega)]
    simp [genAll]
  | succ d ih =>
    intro k acc i h ha hk
    obtain ⟨k, rfl⟩ : ∃ m, k = m + 8 + 1 + 1 := ⟨k - 10, by omega⟩
    have hl : i < (L s).length := by rw [← size_L]; omega
    have hb := (L s)[i].toNat_lt
    rw [lapwingref01_Of.l0]
    rw [if_pos (by omega), if_pos (by omega), bt_nat, at_get _ _ hl, w64 (by omega) (by omega)]
    have := inner s 8 k acc (i : Int) (L s)[i].toNat 0 (by omega) (by omega) (by omega)
    have e3 : wrap64 ((i : Int) + 1) = ((i + 1 : Nat) : Int) := by rw [w64 (by omega) (by omega)]; omega
    rw [show (k + 8 + 1) = k + 9 from rfl] at this ⊢
    rw [show lapwingref01_Of.l1 (k + 9) s acc (i : Int) ((L s)[i].toNat : Int) 0 = _ from this, e3, ih k _ (i + 1) (by omega) (by simp [gen_length]; omega) (by omega), List.drop_eq_getElem_cons hl]
    simp [genAll]

theorem of_eq (k : Nat) (s : ByteArray) (hn : s.size * 8 ≤ 140737488355328) (hk : 10 * s.size < k) : lapwingref01_Of.f k s = some (strOfNums (genAll (L s))) := by
  have := outer s hn s.size k [] 0 (by omega) (by simp) hk
  unfold lapwingref01_Of.f
  simpa using this

def digit (b : Bool) : UInt8 := if b then 49 else 48
def bitsOf (n : Nat) : List Bool := (List.range 8).map fun i => n.testBit i
set_option maxRecDepth 10000 in
theorem gen_digits (b : UInt8) : (gen 8 b.toNat).map (fun n => UInt8.ofNat n.toNat) = (bitsOf b.toNat).map digit := by
  have h : ∀ n : Fin 256, (gen 8 n.val).map (fun n => UInt8.ofNat n.toNat) = (bitsOf n.val).map digit := by decide +kernel
  exact h ⟨b.toNat, b.toNat_lt⟩
/-- All octets' bits. -/
def allBits (l : List UInt8) : List Bool := l.flatMap fun b => bitsOf b.toNat
theorem allBits_length (l : List UInt8) : (allBits l).length = 8 * l.length := by
  induction l with
  | nil => rfl
  | cons a l ih => simp only [allBits, List.flatMap_cons, List.length_append, List.length_cons] at ih ⊢; simp [bitsOf] at ih ⊢; omega
theorem of_bits (k : Nat) (s : ByteArray) (hn : s.size * 8 ≤ 140737488355328) (hk : 10 * s.size < k) : lapwingref01_Of.f k s = some ⟨((allBits (L s)).map digit).toArray⟩ := by
  rw [of_eq k s hn hk]
  refine congrArg some (inj ?_)
  rw [L_nums, L_mk]
  unfold genAll allBits
  rw [List.map_flatMap, List.map_flatMap]
  congr 1
  funext b
  exact gen_digits b
end Go.Proofs.YtdpgdnbknmncfaaDoor.RefOf

/- What the printed reference functions of the check sequence come to: the same register as the program's. Plain Lean over the printed functions. -/
namespace Go.Proofs.YtdpgdnbknmncfaaDoor.FcsRef
open Go.RowKit Go.Proofs.YtdpgdnbknmncfaaDoorW.PrintWords Go.Proofs.YtdpgdnbknmncfaaDoorW.PrintLast Go.Proofs.YtdpgdnbknmncfaaDoorW.PrintMore Go.Proofs.YtdpgdnbknmncfaaDoor.Str Go.Proofs.YtdpgdnbknmncfaaDoor.Crc Go.Proofs.YtdpgdnbknmncfaaDoor.Fcs Go.Proofs.YtdpgdnbknmncfaaDoor.RefOf Go.Proofs.YtdpgdnbknmncfaaDoor.Print

theorem xor_step (a b i : Nat) : (a ^^^ b) % 2 ^ (i + 1) = (a ^^^ b) % 2 ^ i + (if a / 2 ^ i % 2 = b / 2 ^ i % 2 then 0 else 2 ^ i) := by
  rw [Nat.mod_pow_succ]
  have h := Nat.testBit_xor a b i
  have ha := Nat.testBit_eq_decide_div_mod_eq (x := a) (i := i)
  have hb := Nat.testBit_eq_decide_div_mod_eq (x := b) (i := i)
  have hc := Nat.testBit_eq_decide_div_mod_eq (x := a ^^^ b) (i := i)
  rw [ha, hb, hc] at h
  have h1 : a / 2 ^ i % 2 < 2 := Nat.mod_lt _ (by decide)
  have h2 : b / 2 ^ i % 2 < 2 := Nat.mod_lt _ (by decide)
  have h3 : (a ^^^ b) / 2 ^ i % 2 < 2 := Nat.mod_lt _ (by decide)
  generalize a / 2 ^ i % 2 = x at *
  generalize b / 2 ^ i % 2 = y at *
  generalize (a ^^^ b) / 2 ^ i % 2 = z at *
  have hx : x = 0 ∨ x = 1 := by omega
  have hy : y = 0 ∨ y = 1 := by omega
  have hz : z = 0 ∨ z = 1 := by omega
  rcases hx with rfl | rfl <;> rcases hy with rfl | rfl <;> rcases hz with rfl | rfl <;> simp at h ⊢

theorem half_bit (n p : Nat) (hn : n < 65536) : Int.tmod (wrap64 (Int.tdiv (n : Int) (p : Int))) 2 = ((n / p % 2 : Nat) : Int) := by
  have h1 : n / p ≤ n := Nat.div_le_self _ _
  rw [Int.tdiv_eq_ediv_of_nonneg (Int.natCast_nonneg n), ← Int.natCast_ediv]
  generalize n / p = m at *
  rw [w64 (by omega) (by omega), Int.tmod_eq_emod_of_nonneg (by omega)]
  omega
theorem unlike_round (k a b n p i : Nat) (ha : a < 65536) (hb : b < 65536) (hp : 0 < p) (hp1 : p ≤ 32768) (hn : n ≤ 65536) (hi : i < 16) :
    lapwingref02_unlike.l0 (k + 1) (a : Int) (b : Int) (n : Int) (p : Int) (i : Int) =
      lapwingref02_unlike.l0 k (a : Int) (b : Int) ((n + (if a / p % 2 = b / p % 2 then 0 else p) : Nat) : Int) ((2 * p : Nat) : Int) ((i + 1 : Nat) : Int) := by
  have e1 : wrap64 (2 * (p : Int)) = ((2 * p : Nat) : Int) := by rw [w64 (by omega) (by omega)]; omega
  have e2 : wrap64 ((i : Int) + 1) = ((i + 1 : Nat) : Int) := by rw [w64 (by omega) (by omega)]; omega
  rw [lapwingref02_unlike.l0, if_pos (by omega), if_neg (by omega), half_bit a p ha, half_bit b p hb, e1, e2]
  by_cases hc : a / p % 2 = b / p % 2
  · rw [if_pos (by rw [hc]), if_pos hc]; rfl
  · rw [if_neg (fun h => hc (by exact_mod_cast h)), if_neg hc, w64 (by omega) (by omega), ← Int.natCast_add]
theorem unlike_loop (a b : Nat) (ha : a < 65536) (hb : b < 65536) (d : Nat) : ∀ (k i : Nat), i + d = 16 → d < k →
    lapwingref02_unlike.l0 k (a : Int) (b : Int) (((a ^^^ b) % 2 ^ i : Nat) : Int) ((2 ^ i : Nat) : Int) (i : Int) = some (((a ^^^ b) % 2 ^ 16 : Nat) : Int) := by
  induction d with
  | zero =>
    intro k i h hk
    obtain ⟨k, rfl⟩ : ∃ m, k = m + 1 := ⟨k - 1, by omega⟩
    obtain rfl : i = 16 := by omega
    rw [lapwingref02_unlike.l0, if_neg (by decide)]
  | succ d ih =>
    intro k i h hk
    obtain ⟨k, rfl⟩ : ∃ m, k = m + 1 := ⟨k - 1, by omega⟩
    have hp : 2 ^ i ≤ 2 ^ 15 := Nat.pow_le_pow_right (by decide) (by omega)
    have hp0 : 0 < 2 ^ i := Nat.two_pow_pos i
    have hm : (a ^^^ b) % 2 ^ i < 2 ^ i := Nat.mod_lt _ hp0
    have hpow : 2 * 2 ^ i = 2 ^ (i + 1) := by rw [Nat.pow_succ, Nat.mul_comm]
    rw [unlike_round k a b _ _ i ha hb hp0 hp (Nat.le_trans (Nat.le_of_lt hm) (Nat.le_trans hp (by decide))) (by omega), ← xor_step, hpow]
    exact ih k (i + 1) (by omega) (by omega)

theorem unlike_eq (k : Nat) (hk : 16 < k) (r s : R) : lapwingref02_unlike.f k (num r) (num s) = some (num (r ^^^ s)) := by
  have h := unlike_loop r.toNat s.toNat r.isLt s.isLt 16 k 0 (by omega) hk
  have e : (r.toNat ^^^ s.toNat) % 2 ^ 16 = (r ^^^ s).toNat := by
    rw [BitVec.toNat_xor]; exact Nat.mod_eq_of_lt (Nat.xor_lt_two_pow r.isLt s.isLt)
  rw [e] at h
  unfold lapwingref02_unlike.f
  simpa [num, Nat.mod_one] using h

def dig (b : Bool) : Int := if b then 1 else 0
theorem bit_eq (k : Nat) (hk : 16 < k) (r : R) (b : Bool) : lapwingref02_bit.f k (num r) (dig b) = some (num (bstep r b)) := by
  have hr := num_lt r
  have hq : wrap64 (Int.tdiv (num r) 2) = num (r >>> 1) := by
    rw [Int.tdiv_eq_ediv_of_nonneg hr.1, w64 (by omega) (by omega), half]
  have hm : Int.tmod (num r) 2 = dig (r.getLsbD 0) := by
    rw [Int.tmod_eq_emod_of_nonneg hr.1]
    unfold num dig
    rw [BitVec.getLsbD, Nat.testBit_zero]
    by_cases h : r.toNat % 2 = 1
    · rw [if_pos (by simpa using h)]; omega
    · rw [if_neg (by simpa using h)]; omega
  unfold lapwingref02_bit.f
  rw [hm, hq]
  have hc : (33800 : Int) = num 0x8408#16 := rfl
  rw [hc, unlike_eq k hk]
  simp only [Option.bind_some]
  unfold bstep
  cases r.getLsbD 0 <;> cases b <;> simp [dig]

theorem digit_num (b : Bool) : ((((digit b).toNat : Nat) : Int) - 48) % 256 = dig b := by cases b <;> rfl

theorem step_loop (l : List Bool) (hl : l.length = 8) (d : Nat) : ∀ (k : Nat) (r : R) (i : Nat), i + d = 8 → d + 17 < k →
    lapwingref02_Step.l0 k (num r) ⟨(l.map digit).toArray⟩ (i : Int) = some (num (run r (l.drop i))) := by
  induction d with
  | zero =>
    intro k r i h hk
    obtain ⟨k, rfl⟩ : ∃ m, k = m + 1 := ⟨k - 1, by omega⟩
    rw [lapwingref02_Step.l0, if_neg (by omega), List.drop_of_length_le (by omega)]; rfl
  | succ d ih =>
    intro k r i h hk
    obtain ⟨k, rfl⟩ : ∃ m, k = m + 1 := ⟨k - 1, by omega⟩
    have hi : i < l.length := by omega
    have hsz : (⟨(l.map digit).toArray⟩ : ByteArray).size = 8 := by rw [size_L, L_mk, List.length_map, hl]
    rw [lapwingref02_Step.l0, if_pos (by omega), if_pos (by omega), if_pos (by rw [hsz]; omega), bt_nat, L_mk, at_get _ _ (by simpa using hi), List.getElem_map, digit_num, bit_eq k (by omega)]
    simp only [Option.bind_some]
    have e : wrap64 ((i : Int) + 1) = ((i + 1 : Nat) : Int) := by rw [w64 (by omega) (by omega)]; omega
    rw [e, ih k _ (i + 1) (by omega) (by omega), List.drop_eq_getElem_cons hi]
    rfl

theorem one_oct (o : UInt8) : strOfNums [(o.toNat : Int)] = ⟨[o].toArray⟩ := nums_of [o]
theorem step_eq (k : Nat) (hk : 26 < k) (r : R) (o : UInt8) : lapwingref02_Step.f k (num r) (o.toNat : Int) = some (num (stepB r o)) := by
  unfold lapwingref02_Step.f
  have hs : (⟨[o].toArray⟩ : ByteArray).size = 1 := rfl
  rw [one_oct, of_bits k _ (by rw [hs]; decide) (by rw [hs]; omega), L_mk]
  simp only [Option.bind_some]
  have e : allBits [o] = obits o.toNat := by simp [allBits, bitsOf, obits]
  rw [e]
  have := step_loop (obits o.toNat) (obits_length _) 8 k r 0 (by omega) (by omega)
  rw [List.drop_zero] at this
  exact this

theorem sum_loop (s : ByteArray) (hn : s.size ≤ 9223372036854775806) (d : Nat) : ∀ (k : Nat) (r : R) (i : Nat), i + d = s.size → d + 27 < k →
    lapwingref02_Sum.l0 k s (num r) (i : Int) = some (num (~~~ sumR r ((L s).drop i))) := by
  induction d with
  | zero =>
    intro k r i h hk
    obtain ⟨k, rfl⟩ : ∃ m, k = m + 1 := ⟨k - 1, by omega⟩
    have hr := num_lt r
    rw [lapwingref02_Sum.l0, if_neg (by omega), List.drop_of_length_le (by rw [← size_L]; omega), w64 (by omega) (by omega)]
    have hlt := r.isLt
    show some (65535 - num r) = some (num (~~~ r))
    unfold num
    rw [BitVec.toNat_not]
    congr 1; omega
  | succ d ih =>
    intro k r i h hk
    obtain ⟨k, rfl⟩ : ∃ m, k = m + 1 := ⟨k - 1, by omega⟩
    have hl : i < (L s).length := by rw [← size_L]; omega
    rw [lapwingref02_Sum.l0, if_pos (by omega), if_pos (by omega), bt_nat, at_get _ _ hl, step_eq k (by omega)]
    simp only [Option.bind_some]
    have e : wrap64 ((i : Int) + 1) = ((i + 1 : Nat) : Int) := by rw [w64 (by omega) (by omega)]; omega
    rw [e, ih k _ (i + 1) (by omega) (by omega), List.drop_eq_getElem_cons hl]
    rfl

theorem sum_eq (k : Nat) (s : ByteArray) (hn : s.size ≤ 9223372036854775806) (hk : s.size + 27 < k) : lapwingref02_Sum.f k s = some (num (crc (L s))) := by
  unfold lapwingref02_Sum.f
  have := sum_loop s hn s.size k 0xffff#16 0 (by omega) hk
  rw [List.drop_zero] at this
  exact this
theorem seal_eq (k : Nat) (s : ByteArray) (hn : s.size ≤ 9223372036854775805) (hk : s.size + 27 < k) : lapwingref02_Seal.f k s = some ⟨(sealL (L s)).toArray⟩ := by
  have hr := num_lt (crc (L s))
  unfold lapwingref02_Seal.f
  rw [sum_eq k s (by omega) hk]
  simp only [Option.bind_some]
  have e1 : Int.tmod (num (crc (L s))) 256 % 256 = num (crc (L s)) % 256 := by rw [Int.tmod_eq_emod_of_nonneg hr.1]; omega
  have e2 : wrap64 (Int.tdiv (num (crc (L s))) 256) % 256 = num (crc (L s)) / 256 % 256 := by
    rw [Int.tdiv_eq_ediv_of_nonneg hr.1, w64 (by omega) (by omega)]
  rw [e1, e2, seal_nums]
  have e : (⟨[lo (crc (L s)), hi (crc (L s))].toArray⟩ : ByteArray).size = 2 := rfl
  rw [e, if_pos (by omega)]
  exact congrArg some (inj (by rw [L_app, L_mk, L_mk]; rfl))
theorem check_eq (k : Nat) (s : ByteArray) (hn : s.size ≤ 9223372036854775805) (hk : s.size + 27 < k) : lapwingref02_Check.f k s = some (⟨(checkL (L s)).1.toArray⟩, (checkL (L s)).2) := by
  unfold lapwingref02_Check.f checkL
  rw [← size_L]
  by_cases h : s.size < 2
  · rw [if_pos (by omega), if_pos h]
  · have hw : wrap64 ((s.size : Int) - 2) = ((s.size - 2 : Nat) : Int) := by rw [w64 (by omega) (by omega)]; omega
    rw [if_neg (by omega), if_neg h, hw, if_pos (by omega), if_pos (by omega), Int.toNat_natCast]
    have hs : (s.extract 0 (s.size - 2)).size = s.size - 2 := size_take s _ (by omega)
    rw [seal_eq k _ (by omega) (by omega)]
    simp only [Option.bind_some]
    rw [toList_L, toList_L, L_mk, L_take]
    by_cases he : sealL ((L s).take (s.size - 2)) = L s
    · rw [if_pos he, if_pos he]
      congr 2
      apply inj
      rw [L_take, L_mk]
    · rw [if_neg he, if_neg he]
end Go.Proofs.YtdpgdnbknmncfaaDoor.FcsRef

/- What the printed ctrl.Get comes to at the octets of a control field. Plain Lean over the printed functions. -/
namespace Go.Proofs.YtdpgdnbknmncfaaDoor.CtlG
open Go.RowKit Go.Proofs.YtdpgdnbknmncfaaDoorW.PrintWords Go.Proofs.YtdpgdnbknmncfaaDoorW.PrintLast Go.Proofs.YtdpgdnbknmncfaaDoorW.PrintMore Go.Proofs.YtdpgdnbknmncfaaDoor.Str Go.Proofs.YtdpgdnbknmncfaaDoor.Field Go.Proofs.YtdpgdnbknmncfaaDoor.Print Go.Proofs.YtdpgdnbknmncfaaDoorX
theorem field_at (x : Int) (h0 : 0 ≤ x) (h1 : x ≤ 255) (l c : Nat) (hl : l < 8) (hc : 1 ≤ c) (hc8 : c ≤ 8) :
    bits_Field.f x (l : Int) (c : Int) = some (x / 2 ^ l % 2 ^ c) := by
  unfold bits_Field.f
  rw [if_neg (by omega), if_neg (by omega), if_neg (by omega), if_pos (by omega)]
  have hm : mn (c : Int) 8 = c := by unfold mn; omega
  rw [hm, if_pos (by omega)]
  have hd : shr .u8 x (l : Int) = x / 2 ^ l := by
    unfold shr
    rw [show min ((l : Int).toNat) (IntKind.u8).bits = l from by simp [IntKind.bits]; omega]
  have hx : 0 ≤ x / 2 ^ l ∧ x / 2 ^ l ≤ 255 := by
    have : l = 0 ∨ l = 1 ∨ l = 2 ∨ l = 3 ∨ l = 4 ∨ l = 5 ∨ l = 6 ∨ l = 7 := by omega
    rcases this with rfl | rfl | rfl | rfl | rfl | rfl | rfl | rfl <;> simp <;> omega
  have hw : wrap64 (x / 2 ^ l) = x / 2 ^ l := by unfold wrap64; omega
  have hp : wrap64 (wrap64 (2 ^ ((c : Int)).toNat) - 1) = 2 ^ c - 1 := by
    have : c = 1 ∨ c = 2 ∨ c = 3 ∨ c = 4 ∨ c = 5 ∨ c = 6 ∨ c = 7 ∨ c = 8 := by omega
    rcases this with rfl | rfl | rfl | rfl | rfl | rfl | rfl | rfl <;> simp [wrap64]
  rw [hd, hw, hp, mask_i64 c (by omega) _ hx.1 (by omega)]
theorem f17 (x : Int) (h0 : 0 ≤ x) (h1 : x ≤ 255) : bits_Field.f x 1 7 = some (x / 2 % 128) := field_at x h0 h1 1 7 (by decide) (by decide) (by decide)
theorem ten {a : Int} (h : 0 ≤ a ∧ a < 10) : a = 0 ∨ a = 1 ∨ a = 2 ∨ a = 3 ∨ a = 4 ∨ a = 5 ∨ a = 6 ∨ a = 7 ∨ a = 8 ∨ a = 9 := by omega
theorem num_eq (a : Int) : ctrl_Kind_Numbered.f a = some (decide (0 ≤ a ∧ a ≤ 3)) := by
  unfold ctrl_Kind_Numbered.f
  by_cases h : a ≥ 0
  · rw [if_pos h]; simp [h]
  · rw [if_neg h]; simp [h]
/-- A bit as a number. -/
def b2i (b : Bool) : Int := if b = true then 1 else 0
theorem b2i_range (b : Bool) : 0 ≤ b2i b ∧ b2i b ≤ 1 := by cases b <;> decide
theorem fo_range {a : Int} (h : 0 ≤ a ∧ a < 10) : 0 ≤ rd glFirst a ∧ rd glFirst a ≤ 135 := by
  rcases ten h with rfl | rfl | rfl | rfl | rfl | rfl | rfl | rfl | rfl | rfl <;> decide
/-- Where an octet stands in the table of first octets, the first left out. -/
def idx (x : Int) : Int := if x = 1 then 0 else if x = 5 then 1 else if x = 9 then 2 else if x = 111 then 3 else if x = 15 then 4 else if x = 3 then 5 else if x = 67 then 6 else if x = 99 then 7 else if x = 135 then 8 else -1
theorem idx_range (x : Int) : -1 ≤ idx x ∧ idx x ≤ 8 := by unfold idx; (repeat' split) <;> omega
theorem idx_step (m : Nat) (x : Int) (i : Nat) (hi : i < 9) : slices_Index_byte_byte.l0 (m + 1) glFirst1 x 9 (i : Int) = if x = rd glFirst1 (i : Int) then some (i : Int) else slices_Index_byte_byte.l0 m glFirst1 x 9 ((i + 1 : Nat) : Int) := by
  rw [slices_Index_byte_byte.l0, if_pos (by omega), if_pos (by omega), if_pos (show (i : Int) < ((glFirst1.length : Nat) : Int) by show (i : Int) < 9; omega)]
  rw [w64 (n := (i : Int) + 1) (by omega) (by omega)]; rfl
theorem idx_eq (k : Nat) (hk : 9 < k) (x : Int) : slices_Index_byte_byte.f k glFirst1 x = some (idx x) := by
  obtain ⟨m, rfl⟩ : ∃ m, k = m + 10 := ⟨k - 10, by omega⟩
  unfold slices_Index_byte_byte.f idx
  show slices_Index_byte_byte.l0 (m + 10) glFirst1 x 9 ((0 : Nat) : Int) = _
  rw [show m + 10 = m + 9 + 1 from rfl, idx_step _ x 0 (by decide), show rd glFirst1 ((0 : Nat) : Int) = 1 from rfl]
  by_cases h0 : x = 1
  · rw [if_pos h0, if_pos h0]; rfl
  rw [if_neg h0, if_neg h0]
  rw [show m + 9 = m + 8 + 1 from rfl, idx_step _ x 1 (by decide), show rd glFirst1 ((1 : Nat) : Int) = 5 from rfl]
  by_cases h1 : x = 5
  · rw [if_pos h1, if_pos h1]; rfl
  rw [if_neg h1, if_neg h1]
  rw [show m + 8 = m + 7 + 1 from rfl, idx_step _ x 2 (by decide), show rd glFirst1 ((2 : Nat) : Int) = 9 from rfl]
  by_cases h2 : x = 9
  · rw [if_pos h2, if_pos h2]; rfl
  rw [if_neg h2, if_neg h2]
  rw [show m + 7 = m + 6 + 1 from rfl, idx_step _ x 3 (by decide), show rd glFirst1 ((3 : Nat) : Int) = 111 from rfl]
  by_cases h3 : x = 111
  · rw [if_pos h3, if_pos h3]; rfl
  rw [if_neg h3, if_neg h3]
  rw [show m + 6 = m + 5 + 1 from rfl, idx_step _ x 4 (by decide), show rd glFirst1 ((4 : Nat) : Int) = 15 from rfl]
  by_cases h4 : x = 15
  · rw [if_pos h4, if_pos h4]; rfl
  rw [if_neg h4, if_neg h4]
  rw [show m + 5 = m + 4 + 1 from rfl, idx_step _ x 5 (by decide), show rd glFirst1 ((5 : Nat) : Int) = 3 from rfl]
  by_cases h5 : x = 3
  · rw [if_pos h5, if_pos h5]; rfl
  rw [if_neg h5, if_neg h5]
  rw [show m + 4 = m + 3 + 1 from rfl, idx_step _ x 6 (by decide), show rd glFirst1 ((6 : Nat) : Int) = 67 from rfl]
  by_cases h6 : x = 67
  · rw [if_pos h6, if_pos h6]; rfl
  rw [if_neg h6, if_neg h6]
  rw [show m + 3 = m + 2 + 1 from rfl, idx_step _ x 7 (by decide), show rd glFirst1 ((7 : Nat) : Int) = 99 from rfl]
  by_cases h7 : x = 99
  · rw [if_pos h7, if_pos h7]; rfl
  rw [if_neg h7, if_neg h7]
  rw [show m + 2 = m + 1 + 1 from rfl, idx_step _ x 8 (by decide), show rd glFirst1 ((8 : Nat) : Int) = 135 from rfl]
  by_cases h8 : x = 135
  · rw [if_pos h8, if_pos h8]; rfl
  rw [if_neg h8, if_neg h8]
  rw [slices_Index_byte_byte.l0]
  exact if_neg (by decide)
/-- The kind that a first octet is looked up as. -/
def kd (x : Int) : Int := if idx x + 1 = 0 then idx (Go.bits .andNot .u8 x 16) + 1 else idx x + 1
theorem get_head (k : Nat) (hk : 9 < k) (s : ByteArray) (h : 0 < s.size) : ctrl_Get.f k s = ctrl_Get.j0 k s (bt s 0) (kd (bt s 0)) := by
  unfold ctrl_Get.f
  have hn : ¬ s.toList = ([] : List UInt8) := by
    rw [toList_L]; intro e
    rw [size_L, e] at h; exact absurd h (by decide)
  rw [if_neg hn, if_pos (by omega)]
  generalize bt s 0 = x
  have r := idx_range x
  refine bind_at (idx_eq k hk x) ?_
  have w : wrap64 (idx x + 1) = idx x + 1 := w64 (by omega) (by omega)
  rw [w]
  unfold kd
  by_cases h0 : idx x + 1 = 0
  · rw [if_pos h0, if_pos h0]
    have r2 := idx_range (Go.bits .andNot .u8 x 16)
    refine bind_at (idx_eq k hk _) ?_
    rw [w64 (n := idx (Go.bits .andNot .u8 x 16) + 1) (by omega) (by omega)]
  · rw [if_neg h0, if_neg h0]
theorem six {a : Int} (h : 4 ≤ a ∧ a < 10) : a = 4 ∨ a = 5 ∨ a = 6 ∨ a = 7 ∨ a = 8 ∨ a = 9 := by omega
theorem u_facts {a : Int} (h : 4 ≤ a ∧ a < 10) (p : Bool) : kd (rd glFirst a + 16 * b2i p) = a ∧ ¬ Go.bits .and .u8 (rd glFirst a + 16 * b2i p) 1 = 0 ∧ (Go.bits .and .u8 (rd glFirst a + 16 * b2i p) 16 != 0) = p := by
  rcases six h with rfl | rfl | rfl | rfl | rfl | rfl <;> cases p <;> decide +kernel
theorem get_U (k : Nat) (hk : 9 < k) (s : ByteArray) (hs : 0 < s.size) {a : Int} (h : 4 ≤ a ∧ a < 10) (p : Bool) (hb : bt s 0 = rd glFirst a + 16 * b2i p) : ctrl_Get.f k s = some (a, p, 0, 0, 1, 0) := by
  obtain ⟨m, rfl⟩ : ∃ m, k = m + 1 + 1 := ⟨k - 2, by omega⟩
  obtain ⟨f1, f2, f3⟩ := u_facts h p
  rw [get_head _ hk s hs, hb, f1]
  generalize rd glFirst a + 16 * b2i p = x at *
  have hn : ctrl_Kind_Numbered.f a = some false := by rw [num_eq, decide_eq_false (by omega)]
  rw [ctrl_Get.j0, if_neg f2, if_neg (by omega)]
  refine bind_at hn (Eq.trans (if_neg (by decide)) ?_)
  rw [ctrl_Get.j1]
  refine bind_at hn (Eq.trans (if_neg (by decide)) ?_)
  rw [f3]
theorem s_facts {a : Int} (h : 1 ≤ a ∧ a ≤ 3) : kd (rd glFirst a) = a ∧ ¬ Go.bits .and .u8 (rd glFirst a) 1 = 0 := by
  have : a = 1 ∨ a = 2 ∨ a = 3 := by omega
  rcases this with rfl | rfl | rfl <;> decide +kernel
theorem two_S (m : Nat) (s : ByteArray) (hs : 2 ≤ s.size) (x y : Int) {a : Int} (h : 1 ≤ a ∧ a ≤ 3) (hy : bt s 1 = y) (y0 : 0 ≤ y) (y1 : y ≤ 255) : ctrl_Get.j1 (m + 1) s x a = some (a, (y % 2 == 1), 0, y / 2 % 128, 2, 0) := by
  rw [ctrl_Get.j1]
  have hn : ctrl_Kind_Numbered.f a = some true := by rw [num_eq, decide_eq_true (by omega)]
  refine bind_at hn (Eq.trans (if_pos rfl) ?_)
  rw [if_neg (by omega), if_pos (by omega), hy]
  refine bind_at (f17 y y0 y1) ?_
  rw [if_neg (by omega), low_bit y y0 y1]
theorem get_S (k : Nat) (hk : 9 < k) (s : ByteArray) (hs : 2 ≤ s.size) {a : Int} (h : 1 ≤ a ∧ a ≤ 3) (hb : bt s 0 = rd glFirst a) (y : Int) (hy : bt s 1 = y) (y0 : 0 ≤ y) (y1 : y ≤ 255) : ctrl_Get.f k s = some (a, (y % 2 == 1), 0, y / 2 % 128, 2, 0) := by
  obtain ⟨m, rfl⟩ : ∃ m, k = m + 1 + 1 := ⟨k - 2, by omega⟩
  obtain ⟨f1, f2⟩ := s_facts h
  rw [get_head _ hk s (by omega), hb, f1]
  have hn : ctrl_Kind_Numbered.f a = some true := by rw [num_eq, decide_eq_true (by omega)]
  rw [ctrl_Get.j0, if_neg f2, if_neg (by omega)]
  refine bind_at hn (Eq.trans (if_pos rfl) ?_)
  rw [if_pos (by omega), if_pos (by omega), if_pos rfl]
  exact two_S m s hs _ y h hy y0 y1
theorem get_I (k : Nat) (hk : 9 < k) (s : ByteArray) (hs : 2 ≤ s.size) (x : Int) (hb : bt s 0 = x) (x0 : 0 ≤ x) (x1 : x ≤ 255) (he : x % 2 = 0) (y : Int) (hy : bt s 1 = y) (y0 : 0 ≤ y) (y1 : y ≤ 255) : ctrl_Get.f k s = some (0, (y % 2 == 1), x / 2 % 128, y / 2 % 128, 2, 0) := by
  obtain ⟨m, rfl⟩ : ∃ m, k = m + 1 + 1 := ⟨k - 2, by omega⟩
  rw [get_head _ hk s (by omega), hb]
  rw [ctrl_Get.j0, if_pos (by rw [low_bit x x0 x1]; exact he), ctrl_Get.j1]
  have hn : ctrl_Kind_Numbered.f 0 = some true := rfl
  refine bind_at hn (Eq.trans (if_pos rfl) ?_)
  rw [if_neg (by omega), if_pos (by omega), hy]
  refine bind_at (f17 y y0 y1) ?_
  rw [if_pos rfl]
  refine bind_at (f17 x x0 x1) ?_
  rw [low_bit y y0 y1]
end Go.Proofs.YtdpgdnbknmncfaaDoor.CtlG

/- What the printed ctrl.Get comes to at all octets: the document's Get says the same. Plain Lean over the printed functions. -/
namespace Go.Proofs.YtdpgdnbknmncfaaDoor.CtlG
open Go.RowKit Go.Proofs.YtdpgdnbknmncfaaDoorW.PrintWords Go.Proofs.YtdpgdnbknmncfaaDoorW.PrintLast Go.Proofs.YtdpgdnbknmncfaaDoorW.PrintMore Go.Proofs.YtdpgdnbknmncfaaDoor.Str Go.Proofs.YtdpgdnbknmncfaaDoor.Field Go.Proofs.YtdpgdnbknmncfaaDoor.Print Go.Proofs.YtdpgdnbknmncfaaDoorX
theorem rnum_eq (a : Int) : lapwingref05_Numbered.f a = some (decide (0 ≤ a ∧ a ≤ 3)) := by
  unfold lapwingref05_Numbered.f
  by_cases h0 : a = 0
  · rw [if_pos h0]; subst h0; rfl
  · rw [if_neg h0]
    by_cases h1 : a = 1
    · rw [if_pos h1]; subst h1; rfl
    · rw [if_neg h1]
      by_cases h2 : a = 2
      · rw [if_pos h2]; subst h2; rfl
      · rw [if_neg h2]
        by_cases h3 : a = 3
        · subst h3; rfl
        · rw [beq_false_of_ne h3, decide_eq_false (by omega)]
theorem octet_eq {a : Int} (h : 0 ≤ a ∧ a < 10) : lapwingref05_octet.f a = some (rd glFirst a) := by
  rcases ten h with rfl | rfl | rfl | rfl | rfl | rfl | rfl | rfl | rfl | rfl <;> rfl
/-- Does the document's kind j not begin with x? -/
def miss (x : Int) (j : Nat) : Bool := if j = 0 then decide (x % 2 ≠ 0) else if j ≤ 3 then decide (x ≠ rd glFirst (j : Int)) else decide (x ≠ rd glFirst (j : Int) ∧ x ≠ rd glFirst (j : Int) + 16)
theorem ref_step (m : Nat) (s : ByteArray) (x : Int) (x0 : 0 ≤ x) (j : Nat) (hj : j < 10) (h : miss x j = true) : lapwingref05_Get.l0 (m + 2) s x (j : Int) = lapwingref05_Get.l0 m s x ((j + 1 : Nat) : Int) := by
  have w1 : wrap64 ((j : Int) + 1) = ((j + 1 : Nat) : Int) := by rw [w64 (by omega) (by omega)]; rfl
  have hr := fo_range (a := (j : Int)) (by omega)
  have w2 : wrap64 (rd glFirst (j : Int) + 16) = rd glFirst (j : Int) + 16 := w64 (by omega) (by omega)
  rw [lapwingref05_Get.l0, if_pos (by omega)]
  refine bind_at (rnum_eq _) (bind_at (octet_eq (by omega)) ?_)
  unfold miss at h
  by_cases h0 : j = 0
  · subst h0
    rw [if_pos rfl] at h
    have h := of_decide_eq_true h
    rw [if_pos (by decide), if_pos (show ((0 : Nat) : Int) = 0 from rfl), if_neg (by rw [Int.tmod_eq_emod_of_nonneg x0]; exact h), lapwingref05_Get.j1]
    refine Eq.trans (if_neg (by decide)) (Eq.trans (if_pos (by decide)) ?_)
    rw [w1]
  · rw [if_neg h0] at h
    by_cases h3 : j ≤ 3
    · rw [if_pos h3] at h
      have h := of_decide_eq_true h
      rw [if_pos (decide_eq_true (by omega)), if_neg (by omega), lapwingref05_Get.j1, if_neg (by simpa using h), if_pos (decide_eq_true (by omega)), w1]
    · rw [if_neg h3] at h
      have h := of_decide_eq_true h
      rw [if_neg (by simp; omega), lapwingref05_Get.j1]
      refine Eq.trans (if_neg (by decide)) ?_
      rw [if_neg (by simp; omega), if_neg h.1, w2, if_neg h.2, w1]
theorem ref_to (m : Nat) (s : ByteArray) (x : Int) (x0 : 0 ≤ x) : ∀ (n i : Nat), i + n ≤ 10 → (∀ j, i ≤ j → j < i + n → miss x j = true) → lapwingref05_Get.l0 (m + 2 * n) s x (i : Int) = lapwingref05_Get.l0 m s x ((i + n : Nat) : Int)
  | 0, i, _, _ => rfl
  | n + 1, i, hi, h => by
    rw [show m + 2 * (n + 1) = (m + 2 * n) + 2 from by omega, ref_step (m + 2 * n) s x x0 i (by omega) (h i (Nat.le_refl _) (by omega)), ref_to m s x x0 n (i + 1) (by omega) (fun j h1 h2 => h j (by omega) (by omega)), show i + 1 + n = i + (n + 1) from by omega]
theorem ref_I (m : Nat) (s : ByteArray) (x : Int) (x0 : 0 ≤ x) (x1 : x ≤ 255) (he : x % 2 = 0) :
    lapwingref05_Get.l0 (m + 2) s x 0 = (if (s.size : Int) < 2 then some (0, false, 0, 0, 0, 3) else some (0, (bt s 1 % 2 == 1), x / 2, bt s 1 / 2, 2, 0)) := by
  have hb : 0 ≤ bt s 1 ∧ bt s 1 ≤ 255 := by rw [bt_L]; exact at_range _ _
  rw [lapwingref05_Get.l0, if_pos (by decide)]
  refine bind_at (rnum_eq _) (bind_at (octet_eq (by omega)) ?_)
  rw [if_pos (by decide), if_pos rfl, if_pos (by rw [Int.tmod_eq_emod_of_nonneg x0]; exact he), lapwingref05_Get.j1, if_pos rfl]
  by_cases hs : (s.size : Int) < 2
  · rw [if_pos hs, if_pos hs]
  · rw [if_neg hs, if_neg hs, if_pos (by omega), if_pos rfl, w64 (n := bt s 1) (by omega) (by omega), Int.tmod_eq_emod_of_nonneg hb.1, Int.tdiv_eq_ediv_of_nonneg hb.1, Int.tdiv_eq_ediv_of_nonneg x0, w64 (n := x / 2) (by omega) (by omega), w64 (n := bt s 1 / 2) (by omega) (by omega)]
theorem ref_S (m : Nat) (s : ByteArray) (j : Nat) (hj : 1 ≤ j ∧ j ≤ 3) (x : Int) (hx : x = rd glFirst (j : Int)) :
    lapwingref05_Get.l0 (m + 2) s x (j : Int) = (if (s.size : Int) < 2 then some (0, false, 0, 0, 0, 3) else some ((j : Int), (bt s 1 % 2 == 1), 0, bt s 1 / 2, 2, 0)) := by
  have hb : 0 ≤ bt s 1 ∧ bt s 1 ≤ 255 := by rw [bt_L]; exact at_range _ _
  rw [lapwingref05_Get.l0, if_pos (by omega)]
  refine bind_at (rnum_eq _) (bind_at (octet_eq (by omega)) ?_)
  rw [if_pos (decide_eq_true (by omega)), if_neg (by omega), lapwingref05_Get.j1, if_pos (by simpa using hx)]
  by_cases hs : (s.size : Int) < 2
  · rw [if_pos hs, if_pos hs]
  · rw [if_neg hs, if_neg hs, if_pos (by omega), if_neg (by omega), w64 (n := bt s 1) (by omega) (by omega), Int.tmod_eq_emod_of_nonneg hb.1, Int.tdiv_eq_ediv_of_nonneg hb.1, w64 (n := bt s 1 / 2) (by omega) (by omega)]
theorem ref_U (m : Nat) (s : ByteArray) (j : Nat) (hj : 4 ≤ j ∧ j < 10) (p : Bool) (x : Int) (hx : x = rd glFirst (j : Int) + 16 * b2i p) :
    lapwingref05_Get.l0 (m + 2) s x (j : Int) = some ((j : Int), p, 0, 0, 1, 0) := by
  have hr := fo_range (a := (j : Int)) (by omega)
  have w2 : wrap64 (rd glFirst (j : Int) + 16) = rd glFirst (j : Int) + 16 := w64 (by omega) (by omega)
  rw [lapwingref05_Get.l0, if_pos (by omega)]
  refine bind_at (rnum_eq _) (bind_at (octet_eq (by omega)) ?_)
  rw [if_neg (by simp; omega), lapwingref05_Get.j1]
  refine Eq.trans (if_neg (by decide)) ?_
  rw [if_neg (by simp; omega), w2]
  cases p
  · have hx : x = rd glFirst (j : Int) := by rw [hx]; show _ + 16 * 0 = _; omega
    rw [if_pos hx, beq_false_of_ne (by omega)]
  · have hx : x = rd glFirst (j : Int) + 16 := hx
    rw [if_neg (by omega), if_pos hx, hx, beq_self_eq_true]
theorem ref_end (m : Nat) (s : ByteArray) (x : Int) : lapwingref05_Get.l0 (m + 1) s x ((10 : Nat) : Int) = some (0, false, 0, 0, 0, 4) := by
  rw [lapwingref05_Get.l0, if_neg (by decide)]
/-- Of every first octet: which kind's it is. -/
theorem octets_all : ∀ n : Fin 256, ((n.val : Nat) : Int) % 2 = 0 ∨ (∃ j : Fin 10, (1 ≤ j.val ∧ j.val ≤ 3) ∧ ((n.val : Nat) : Int) = rd glFirst ((j.val : Nat) : Int) ∧ ∀ i : Fin 10, i < j → miss ((n.val : Nat) : Int) i.val = true) ∨
    (∃ j : Fin 10, ∃ p : Bool, (4 ≤ j.val) ∧ ((n.val : Nat) : Int) = rd glFirst ((j.val : Nat) : Int) + 16 * b2i p ∧ ∀ i : Fin 10, i < j → miss ((n.val : Nat) : Int) i.val = true) ∨
    (((n.val : Nat) : Int) % 2 = 1 ∧ (kd ((n.val : Nat) : Int) = 0 ∨ ((1 ≤ kd ((n.val : Nat) : Int) ∧ kd ((n.val : Nat) : Int) ≤ 3) ∧ ((n.val : Nat) : Int) ≠ rd glFirst (kd ((n.val : Nat) : Int)))) ∧ ∀ i : Fin 10, miss ((n.val : Nat) : Int) i.val = true) := by decide +kernel
/-- The control field that octets begin with, and its length, or the error: both packages say the same. -/
theorem get_same (k : Nat) (hk : 30 < k) (s : ByteArray) : ∃ r : Int × Bool × Int × Int × Int × Int, ctrl_Get.f k s = some r ∧ lapwingref05_Get.f k s = some r ∧ (r.2.2.2.2.2 = 0 → 1 ≤ r.2.2.2.2.1 ∧ r.2.2.2.2.1 ≤ 2 ∧ r.2.2.2.2.1 ≤ (s.size : Int)) := by
  by_cases h0 : s.size = 0
  · refine ⟨(0, false, 0, 0, 0, 3), ?_, ?_, fun h => absurd h (by decide)⟩
    · unfold ctrl_Get.f
      exact if_pos (by rw [toList_L]; exact List.length_eq_zero_iff.1 (by rw [← size_L]; exact h0))
    · unfold lapwingref05_Get.f
      exact if_pos (by omega)
  have hx : 0 ≤ bt s 0 ∧ bt s 0 ≤ 255 := by rw [bt_L]; exact at_range _ _
  have hy : 0 ≤ bt s 1 ∧ bt s 1 ≤ 255 := by rw [bt_L]; exact at_range _ _
  have href : lapwingref05_Get.f k s = lapwingref05_Get.l0 k s (bt s 0) 0 := by
    unfold lapwingref05_Get.f
    rw [if_neg (by omega), if_pos (by omega), w64 (n := bt s 0) (by omega) (by omega)]
  have hall := octets_all ⟨(bt s 0).toNat, by omega⟩
  rw [show (((⟨(bt s 0).toNat, by omega⟩ : Fin 256).val : Nat) : Int) = bt s 0 from by show ((bt s 0).toNat : Int) = bt s 0; omega] at hall
  rcases hall with he | ⟨j, hj, hv, hm⟩ | ⟨j, p, hj, hv, hm⟩ | ⟨ho, hb, hm⟩
  · have href2 := href.trans ((congrArg (fun z => lapwingref05_Get.l0 z s (bt s 0) 0) (show k = (k - 2) + 2 by omega)).trans (ref_I (k - 2) s (bt s 0) hx.1 hx.2 he))
    by_cases hs : (s.size : Int) < 2
    · rw [if_pos hs] at href2
      refine ⟨_, ?_, href2, fun h => absurd h (by decide)⟩
      obtain ⟨m, rfl⟩ : ∃ m, k = m + 1 + 1 := ⟨k - 2, by omega⟩
      rw [get_head _ (by omega) s (by omega), ctrl_Get.j0, if_pos (by rw [low_bit _ hx.1 hx.2]; exact he), ctrl_Get.j1]
      have hn : ctrl_Kind_Numbered.f 0 = some true := rfl
      exact bind_at hn (Eq.trans (if_pos rfl) (if_pos hs))
    · rw [if_neg hs] at href2
      refine ⟨_, ?_, href2, fun _ => ⟨by show (1 : Int) ≤ 2; decide, by show (2 : Int) ≤ 2; decide, by show (2 : Int) ≤ _; omega⟩⟩
      rw [get_I k (by omega) s (by omega) (bt s 0) rfl hx.1 hx.2 he (bt s 1) rfl hy.1 hy.2, show bt s 0 / 2 % 128 = bt s 0 / 2 from by omega, show bt s 1 / 2 % 128 = bt s 1 / 2 from by omega]
  · have hto := ref_to (k - 2 * j.val - 2 + 2) s (bt s 0) hx.1 j.val 0 (by omega) (fun i _ h2 => hm ⟨i, by omega⟩ (show i < j.val by omega))
    rw [Nat.zero_add] at hto
    have href2 := href.trans ((congrArg (fun z => lapwingref05_Get.l0 z s (bt s 0) 0) (show k = (k - 2 * j.val - 2) + 2 + 2 * j.val by omega)).trans (hto.trans (ref_S (k - 2 * j.val - 2) s j.val hj (bt s 0) hv)))
    by_cases hs : (s.size : Int) < 2
    · rw [if_pos hs] at href2
      refine ⟨_, ?_, href2, fun h => absurd h (by decide)⟩
      obtain ⟨m, rfl⟩ : ∃ m, k = m + 1 + 1 := ⟨k - 2, by omega⟩
      obtain ⟨f1, f2⟩ := s_facts (a := (j.val : Int)) (by omega)
      rw [get_head _ (by omega) s (by omega), hv, f1]
      have hn : ctrl_Kind_Numbered.f (j.val : Int) = some true := by rw [num_eq, decide_eq_true (by omega)]
      rw [ctrl_Get.j0, if_neg f2, if_neg (by omega)]
      refine bind_at hn (Eq.trans (if_pos rfl) ?_)
      rw [if_pos (by omega), if_pos (by omega), if_pos rfl, ctrl_Get.j1]
      exact bind_at hn (Eq.trans (if_pos rfl) (if_pos hs))
    · rw [if_neg hs] at href2
      refine ⟨_, ?_, href2, fun _ => ⟨by show (1 : Int) ≤ 2; decide, by show (2 : Int) ≤ 2; decide, by show (2 : Int) ≤ _; omega⟩⟩
      rw [get_S k (by omega) s (by omega) (a := (j.val : Int)) (by omega) hv (bt s 1) rfl hy.1 hy.2, show bt s 1 / 2 % 128 = bt s 1 / 2 from by omega]
  · refine ⟨_, get_U k (by omega) s (by omega) (a := (j.val : Int)) (by omega) p hv, ?_, fun _ => ⟨by show (1 : Int) ≤ 1; decide, by show (1 : Int) ≤ 2; decide, by show (1 : Int) ≤ _; omega⟩⟩
    have hto := ref_to (k - 2 * j.val - 2 + 2) s (bt s 0) hx.1 j.val 0 (by omega) (fun i _ h2 => hm ⟨i, by omega⟩ (show i < j.val by omega))
    rw [Nat.zero_add] at hto
    exact href.trans ((congrArg (fun z => lapwingref05_Get.l0 z s (bt s 0) 0) (show k = (k - 2 * j.val - 2) + 2 + 2 * j.val by omega)).trans (hto.trans (ref_U (k - 2 * j.val - 2) s j.val (by omega) p (bt s 0) hv)))
  · refine ⟨(0, false, 0, 0, 0, 4), ?_, ?_, fun h => absurd h (by decide)⟩
    · obtain ⟨m, rfl⟩ : ∃ m, k = m + 1 := ⟨k - 1, by omega⟩
      rw [get_head _ (by omega) s (by omega), ctrl_Get.j0, if_neg (by rw [low_bit _ hx.1 hx.2]; omega)]
      rcases hb with hb | ⟨hb, hne⟩
      · rw [if_pos hb]
      · rw [if_neg (by omega)]
        have hn : ctrl_Kind_Numbered.f (kd (bt s 0)) = some true := by rw [num_eq, decide_eq_true (by omega)]
        refine bind_at hn (Eq.trans (if_pos rfl) ?_)
        rw [if_pos (by omega), if_pos (by omega), if_neg hne]
    · have hto := ref_to (k - 20 - 1 + 1) s (bt s 0) hx.1 10 0 (by omega) (fun i _ h2 => hm ⟨i, by omega⟩)
      exact href.trans ((congrArg (fun z => lapwingref05_Get.l0 z s (bt s 0) 0) (show k = (k - 20 - 1) + 1 + 2 * 10 by omega)).trans (hto.trans (ref_end (k - 20 - 1) s (bt s 0))))
end Go.Proofs.YtdpgdnbknmncfaaDoor.CtlG

/- What the printed frame.Get comes to at all octets: the frame, or the error. Plain Lean over the printed functions. -/
namespace Go.Proofs.YtdpgdnbknmncfaaDoor.Frm
open Go.RowKit Go.Proofs.YtdpgdnbknmncfaaDoorW.PrintWords Go.Proofs.YtdpgdnbknmncfaaDoorW.PrintLast Go.Proofs.YtdpgdnbknmncfaaDoorW.PrintMore Go.Proofs.YtdpgdnbknmncfaaDoor.Str Go.Proofs.YtdpgdnbknmncfaaDoor.Field Go.Proofs.YtdpgdnbknmncfaaDoor.Ctl Go.Proofs.YtdpgdnbknmncfaaDoor.Print Go.Proofs.YtdpgdnbknmncfaaDoorX
open Go.Proofs.YtdpgdnbknmncfaaDoor.Fcs (sealL checkL seal_length)
open Go.Proofs.YtdpgdnbknmncfaaDoor.Addr (putA getA okA)
open Go.Proofs.YtdpgdnbknmncfaaDoor.CtlG (kd)
/-- The control field that octets begin with, its length, or the error. -/
def getC (s : ByteArray) : Int × Bool × Int × Int × Int × Int :=
  if s.size = 0 then (0, false, 0, 0, 0, 3)
  else if bt s 0 % 2 = 0 then (if s.size < 2 then (0, false, 0, 0, 0, 3) else (0, (bt s 1 % 2 == 1), bt s 0 / 2, bt s 1 / 2, 2, 0))
  else if kd (bt s 0) = 0 ∨ (kd (bt s 0) ≤ 3 ∧ bt s 0 ≠ rd glFirst (kd (bt s 0))) then (0, false, 0, 0, 0, 4)
  else if kd (bt s 0) ≤ 3 then (if s.size < 2 then (0, false, 0, 0, 0, 3) else (kd (bt s 0), (bt s 1 % 2 == 1), 0, bt s 1 / 2, 2, 0))
  else (kd (bt s 0), (Go.bits .and .u8 (bt s 0) 16 != 0), 0, 0, 1, 0)
theorem kd_all : ∀ n : Fin 256, 0 ≤ kd ((n.val : Nat) : Int) ∧ kd ((n.val : Nat) : Int) ≤ 9 ∧ (4 ≤ kd ((n.val : Nat) : Int) → ((n.val : Nat) : Int) = rd glFirst (kd ((n.val : Nat) : Int)) + 16 * CtlG.b2i (Go.bits .and .u8 ((n.val : Nat) : Int) 16 != 0)) := by decide +kernel
theorem kd_facts (x : Int) (h0 : 0 ≤ x) (h1 : x ≤ 255) : 0 ≤ kd x ∧ kd x ≤ 9 ∧ (4 ≤ kd x → x = rd glFirst (kd x) + 16 * CtlG.b2i (Go.bits .and .u8 x 16 != 0)) := by
  have := kd_all ⟨x.toNat, by omega⟩
  rwa [show (((⟨x.toNat, by omega⟩ : Fin 256).val : Nat) : Int) = x from by show (x.toNat : Int) = x; omega] at this
theorem get_C (k : Nat) (hk : 9 < k) (s : ByteArray) : ctrl_Get.f k s = some (getC s) := by
  unfold getC
  by_cases h0 : s.size = 0
  · rw [if_pos h0]
    unfold ctrl_Get.f
    exact if_pos (by rw [toList_L]; exact List.length_eq_zero_iff.1 (by rw [← size_L]; exact h0))
  rw [if_neg h0]
  have hx : 0 ≤ bt s 0 ∧ bt s 0 ≤ 255 := by rw [bt_L]; exact at_range _ _
  have hy : 0 ≤ bt s 1 ∧ bt s 1 ≤ 255 := by rw [bt_L]; exact at_range _ _
  obtain ⟨m, rfl⟩ : ∃ m, k = m + 1 + 1 := ⟨k - 2, by omega⟩
  rw [CtlG.get_head _ hk s (by omega)]
  have hkd := kd_facts (bt s 0) hx.1 hx.2
  have l7 : bt s 1 / 2 % 128 = bt s 1 / 2 := by omega
  have l8 : bt s 0 / 2 % 128 = bt s 0 / 2 := by omega
  have f1 := CtlG.f17 (bt s 1) hy.1 hy.2
  have f0 := CtlG.f17 (bt s 0) hx.1 hx.2
  have lb1 := low_bit (bt s 1) hy.1 hy.2
  have lb0 := low_bit (bt s 0) hx.1 hx.2
  rw [l7] at f1
  rw [l8] at f0
  rw [ctrl_Get.j0, lb0]
  by_cases he : bt s 0 % 2 = 0
  · rw [if_pos he, if_pos he, ctrl_Get.j1]
    have hn : ctrl_Kind_Numbered.f 0 = some true := rfl
    refine bind_at hn (Eq.trans (if_pos rfl) ?_)
    by_cases hs : s.size < 2
    · rw [if_pos (by omega), if_pos hs]
    · rw [if_neg (by omega), if_neg hs, if_pos (by omega)]
      refine bind_at f1 (Eq.trans (if_pos rfl) (bind_at f0 ?_))
      rw [lb1]
  · rw [if_neg he, if_neg he]
    generalize hK : kd (bt s 0) = K at *
    by_cases h1 : K = 0
    · rw [if_pos h1, if_pos (Or.inl h1)]
    rw [if_neg h1]
    have hn : ctrl_Kind_Numbered.f K = some (decide (K ≤ 3)) := by rw [CtlG.num_eq]; congr 1; exact decide_eq_decide.2 (by omega)
    refine bind_at hn ?_
    by_cases h3 : K ≤ 3
    · rw [if_pos (decide_eq_true h3), if_pos (by omega), if_pos (by omega)]
      by_cases hf : bt s 0 = rd glFirst K
      · rw [if_pos hf, if_neg (show ¬ (K = 0 ∨ (K ≤ 3 ∧ bt s 0 ≠ rd glFirst K)) from fun h => h.elim h1 (fun h => h.2 hf)), if_pos h3, ctrl_Get.j1]
        refine bind_at hn (Eq.trans (if_pos (decide_eq_true h3)) ?_)
        by_cases hs : s.size < 2
        · rw [if_pos (by omega), if_pos hs]
        · rw [if_neg (by omega), if_neg hs, if_pos (by omega)]
          refine bind_at f1 (Eq.trans (if_neg h1) ?_)
          rw [lb1]
      · rw [if_neg hf, if_pos (Or.inr ⟨h3, hf⟩)]
    · rw [if_neg (by simpa using h3), if_neg (show ¬ (K = 0 ∨ (K ≤ 3 ∧ bt s 0 ≠ rd glFirst K)) from fun h => h.elim h1 (fun h => h3 h.1)), if_neg h3, ctrl_Get.j1]
      exact bind_at hn (if_neg (by simpa using h3))
theorem getC_bound (s : ByteArray) (h : (getC s).2.2.2.2.2 = 0) : 1 ≤ (getC s).2.2.2.2.1 ∧ (getC s).2.2.2.2.1 ≤ 2 ∧ (getC s).2.2.2.2.1 ≤ (s.size : Int) := by
  unfold getC at h ⊢
  by_cases h0 : s.size = 0
  · rw [if_pos h0] at h; exact absurd h (by decide)
  rw [if_neg h0] at h ⊢
  by_cases he : bt s 0 % 2 = 0
  · rw [if_pos he] at h ⊢
    by_cases hs : s.size < 2
    · rw [if_pos hs] at h; exact absurd h (by decide)
    · rw [if_neg hs]; exact ⟨by show (1 : Int) ≤ 2; decide, by show (2 : Int) ≤ 2; decide, by show (2 : Int) ≤ _; omega⟩
  rw [if_neg he] at h ⊢
  by_cases hb : kd (bt s 0) = 0 ∨ (kd (bt s 0) ≤ 3 ∧ bt s 0 ≠ rd glFirst (kd (bt s 0)))
  · rw [if_pos hb] at h; exact absurd h (by decide)
  rw [if_neg hb] at h ⊢
  by_cases h3 : kd (bt s 0) ≤ 3
  · rw [if_pos h3] at h ⊢
    by_cases hs : s.size < 2
    · rw [if_pos hs] at h; exact absurd h (by decide)
    · rw [if_neg hs]; exact ⟨by show (1 : Int) ≤ 2; decide, by show (2 : Int) ≤ 2; decide, by show (2 : Int) ≤ _; omega⟩
  · rw [if_neg h3]; exact ⟨by show (1 : Int) ≤ 1; decide, by show (1 : Int) ≤ 2; decide, by show (1 : Int) ≤ _; omega⟩
theorem command_eq (s t : Int) (c w : Bool) : addr_Address_Command.f s t c w = some (c == w) := rfl
theorem getA_len (l : List UInt8) (h : (getA l).2.2.2 = 0) : 2 ≤ l.length := by
  by_cases h2 : l.length < 2
  · exfalso; unfold Addr.getA at h; rw [if_pos h2] at h; exact absurd h (by decide)
  · omega
theorem check_len (l : List UInt8) : (checkL l).1.length ≤ l.length := by
  unfold Fcs.checkL
  split
  · exact Nat.zero_le _
  · split
    · exact List.length_take_le' _ _
    · exact Nat.zero_le _
theorem cut_from (b : ByteArray) (n : Nat) (_h : n ≤ b.size) : (b.extract n b.size).size = b.size - n := by simp
abbrev Fr : Type := Int × Int × Bool × Int × Bool × Int × Int × ByteArray × Int
def bad (e : Int) : Fr := (0, 0, false, 0, false, 0, 0, ⟨#[]⟩, e)
/-- The frame of a body that was found right, or the error. -/
def bodyF (b : ByteArray) (w : Bool) : Fr :=
  if (getA (L b)).2.2.2 = 0 then
    if (getC (b.extract 2 b.size)).2.2.2.2.2 = 0 then
      if mayF (getC (b.extract 2 b.size)).1 ((getA (L b)).2.2.1 == w) = true then
        if carF (getC (b.extract 2 b.size)).1 ((b.extract (2 + (getC (b.extract 2 b.size)).2.2.2.2.1).toNat b.size).size : Int) = true then
          ((getA (L b)).1, (getA (L b)).2.1, ((getA (L b)).2.2.1 == w), (getC (b.extract 2 b.size)).1, (getC (b.extract 2 b.size)).2.1, (getC (b.extract 2 b.size)).2.2.1, (getC (b.extract 2 b.size)).2.2.2.1, b.extract (2 + (getC (b.extract 2 b.size)).2.2.2.2.1).toNat b.size, 0)
        else bad 5
      else bad 4
    else bad (getC (b.extract 2 b.size)).2.2.2.2.2
  else bad (getA (L b)).2.2.2
/-- The frame that octets are, or the error. -/
def getF (s : ByteArray) (w : Bool) : Fr := if (checkL (L s)).2 = 0 then bodyF ⟨(checkL (L s)).1.toArray⟩ w else bad 6
theorem get_F (k : Nat) (s : ByteArray) (w : Bool) (hs : s.size ≤ 140737488355328) (hk : s.size + 60 < k) : frame_Get.f k s w = some (getF s w) := by
  obtain ⟨m, rfl⟩ : ∃ m, k = m + 1 := ⟨k - 1, by omega⟩
  have hl := check_len (L s)
  rw [← size_L] at hl
  have h1 := Fcs.check_eq (m + 1) s (by omega) (by omega)
  unfold frame_Get.f getF
  refine bind_at h1 ?_
  clear h1
  generalize checkL (L s) = q at *
  have hb : (⟨q.1.toArray⟩ : ByteArray).size = q.1.length := Fcs.size_mk q.1
  by_cases h0 : q.2 = 0
  · refine Eq.trans (if_pos h0) ?_
    rw [if_pos h0]
    dsimp only
    generalize (⟨q.1.toArray⟩ : ByteArray) = b at *
    unfold bodyF
    have g1 := Addr.get_eq (m + 1) (by omega) b
    have g3 := getA_len (L b)
    rw [← size_L] at g3
    refine bind_at g1 ?_
    generalize getA (L b) = A at *
    by_cases ha : A.2.2.2 = 0
    · have hb2 := g3 ha
      rw [if_pos ha, if_pos ha, if_pos (by omega)]
      have r1 := get_C (m + 1) (by omega) (b.extract 2 b.size)
      have r3 := getC_bound (b.extract 2 b.size)
      rw [cut_from b 2 hb2] at r3
      refine bind_at r1 (bind_at (command_eq _ _ _ w) ?_)
      generalize getC (b.extract 2 b.size) = r at *
      by_cases hr : r.2.2.2.2.2 = 0
      · obtain ⟨n1, n2, n3⟩ := r3 hr
        have hw : wrap64 (2 + r.2.2.2.2.1) = 2 + r.2.2.2.2.1 := w64 (by omega) (by omega)
        rw [if_pos hr, if_pos hr, hw, if_pos (by omega), if_pos (by omega), frame_Get.j0, if_pos hr]
        refine bind_at (may_eq _ _) ?_
        by_cases hm : mayF r.1 (A.2.2.1 == w) = true
        · rw [if_pos hm, if_pos hm]
          refine bind_at (car_eq m (by omega) _ _) ?_
          by_cases hc : carF r.1 ((b.extract (2 + r.2.2.2.2.1).toNat b.size).size : Int) = true
          · rw [if_pos hc, if_pos hc]
          · rw [if_neg hc, if_neg hc]; rfl
        · rw [if_neg hm, if_neg hm]; rfl
      · rw [if_neg hr, if_neg hr, frame_Get.j0, if_neg hr]; rfl
    · rw [if_neg ha, if_neg ha]; rfl
  · refine Eq.trans (if_neg h0) ?_
    rw [if_neg h0]; rfl
theorem get_some (k : Nat) (s : ByteArray) (w : Bool) (hs : s.size ≤ 140737488355328) (hk : s.size + 60 < k) : ∃ r : Fr, frame_Get.f k s w = some r := ⟨_, get_F k s w hs hk⟩
end Go.Proofs.YtdpgdnbknmncfaaDoor.Frm

/- What the document's frame.Get comes to at all octets: the same as the program's. Plain Lean over the printed functions. -/
namespace Go.Proofs.YtdpgdnbknmncfaaDoor.Frm
open Go.RowKit Go.Proofs.YtdpgdnbknmncfaaDoorW.PrintWords Go.Proofs.YtdpgdnbknmncfaaDoorW.PrintLast Go.Proofs.YtdpgdnbknmncfaaDoorW.PrintMore Go.Proofs.YtdpgdnbknmncfaaDoor.Str Go.Proofs.YtdpgdnbknmncfaaDoor.Field Go.Proofs.YtdpgdnbknmncfaaDoor.Ctl Go.Proofs.YtdpgdnbknmncfaaDoor.Print Go.Proofs.YtdpgdnbknmncfaaDoorX
open Go.Proofs.YtdpgdnbknmncfaaDoor.Fcs (sealL checkL)
open Go.Proofs.YtdpgdnbknmncfaaDoor.Addr (putA getA)
theorem rcommand_eq (s t : Int) (c w : Bool) : lapwingref04_Command.f s t c w = some (c == w) := by cases c <;> cases w <;> rfl
theorem rget_C (k : Nat) (hk : 30 < k) (s : ByteArray) : lapwingref05_Get.f k s = some (getC s) := by
  obtain ⟨r, h1, h2, _⟩ := CtlG.get_same k hk s
  rw [h2, ← h1]
  exact get_C k (by omega) s
theorem rget_F (k : Nat) (s : ByteArray) (w : Bool) (hs : s.size ≤ 140737488355328) (hk : s.size + 60 < k) : lapwingref06_Get.f k s w = some (getF s w) := by
  have hl := check_len (L s)
  rw [← size_L] at hl
  have h1 := FcsRef.check_eq k s (by omega) (by omega)
  unfold lapwingref06_Get.f getF
  refine bind_at h1 ?_
  clear h1
  generalize checkL (L s) = q at *
  have hb : (⟨q.1.toArray⟩ : ByteArray).size = q.1.length := Fcs.size_mk q.1
  by_cases h0 : q.2 = 0
  · refine Eq.trans (if_pos h0) ?_
    rw [if_pos h0]
    dsimp only
    generalize (⟨q.1.toArray⟩ : ByteArray) = b at *
    unfold bodyF
    have g1 := AddrRef.get_eq b
    have g3 := getA_len (L b)
    rw [← size_L] at g3
    refine bind_at g1 ?_
    generalize getA (L b) = A at *
    by_cases ha : A.2.2.2 = 0
    · have hb2 := g3 ha
      rw [if_pos ha, if_pos ha, if_pos (by omega)]
      have r1 := rget_C k (by omega) (b.extract 2 b.size)
      have r3 := getC_bound (b.extract 2 b.size)
      rw [cut_from b 2 hb2] at r3
      refine bind_at r1 ?_
      generalize getC (b.extract 2 b.size) = r at *
      by_cases hr : r.2.2.2.2.2 = 0
      · obtain ⟨n1, n2, n3⟩ := r3 hr
        have hw : wrap64 (2 + r.2.2.2.2.1) = 2 + r.2.2.2.2.1 := w64 (by omega) (by omega)
        rw [if_pos hr, if_pos hr]
        refine bind_at (rcommand_eq _ _ _ w) (bind_at (rmay_eq k (by omega) _ _) ?_)
        by_cases hm : mayF r.1 (A.2.2.1 == w) = true
        · rw [if_pos hm, if_pos hm, hw, if_pos (by omega), if_pos (by omega)]
          refine bind_at (rcar_eq k (by omega) _ _) ?_
          by_cases hc : carF r.1 ((b.extract (2 + r.2.2.2.2.1).toNat b.size).size : Int) = true
          · rw [if_pos hc, if_pos hc]
          · rw [if_neg hc, if_neg hc]; rfl
        · rw [if_neg hm, if_neg hm]; rfl
      · rw [if_neg hr, if_neg hr]; rfl
    · rw [if_neg ha, if_neg ha]; rfl
  · refine Eq.trans (if_neg h0) ?_
    rw [if_neg h0]; rfl
theorem get_same (k : Nat) (s : ByteArray) (w : Bool) (hs : s.size ≤ 140737488351232) (hk : s.size + 60 < k) :
    ∃ r : Fr, frame_Get.f k s w = some r ∧ lapwingref06_Get.f k s w = some r := ⟨_, get_F k s w (by omega) hk, rget_F k s w (by omega) hk⟩
end Go.Proofs.YtdpgdnbknmncfaaDoor.Frm

/- The plain statement of FrameGets over the printed functions: all octets, with or without a right check sequence, are the document's frame, or have its error. No condition. -/
namespace Go.Proofs.YtdpgdnbknmncfaaDoor.Pure
open Go.RowKit Go.Proofs.YtdpgdnbknmncfaaDoorW.PrintWords Go.Proofs.YtdpgdnbknmncfaaDoorW.PrintLast Go.Proofs.YtdpgdnbknmncfaaDoorW.PrintMore Go.Proofs.YtdpgdnbknmncfaaDoor.Str Go.Proofs.YtdpgdnbknmncfaaDoor.Field Go.Proofs.YtdpgdnbknmncfaaDoor.Frm Go.Proofs.YtdpgdnbknmncfaaDoor.Print
theorem cut_law {β : Type} (s : ByteArray) (n : Nat) (F : ByteArray → Option β) :
    (if 0 ≤ mn (s.size : Int) (n : Int) then (if mn (s.size : Int) (n : Int) ≤ (s.size : Int) then F (s.extract 0 (mn (s.size : Int) (n : Int)).toNat) else none) else none) = F (s.extract 0 (min s.size n)) := by
  have e := mn_nat s.size n
  rw [e, if_pos (by omega), if_pos (by omega), Int.toNat_natCast]
theorem cut_size (s : ByteArray) (n : Nat) : (s.extract 0 (min s.size n)).size = min s.size n := size_take s _ (by omega)
theorem same_frame (a b : Int) (c : Bool) (d : Int) (p : Bool) (x y : Int) (s : ByteArray) : lapwinglaw06_sameFrame.f a b c d p x y s a b c d p x y s = some true := by
  unfold lapwinglaw06_sameFrame.f
  rw [if_pos rfl, if_pos rfl, if_pos (beq_self_eq_true _), if_pos rfl, if_pos (beq_self_eq_true _), if_pos rfl, if_pos rfl, beq_self_eq_true]
theorem gets_rest (k : Nat) (t : ByteArray) (w : Bool) (ht : t.size ≤ 500) (hk : 600 < k) : lapwinglaw06_FrameGets.j0 (k + 1) t w = some true := by
  rw [lapwinglaw06_FrameGets.j0]
  obtain ⟨r, h1, h2⟩ := get_same k t w (by omega) (by omega)
  refine bind_at h1 (bind_at h2 (bind_at (wakes_eq k (by omega)) ?_))
  rw [if_pos rfl, if_pos rfl]
  exact bind_at (same_frame _ _ _ _ _ _ _ _) rfl
theorem FrameGets : lapwinglaw06_FrameGets.Pure := by
  intro s w z _
  obtain ⟨k, hk⟩ : ∃ k : Nat, 600 < k := ⟨601, by omega⟩
  refine ⟨k + 1, ?_⟩
  unfold lapwinglaw06_FrameGets.f
  refine (cut_law s 400 (fun t => if z = true then ((fcs_Seal.f (k + 1) t).bind fun u => lapwinglaw06_FrameGets.j0 (k + 1) u w) else lapwinglaw06_FrameGets.j0 (k + 1) t w)).trans ?_
  have hz := cut_size s 400
  generalize s.extract 0 (min s.size 400) = t at hz
  cases z
  · exact (if_neg (by decide)).trans (gets_rest k t w (by omega) hk)
  · refine (if_pos rfl).trans ?_
    refine bind_at (Fcs.seal_eq (k + 1) t (by omega) (by omega)) (gets_rest k _ w ?_ hk)
    rw [Fcs.size_mk, Fcs.seal_length, ← size_L]
    omega
end Go.Proofs.YtdpgdnbknmncfaaDoor.Pure
