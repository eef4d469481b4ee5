import Derived.Test.YtdpgdnbknmncfaaDoorWMore
import Derived.Laws.BytesArg
import Derived.WideShapes
import Derived.Lib.Strings
import Derived.Lib.IndexBytes
import Derived.Test.YtdpgdnbknmncfaaDoorWWords
import Derived.Laws.BitsLemmas
import Derived.Test.YtdpgdnbknmncfaaDoorPrint2
/- Texts as lists of octets: lengths, places, cuts, joins. Plain Lean, no condition. -/
namespace Go.Proofs.YtdpgdnbknmncfaaDoor.Str
open Go.RowKit Go.Proofs.YtdpgdnbknmncfaaDoorW.PrintWords Go.Proofs.YtdpgdnbknmncfaaDoorW.PrintLast Go.Proofs.YtdpgdnbknmncfaaDoorW.PrintMore

abbrev L (s : ByteArray) : List UInt8 := s.data.toList
theorem size_L (s : ByteArray) : s.size = (L s).length := (data_length s).symm
theorem inj {a b : ByteArray} (h : L a = L b) : a = b := Go.WideShapes.bytes_inj h
theorem L_mk (l : List UInt8) : L ⟨l.toArray⟩ = l := rfl
theorem L_app (a b : ByteArray) : L (a ++ b) = L a ++ L b := by simp [L]
theorem toList_L (s : ByteArray) : s.toList = L s := Lib.toList_data s
theorem L_take (s : ByteArray) (k : Nat) : L (s.extract 0 k) = (L s).take k := by simp [L]
theorem L_cut (s : ByteArray) (j k : Nat) : L (s.extract j k) = ((L s).take k).drop j := by simp [L, List.drop_take]
theorem size_take (s : ByteArray) (k : Nat) (h : k ≤ s.size) : (s.extract 0 k).size = k := by
  rw [size_L] at h
  rw [size_L, L_take, List.length_take]; omega
/-- An octet of a list, as a number; 0 outside. -/
def at_ (l : List UInt8) (i : Nat) : Int := ((l.getD i 0).toNat : Int)
theorem bt_L (s : ByteArray) (i : Int) : bt s i = at_ (L s) i.toNat := by
  unfold bt at_
  by_cases h : i.toNat < s.size
  · rw [dif_pos h]
    have h' : i.toNat < (L s).length := by rw [← size_L]; exact h
    rw [List.getD_eq_getElem?_getD, List.getElem?_eq_getElem h']
    rfl
  · rw [dif_neg h]
    have h' : ¬ i.toNat < (L s).length := by rw [← size_L]; exact h
    rw [List.getD_eq_getElem?_getD, List.getElem?_eq_none (by omega)]
    rfl
theorem bt_nat (s : ByteArray) (i : Nat) : bt s (i : Int) = at_ (L s) i := by rw [bt_L]; simp
theorem at_range (l : List UInt8) (i : Nat) : 0 ≤ at_ l i ∧ at_ l i ≤ 255 := by
  have := (l.getD i 0).toNat_lt
  unfold at_; omega
theorem at_get (l : List UInt8) (i : Nat) (h : i < l.length) : at_ l i = ((l[i]).toNat : Int) := by
  unfold at_; rw [List.getD_eq_getElem?_getD, List.getElem?_eq_getElem h]; rfl
theorem L_nums (xs : List Int) : L (strOfNums xs) = xs.map fun n => UInt8.ofNat n.toNat := rfl
theorem nums_size (xs : List Int) : (strOfNums xs).size = xs.length := strOfNums_size xs
theorem nums_of (l : List UInt8) : strOfNums (l.map fun b => (b.toNat : Int)) = ⟨l.toArray⟩ := by
  apply inj
  rw [L_nums, List.map_map, L_mk]
  conv => rhs; rw [← List.map_id l]
  apply List.map_congr_left
  intro b _
  simp
/-- A test on a min of a length and a number. -/
theorem mn_nat (a b : Nat) : mn (a : Int) (b : Int) = ((min a b : Nat) : Int) := by unfold mn; omega
theorem w64 {n : Int} (h0 : -9223372036854775808 ≤ n) (h1 : n ≤ 9223372036854775807) : wrap64 n = n := by unfold wrap64; omega
end Go.Proofs.YtdpgdnbknmncfaaDoor.Str

/- Masks and joins of machine numbers. Plain Lean, no program in sight. -/
namespace Go.Proofs.YtdpgdnbknmncfaaDoor.Field
open Go.RowKit Go.Proofs.YtdpgdnbknmncfaaDoorW.PrintWords Go.Proofs.YtdpgdnbknmncfaaDoorW.PrintLast Go.Proofs.YtdpgdnbknmncfaaDoorW.PrintMore Go.Proofs.YtdpgdnbknmncfaaDoor.Str
theorem bind_at {α β : Type} {o : Option α} {a : α} {f : α → Option β} {r : Option β} (h : o = some a) (h2 : f a = r) : o.bind f = r := by rw [h]; exact h2
theorem wraps_i64 (n : Int) (h₀ : 0 ≤ n) (h₁ : n < 2 ^ 63) : IntKind.i64.wrap n = n := by rw [IntKind.wrap_i64]; omega
theorem mask_i64 (i : Nat) (hi : i ≤ 63) (x : Int) (h₀ : 0 ≤ x) (h₁ : x < 2 ^ 63) : Go.bits .and .i64 x (2 ^ i - 1) = x % 2 ^ i :=
  bits_mask .i64 63 (by decide) wraps_i64 i hi x h₀ h₁
theorem mask_u8 (i : Nat) (hi : i ≤ 8) (x : Int) (h₀ : 0 ≤ x) (h₁ : x < 2 ^ 8) : Go.bits .and .u8 x (2 ^ i - 1) = x % 2 ^ i :=
  bits_mask .u8 8 (by decide) wraps_u8 i hi x h₀ h₁
theorem low_bit (x : Int) (h0 : 0 ≤ x) (h1 : x ≤ 255) : Go.bits .and .u8 x 1 = x % 2 := mask_u8 1 (by decide) x h0 (by omega)
/-- A small number below a multiple: the machine's 'or' adds. -/
theorem or_add (i a b : Nat) (ha : a < 2 ^ i) (hb : b * 2 ^ i < 2 ^ 62) (hi : i ≤ 62) : Go.bits .or .i64 (a : Int) ((b * 2 ^ i : Nat) : Int) = ((a + b * 2 ^ i : Nat) : Int) := by
  have h1 : a < 2 ^ 63 := Nat.lt_of_lt_of_le ha (Nat.pow_le_pow_right (by decide) (by omega))
  have h2 : b * 2 ^ i < 2 ^ 63 := Nat.lt_trans hb (by decide)
  rw [(bits_nat .i64 63 (by decide) wraps_i64 a _ h1 h2).2]
  rw [Nat.or_comm, Nat.mul_comm b, ← Nat.two_pow_add_eq_or_of_lt ha b]
  congr 1; omega
theorem or_some (a b : Nat) (n : Nat) (hn : n ≤ 62) (ha : a < 2 ^ n) (hb : b < 2 ^ n) : ∃ c : Nat, Go.bits .or .i64 (a : Int) (b : Int) = (c : Int) ∧ c < 2 ^ n := by
  have h63 : 2 ^ n ≤ 2 ^ 63 := Nat.pow_le_pow_right (by decide) (by omega)
  exact ⟨a ||| b, (bits_nat .i64 63 (by decide) wraps_i64 a b (Nat.lt_of_lt_of_le ha h63) (Nat.lt_of_lt_of_le hb h63)).2, Nat.or_lt_two_pow ha hb⟩
end Go.Proofs.YtdpgdnbknmncfaaDoor.Field

/- The bitwise CRC register: one bit, many bits; linear; a burst of at most sixteen bits never comes to nought. Plain Lean, no condition. -/
namespace Go.Proofs.YtdpgdnbknmncfaaDoor.Crc
abbrev R := BitVec 16
/-- one bit -/
def bstep (r : R) (b : Bool) : R := (r >>> 1) ^^^ (if (r.getLsbD 0 != b) then 0x8408#16 else 0#16)
def run (r : R) (l : List Bool) : R := l.foldl bstep r

theorem bstep_xor (r s : R) (a b : Bool) : bstep (r ^^^ s) (a ^^ b) = bstep r a ^^^ bstep s b := by
  unfold bstep
  have h : (r ^^^ s) >>> 1 = r >>> 1 ^^^ s >>> 1 := by
    apply BitVec.eq_of_getLsbD_eq; intro i hi; simp
  rw [h, BitVec.getLsbD_xor]
  cases r.getLsbD 0 <;> cases s.getLsbD 0 <;> cases a <;> cases b <;> simp <;> (try ac_rfl) <;> (apply BitVec.eq_of_getLsbD_eq; intro i hi; simp <;> cases r.getLsbD (1+i) <;> cases s.getLsbD (1+i) <;> cases ((0x8408#16).getLsbD i) <;> rfl)

theorem run_xor (l m : List Bool) (h : l.length = m.length) (r s : R) : run (r ^^^ s) (List.zipWith (· ^^ ·) l m) = run r l ^^^ run s m := by
  induction l generalizing m r s with
  | nil => cases m with | nil => rfl | cons => simp at h
  | cons a l ih => cases m with
    | nil => simp at h
    | cons b m =>
      simp only [List.zipWith_cons_cons, run, List.foldl_cons]
      rw [bstep_xor]; exact ih m (by simpa using h) _ _

theorem bstep_msb (r : R) (b : Bool) : (bstep r b).getLsbD 15 = (r.getLsbD 0 != b) := by
  unfold bstep
  rw [BitVec.getLsbD_xor]
  cases r.getLsbD 0 <;> cases b <;> simp

theorem bstep_zero (r : R) (h : bstep r false = 0#16) : r = 0#16 := by
  have h1 := bstep_msb r false
  rw [h] at h1
  have h2 : r.getLsbD 0 = false := by simpa using h1.symm
  unfold bstep at h
  rw [h2] at h
  simp at h
  apply BitVec.eq_of_getLsbD_eq; intro i hi
  cases i with
  | zero => simpa using h2
  | succ i =>
    have := congrArg (fun x => x.getLsbD i) h
    simp at this
    rw [Nat.add_comm] at this
    simpa using this
end Go.Proofs.YtdpgdnbknmncfaaDoor.Crc
namespace Go.Proofs.YtdpgdnbknmncfaaDoor.Crc
theorem run_V (p : List Bool) (r : R) (hp : p.length ≤ 16) (h : run r p = 0#16) : ∀ i, i < 16 → r.getLsbD i = p.getD i false := by
  induction p generalizing r with
  | nil => 
    have : r = 0#16 := h
    subst this
    intro i hi; simp
  | cons b p ih =>
    simp at hp
    have h1 := ih (bstep r b) (by omega) h
    have hm := bstep_msb r b
    rw [h1 15 (by omega)] at hm
    have h15 : p.getD 15 false = false := by
      rw [List.getD_eq_getElem?_getD, List.getElem?_eq_none (by omega)]; rfl
    rw [h15] at hm
    have hb : r.getLsbD 0 = b := by revert hm; cases r.getLsbD 0 <;> cases b <;> simp
    intro i hi
    cases i with
    | zero => simpa using hb
    | succ i =>
      have := h1 i (by omega)
      unfold bstep at this
      rw [hb] at this
      simp at this
      rw [Nat.add_comm] at this
      simpa using this
theorem run_append (r : R) (a b : List Bool) : run r (a ++ b) = run (run r a) b := by simp [run]
theorem run_zeros (n : Nat) (r : R) (h : run r (List.replicate n false) = 0#16) : r = 0#16 := by
  induction n generalizing r with
  | zero => exact h
  | succ n ih => exact bstep_zero r (ih _ h)
theorem run_zeros0 (n : Nat) : run 0#16 (List.replicate n false) = 0#16 := by
  induction n with
  | zero => rfl
  | succ n ih => exact ih
theorem burst (a c : Nat) (p : List Bool) (hp : p.length ≤ 16) (h : run 0#16 (List.replicate a false ++ p ++ List.replicate c false) = 0#16) : ∀ x ∈ p, x = false := by
  rw [run_append, run_append, run_zeros0] at h
  have h1 := run_V p _ hp (run_zeros _ _ h)
  intro x hx
  obtain ⟨i, hi, rfl⟩ := List.mem_iff_getElem.1 hx
  have := h1 i (by omega)
  simp [List.getD_eq_getElem?_getD, hi] at this
  exact this
end Go.Proofs.YtdpgdnbknmncfaaDoor.Crc

/- Octets through the CRC register, and what the machine's word 'bits' gives on sixteen bits. Plain Lean, no condition. -/
namespace Go.Proofs.YtdpgdnbknmncfaaDoor.Crc
open Go.RowKit Go.Proofs.YtdpgdnbknmncfaaDoorW.PrintWords

/-- An octet's bits, the lowest first. -/
def obits (o : Nat) : List Bool := (List.range 8).map fun i => o.testBit i
def stepB (r : R) (o : UInt8) : R := run r (obits o.toNat)
def sumR (r : R) (l : List UInt8) : R := l.foldl stepB r
def num (r : R) : Int := (r.toNat : Int)
theorem num_lt (r : R) : 0 ≤ num r ∧ num r < 65536 := by
  have := r.isLt
  unfold num; omega
theorem num_inj {r s : R} (h : num r = num s) : r = s := by
  unfold num at h
  exact BitVec.eq_of_toNat_eq (by omega)

theorem wrap_u16 (n : Int) : IntKind.u16.wrap n = n % 65536 := by simp [IntKind.wrap, IntKind.bits, IntKind.signed]

theorem of_num (r : R) : BitVec.ofInt 16 (num r) = r := by
  unfold num
  rw [BitVec.ofInt_natCast, BitVec.ofNat_toNat, BitVec.setWidth_eq]
theorem wrap_num (r : R) : IntKind.u16.wrap (r.toNat : Int) = num r := by
  have h := r.isLt
  rw [wrap_u16]; unfold num; omega
theorem xor16 (r s : R) : Go.bits .xor .u16 (num r) (num s) = num (r ^^^ s) := by
  show IntKind.u16.wrap (((BitVec.ofInt 16 (num r)) ^^^ (BitVec.ofInt 16 (num s))).toNat : Int) = _
  rw [of_num, of_num, wrap_num]
theorem and16 (r : R) : Go.bits .and .u16 (num r) 1 = if r.getLsbD 0 then 1 else 0 := by
  show IntKind.u16.wrap (((BitVec.ofInt 16 (num r)) &&& (BitVec.ofInt 16 1)).toNat : Int) = _
  rw [of_num]
  have e : (r &&& BitVec.ofInt 16 1) = if r.getLsbD 0 then 1#16 else 0#16 := by
    apply BitVec.eq_of_getLsbD_eq
    intro i hi
    cases h : r.getLsbD 0 <;> rcases i with _ | i <;> simp_all
  rw [e]
  cases r.getLsbD 0 <;> simp [wrap_u16]

theorem half (r : R) : num r / (2 : Int) = num (r >>> 1) := by
  unfold num
  simp [BitVec.toNat_ushiftRight, Nat.shiftRight_eq_div_pow]
end Go.Proofs.YtdpgdnbknmncfaaDoor.Crc

/- What the printed bits.Pack comes to: fields laid one above the other, or its error. Plain Lean over the printed function. -/
namespace Go.Proofs.YtdpgdnbknmncfaaDoor.Pack
open Go.RowKit Go.Proofs.YtdpgdnbknmncfaaDoorW.PrintWords Go.Proofs.YtdpgdnbknmncfaaDoorW.PrintLast Go.Proofs.YtdpgdnbknmncfaaDoorW.PrintMore Go.Proofs.YtdpgdnbknmncfaaDoor.Str Go.Proofs.YtdpgdnbknmncfaaDoor.Field Go.Proofs.YtdpgdnbknmncfaaDoor.Print

/-- A field as it may be: a width, a number below it. -/
def good (f : S54) : Prop := 1 ≤ f.f0 ∧ f.f0 ≤ 8 ∧ 0 ≤ f.f1 ∧ f.f1 < 2 ^ f.f0.toNat
instance (f : S54) : Decidable (good f) := by unfold good; infer_instance
/-- Behind n, of so many bits (9: more than eight): the rest's answer. -/
def pk : Nat → Nat → List S54 → Int × Int
  | low, n, [] => if low > 8 then (0, 5) else ((n : Int) % 256, 0)
  | low, n, f :: fs => if good f then (if low ≤ 8 then pk (min (low + f.f0.toNat) 9) (n + f.f1.toNat * 2 ^ low) fs else pk 9 0 fs) else (0, 2)
theorem rd_at (l : List S54) (i : Nat) (h : i < l.length) : rd_T54 l (i : Int) = l[i] := by
  unfold rd_T54
  rw [Int.toNat_natCast, List.getD_eq_getElem?_getD, List.getElem?_eq_getElem h]; rfl

theorem round_bad (l : List S54) (k i : Nat) (out low : Int) (h : i < l.length) (_hl : l.length ≤ 9223372036854775806) (hb : ¬ good l[i]) :
    bits_Pack.l0 (k + 1) out low l (l.length : Int) (i : Int) = some (0, 2) := by
  rw [bits_Pack.l0, if_pos (by omega), if_pos (by omega), if_pos (by omega), rd_at l i h]
  generalize l[i] = f at *
  unfold good at hb
  by_cases h1 : f.f0 < 1
  · rw [if_pos h1]
  · rw [if_neg h1]
    by_cases h2 : f.f0 > 8
    · rw [if_pos h2]
    · rw [if_neg h2]
      by_cases h3 : f.f1 < 0
      · rw [if_pos h3]
      · rw [if_neg h3, if_pos (by omega)]
        have hs : ¬ shr .i64 f.f1 f.f0 = 0 := by
          unfold shr
          rw [show min f.f0.toNat (IntKind.i64).bits = f.f0.toNat from by show min f.f0.toNat 64 = _; omega]
          intro hz
          have hp : (0 : Int) < 2 ^ f.f0.toNat := Int.pow_pos (by decide)
          have hg : ¬ f.f1 < 2 ^ f.f0.toNat := fun h5 => hb ⟨by omega, by omega, by omega, h5⟩
          generalize (2 : Int) ^ f.f0.toNat = p at *
          have := Int.le_ediv_of_mul_le hp (show 1 * p ≤ f.f1 by omega)
          omega
        rw [if_neg hs]

theorem small_pow (f : S54) (h : good f) : f.f1 ≤ 255 ∧ (2 : Int) ^ f.f0.toNat ≤ 256 := by
  obtain ⟨h1, h2, h3, h4⟩ := h
  have h5 : (2 : Nat) ^ f.f0.toNat ≤ 2 ^ 8 := Nat.pow_le_pow_right (by decide) (by omega)
  have h6 : (2 : Int) ^ f.f0.toNat ≤ 256 := by
    have h7 : (((2 : Nat) ^ f.f0.toNat : Nat) : Int) ≤ 256 := by omega
    rw [Int.natCast_pow] at h7; exact h7
  omega
theorem shr_none (f : S54) (h : good f) : shr .i64 f.f1 f.f0 = 0 := by
  obtain ⟨h1, h2, h3, h4⟩ := h
  unfold shr
  rw [show min f.f0.toNat (IntKind.i64).bits = f.f0.toNat from by show min f.f0.toNat 64 = _; omega]
  exact Int.ediv_eq_zero_of_lt h3 h4
theorem nat_lt (f : S54) (h : good f) : f.f1.toNat < 2 ^ f.f0.toNat := by
  obtain ⟨h1, h2, h3, h4⟩ := h
  have : ((f.f1.toNat : Nat) : Int) < ((2 ^ f.f0.toNat : Nat) : Int) := by rw [Int.toNat_of_nonneg h3]; exact_mod_cast h4
  exact_mod_cast this
/-- One field more, with the bits' number so far. -/
theorem round_good (l : List S54) (k i out low : Nat) (h : i < l.length) (hl : l.length ≤ 9223372036854775806) (hg : good l[i]) (hlow : low ≤ 9) :
    bits_Pack.l0 (k + 1) (out : Int) (low : Int) l (l.length : Int) (i : Int) =
      bits_Pack.l0 k (Go.bits .or .i64 (out : Int) ((l[i].f1.toNat * 2 ^ min low 8 : Nat) : Int)) ((min (low + l[i].f0.toNat) 9 : Nat) : Int) l (l.length : Int) ((i + 1 : Nat) : Int) := by
  have hs := small_pow _ hg
  have hq := shr_none _ hg
  rw [bits_Pack.l0, if_pos (by omega), if_pos (by omega), if_pos (by omega), rd_at l i h]
  generalize l[i] = f at *
  obtain ⟨h1, h2, h3, h4⟩ := hg
  have e1 : mn (low : Int) 8 = ((min low 8 : Nat) : Int) := mn_nat low 8
  have e2 : wrap64 ((low : Int) + f.f0) = ((low + f.f0.toNat : Nat) : Int) := by rw [w64 (by omega) (by omega)]; omega
  have e3 : mn ((low + f.f0.toNat : Nat) : Int) 9 = ((min (low + f.f0.toNat) 9 : Nat) : Int) := mn_nat _ 9
  have e4 : wrap64 ((i : Int) + 1) = ((i + 1 : Nat) : Int) := by rw [w64 (by omega) (by omega)]; omega
  have hm : (2 : Nat) ^ min low 8 ≤ 2 ^ 8 := Nat.pow_le_pow_right (by decide) (by omega)
  have e5 : wrap64 (f.f1 * 2 ^ (min low 8)) = ((f.f1.toNat * 2 ^ min low 8 : Nat) : Int) := by
    obtain ⟨v, hv⟩ := Int.eq_ofNat_of_zero_le h3
    rw [hv] at hs ⊢
    rw [Int.toNat_natCast, show ((v : Int) * 2 ^ min low 8) = ((v * 2 ^ min low 8 : Nat) : Int) from by push_cast; rfl]
    have : v * 2 ^ min low 8 ≤ 255 * 256 := Nat.mul_le_mul (by omega) hm
    rw [w64 (by omega) (by omega)]
  rw [if_neg (by omega), if_neg (by omega), if_neg (by omega), if_pos (by omega), if_pos hq, e1, if_pos (by omega), Int.toNat_natCast, e5, e2, e3, e4]

theorem over_loop (l : List S54) (hl : l.length ≤ 9223372036854775806) (d : Nat) : ∀ (k i out : Nat), i + d = l.length → d < k → out < 2 ^ 17 →
    bits_Pack.l0 k (out : Int) 9 l (l.length : Int) (i : Int) = some (pk 9 0 (l.drop i)) := by
  induction d with
  | zero =>
    intro k i out h hk _
    obtain ⟨k, rfl⟩ : ∃ m, k = m + 1 := ⟨k - 1, by omega⟩
    rw [bits_Pack.l0, if_neg (by omega), if_pos (by omega), List.drop_of_length_le (by omega)]; rfl
  | succ d ih =>
    intro k i out h hk ho
    obtain ⟨k, rfl⟩ : ∃ m, k = m + 1 := ⟨k - 1, by omega⟩
    have hi : i < l.length := by omega
    rw [List.drop_eq_getElem_cons hi]
    by_cases hg : good l[i]
    · have hr := round_good l k i out 9 hi hl hg (by omega)
      have hs := small_pow _ hg
      have hv : l[i].f1.toNat * 2 ^ min 9 8 < 2 ^ 17 := by
        have : l[i].f1.toNat * 2 ^ min 9 8 ≤ 255 * 256 := Nat.mul_le_mul (by omega) (by decide)
        omega
      obtain ⟨c, hc, hc2⟩ := or_some out (l[i].f1.toNat * 2 ^ min 9 8) 17 (by decide) ho hv
      rw [hc, show min (9 + l[i].f0.toNat) 9 = 9 from by omega] at hr
      refine Eq.trans hr (Eq.trans (ih k (i + 1) c (by omega) (by omega) hc2) ?_)
      rw [pk, if_pos hg, if_neg (by decide)]
    · rw [round_bad l k i _ _ hi hl hg, pk, if_neg hg]

theorem pack_loop (l : List S54) (hl : l.length ≤ 9223372036854775806) (d : Nat) : ∀ (k i out low : Nat), i + d = l.length → d < k → low ≤ 8 → out < 2 ^ low →
    bits_Pack.l0 k (out : Int) (low : Int) l (l.length : Int) (i : Int) = some (pk low out (l.drop i)) := by
  induction d with
  | zero =>
    intro k i out low h hk h8 ho
    obtain ⟨k, rfl⟩ : ∃ m, k = m + 1 := ⟨k - 1, by omega⟩
    rw [bits_Pack.l0, if_neg (by omega), if_neg (by omega), List.drop_of_length_le (by omega), pk, if_neg (by omega)]
  | succ d ih =>
    intro k i out low h hk h8 ho
    obtain ⟨k, rfl⟩ : ∃ m, k = m + 1 := ⟨k - 1, by omega⟩
    have hi : i < l.length := by omega
    rw [List.drop_eq_getElem_cons hi]
    by_cases hg : good l[i]
    · have hr := round_good l k i out low hi hl hg (by omega)
      have hs := small_pow _ hg
      have hn := nat_lt _ hg
      have h1 := hg.1
      rw [show min low 8 = low from by omega] at hr
      have hp8 : (2 : Nat) ^ low ≤ 2 ^ 8 := Nat.pow_le_pow_right (by decide) h8
      have hv : l[i].f1.toNat * 2 ^ low ≤ 255 * 256 := Nat.mul_le_mul (by omega) hp8
      rw [or_add low out _ ho (by omega) (by omega)] at hr
      refine Eq.trans hr ?_
      rw [pk, if_pos hg, if_pos h8]
      have hsum : out + l[i].f1.toNat * 2 ^ low < 2 ^ (low + l[i].f0.toNat) := by
        have h2 : (l[i].f1.toNat + 1) * 2 ^ low ≤ 2 ^ l[i].f0.toNat * 2 ^ low := Nat.mul_le_mul_right _ hn
        rw [Nat.pow_add, Nat.mul_comm (2 ^ low)]
        rw [Nat.add_mul] at h2
        omega
      by_cases hle : low + l[i].f0.toNat ≤ 8
      · rw [show min (low + l[i].f0.toNat) 9 = low + l[i].f0.toNat from by omega]
        exact ih k (i + 1) _ _ (by omega) (by omega) hle hsum
      · rw [show min (low + l[i].f0.toNat) 9 = 9 from by omega]
        refine Eq.trans (over_loop l hl d k (i + 1) _ (by omega) (by omega) (by omega)) ?_
        cases hd : l.drop (i + 1) with
        | nil => rfl
        | cons f fs => simp only [pk]; simp
    · rw [round_bad l k i _ _ hi hl hg, pk, if_neg hg]
theorem pack_eq (l : List S54) (k : Nat) (hl : l.length ≤ 9223372036854775806) (hk : l.length < k) : bits_Pack.f k l = some (pk 0 0 l) := by
  have := pack_loop l hl l.length k 0 0 0 (by omega) hk (by omega) (by omega)
  rw [List.drop_zero] at this
  exact this
end Go.Proofs.YtdpgdnbknmncfaaDoor.Pack

/- Fields laid one above the other: the small rows of fields that the program lays. Plain Lean over the printed bits.Pack. -/
namespace Go.Proofs.YtdpgdnbknmncfaaDoor.Pack
open Go.RowKit Go.Proofs.YtdpgdnbknmncfaaDoorW.PrintWords Go.Proofs.YtdpgdnbknmncfaaDoorW.PrintLast Go.Proofs.YtdpgdnbknmncfaaDoorW.PrintMore Go.Proofs.YtdpgdnbknmncfaaDoor.Str Go.Proofs.YtdpgdnbknmncfaaDoor.Field Go.Proofs.YtdpgdnbknmncfaaDoor.Print
theorem pk_last (low n : Nat) (h : low ≤ 8) : pk low n [] = ((n : Int) % 256, 0) := by rw [pk, if_neg (by omega)]
theorem pk_good (low n w : Nat) (v : Int) (fs : List S54) (hw : 1 ≤ w) (hw8 : w ≤ 8) (h0 : 0 ≤ v) (hv : v < 2 ^ w) (hl : low + w ≤ 8) :
    pk low n (⟨(w : Int), v⟩ :: fs) = pk (low + w) (n + v.toNat * 2 ^ low) fs := by
  have hg : good (⟨(w : Int), v⟩ : S54) := ⟨by show (1 : Int) ≤ w; omega, by show (w : Int) ≤ 8; omega, h0, by show v < 2 ^ (w : Int).toNat; simpa using hv⟩
  rw [pk, if_pos hg, if_pos (by omega)]
  show pk (min (low + (w : Int).toNat) 9) _ fs = _
  rw [Int.toNat_natCast, show min (low + w) 9 = low + w from by omega]
theorem pk_bad (low n w : Nat) (v : Int) (fs : List S54) (h : ¬ (0 ≤ v ∧ v < 2 ^ w)) : pk low n (⟨(w : Int), v⟩ :: fs) = (0, 2) := by
  rw [pk, if_neg]
  intro hg
  exact h ⟨hg.2.2.1, by have := hg.2.2.2; simpa using this⟩
theorem pk3 (c s : Int) (hc : 0 ≤ c ∧ c ≤ 1) : pk 0 0 [(⟨1, 0⟩ : S54), (⟨1, c⟩ : S54), (⟨6, s⟩ : S54)] = if 0 ≤ s ∧ s < 64 then (4 * s + 2 * c, 0) else (0, 2) := by
  have a := pk_good 0 0 1 0 [(⟨1, c⟩ : S54), (⟨6, s⟩ : S54)] (by omega) (by omega) (by omega) (by decide) (by omega)
  have b := pk_good 1 (0 + (0 : Int).toNat * 2 ^ 0) 1 c [(⟨6, s⟩ : S54)] (by omega) (by omega) hc.1 (by omega) (by omega)
  refine Eq.trans a (Eq.trans b ?_)
  by_cases h : 0 ≤ s ∧ s < 64
  · rw [if_pos h]
    have d := pk_good 2 (0 + (0 : Int).toNat * 2 ^ 0 + c.toNat * 2 ^ 1) 6 s [] (by omega) (by omega) h.1 (by omega) (by omega)
    refine Eq.trans d ?_
    rw [pk_last _ _ (by omega)]
    congr 1; omega
  · rw [if_neg h]
    exact pk_bad 2 _ 6 s [] (by intro q; exact h ⟨q.1, by omega⟩)
theorem pk2 (c t : Int) (hc : 0 ≤ c ∧ c ≤ 1) : pk 0 0 [(⟨1, c⟩ : S54), (⟨7, t⟩ : S54)] = if 0 ≤ t ∧ t < 128 then (2 * t + c, 0) else (0, 2) := by
  have a := pk_good 0 0 1 c [(⟨7, t⟩ : S54)] (by omega) (by omega) hc.1 (by omega) (by omega)
  refine Eq.trans a ?_
  by_cases h : 0 ≤ t ∧ t < 128
  · rw [if_pos h]
    have d := pk_good 1 (0 + c.toNat * 2 ^ 0) 7 t [] (by omega) (by omega) h.1 (by omega) (by omega)
    refine Eq.trans d ?_
    rw [pk_last _ _ (by omega)]
    congr 1; omega
  · rw [if_neg h]
    exact pk_bad 1 _ 7 t [] (by intro q; exact h ⟨q.1, by omega⟩)

theorem pack_two (k : Nat) (hk : 3 < k) (c t : Int) (hc : 0 ≤ c ∧ c ≤ 1) : bits_Pack.f k [(⟨1, c⟩ : S54), (⟨7, t⟩ : S54)] = some (if 0 ≤ t ∧ t < 128 then (2 * t + c, 0) else (0, 2)) := by
  rw [pack_eq _ k (by show 2 ≤ 9223372036854775806; omega) (by show 2 < k; omega), pk2 _ _ hc]
theorem pack_three (k : Nat) (hk : 3 < k) (c s : Int) (hc : 0 ≤ c ∧ c ≤ 1) : bits_Pack.f k [(⟨1, 0⟩ : S54), (⟨1, c⟩ : S54), (⟨6, s⟩ : S54)] = some (if 0 ≤ s ∧ s < 64 then (4 * s + 2 * c, 0) else (0, 2)) := by
  rw [pack_eq _ k (by show 3 ≤ 9223372036854775806; omega) (by show 3 < k; omega), pk3 _ _ hc]
end Go.Proofs.YtdpgdnbknmncfaaDoor.Pack
