/- What the printed functions of package fcs, and of its reference, come to: the CRC register of plain lists. Plain Lean over the printed functions. -/
import Derived.Test.YtejpdpjklncfnaaDoorCrcStr
import Derived.Test.YtejpdpjklncfnaaDoorStr
import Derived.Test.YtejpdpjklncfnaaDoorPrint1
namespace Go.Proofs.YtejpdpjklncfnaaDoor.Fcs
open Go.RowKit Go.Proofs.YtejpdpjklncfnaaDoorW.PrintWords Go.Proofs.YtejpdpjklncfnaaDoorW.PrintLast Go.Proofs.YtejpdpjklncfnaaDoorW.PrintMore Go.Proofs.YtejpdpjklncfnaaDoor.Str Go.Proofs.YtejpdpjklncfnaaDoor.Crc Go.Proofs.YtejpdpjklncfnaaDoor.Print

theorem bit_step (r : R) : Go.bits .xor .u16 (num r / 2) (IntKind.u16.wrap (Go.bits .and .u16 (num r) 1 * 33800)) = num (bstep r false) := by
  have e : IntKind.u16.wrap (Go.bits .and .u16 (num r) 1 * 33800) = num (if (r.getLsbD 0 != false) then 0x8408#16 else 0#16) := by
    rw [and16, wrap_u16]
    cases r.getLsbD 0 <;> rfl
  rw [e, half, xor16]; rfl

theorem step_loop (d : Nat) : ∀ (k : Nat) (r : R) (i : Int), 0 ≤ i → i + d = 8 → d < k →
    fcs_Step.l0 k (num r) i = some (num (run r (List.replicate d false))) := by
  induction d with
  | zero =>
    intro k r i h0 h hk
    obtain ⟨k, rfl⟩ : ∃ m, k = m + 1 := ⟨k - 1, by omega⟩
    simp only [fcs_Step.l0]
    rw [if_neg (by omega)]; rfl
  | succ d ih =>
    intro k r i h0 h hk
    obtain ⟨k, rfl⟩ : ∃ m, k = m + 1 := ⟨k - 1, by omega⟩
    simp only [fcs_Step.l0]
    rw [if_pos (by omega), bit_step, w64 (by omega) (by omega), ih k _ (i + 1) (by omega) (by omega) (by omega)]
    rfl

def oct (o : Nat) : R := BitVec.ofNat 16 o
theorem oct_num (o : Nat) (_h : o < 256) : IntKind.u16.wrap (o : Int) = num (oct o) := by
  rw [wrap_u16]; unfold num oct
  rw [BitVec.toNat_ofNat]; omega
set_option maxRecDepth 10000 in
theorem oct_bits (o : Nat) (h : o < 256) : run (oct o) (List.replicate 8 false) = run 0#16 (obits o) := by
  have : ∀ o : Fin 256, run (oct o.val) (List.replicate 8 false) = run 0#16 (obits o.val) := by decide +kernel
  exact this ⟨o, h⟩
theorem obits_length (o : Nat) : (obits o).length = 8 := by simp [obits]
theorem false_xor (l : List Bool) : List.zipWith (· ^^ ·) (List.replicate l.length false) l = l := by
  induction l with
  | nil => rfl
  | cons a l ih => simpa [List.replicate_succ] using ih
theorem zip_false (n : Nat) : List.zipWith (· ^^ ·) (List.replicate n false) (List.replicate n false) = List.replicate n false := by
  have := false_xor (List.replicate n false)
  rwa [List.length_replicate] at this
theorem oct_step (r : R) (o : Nat) (h : o < 256) : run (r ^^^ oct o) (List.replicate 8 false) = run r (obits o) := by
  have h1 := run_xor (List.replicate 8 false) (List.replicate 8 false) rfl r (oct o)
  rw [zip_false, oct_bits o h] at h1
  have h2 := run_xor (List.replicate 8 false) (obits o) (by simp [obits_length]) r 0#16
  have e : List.zipWith (· ^^ ·) (List.replicate 8 false) (obits o) = obits o := by
    have := false_xor (obits o); rwa [obits_length] at this
  rw [e] at h2
  rw [h1, ← h2]; simp

theorem step_eq (k : Nat) (hk : 8 < k) (r : R) (o : UInt8) : fcs_Step.f k (num r) (o.toNat : Int) = some (num (stepB r o)) := by
  have ho := o.toNat_lt
  unfold fcs_Step.f
  rw [oct_num _ (by omega), xor16, step_loop 8 k _ 0 (by omega) (by omega) (by omega), oct_step _ _ (by omega)]
  rfl

theorem compl16 (r : R) : Go.bits .xor .u16 65535 (num r) = num (~~~ r) := by
  have e : (65535 : Int) = num 0xffff#16 := rfl
  rw [e, xor16]
  rfl

theorem sum_loop (s : ByteArray) (hn : s.size ≤ 9223372036854775806) (d : Nat) : ∀ (k : Nat) (r : R) (i : Nat), i + d = s.size → d + 9 < k →
    fcs_Sum.l0 k s (num r) (s.size : Int) (i : Int) = some (num (~~~ sumR r ((L s).drop i))) := by
  induction d with
  | zero =>
    intro k r i h hk
    obtain ⟨k, rfl⟩ : ∃ m, k = m + 1 := ⟨k - 1, by omega⟩
    simp only [fcs_Sum.l0]
    rw [if_neg (by omega), compl16, List.drop_of_length_le (by rw [← size_L]; omega)]; rfl
  | succ d ih =>
    intro k r i h hk
    obtain ⟨k, rfl⟩ : ∃ m, k = m + 1 := ⟨k - 1, by omega⟩
    have hl : i < (L s).length := by rw [← size_L]; omega
    simp only [fcs_Sum.l0]
    rw [if_pos (by omega), if_pos (by omega), if_pos (by omega), bt_nat, at_get _ _ hl, step_eq k (by omega)]
    simp only [Option.bind_some]
    rw [w64 (by omega) (by omega)]
    have := ih k (stepB r (L s)[i]) (i + 1) (by omega) (by omega)
    simp only [Int.natCast_add, Int.cast_ofNat_Int] at this
    rw [this, List.drop_eq_getElem_cons hl]
    rfl

/-- The check sequence. -/
def crc (l : List UInt8) : R := ~~~ sumR 0xffff#16 l
theorem sum_eq (k : Nat) (s : ByteArray) (hn : s.size ≤ 9223372036854775806) (hk : s.size + 9 < k) : fcs_Sum.f k s = some (num (crc (L s))) := by
  unfold fcs_Sum.f
  have := sum_loop s hn s.size k 0xffff#16 0 (by omega) hk
  rw [List.drop_zero] at this
  exact this
def lo (r : R) : UInt8 := UInt8.ofNat (r.toNat % 256)
def hi (r : R) : UInt8 := UInt8.ofNat (r.toNat / 256)
def sealL (l : List UInt8) : List UInt8 := l ++ [lo (crc l), hi (crc l)]
theorem seal_nums (r : R) : strOfNums [num r % 256, num r / 256 % 256] = ⟨[lo r, hi r].toArray⟩ := by
  have h := r.isLt
  apply inj
  rw [L_nums, L_mk]
  unfold lo hi num
  simp only [List.map_cons, List.map_nil]
  have e1 : ((r.toNat : Int) % 256).toNat = r.toNat % 256 := by omega
  have e2 : ((r.toNat : Int) / 256 % 256).toNat = r.toNat / 256 := by omega
  rw [e1, e2]
theorem seal_eq (k : Nat) (s : ByteArray) (hn : s.size ≤ 9223372036854775805) (hk : s.size + 9 < k) : fcs_Seal.f k s = some ⟨(sealL (L s)).toArray⟩ := by
  unfold fcs_Seal.f
  rw [sum_eq k s (by omega) hk]
  simp only [Option.bind_some]
  rw [seal_nums]
  have e : (⟨[lo (crc (L s)), hi (crc (L s))].toArray⟩ : ByteArray).size = 2 := rfl
  rw [e, if_pos (by omega)]
  exact congrArg some (inj (by rw [L_app, L_mk, L_mk]; rfl))
theorem size_mk (l : List UInt8) : (⟨l.toArray⟩ : ByteArray).size = l.length := by rw [size_L]
theorem seal_length (l : List UInt8) : (sealL l).length = l.length + 2 := by simp [sealL]
/-- What a text is, without its last two octets, if these are right. -/
def checkL (l : List UInt8) : List UInt8 × Int := if l.length < 2 then ([], 3) else if sealL (l.take (l.length - 2)) = l then (l.take (l.length - 2), 0) else ([], 6)
theorem check_eq (k : Nat) (s : ByteArray) (hn : s.size ≤ 9223372036854775805) (hk : s.size + 9 < k) : fcs_Check.f k s = some (⟨(checkL (L s)).1.toArray⟩, (checkL (L s)).2) := by
  unfold fcs_Check.f checkL
  rw [← size_L]
  by_cases h : s.size < 2
  · rw [if_pos (by omega), if_pos h]
  · have hw : wrap64 ((s.size : Int) - 2) = ((s.size - 2 : Nat) : Int) := by rw [w64 (by omega) (by omega)]; omega
    rw [if_neg (by omega), if_neg h, hw, if_pos (by omega), if_pos (by omega), Int.toNat_natCast]
    have hs : (s.extract 0 (s.size - 2)).size = s.size - 2 := size_take s _ (by omega)
    rw [seal_eq k _ (by omega) (by omega)]
    simp only [Option.bind_some]
    rw [toList_L, toList_L, L_mk, L_take]
    by_cases he : sealL ((L s).take (s.size - 2)) = L s
    · rw [if_pos he, if_pos he]
      congr 2
      apply inj
      rw [L_take, L_mk]
    · rw [if_neg he, if_neg he]
end Go.Proofs.YtejpdpjklncfnaaDoor.Fcs
