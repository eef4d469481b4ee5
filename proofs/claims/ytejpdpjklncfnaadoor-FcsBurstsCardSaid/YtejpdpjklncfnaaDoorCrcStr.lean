/- Octets through the CRC register, and what the machine's word 'bits' gives on sixteen bits. Plain Lean, no condition. -/
import Derived.Test.YtejpdpjklncfnaaDoorCrc
import Derived.Test.YtejpdpjklncfnaaDoorWWords
import Derived.Laws.BitsLemmas
namespace Go.Proofs.YtejpdpjklncfnaaDoor.Crc
open Go.RowKit Go.Proofs.YtejpdpjklncfnaaDoorW.PrintWords

/-- An octet's bits, the lowest first. -/
def obits (o : Nat) : List Bool := (List.range 8).map fun i => o.testBit i
def stepB (r : R) (o : UInt8) : R := run r (obits o.toNat)
def sumR (r : R) (l : List UInt8) : R := l.foldl stepB r
def num (r : R) : Int := (r.toNat : Int)
theorem num_lt (r : R) : 0 ≤ num r ∧ num r < 65536 := by
  have := r.isLt
  unfold num; omega
theorem num_inj {r s : R} (h : num r = num s) : r = s := by
  unfold num at h
  exact BitVec.eq_of_toNat_eq (by omega)

theorem wrap_u16 (n : Int) : IntKind.u16.wrap n = n % 65536 := by simp [IntKind.wrap, IntKind.bits, IntKind.signed]

theorem of_num (r : R) : BitVec.ofInt 16 (num r) = r := by
  unfold num
  rw [BitVec.ofInt_natCast, BitVec.ofNat_toNat, BitVec.setWidth_eq]
theorem wrap_num (r : R) : IntKind.u16.wrap (r.toNat : Int) = num r := by
  have h := r.isLt
  rw [wrap_u16]; unfold num; omega
theorem xor16 (r s : R) : Go.bits .xor .u16 (num r) (num s) = num (r ^^^ s) := by
  show IntKind.u16.wrap (((BitVec.ofInt 16 (num r)) ^^^ (BitVec.ofInt 16 (num s))).toNat : Int) = _
  rw [of_num, of_num, wrap_num]
theorem and16 (r : R) : Go.bits .and .u16 (num r) 1 = if r.getLsbD 0 then 1 else 0 := by
  show IntKind.u16.wrap (((BitVec.ofInt 16 (num r)) &&& (BitVec.ofInt 16 1)).toNat : Int) = _
  rw [of_num]
  have e : (r &&& BitVec.ofInt 16 1) = if r.getLsbD 0 then 1#16 else 0#16 := by
    apply BitVec.eq_of_getLsbD_eq
    intro i hi
    cases h : r.getLsbD 0 <;> rcases i with _ | i <;> simp_all
  rw [e]
  cases r.getLsbD 0 <;> simp [wrap_u16]

theorem half (r : R) : num r / (2 : Int) = num (r >>> 1) := by
  unfold num
  simp [BitVec.toNat_ushiftRight, Nat.shiftRight_eq_div_pow]
end Go.Proofs.YtejpdpjklncfnaaDoor.Crc
