/- What the printed reference function Of comes to: each octet's eight bits, the lowest first, as the digits 0 and 1. Plain Lean over the printed function. -/
import Derived.Test.YtjgcoidfkpjeiaaStr
import Derived.Test.YtjgcoidfkpjeiaaOf1
namespace Go.Proofs.Ytjgcoidfkpjeiaa.RefOf
open Go.RowKit Go.Proofs.YtjgcoidfkpjeiaaW.PrintWords Go.Proofs.YtjgcoidfkpjeiaaW.PrintLast Go.Proofs.YtjgcoidfkpjeiaaW.PrintMore Go.Proofs.Ytjgcoidfkpjeiaa.Str Go.Proofs.Ytjgcoidfkpjeiaa.Of

/-- The lowest d bits of n, as digits. -/
def gen : Nat → Nat → List Int
  | 0, _ => []
  | d + 1, n => (48 + ((n % 2 : Nat) : Int)) :: gen d (n / 2)
theorem gen_length (d n : Nat) : (gen d n).length = d := by
  induction d generalizing n with
  | zero => rfl
  | succ d ih => simp [gen, ih]
def genAll (l : List UInt8) : List Int := l.flatMap fun b => gen 8 b.toNat
theorem genAll_length (l : List UInt8) : (genAll l).length = 8 * l.length := by
  induction l with
  | nil => rfl
  | cons a l ih => simp only [genAll, List.flatMap_cons, List.length_append, gen_length, List.length_cons] at ih ⊢; omega

theorem inner (s : ByteArray) (d : Nat) : ∀ (k : Nat) (acc : List Int) (i : Int) (n j : Nat), j + d = 8 → n < 256 → acc.length + d ≤ 140737488355328 →
    lapwingref01_Of.l1 (k + d + 1) s acc i (n : Int) (j : Int) = lapwingref01_Of.l0 k s (acc ++ gen d n) (wrap64 (i + 1)) := by
  induction d with
  | zero =>
    intro k acc i n j h _ _
    simp only [lapwingref01_Of.l1, gen, List.append_nil]
    rw [if_neg (by omega)]
  | succ d ih =>
    intro k acc i n j h hn ha
    rw [show k + (d + 1) + 1 = (k + d + 1) + 1 from by omega, lapwingref01_Of.l1]
    rw [if_pos (by omega), if_pos (by omega)]
    have e1 : (wrap64 (48 + Int.tmod (n : Int) 2)) % 256 = 48 + ((n % 2 : Nat) : Int) := by
      rw [Int.tmod_eq_emod_of_nonneg (by omega), w64 (by omega) (by omega)]; omega
    have e2 : wrap64 (Int.tdiv (n : Int) 2) = ((n / 2 : Nat) : Int) := by
      rw [Int.tdiv_eq_ediv_of_nonneg (by omega), w64 (by omega) (by omega)]; omega
    have e3 : wrap64 ((j : Int) + 1) = ((j + 1 : Nat) : Int) := by rw [w64 (by omega) (by omega)]; omega
    rw [e1, e2, e3, ih k _ i (n / 2) (j + 1) (by omega) (by omega) (by simp; omega)]
    simp [gen]

theorem outer (s : ByteArray) (hn : s.size * 8 ≤ 140737488355328) (d : Nat) : ∀ (k : Nat) (acc : List Int) (i : Nat), i + d = s.size → acc.length = 8 * i → 10 * d < k →
    lapwingref01_Of.l0 k s acc (i : Int) = some (strOfNums (acc ++ genAll ((L s).drop i))) := by
  induction d with
  | zero =>
    intro k acc i h _ hk
    obtain ⟨k, rfl⟩ : ∃ m, k = m + 1 := ⟨k - 1, by omega⟩
    simp only [lapwingref01_Of.l0]
    rw [if_neg (by omega), List.drop_of_length_le (by rw [← size_L]; omega)]
    simp [genAll]
  | succ d ih =>
    intro k acc i h ha hk
    obtain ⟨k, rfl⟩ : ∃ m, k = m + 8 + 1 + 1 := ⟨k - 10, by omega⟩
    have hl : i < (L s).length := by rw [← size_L]; omega
    have hb := (L s)[i].toNat_lt
    rw [lapwingref01_Of.l0]
    rw [if_pos (by omega), if_pos (by omega), bt_nat, at_get _ _ hl, w64 (by omega) (by omega)]
    have := inner s 8 k acc (i : Int) (L s)[i].toNat 0 (by omega) (by omega) (by omega)
    have e3 : wrap64 ((i : Int) + 1) = ((i + 1 : Nat) : Int) := by rw [w64 (by omega) (by omega)]; omega
    rw [show (k + 8 + 1) = k + 9 from rfl] at this ⊢
    rw [show lapwingref01_Of.l1 (k + 9) s acc (i : Int) ((L s)[i].toNat : Int) 0 = _ from this, e3, ih k _ (i + 1) (by omega) (by simp [gen_length]; omega) (by omega), List.drop_eq_getElem_cons hl]
    simp [genAll]

theorem of_eq (k : Nat) (s : ByteArray) (hn : s.size * 8 ≤ 140737488355328) (hk : 10 * s.size < k) : lapwingref01_Of.f k s = some (strOfNums (genAll (L s))) := by
  have := outer s hn s.size k [] 0 (by omega) (by simp) hk
  unfold lapwingref01_Of.f
  simpa using this

def digit (b : Bool) : UInt8 := if b then 49 else 48
def bitsOf (n : Nat) : List Bool := (List.range 8).map fun i => n.testBit i
set_option maxRecDepth 10000 in
theorem gen_digits (b : UInt8) : (gen 8 b.toNat).map (fun n => UInt8.ofNat n.toNat) = (bitsOf b.toNat).map digit := by
  have h : ∀ n : Fin 256, (gen 8 n.val).map (fun n => UInt8.ofNat n.toNat) = (bitsOf n.val).map digit := by decide +kernel
  exact h ⟨b.toNat, b.toNat_lt⟩
/-- All octets' bits. -/
def allBits (l : List UInt8) : List Bool := l.flatMap fun b => bitsOf b.toNat
theorem allBits_length (l : List UInt8) : (allBits l).length = 8 * l.length := by
  induction l with
  | nil => rfl
  | cons a l ih => simp only [allBits, List.flatMap_cons, List.length_append, List.length_cons] at ih ⊢; simp [bitsOf] at ih ⊢; omega
theorem of_bits (k : Nat) (s : ByteArray) (hn : s.size * 8 ≤ 140737488355328) (hk : 10 * s.size < k) : lapwingref01_Of.f k s = some ⟨((allBits (L s)).map digit).toArray⟩ := by
  rw [of_eq k s hn hk]
  refine congrArg some (inj ?_)
  rw [L_nums, L_mk]
  unfold genAll allBits
  rw [List.map_flatMap, List.map_flatMap]
  congr 1
  funext b
  exact gen_digits b
end Go.Proofs.Ytjgcoidfkpjeiaa.RefOf
