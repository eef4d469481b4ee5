/- bits.Of, by its own text: a Builder that gets eight digits for each octet. The text at most 2^44 octets long. -/
import Derived.Test.YtolodlnndojaiaaDoorBuilder
import Derived.Test.YtolodlnndojaiaaDoorShelf
import Derived.Test.YtolodlnndojaiaaDoorBits
import Derived.Test.YtolodlnndojaiaaDoorArith
import Derived.WalkKit
import Derived.BigCall
namespace Go.Proofs.YtolodlnndojaiaaDoor.BitsOf
open Go.RowKit Go.Proofs.YtolodlnndojaiaaDoor.Str Go.Proofs.YtolodlnndojaiaaDoor.Bits
set_option linter.unusedVariables false
theorem bit_num (b : UInt8) (k : Nat) : (48 + Go.bits .and .u8 ((b.toNat : Int) / 2 ^ k) 1) % 256 = ((bitB b k).toNat : Int) := by
  have hb := b.toNat_lt
  have hk : 0 < 2 ^ k := Nat.pow_pos (by decide)
  have e : (b.toNat : Int) / 2 ^ k = ((b.toNat / 2 ^ k : Nat) : Int) := by simp
  have hl : b.toNat / 2 ^ k ≤ b.toNat := Nat.div_le_self _ _
  have h0 : 0 ≤ (b.toNat : Int) / 2 ^ k := by rw [e]; exact Int.natCast_nonneg _
  have h1 : (b.toNat : Int) / 2 ^ k ≤ 255 := by rw [e]; omega
  rw [bitB_num]
  generalize (b.toNat : Int) / 2 ^ k = q at h0 h1
  rw [Field.low_bit q h0 h1]
  omega
set_option maxHeartbeats 4000000 in
set_option maxRecDepth 1000000 in
theorem walk (s : ByteArray) (w : World) (hs : s.size ≤ 17592186044416) :
    Calls Tryd.prog 24 #[.string s] w fun e w' => e = .returned (.string ⟨(ofL (L s)).toArray⟩) ∧ Below w.heap.size w w' := by
  go_enter Tryd.func24, Tryd.ntmps24
  go_wp2
  go_loopw [8] (fun v wr => ∃ i : Nat, i ≤ s.size ∧ v = .int .i64 i ∧ Lib.IsBuilderF 66 5 w.heap.size w.heap.size (Lib.byteCells (ofL ((L s).take i))) wr ∧ Below w.heap.size w wr) (fun v _ => s.size - (intOf v).toNat)
  case atStart => exact ⟨0, Nat.zero_le _, rfl, Lib.IsBuilderF.of (Lib.fresh_isBuilder 66 5 w), (Below.refl _ w).alloc (Nat.le_refl _) _⟩
  case round =>
    obtain ⟨i, hi, rfl, hI, hB⟩ := hrel
    by_cases hlt : i < s.size
    · have hl : i < (L s).length := by rw [← size_L]; exact hlt
      have hsz := hB.size
      have ht : (ofL ((L s).take i)).length = 8 * i := by rw [ofL_length, List.length_take]; omega
      go_wp2
      obtain ⟨wo, hwo⟩ : ∃ wo : World, wo = wr := ⟨_, rfl⟩
      go_loopw [11] (fun v wr => ∃ k : Nat, k ≤ 8 ∧ v = .int .i64 k ∧ Lib.IsBuilderF 66 5 w.heap.size w.heap.size (Lib.byteCells (ofL ((L s).take i) ++ (bitsB (L s)[i]).take k)) wr ∧ Below w.heap.size w wr) (fun v _ => 8 - (intOf v).toNat)
      case atStart => exact ⟨0, by omega, rfl, by simpa using hI, hB⟩
      case round =>
        clear hI hB hsz hwo
        obtain ⟨k, hk, rfl, hI, hB⟩ := hrel
        have hsz := hB.size
        by_cases hkl : k < 8
        · have hv : (48 + Go.bits .and .u8 (((L s)[i].toNat : Int) / 2 ^ k) 1) % 256 = ((bitB (L s)[i] k).toNat : Int) := bit_num _ _
          have hlen : (Lib.byteCells (ofL ((L s).take i) ++ (bitsB (L s)[i]).take k)).length + 1 ≤ 140737488355328 := by
            rw [Lib.byteCells_length, List.length_append, ht, List.length_take, bitsB_length]; omega
          have hnx : Lib.byteCells (ofL ((L s).take i) ++ (bitsB (L s)[i]).take (k + 1)) = Lib.byteCells (ofL ((L s).take i) ++ (bitsB (L s)[i]).take k) ++ [.int .u8 ((bitB (L s)[i] k).toNat : Int)] := by
            rw [bitsB_take _ _ hkl, ← List.append_assoc, Lib.byteCells_append _ [_]]; rfl
          clear ht
          go_wp2_with (go_at_call 33; refine (Buil.byte w.heap.size w.heap.size _ _ _ hI hlen hsz).mono ?_)
          rintro e W1 ⟨rfl, h1, b1, k1⟩
          replace h1 := hnx ▸ (hv ▸ h1)
          go_wp2
          go_roundw
          case rel => exact ⟨k + 1, by omega, by go_num, Or.inr h1, hB.trans b1⟩
          case measure => simp [intOf]; omega
        · have h8 : k = 8 := by omega
          subst h8
          rw [bitsB_all, ← ofL_take _ _ hl] at hI
          go_wp2
          go_roundw
          case rel => exact ⟨i + 1, by omega, by go_num, hI, hB⟩
          case measure => simp [intOf]; omega
    · have e : (L s).take i = L s := List.take_of_length_le (by rw [← size_L]; omega)
      rw [e] at hI
      have hsz := hB.size
      go_wp2_with (go_at_call 34; refine (Tryd.Builder_String_any_k w.heap.size w.heap.size (ofL (L s)) _ hI hsz).mono ?_)
      rintro e W1 ⟨rfl, _, b1, _⟩
      go_wp2
      go_ret
      exact ⟨rfl, hB.trans b1⟩
end Go.Proofs.YtolodlnndojaiaaDoor.BitsOf
