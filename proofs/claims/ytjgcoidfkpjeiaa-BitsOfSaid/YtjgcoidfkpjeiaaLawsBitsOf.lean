/- The plain statement of BitsOf over the printed functions: it holds. No condition. -/
import Derived.Test.YtjgcoidfkpjeiaaRefOf
import Derived.Test.YtjgcoidfkpjeiaaBits
import Derived.Test.YtjgcoidfkpjeiaaArith
namespace Go.Proofs.Ytjgcoidfkpjeiaa.Pure
open Go.RowKit Go.Proofs.YtjgcoidfkpjeiaaW.PrintWords Go.Proofs.YtjgcoidfkpjeiaaW.PrintLast Go.Proofs.YtjgcoidfkpjeiaaW.PrintMore Go.Proofs.Ytjgcoidfkpjeiaa.Str Go.Proofs.Ytjgcoidfkpjeiaa.Bits Go.Proofs.Ytjgcoidfkpjeiaa.Field Go.Proofs.Ytjgcoidfkpjeiaa.Of
theorem digits_are (l : List UInt8) : (RefOf.allBits l).map RefOf.digit = ofL l := by
  unfold RefOf.allBits ofL
  rw [List.map_flatMap]
  congr 1
  funext b
  unfold RefOf.bitsOf bitsB
  rw [List.map_map]
  apply List.map_congr_left
  intro i _
  show RefOf.digit (b.toNat.testBit i) = _
  unfold RefOf.digit bitB
  rw [Nat.testBit_eq_decide_div_mod_eq]
  have h : b.toNat / 2 ^ i % 2 = 0 ∨ b.toNat / 2 ^ i % 2 = 1 := by omega
  rcases h with h | h <;> rw [h] <;> rfl
theorem of_one : (⟨(ofL (L (⟨#[1]⟩ : ByteArray))).toArray⟩ : ByteArray).toList = [49, 48, 48, 48, 48, 48, 48, 48] := by decide +kernel
theorem BitsOf : lapwinglaw01_BitsOf.Pure := by
  intro s _
  obtain ⟨k, hk⟩ : ∃ k : Nat, 20001 ≤ k := ⟨20001, Nat.le_refl _⟩
  refine ⟨k, ?_⟩
  have e : mn (s.size : Int) 2000 = ((min s.size 2000 : Nat) : Int) := mn_nat s.size 2000
  have hz := size_take s (min s.size 2000) (by omega)
  unfold lapwinglaw01_BitsOf.f
  rw [e, if_pos (by omega), if_pos (by omega), Int.toNat_natCast]
  generalize s.extract 0 (min s.size 2000) = t at hz
  refine bind_at (if_pos (by decide)) ?_
  refine Eq.trans (if_pos of_one) ?_
  refine bind_at (if_pos (by omega)) ?_
  refine bind_at (RefOf.of_bits k t (by omega) (by omega)) ?_
  rw [digits_are]
  exact congrArg some (beq_self_eq_true _)
end Go.Proofs.Ytjgcoidfkpjeiaa.Pure
