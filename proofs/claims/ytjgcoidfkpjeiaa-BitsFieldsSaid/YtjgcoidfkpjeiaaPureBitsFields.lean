/- For every octet and all int low and count, bits.Field gives the number that the document's reference gives by division, and the document's fixed example holds. No condition. -/
import Derived.Test.YtjgcoidfkpjeiaaPBitsFieldsx1
import Derived.OpenShut
namespace Go.Proofs.Ytjgcoidfkpjeiaa.Pure
open Go.RowKit Go.Proofs.Ytjgcoidfkpjeiaa.PBitsFields Go.Proofs.YtjgcoidfkpjeiaaW.PrintWords Go.Proofs.YtjgcoidfkpjeiaaW.PrintLast

theorem wraps_i64 (n : Int) (h₀ : 0 ≤ n) (h₁ : n < 2 ^ 63) : IntKind.i64.wrap n = n := by rw [IntKind.wrap_i64]; omega

theorem mask_i64 (i : Nat) (hi : i ≤ 63) (x : Int) (h₀ : 0 ≤ x) (h₁ : x < 2 ^ 63) : Go.bits .and .i64 x (2 ^ i - 1) = x % 2 ^ i :=
  bits_mask .i64 63 (by decide) wraps_i64 i hi x h₀ h₁

/-- The Go field at a place and a width that count. -/
theorem field_at (x : Int) (h0 : 0 ≤ x) (h1 : x ≤ 255) (l c : Nat) (hl : l < 8) (hc : 1 ≤ c) (hc8 : c ≤ 8) :
    bits_Field.f x l c = some (x / 2 ^ l % 2 ^ c) := by
  unfold bits_Field.f
  rw [if_neg (by omega), if_neg (by omega), if_neg (by omega), if_pos (by omega)]
  have hm : mn (c : Int) 8 = c := by unfold mn; omega
  rw [hm, if_pos (by omega)]
  have hd : shr .u8 x (l : Int) = x / 2 ^ l := by
    unfold shr
    rw [show min ((l : Int).toNat) (IntKind.u8).bits = l from by simp [IntKind.bits]; omega]
  have hx : 0 ≤ x / 2 ^ l ∧ x / 2 ^ l ≤ 255 := by
    have : l = 0 ∨ l = 1 ∨ l = 2 ∨ l = 3 ∨ l = 4 ∨ l = 5 ∨ l = 6 ∨ l = 7 := by omega
    rcases this with rfl | rfl | rfl | rfl | rfl | rfl | rfl | rfl <;> simp <;> omega
  have hw : wrap64 (x / 2 ^ l) = x / 2 ^ l := by unfold wrap64; omega
  have hp : wrap64 (wrap64 (2 ^ ((c : Int)).toNat) - 1) = 2 ^ c - 1 := by
    have : c = 1 ∨ c = 2 ∨ c = 3 ∨ c = 4 ∨ c = 5 ∨ c = 6 ∨ c = 7 ∨ c = 8 := by omega
    rcases this with rfl | rfl | rfl | rfl | rfl | rfl | rfl | rfl <;> simp [wrap64]
  rw [hd, hw, hp, mask_i64 c (by omega) _ hx.1 (by omega)]

theorem power_at (c : Nat) (hc : c ≤ 8) : lapwingref01_power.f 20 c = some (2 ^ c) := by
  have : c = 0 ∨ c = 1 ∨ c = 2 ∨ c = 3 ∨ c = 4 ∨ c = 5 ∨ c = 6 ∨ c = 7 ∨ c = 8 := by omega
  rcases this with rfl | rfl | rfl | rfl | rfl | rfl | rfl | rfl | rfl <;> decide +kernel

theorem refj_at (x : Int) (h0 : 0 ≤ x) (h1 : x ≤ 255) (l c : Nat) (hl : l < 8) (hc : 1 ≤ c) (hc8 : c ≤ 8) :
    (if (2 : Int) ^ l = 0 then (none : Option Int) else if (2 : Int) ^ c = 0 then none else some (Int.tmod (wrap64 (Int.tdiv (wrap64 x) (2 ^ l))) (2 ^ c))) = some (x / 2 ^ l % 2 ^ c) := by
  have a : l = 0 ∨ l = 1 ∨ l = 2 ∨ l = 3 ∨ l = 4 ∨ l = 5 ∨ l = 6 ∨ l = 7 := by omega
  have b : c = 1 ∨ c = 2 ∨ c = 3 ∨ c = 4 ∨ c = 5 ∨ c = 6 ∨ c = 7 ∨ c = 8 := by omega
  have hw : wrap64 x = x := by unfold wrap64; omega
  have hp : (0 : Int) < 2 ^ l := Int.pow_pos (by decide)
  have hq : (0 : Int) < 2 ^ c := Int.pow_pos (by decide)
  rw [if_neg (by omega), if_neg (by omega), hw, Int.tdiv_eq_ediv_of_nonneg h0]
  have hx : 0 ≤ x / 2 ^ l ∧ x / 2 ^ l ≤ 255 := by
    rcases a with rfl | rfl | rfl | rfl | rfl | rfl | rfl | rfl <;> simp <;> omega
  have hw2 : wrap64 (x / 2 ^ l) = x / 2 ^ l := by unfold wrap64; omega
  rw [hw2, Int.tmod_eq_emod_of_nonneg hx.1]

theorem ref_at (x : Int) (h0 : 0 ≤ x) (h1 : x ≤ 255) (l : Nat) (c : Int) (hl : l < 8) (hc : 1 ≤ c) :
    lapwingref01_Field.f 21 x l c = some (x / 2 ^ l % 2 ^ (min c 8).toNat) := by
  unfold lapwingref01_Field.f
  rw [if_neg (by omega), if_neg (by omega)]
  have e : decide (c < 1) = false := by simp; omega
  rw [e]
  simp only [lapwingref01_Field.j0]
  rw [if_neg (by simp)]
  by_cases h8 : c > 8
  · rw [if_pos h8, power_at l (by omega)]
    simp only [Option.bind_some]
    rw [show lapwingref01_power.f 20 8 = some (2 ^ 8) from power_at 8 (by omega)]
    simp only [Option.bind_some]
    rw [show (min c 8).toNat = 8 from by omega]
    exact refj_at x h0 h1 l 8 hl (by decide) (by decide)
  · obtain ⟨n, rfl⟩ := Int.eq_ofNat_of_zero_le (show 0 ≤ c from by omega)
    rw [if_neg h8, power_at l (by omega)]
    simp only [Option.bind_some]
    rw [power_at n (by omega)]
    simp only [Option.bind_some]
    rw [show (min (n : Int) 8).toNat = n from by omega]
    exact refj_at x h0 h1 l n hl (by omega) (by omega)

theorem go_at (x : Int) (h0 : 0 ≤ x) (h1 : x ≤ 255) (l : Nat) (c : Int) (hl : l < 8) (hc : 1 ≤ c) :
    bits_Field.f x l c = some (x / 2 ^ l % 2 ^ (min c 8).toNat) := by
  by_cases h8 : c > 8
  · have h := field_at x h0 h1 l 8 hl (by decide) (by decide)
    rw [show (min c 8).toNat = 8 from by omega, ← h]
    unfold bits_Field.f
    have e : mn c 8 = mn ((8 : Nat) : Int) 8 := by unfold mn; omega
    rw [e]
    rw [if_neg (show ¬ c < 1 by omega), if_neg (show ¬ ((8 : Nat) : Int) < 1 by omega)]
  · obtain ⟨n, rfl⟩ := Int.eq_ofNat_of_zero_le (show 0 ≤ c from by omega)
    rw [show (min (n : Int) 8).toNat = n from by omega]
    exact field_at x h0 h1 l n hl (by omega) (by omega)

theorem both (x l c : Int) (h0 : 0 ≤ x) (h1 : x ≤ 255) : ∃ r, bits_Field.f x l c = some r ∧ lapwingref01_Field.f 21 x l c = some r := by
  by_cases hl0 : l < 0
  · refine ⟨0, ?_, ?_⟩
    · unfold bits_Field.f; rw [if_pos hl0]
    · unfold lapwingref01_Field.f; rw [if_pos hl0]; simp only [lapwingref01_Field.j0]; rw [if_pos trivial]
  · by_cases hl8 : l ≥ 8
    · refine ⟨0, ?_, ?_⟩
      · unfold bits_Field.f; rw [if_neg hl0, if_pos hl8]
      · unfold lapwingref01_Field.f; rw [if_neg hl0, if_pos (by omega)]; simp only [lapwingref01_Field.j0]; rw [if_pos trivial]
    · by_cases hc : c < 1
      · refine ⟨0, ?_, ?_⟩
        · unfold bits_Field.f; rw [if_neg hl0, if_neg hl8, if_pos hc]
        · unfold lapwingref01_Field.f; rw [if_neg hl0, if_neg (by omega)]; simp only [lapwingref01_Field.j0]; rw [if_pos (by simpa using hc)]
      · obtain ⟨n, rfl⟩ := Int.eq_ofNat_of_zero_le (show 0 ≤ l from by omega)
        exact ⟨_, go_at x h0 h1 n c (by omega) (by omega), ref_at x h0 h1 n c (by omega) (by omega)⟩

theorem BitsFields : lapwinglaw01_BitsFields.Pure := by
  intro a0 a1 a2 w0 _ _
  obtain ⟨h0, h1⟩ := bounds_u8 w0
  refine ⟨21, ?_⟩
  unfold lapwinglaw01_BitsFields.f
  have e := go_at 253 (by decide) (by decide) 2 6 (by decide) (by decide)
  have e2 : (253 : Int) / 2 ^ 2 % 2 ^ (min (6 : Int) 8).toNat = 63 := by decide
  rw [e2] at e
  have e3 : bits_Field.f 253 2 6 = some 63 := e
  rw [e3]
  simp only [Option.bind_some]
  rw [if_pos trivial]
  obtain ⟨r, hr, hs⟩ := both a0 a1 a2 h0 h1
  rw [hr, hs]
  simp

end Go.Proofs.Ytjgcoidfkpjeiaa.Pure
