/- What the printed bits.Field comes to at a place and a width that count; masks and joins of machine numbers. Plain Lean over the printed function. -/
import Derived.Test.YtbppngopiackcaaStr
import Derived.Test.YtbppngopiackcaaPrint3
namespace Go.Proofs.Ytbppngopiackcaa.Field
open Go.RowKit Go.Proofs.YtbppngopiackcaaW.PrintWords Go.Proofs.YtbppngopiackcaaW.PrintLast Go.Proofs.YtbppngopiackcaaW.PrintMore Go.Proofs.Ytbppngopiackcaa.Str Go.Proofs.Ytbppngopiackcaa.Print
theorem bind_at {α β : Type} {o : Option α} {a : α} {f : α → Option β} {r : Option β} (h : o = some a) (h2 : f a = r) : o.bind f = r := by rw [h]; exact h2
theorem wraps_i64 (n : Int) (h₀ : 0 ≤ n) (h₁ : n < 2 ^ 63) : IntKind.i64.wrap n = n := by rw [IntKind.wrap_i64]; omega
theorem mask_i64 (i : Nat) (hi : i ≤ 63) (x : Int) (h₀ : 0 ≤ x) (h₁ : x < 2 ^ 63) : Go.bits .and .i64 x (2 ^ i - 1) = x % 2 ^ i :=
  bits_mask .i64 63 (by decide) wraps_i64 i hi x h₀ h₁
theorem mask_u8 (i : Nat) (hi : i ≤ 8) (x : Int) (h₀ : 0 ≤ x) (h₁ : x < 2 ^ 8) : Go.bits .and .u8 x (2 ^ i - 1) = x % 2 ^ i :=
  bits_mask .u8 8 (by decide) wraps_u8 i hi x h₀ h₁
theorem low_bit (x : Int) (h0 : 0 ≤ x) (h1 : x ≤ 255) : Go.bits .and .u8 x 1 = x % 2 := mask_u8 1 (by decide) x h0 (by omega)
/-- A small number below a multiple: the machine's 'or' adds. -/
theorem or_add (i a b : Nat) (ha : a < 2 ^ i) (hb : b * 2 ^ i < 2 ^ 62) (hi : i ≤ 62) : Go.bits .or .i64 (a : Int) ((b * 2 ^ i : Nat) : Int) = ((a + b * 2 ^ i : Nat) : Int) := by
  have h1 : a < 2 ^ 63 := Nat.lt_of_lt_of_le ha (Nat.pow_le_pow_right (by decide) (by omega))
  have h2 : b * 2 ^ i < 2 ^ 63 := Nat.lt_trans hb (by decide)
  rw [(bits_nat .i64 63 (by decide) wraps_i64 a _ h1 h2).2]
  rw [Nat.or_comm, Nat.mul_comm b, ← Nat.two_pow_add_eq_or_of_lt ha b]
  congr 1; omega
theorem or_some (a b : Nat) (n : Nat) (hn : n ≤ 62) (ha : a < 2 ^ n) (hb : b < 2 ^ n) : ∃ c : Nat, Go.bits .or .i64 (a : Int) (b : Int) = (c : Int) ∧ c < 2 ^ n := by
  have h63 : 2 ^ n ≤ 2 ^ 63 := Nat.pow_le_pow_right (by decide) (by omega)
  exact ⟨a ||| b, (bits_nat .i64 63 (by decide) wraps_i64 a b (Nat.lt_of_lt_of_le ha h63) (Nat.lt_of_lt_of_le hb h63)).2, Nat.or_lt_two_pow ha hb⟩
theorem field_at (x : Int) (h0 : 0 ≤ x) (h1 : x ≤ 255) (l c : Nat) (hl : l < 8) (hc : 1 ≤ c) (hc8 : c ≤ 8) :
    bits_Field.f x (l : Int) (c : Int) = some (x / 2 ^ l % 2 ^ c) := by
  unfold bits_Field.f
  rw [if_neg (by omega), if_neg (by omega), if_neg (by omega), if_pos (by omega)]
  have hm : mn (c : Int) 8 = c := by unfold mn; omega
  rw [hm, if_pos (by omega)]
  have hd : shr .u8 x (l : Int) = x / 2 ^ l := by
    unfold shr
    rw [show min ((l : Int).toNat) (IntKind.u8).bits = l from by simp [IntKind.bits]; omega]
  have hx : 0 ≤ x / 2 ^ l ∧ x / 2 ^ l ≤ 255 := by
    have : l = 0 ∨ l = 1 ∨ l = 2 ∨ l = 3 ∨ l = 4 ∨ l = 5 ∨ l = 6 ∨ l = 7 := by omega
    rcases this with rfl | rfl | rfl | rfl | rfl | rfl | rfl | rfl <;> simp <;> omega
  have hw : wrap64 (x / 2 ^ l) = x / 2 ^ l := by unfold wrap64; omega
  have hp : wrap64 (wrap64 (2 ^ ((c : Int)).toNat) - 1) = 2 ^ c - 1 := by
    have : c = 1 ∨ c = 2 ∨ c = 3 ∨ c = 4 ∨ c = 5 ∨ c = 6 ∨ c = 7 ∨ c = 8 := by omega
    rcases this with rfl | rfl | rfl | rfl | rfl | rfl | rfl | rfl <;> simp [wrap64]
  rw [hd, hw, hp, mask_i64 c (by omega) _ hx.1 (by omega)]
theorem f26 (x : Int) (h0 : 0 ≤ x) (h1 : x ≤ 255) : bits_Field.f x 2 6 = some (x / 4 % 64) := field_at x h0 h1 2 6 (by decide) (by decide) (by decide)
theorem f17 (x : Int) (h0 : 0 ≤ x) (h1 : x ≤ 255) : bits_Field.f x 1 7 = some (x / 2 % 128) := field_at x h0 h1 1 7 (by decide) (by decide) (by decide)
theorem f11 (x : Int) (h0 : 0 ≤ x) (h1 : x ≤ 255) : bits_Field.f x 1 1 = some (x / 2 % 2) := field_at x h0 h1 1 1 (by decide) (by decide) (by decide)
end Go.Proofs.Ytbppngopiackcaa.Field
