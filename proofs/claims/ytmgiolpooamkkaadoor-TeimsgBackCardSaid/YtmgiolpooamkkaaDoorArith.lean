/- Masks and joins of machine numbers. Plain Lean, no program in sight. -/
import Derived.Test.YtmgiolpooamkkaaDoorStr
namespace Go.Proofs.YtmgiolpooamkkaaDoor.Field
open Go.RowKit Go.Proofs.YtmgiolpooamkkaaDoorW.PrintWords Go.Proofs.YtmgiolpooamkkaaDoorW.PrintLast Go.Proofs.YtmgiolpooamkkaaDoorW.PrintMore Go.Proofs.YtmgiolpooamkkaaDoor.Str
theorem bind_at {α β : Type} {o : Option α} {a : α} {f : α → Option β} {r : Option β} (h : o = some a) (h2 : f a = r) : o.bind f = r := by rw [h]; exact h2
theorem wraps_i64 (n : Int) (h₀ : 0 ≤ n) (h₁ : n < 2 ^ 63) : IntKind.i64.wrap n = n := by rw [IntKind.wrap_i64]; omega
theorem mask_i64 (i : Nat) (hi : i ≤ 63) (x : Int) (h₀ : 0 ≤ x) (h₁ : x < 2 ^ 63) : Go.bits .and .i64 x (2 ^ i - 1) = x % 2 ^ i :=
  bits_mask .i64 63 (by decide) wraps_i64 i hi x h₀ h₁
theorem mask_u8 (i : Nat) (hi : i ≤ 8) (x : Int) (h₀ : 0 ≤ x) (h₁ : x < 2 ^ 8) : Go.bits .and .u8 x (2 ^ i - 1) = x % 2 ^ i :=
  bits_mask .u8 8 (by decide) wraps_u8 i hi x h₀ h₁
theorem low_bit (x : Int) (h0 : 0 ≤ x) (h1 : x ≤ 255) : Go.bits .and .u8 x 1 = x % 2 := mask_u8 1 (by decide) x h0 (by omega)
/-- A small number below a multiple: the machine's 'or' adds. -/
theorem or_add (i a b : Nat) (ha : a < 2 ^ i) (hb : b * 2 ^ i < 2 ^ 62) (hi : i ≤ 62) : Go.bits .or .i64 (a : Int) ((b * 2 ^ i : Nat) : Int) = ((a + b * 2 ^ i : Nat) : Int) := by
  have h1 : a < 2 ^ 63 := Nat.lt_of_lt_of_le ha (Nat.pow_le_pow_right (by decide) (by omega))
  have h2 : b * 2 ^ i < 2 ^ 63 := Nat.lt_trans hb (by decide)
  rw [(bits_nat .i64 63 (by decide) wraps_i64 a _ h1 h2).2]
  rw [Nat.or_comm, Nat.mul_comm b, ← Nat.two_pow_add_eq_or_of_lt ha b]
  congr 1; omega
theorem or_some (a b : Nat) (n : Nat) (hn : n ≤ 62) (ha : a < 2 ^ n) (hb : b < 2 ^ n) : ∃ c : Nat, Go.bits .or .i64 (a : Int) (b : Int) = (c : Int) ∧ c < 2 ^ n := by
  have h63 : 2 ^ n ≤ 2 ^ 63 := Nat.pow_le_pow_right (by decide) (by omega)
  exact ⟨a ||| b, (bits_nat .i64 63 (by decide) wraps_i64 a b (Nat.lt_of_lt_of_le ha h63) (Nat.lt_of_lt_of_le hb h63)).2, Nat.or_lt_two_pow ha hb⟩
end Go.Proofs.YtmgiolpooamkkaaDoor.Field
