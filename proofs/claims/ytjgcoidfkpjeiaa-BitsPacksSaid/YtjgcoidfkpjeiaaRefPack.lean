/- What the document's printed Pack comes to: the same as the program's; the plain statement of BitsPacks. Plain Lean over the printed functions. -/
import Derived.Test.YtjgcoidfkpjeiaaPackTwo
import Derived.Test.YtjgcoidfkpjeiaaPrint2
namespace Go.Proofs.Ytjgcoidfkpjeiaa.Pack
open Go.RowKit Go.Proofs.YtjgcoidfkpjeiaaW.PrintWords Go.Proofs.YtjgcoidfkpjeiaaW.PrintLast Go.Proofs.YtjgcoidfkpjeiaaW.PrintMore Go.Proofs.Ytjgcoidfkpjeiaa.Str Go.Proofs.Ytjgcoidfkpjeiaa.Field Go.Proofs.Ytjgcoidfkpjeiaa.Print
theorem pow_loop (w : Nat) (hw : w ≤ 16) (d : Nat) : ∀ k i : Nat, i + d = w → d < k → lapwingref01_power.l0 k (w : Int) ((2 ^ i : Nat) : Int) (i : Int) = some ((2 ^ w : Nat) : Int) := by
  induction d with
  | zero =>
    intro k i h hk
    obtain ⟨k, rfl⟩ : ∃ m, k = m + 1 := ⟨k - 1, by omega⟩
    rw [lapwingref01_power.l0, if_neg (by omega), show i = w from by omega]
  | succ d ih =>
    intro k i h hk
    obtain ⟨k, rfl⟩ : ∃ m, k = m + 1 := ⟨k - 1, by omega⟩
    have h1 : (2 : Nat) ^ i ≤ 2 ^ 16 := Nat.pow_le_pow_right (by decide) (by omega)
    have h2 : (2 : Nat) ^ (i + 1) = 2 * 2 ^ i := by rw [Nat.pow_succ]; omega
    rw [lapwingref01_power.l0, if_pos (by omega), w64 (n := (i : Int) + 1) (by omega) (by omega), w64 (n := 2 * ((2 ^ i : Nat) : Int)) (by omega) (by omega)]
    rw [show 2 * ((2 ^ i : Nat) : Int) = ((2 ^ (i + 1) : Nat) : Int) from by omega]
    exact ih k (i + 1) (by omega) (by omega)
theorem power_eq (k : Nat) (hk : 17 < k) (w : Int) (h0 : 0 ≤ w) (h1 : w ≤ 16) : lapwingref01_power.f k w = some (2 ^ w.toNat) := by
  have := pow_loop w.toNat (by omega) w.toNat k 0 (by omega) (by omega)
  rw [show ((w.toNat : Nat) : Int) = w from by omega, Int.natCast_pow] at this
  exact this
theorem ref_round (l : List S34) (hl : l.length ≤ 9223372036854775806) (k i : Nat) (n wide : Int) (h : i < l.length) (hk : 17 < k) (w0 : 0 ≤ wide) (w1 : wide ≤ 16) :
    lapwingref01_Pack.l0 (k + 1 + 1 + 1) l n wide (i : Int) = if good l[i] then (if wide ≤ 8 then lapwingref01_Pack.l0 k l (wrap64 (n + wrap64 (l[i].f1 * 2 ^ wide.toNat))) (wrap64 (wide + l[i].f0)) ((i + 1 : Nat) : Int) else lapwingref01_Pack.l0 k l n wide ((i + 1 : Nat) : Int)) else some (0, 2) := by
  have hi1 : wrap64 ((i : Int) + 1) = ((i + 1 : Nat) : Int) := w64 (by omega) (by omega)
  rw [lapwingref01_Pack.l0, if_pos (by omega), if_pos (by omega), rd_at l i h]
  by_cases h1 : l[i].f0 < 1
  · have ng : ¬ good l[i] := fun g => by have := g.1; omega
    rw [if_pos h1, if_neg ng, lapwingref01_Pack.j1]; exact if_pos rfl
  · rw [if_neg h1]
    by_cases h2 : l[i].f0 > 8
    · have ng : ¬ good l[i] := fun g => by have := g.2.1; omega
      rw [decide_eq_true h2, if_neg ng, lapwingref01_Pack.j1]; exact if_pos rfl
    · rw [decide_eq_false h2, lapwingref01_Pack.j1]
      refine Eq.trans (if_neg (by decide)) ?_
      refine bind_at (power_eq (k + 1) (by omega) l[i].f0 (by omega) (by omega)) ?_
      rw [if_pos (by omega), if_pos (by omega), rd_at l i h]
      by_cases h3 : l[i].f1 < 0
      · have ng : ¬ good l[i] := fun g => by have := g.2.2.1; omega
        rw [if_pos h3, if_neg ng, lapwingref01_Pack.j2]; exact if_pos rfl
      · rw [if_neg h3]
        by_cases h4 : l[i].f1 ≥ 2 ^ l[i].f0.toNat
        · have ng : ¬ good l[i] := fun g => by have := g.2.2.2; omega
          rw [decide_eq_true h4, if_neg ng, lapwingref01_Pack.j2]; exact if_pos rfl
        · have hg : good l[i] := ⟨by omega, by omega, by omega, by omega⟩
          rw [decide_eq_false h4, if_pos hg, lapwingref01_Pack.j2]
          refine Eq.trans (if_neg (by decide)) ?_
          by_cases h5 : wide ≤ 8
          · rw [if_pos h5, if_pos h5]
            refine bind_at (power_eq k hk wide w0 w1) ?_
            rw [if_pos (by omega), if_pos (by omega), rd_at l i h, hi1]
          · rw [if_neg h5, if_neg h5, hi1]
theorem ref_over (l : List S34) (hl : l.length ≤ 9223372036854775806) (d : Nat) : ∀ (k i : Nat) (n wide : Int), i + d = l.length → 3 * d + 20 < k → 9 ≤ wide → wide ≤ 16 →
    lapwingref01_Pack.l0 k l n wide (i : Int) = some (pk 9 0 (l.drop i)) := by
  induction d with
  | zero =>
    intro k i n wide h hk h9 h16
    obtain ⟨k, rfl⟩ : ∃ m, k = m + 1 := ⟨k - 1, by omega⟩
    rw [lapwingref01_Pack.l0, if_neg (by omega), if_pos (by omega), List.drop_of_length_le (by omega)]; rfl
  | succ d ih =>
    intro k i n wide h hk h9 h16
    obtain ⟨k, rfl⟩ : ∃ m, k = m + 1 + 1 + 1 := ⟨k - 3, by omega⟩
    have hi : i < l.length := by omega
    rw [List.drop_eq_getElem_cons hi, ref_round l hl k i n wide hi (by omega) (by omega) h16]
    by_cases hg : good l[i]
    · rw [if_pos hg, if_neg (by omega), pk, if_pos hg, if_neg (by decide)]
      exact ih k (i + 1) n wide (by omega) (by omega) h9 h16
    · rw [if_neg hg, pk, if_neg hg]
theorem pk_over (n : Nat) (fs : List S34) : pk 9 n fs = pk 9 0 fs := by
  cases fs with
  | nil => rfl
  | cons f fs => simp only [pk]; simp
theorem ref_loop (l : List S34) (hl : l.length ≤ 9223372036854775806) (d : Nat) : ∀ (k i out low : Nat), i + d = l.length → 3 * d + 20 < k → low ≤ 8 → out < 2 ^ low →
    lapwingref01_Pack.l0 k l (out : Int) (low : Int) (i : Int) = some (pk low out (l.drop i)) := by
  induction d with
  | zero =>
    intro k i out low h hk h8 ho
    obtain ⟨k, rfl⟩ : ∃ m, k = m + 1 := ⟨k - 1, by omega⟩
    rw [lapwingref01_Pack.l0, if_neg (by omega), if_neg (by omega), List.drop_of_length_le (by omega), pk, if_neg (by omega)]
  | succ d ih =>
    intro k i out low h hk h8 ho
    obtain ⟨k, rfl⟩ : ∃ m, k = m + 1 + 1 + 1 := ⟨k - 3, by omega⟩
    have hi : i < l.length := by omega
    rw [List.drop_eq_getElem_cons hi, ref_round l hl k i out low hi (by omega) (by omega) (by omega)]
    by_cases hg : good l[i]
    · have hs := small_pow _ hg
      have hn := nat_lt _ hg
      have h1 := hg.1
      have h2 := hg.2.1
      have h3 := hg.2.2.1
      have hp8 : (2 : Nat) ^ low ≤ 2 ^ 8 := Nat.pow_le_pow_right (by decide) h8
      have hv : l[i].f1.toNat * 2 ^ low ≤ 255 * 256 := Nat.mul_le_mul (by omega) hp8
      have hm : l[i].f1 * 2 ^ (low : Int).toNat = ((l[i].f1.toNat * 2 ^ low : Nat) : Int) := by
        rw [Int.toNat_natCast, Int.natCast_mul, Int.natCast_pow, Int.toNat_of_nonneg h3]; rfl
      rw [if_pos hg, if_pos (by omega), hm, pk, if_pos hg, if_pos h8]
      have ho8 : out < 256 := Nat.lt_of_lt_of_le ho hp8
      rw [w64 (n := ((l[i].f1.toNat * 2 ^ low : Nat) : Int)) (by omega) (by omega), w64 (n := (out : Int) + ((l[i].f1.toNat * 2 ^ low : Nat) : Int)) (by omega) (by omega), w64 (n := (low : Int) + l[i].f0) (by omega) (by omega)]
      have hsum : out + l[i].f1.toNat * 2 ^ low < 2 ^ (low + l[i].f0.toNat) := by
        have h2 : (l[i].f1.toNat + 1) * 2 ^ low ≤ 2 ^ l[i].f0.toNat * 2 ^ low := Nat.mul_le_mul_right _ hn
        rw [Nat.pow_add, Nat.mul_comm (2 ^ low)]
        rw [Nat.add_mul] at h2
        omega
      by_cases hle : low + l[i].f0.toNat ≤ 8
      · rw [show min (low + l[i].f0.toNat) 9 = low + l[i].f0.toNat from by omega]
        rw [show (out : Int) + ((l[i].f1.toNat * 2 ^ low : Nat) : Int) = ((out + l[i].f1.toNat * 2 ^ low : Nat) : Int) from by omega, show (low : Int) + l[i].f0 = ((low + l[i].f0.toNat : Nat) : Int) from by omega]
        exact ih k (i + 1) _ _ (by omega) (by omega) hle hsum
      · rw [show min (low + l[i].f0.toNat) 9 = 9 from by omega, pk_over]
        exact ref_over l hl d k (i + 1) _ _ (by omega) (by omega) (by omega) (by omega)
    · rw [if_neg hg, pk, if_neg hg]
theorem rpack_eq (l : List S34) (k : Nat) (hl : l.length ≤ 9223372036854775806) (hk : 3 * l.length + 20 < k) : lapwingref01_Pack.f k l = some (pk 0 0 l) := by
  have := ref_loop l hl l.length k 0 0 0 (by omega) hk (by omega) (by omega)
  rw [List.drop_zero] at this
  exact this
theorem first_pack : pk 0 0 [(⟨1, 1⟩ : S34), (⟨1, 0⟩ : S34), (⟨6, 63⟩ : S34)] = (253, 0) := by decide +kernel
theorem packs_true (l : List S34) : ∃ k, lapwinglaw01_BitsPacks.f k l = some true := by
  obtain ⟨k, hk⟩ : ∃ k, 200 < k := ⟨201, by omega⟩
  refine ⟨k, ?_⟩
  unfold lapwinglaw01_BitsPacks.f
  have hm : mn (l.length : Int) 50 = ((min l.length 50 : Nat) : Int) := by unfold mn; omega
  rw [hm, if_pos (by omega), if_pos (by omega), Int.toNat_natCast]
  have ht : (l.take (min l.length 50)).length ≤ 50 := by rw [List.length_take]; omega
  refine bind_at rfl ?_
  refine bind_at (pack_eq _ k (by omega) (by omega)) (bind_at (rpack_eq _ k (by omega) (by omega)) ?_)
  have hf : bits_Pack.f k [(⟨1, 1⟩ : S34), (⟨1, 0⟩ : S34), (⟨6, 63⟩ : S34)] = some (253, 0) := by
    rw [pack_eq _ k (by show 3 ≤ 9223372036854775806; omega) (by show 3 < k; omega), first_pack]
  refine bind_at hf (Eq.trans (if_pos rfl) (Eq.trans (if_pos rfl) ?_))
  rw [beq_self_eq_true]
end Go.Proofs.Ytjgcoidfkpjeiaa.Pack
