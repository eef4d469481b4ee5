/- What the printed bits.Pack comes to: fields laid one above the other, or its error. Plain Lean over the printed function. -/
import Derived.Test.YtmgiolpooamkkaaDoorStr
import Derived.Test.YtmgiolpooamkkaaDoorArith
import Derived.Test.YtmgiolpooamkkaaDoorOnly2
namespace Go.Proofs.YtmgiolpooamkkaaDoor.PackO
open Go.RowKit Go.Proofs.YtmgiolpooamkkaaDoorW.PrintWords Go.Proofs.YtmgiolpooamkkaaDoorW.PrintLast Go.Proofs.YtmgiolpooamkkaaDoorW.PrintMore Go.Proofs.YtmgiolpooamkkaaDoor.Str Go.Proofs.YtmgiolpooamkkaaDoor.Field Go.Proofs.YtmgiolpooamkkaaDoor.Only

/-- A field as it may be: a width, a number below it. -/
def good (f : S58) : Prop := 1 ≤ f.f0 ∧ f.f0 ≤ 8 ∧ 0 ≤ f.f1 ∧ f.f1 < 2 ^ f.f0.toNat
instance (f : S58) : Decidable (good f) := by unfold good; infer_instance
/-- Behind n, of so many bits (9: more than eight): the rest's answer. -/
def pk : Nat → Nat → List S58 → Int × Int
  | low, n, [] => if low > 8 then (0, 5) else ((n : Int) % 256, 0)
  | low, n, f :: fs => if good f then (if low ≤ 8 then pk (min (low + f.f0.toNat) 9) (n + f.f1.toNat * 2 ^ low) fs else pk 9 0 fs) else (0, 2)
theorem rd_at (l : List S58) (i : Nat) (h : i < l.length) : rd_T58 l (i : Int) = l[i] := by
  unfold rd_T58
  rw [Int.toNat_natCast, List.getD_eq_getElem?_getD, List.getElem?_eq_getElem h]; rfl

theorem round_bad (l : List S58) (k i : Nat) (out low : Int) (h : i < l.length) (_hl : l.length ≤ 9223372036854775806) (hb : ¬ good l[i]) :
    bits_Pack.l0 (k + 1) out low l (l.length : Int) (i : Int) = some (0, 2) := by
  rw [bits_Pack.l0, if_pos (by omega), if_pos (by omega), if_pos (by omega), rd_at l i h]
  generalize l[i] = f at *
  unfold good at hb
  by_cases h1 : f.f0 < 1
  · rw [if_pos h1]
  · rw [if_neg h1]
    by_cases h2 : f.f0 > 8
    · rw [if_pos h2]
    · rw [if_neg h2]
      by_cases h3 : f.f1 < 0
      · rw [if_pos h3]
      · rw [if_neg h3, if_pos (by omega)]
        have hs : ¬ shr .i64 f.f1 f.f0 = 0 := by
          unfold shr
          rw [show min f.f0.toNat (IntKind.i64).bits = f.f0.toNat from by show min f.f0.toNat 64 = _; omega]
          intro hz
          have hp : (0 : Int) < 2 ^ f.f0.toNat := Int.pow_pos (by decide)
          have hg : ¬ f.f1 < 2 ^ f.f0.toNat := fun h5 => hb ⟨by omega, by omega, by omega, h5⟩
          generalize (2 : Int) ^ f.f0.toNat = p at *
          have := Int.le_ediv_of_mul_le hp (show 1 * p ≤ f.f1 by omega)
          omega
        rw [if_neg hs]

theorem small_pow (f : S58) (h : good f) : f.f1 ≤ 255 ∧ (2 : Int) ^ f.f0.toNat ≤ 256 := by
  obtain ⟨h1, h2, h3, h4⟩ := h
  have h5 : (2 : Nat) ^ f.f0.toNat ≤ 2 ^ 8 := Nat.pow_le_pow_right (by decide) (by omega)
  have h6 : (2 : Int) ^ f.f0.toNat ≤ 256 := by
    have h7 : (((2 : Nat) ^ f.f0.toNat : Nat) : Int) ≤ 256 := by omega
    rw [Int.natCast_pow] at h7; exact h7
  omega
theorem shr_none (f : S58) (h : good f) : shr .i64 f.f1 f.f0 = 0 := by
  obtain ⟨h1, h2, h3, h4⟩ := h
  unfold shr
  rw [show min f.f0.toNat (IntKind.i64).bits = f.f0.toNat from by show min f.f0.toNat 64 = _; omega]
  exact Int.ediv_eq_zero_of_lt h3 h4
theorem nat_lt (f : S58) (h : good f) : f.f1.toNat < 2 ^ f.f0.toNat := by
  obtain ⟨h1, h2, h3, h4⟩ := h
  have : ((f.f1.toNat : Nat) : Int) < ((2 ^ f.f0.toNat : Nat) : Int) := by rw [Int.toNat_of_nonneg h3]; exact_mod_cast h4
  exact_mod_cast this
/-- One field more, with the bits' number so far. -/
theorem round_good (l : List S58) (k i out low : Nat) (h : i < l.length) (hl : l.length ≤ 9223372036854775806) (hg : good l[i]) (hlow : low ≤ 9) :
    bits_Pack.l0 (k + 1) (out : Int) (low : Int) l (l.length : Int) (i : Int) =
      bits_Pack.l0 k (Go.bits .or .i64 (out : Int) ((l[i].f1.toNat * 2 ^ min low 8 : Nat) : Int)) ((min (low + l[i].f0.toNat) 9 : Nat) : Int) l (l.length : Int) ((i + 1 : Nat) : Int) := by
  have hs := small_pow _ hg
  have hq := shr_none _ hg
  rw [bits_Pack.l0, if_pos (by omega), if_pos (by omega), if_pos (by omega), rd_at l i h]
  generalize l[i] = f at *
  obtain ⟨h1, h2, h3, h4⟩ := hg
  have e1 : mn (low : Int) 8 = ((min low 8 : Nat) : Int) := mn_nat low 8
  have e2 : wrap64 ((low : Int) + f.f0) = ((low + f.f0.toNat : Nat) : Int) := by rw [w64 (by omega) (by omega)]; omega
  have e3 : mn ((low + f.f0.toNat : Nat) : Int) 9 = ((min (low + f.f0.toNat) 9 : Nat) : Int) := mn_nat _ 9
  have e4 : wrap64 ((i : Int) + 1) = ((i + 1 : Nat) : Int) := by rw [w64 (by omega) (by omega)]; omega
  have hm : (2 : Nat) ^ min low 8 ≤ 2 ^ 8 := Nat.pow_le_pow_right (by decide) (by omega)
  have e5 : wrap64 (f.f1 * 2 ^ (min low 8)) = ((f.f1.toNat * 2 ^ min low 8 : Nat) : Int) := by
    obtain ⟨v, hv⟩ := Int.eq_ofNat_of_zero_le h3
    rw [hv] at hs ⊢
    rw [Int.toNat_natCast, show ((v : Int) * 2 ^ min low 8) = ((v * 2 ^ min low 8 : Nat) : Int) from by push_cast; rfl]
    have : v * 2 ^ min low 8 ≤ 255 * 256 := Nat.mul_le_mul (by omega) hm
    rw [w64 (by omega) (by omega)]
  rw [if_neg (by omega), if_neg (by omega), if_neg (by omega), if_pos (by omega), if_pos hq, e1, if_pos (by omega), Int.toNat_natCast, e5, e2, e3, e4]

theorem over_loop (l : List S58) (hl : l.length ≤ 9223372036854775806) (d : Nat) : ∀ (k i out : Nat), i + d = l.length → d < k → out < 2 ^ 17 →
    bits_Pack.l0 k (out : Int) 9 l (l.length : Int) (i : Int) = some (pk 9 0 (l.drop i)) := by
  induction d with
  | zero =>
    intro k i out h hk _
    obtain ⟨k, rfl⟩ : ∃ m, k = m + 1 := ⟨k - 1, by omega⟩
    rw [bits_Pack.l0, if_neg (by omega), if_pos (by omega), List.drop_of_length_le (by omega)]; rfl
  | succ d ih =>
    intro k i out h hk ho
    obtain ⟨k, rfl⟩ : ∃ m, k = m + 1 := ⟨k - 1, by omega⟩
    have hi : i < l.length := by omega
    rw [List.drop_eq_getElem_cons hi]
    by_cases hg : good l[i]
    · have hr := round_good l k i out 9 hi hl hg (by omega)
      have hs := small_pow _ hg
      have hv : l[i].f1.toNat * 2 ^ min 9 8 < 2 ^ 17 := by
        have : l[i].f1.toNat * 2 ^ min 9 8 ≤ 255 * 256 := Nat.mul_le_mul (by omega) (by decide)
        omega
      obtain ⟨c, hc, hc2⟩ := or_some out (l[i].f1.toNat * 2 ^ min 9 8) 17 (by decide) ho hv
      rw [hc, show min (9 + l[i].f0.toNat) 9 = 9 from by omega] at hr
      refine Eq.trans hr (Eq.trans (ih k (i + 1) c (by omega) (by omega) hc2) ?_)
      rw [pk, if_pos hg, if_neg (by decide)]
    · rw [round_bad l k i _ _ hi hl hg, pk, if_neg hg]

theorem pack_loop (l : List S58) (hl : l.length ≤ 9223372036854775806) (d : Nat) : ∀ (k i out low : Nat), i + d = l.length → d < k → low ≤ 8 → out < 2 ^ low →
    bits_Pack.l0 k (out : Int) (low : Int) l (l.length : Int) (i : Int) = some (pk low out (l.drop i)) := by
  induction d with
  | zero =>
    intro k i out low h hk h8 ho
    obtain ⟨k, rfl⟩ : ∃ m, k = m + 1 := ⟨k - 1, by omega⟩
    rw [bits_Pack.l0, if_neg (by omega), if_neg (by omega), List.drop_of_length_le (by omega), pk, if_neg (by omega)]
  | succ d ih =>
    intro k i out low h hk h8 ho
    obtain ⟨k, rfl⟩ : ∃ m, k = m + 1 := ⟨k - 1, by omega⟩
    have hi : i < l.length := by omega
    rw [List.drop_eq_getElem_cons hi]
    by_cases hg : good l[i]
    · have hr := round_good l k i out low hi hl hg (by omega)
      have hs := small_pow _ hg
      have hn := nat_lt _ hg
      have h1 := hg.1
      rw [show min low 8 = low from by omega] at hr
      have hp8 : (2 : Nat) ^ low ≤ 2 ^ 8 := Nat.pow_le_pow_right (by decide) h8
      have hv : l[i].f1.toNat * 2 ^ low ≤ 255 * 256 := Nat.mul_le_mul (by omega) hp8
      rw [or_add low out _ ho (by omega) (by omega)] at hr
      refine Eq.trans hr ?_
      rw [pk, if_pos hg, if_pos h8]
      have hsum : out + l[i].f1.toNat * 2 ^ low < 2 ^ (low + l[i].f0.toNat) := by
        have h2 : (l[i].f1.toNat + 1) * 2 ^ low ≤ 2 ^ l[i].f0.toNat * 2 ^ low := Nat.mul_le_mul_right _ hn
        rw [Nat.pow_add, Nat.mul_comm (2 ^ low)]
        rw [Nat.add_mul] at h2
        omega
      by_cases hle : low + l[i].f0.toNat ≤ 8
      · rw [show min (low + l[i].f0.toNat) 9 = low + l[i].f0.toNat from by omega]
        exact ih k (i + 1) _ _ (by omega) (by omega) hle hsum
      · rw [show min (low + l[i].f0.toNat) 9 = 9 from by omega]
        refine Eq.trans (over_loop l hl d k (i + 1) _ (by omega) (by omega) (by omega)) ?_
        cases hd : l.drop (i + 1) with
        | nil => rfl
        | cons f fs => simp only [pk]; simp
    · rw [round_bad l k i _ _ hi hl hg, pk, if_neg hg]
theorem pack_eq (l : List S58) (k : Nat) (hl : l.length ≤ 9223372036854775806) (hk : l.length < k) : bits_Pack.f k l = some (pk 0 0 l) := by
  have := pack_loop l hl l.length k 0 0 0 (by omega) hk (by omega) (by omega)
  rw [List.drop_zero] at this
  exact this
end Go.Proofs.YtmgiolpooamkkaaDoor.PackO
