/- Fields laid one above the other: the small rows of fields that the program lays. Plain Lean over the printed bits.Pack. -/
import Derived.Test.YtmgiolpooamkkaaDoorPackO
namespace Go.Proofs.YtmgiolpooamkkaaDoor.PackO
open Go.RowKit Go.Proofs.YtmgiolpooamkkaaDoorW.PrintWords Go.Proofs.YtmgiolpooamkkaaDoorW.PrintLast Go.Proofs.YtmgiolpooamkkaaDoorW.PrintMore Go.Proofs.YtmgiolpooamkkaaDoor.Str Go.Proofs.YtmgiolpooamkkaaDoor.Field Go.Proofs.YtmgiolpooamkkaaDoor.Only
theorem pk_last (low n : Nat) (h : low ≤ 8) : pk low n [] = ((n : Int) % 256, 0) := by rw [pk, if_neg (by omega)]
theorem pk_good (low n w : Nat) (v : Int) (fs : List S58) (hw : 1 ≤ w) (hw8 : w ≤ 8) (h0 : 0 ≤ v) (hv : v < 2 ^ w) (hl : low + w ≤ 8) :
    pk low n (⟨(w : Int), v⟩ :: fs) = pk (low + w) (n + v.toNat * 2 ^ low) fs := by
  have hg : good (⟨(w : Int), v⟩ : S58) := ⟨by show (1 : Int) ≤ w; omega, by show (w : Int) ≤ 8; omega, h0, by show v < 2 ^ (w : Int).toNat; simpa using hv⟩
  rw [pk, if_pos hg, if_pos (by omega)]
  show pk (min (low + (w : Int).toNat) 9) _ fs = _
  rw [Int.toNat_natCast, show min (low + w) 9 = low + w from by omega]
theorem pk_bad (low n w : Nat) (v : Int) (fs : List S58) (h : ¬ (0 ≤ v ∧ v < 2 ^ w)) : pk low n (⟨(w : Int), v⟩ :: fs) = (0, 2) := by
  rw [pk, if_neg]
  intro hg
  exact h ⟨hg.2.2.1, by have := hg.2.2.2; simpa using this⟩
theorem pk3 (c s : Int) (hc : 0 ≤ c ∧ c ≤ 1) : pk 0 0 [(⟨1, 0⟩ : S58), (⟨1, c⟩ : S58), (⟨6, s⟩ : S58)] = if 0 ≤ s ∧ s < 64 then (4 * s + 2 * c, 0) else (0, 2) := by
  have a := pk_good 0 0 1 0 [(⟨1, c⟩ : S58), (⟨6, s⟩ : S58)] (by omega) (by omega) (by omega) (by decide) (by omega)
  have b := pk_good 1 (0 + (0 : Int).toNat * 2 ^ 0) 1 c [(⟨6, s⟩ : S58)] (by omega) (by omega) hc.1 (by omega) (by omega)
  refine Eq.trans a (Eq.trans b ?_)
  by_cases h : 0 ≤ s ∧ s < 64
  · rw [if_pos h]
    have d := pk_good 2 (0 + (0 : Int).toNat * 2 ^ 0 + c.toNat * 2 ^ 1) 6 s [] (by omega) (by omega) h.1 (by omega) (by omega)
    refine Eq.trans d ?_
    rw [pk_last _ _ (by omega)]
    congr 1; omega
  · rw [if_neg h]
    exact pk_bad 2 _ 6 s [] (by intro q; exact h ⟨q.1, by omega⟩)
theorem pk2 (c t : Int) (hc : 0 ≤ c ∧ c ≤ 1) : pk 0 0 [(⟨1, c⟩ : S58), (⟨7, t⟩ : S58)] = if 0 ≤ t ∧ t < 128 then (2 * t + c, 0) else (0, 2) := by
  have a := pk_good 0 0 1 c [(⟨7, t⟩ : S58)] (by omega) (by omega) hc.1 (by omega) (by omega)
  refine Eq.trans a ?_
  by_cases h : 0 ≤ t ∧ t < 128
  · rw [if_pos h]
    have d := pk_good 1 (0 + c.toNat * 2 ^ 0) 7 t [] (by omega) (by omega) h.1 (by omega) (by omega)
    refine Eq.trans d ?_
    rw [pk_last _ _ (by omega)]
    congr 1; omega
  · rw [if_neg h]
    exact pk_bad 1 _ 7 t [] (by intro q; exact h ⟨q.1, by omega⟩)

theorem pack_two (k : Nat) (hk : 3 < k) (c t : Int) (hc : 0 ≤ c ∧ c ≤ 1) : bits_Pack.f k [(⟨1, c⟩ : S58), (⟨7, t⟩ : S58)] = some (if 0 ≤ t ∧ t < 128 then (2 * t + c, 0) else (0, 2)) := by
  rw [pack_eq _ k (by show 2 ≤ 9223372036854775806; omega) (by show 2 < k; omega), pk2 _ _ hc]
theorem pack_three (k : Nat) (hk : 3 < k) (c s : Int) (hc : 0 ≤ c ∧ c ≤ 1) : bits_Pack.f k [(⟨1, 0⟩ : S58), (⟨1, c⟩ : S58), (⟨6, s⟩ : S58)] = some (if 0 ≤ s ∧ s < 64 then (4 * s + 2 * c, 0) else (0, 2)) := by
  rw [pack_eq _ k (by show 3 ≤ 9223372036854775806; omega) (by show 3 < k; omega), pk3 _ _ hc]
end Go.Proofs.YtmgiolpooamkkaaDoor.PackO
