/- What the printed functions of package addr come to (for AddrTurned): an address' octets; the law's waking; the plain statement of AddrTurned. No condition. -/
import Derived.Test.YtbppngopiackcaaPackT
import Derived.Test.YtbppngopiackcaaTurn4
namespace Go.Proofs.Ytbppngopiackcaa.TeiT
open Go.RowKit Go.Proofs.YtbppngopiackcaaW.PrintWords Go.Proofs.YtbppngopiackcaaW.PrintLast Go.Proofs.YtbppngopiackcaaW.PrintMore Go.Proofs.Ytbppngopiackcaa.Str Go.Proofs.Ytbppngopiackcaa.Field Go.Proofs.Ytbppngopiackcaa.PackT Go.Proofs.Ytbppngopiackcaa.Turn
def num (b : Bool) : Int := if b then 1 else 0
theorem num_range (b : Bool) : 0 ≤ num b ∧ num b ≤ 1 := by cases b <;> simp [num]
theorem one_eq (b : Bool) : addr_one.f b = some (num b) := by cases b <;> rfl
theorem pk_last (low n : Nat) (h : low ≤ 8) : pk low n [] = ((n : Int) % 256, 0) := by rw [pk, if_neg (by omega)]
theorem pk_good (low n w : Nat) (v : Int) (fs : List S61) (hw : 1 ≤ w) (hw8 : w ≤ 8) (h0 : 0 ≤ v) (hv : v < 2 ^ w) (hl : low + w ≤ 8) :
    pk low n (⟨(w : Int), v⟩ :: fs) = pk (low + w) (n + v.toNat * 2 ^ low) fs := by
  have hg : good (⟨(w : Int), v⟩ : S61) := ⟨by show (1 : Int) ≤ w; omega, by show (w : Int) ≤ 8; omega, h0, by show v < 2 ^ (w : Int).toNat; simpa using hv⟩
  rw [pk, if_pos hg, if_pos (by omega)]
  show pk (min (low + (w : Int).toNat) 9) _ fs = _
  rw [Int.toNat_natCast, show min (low + w) 9 = low + w from by omega]
theorem pk_bad (low n w : Nat) (v : Int) (fs : List S61) (h : ¬ (0 ≤ v ∧ v < 2 ^ w)) : pk low n (⟨(w : Int), v⟩ :: fs) = (0, 2) := by
  rw [pk, if_neg]
  intro hg
  exact h ⟨hg.2.2.1, by have := hg.2.2.2; simpa using this⟩
theorem pk3 (c s : Int) (hc : 0 ≤ c ∧ c ≤ 1) : pk 0 0 [(⟨1, 0⟩ : S61), (⟨1, c⟩ : S61), (⟨6, s⟩ : S61)] = if 0 ≤ s ∧ s < 64 then (4 * s + 2 * c, 0) else (0, 2) := by
  have a := pk_good 0 0 1 0 [(⟨1, c⟩ : S61), (⟨6, s⟩ : S61)] (by omega) (by omega) (by omega) (by decide) (by omega)
  have b := pk_good 1 (0 + (0 : Int).toNat * 2 ^ 0) 1 c [(⟨6, s⟩ : S61)] (by omega) (by omega) hc.1 (by omega) (by omega)
  refine Eq.trans a (Eq.trans b ?_)
  by_cases h : 0 ≤ s ∧ s < 64
  · rw [if_pos h]
    have d := pk_good 2 (0 + (0 : Int).toNat * 2 ^ 0 + c.toNat * 2 ^ 1) 6 s [] (by omega) (by omega) h.1 (by omega) (by omega)
    refine Eq.trans d ?_
    rw [pk_last _ _ (by omega)]
    congr 1; omega
  · rw [if_neg h]
    exact pk_bad 2 _ 6 s [] (by intro q; exact h ⟨q.1, by omega⟩)
theorem pk2 (c t : Int) (hc : 0 ≤ c ∧ c ≤ 1) : pk 0 0 [(⟨1, c⟩ : S61), (⟨7, t⟩ : S61)] = if 0 ≤ t ∧ t < 128 then (2 * t + c, 0) else (0, 2) := by
  have a := pk_good 0 0 1 c [(⟨7, t⟩ : S61)] (by omega) (by omega) hc.1 (by omega) (by omega)
  refine Eq.trans a ?_
  by_cases h : 0 ≤ t ∧ t < 128
  · rw [if_pos h]
    have d := pk_good 1 (0 + c.toNat * 2 ^ 0) 7 t [] (by omega) (by omega) h.1 (by omega) (by omega)
    refine Eq.trans d ?_
    rw [pk_last _ _ (by omega)]
    congr 1; omega
  · rw [if_neg h]
    exact pk_bad 1 _ 7 t [] (by intro q; exact h ⟨q.1, by omega⟩)

def okA (s t : Int) : Prop := (0 ≤ s ∧ s < 64) ∧ (0 ≤ t ∧ t < 128)
instance (s t : Int) : Decidable (okA s t) := by unfold okA; infer_instance
def putA (s t : Int) (cr : Bool) : ByteArray × Int := if okA s t then (strOfNums [4 * s + 2 * num cr, 2 * t + 1], 0) else (⟨#[]⟩, 2)
theorem put_eq (k : Nat) (hk : 3 < k) (s t : Int) (cr : Bool) : addr_Put.f k s t cr = some (putA s t cr) := by
  have h3 : bits_Pack.f k [(⟨1, 0⟩ : S61), (⟨1, num cr⟩ : S61), (⟨6, s⟩ : S61)] = some (if 0 ≤ s ∧ s < 64 then (4 * s + 2 * num cr, 0) else (0, 2)) := by
    rw [pack_eq _ k (by show 3 ≤ 9223372036854775806; omega) (by show 3 < k; omega), pk3 _ _ (num_range cr)]
  have h2 : bits_Pack.f k [(⟨1, 1⟩ : S61), (⟨7, t⟩ : S61)] = some (if 0 ≤ t ∧ t < 128 then (2 * t + 1, 0) else (0, 2)) := by
    rw [pack_eq _ k (by show 2 ≤ 9223372036854775806; omega) (by show 2 < k; omega), pk2 _ _ (by decide)]
  unfold addr_Put.f
  refine bind_at (one_eq cr) (bind_at h3 (bind_at h2 ?_))
  unfold putA
  by_cases hs : 0 ≤ s ∧ s < 64
  · by_cases ht : 0 ≤ t ∧ t < 128
    · rw [if_pos hs, if_pos ht, if_pos rfl, if_pos rfl, if_pos (show okA s t from ⟨hs, ht⟩)]
    · rw [if_pos hs, if_neg ht, if_pos rfl, if_neg (by decide), if_neg (fun h : okA s t => ht h.2)]
  · rw [if_neg hs, if_neg (by decide), if_neg (fun h : okA s t => hs h.1)]
theorem kindOf (k : Nat) (hk : 0 < k) (t : Int) : addr_KindOf.f k t = some (if t < 0 ∨ t > 127 then 0 else if t < 64 then 1 else if t ≤ 126 then 2 else 3) := by
  obtain ⟨k, rfl⟩ : ∃ m, k = m + 1 := ⟨k - 1, by omega⟩
  unfold addr_KindOf.f
  by_cases h1 : t < 0
  · rw [if_pos h1, if_pos (Or.inl h1), addr_KindOf.j0, if_pos rfl]
  · rw [if_neg h1, addr_KindOf.j0]
    by_cases h2 : t > 127
    · rw [if_pos (by simpa using h2), if_pos (Or.inr h2)]
    · rw [if_neg (by simpa using h2)]
      have h5 : ¬ (t < 0 ∨ t > 127) := by omega
      by_cases h3 : t < 64
      · rw [if_pos h3, if_neg h5, if_pos h3]
      · rw [if_neg h3]
        by_cases h4 : t ≤ 126
        · rw [if_pos h4, if_neg h5, if_neg h3, if_pos h4]
        · rw [if_neg h4, if_neg h5, if_neg h3, if_neg h4]
theorem first_put : (strOfNums [2, 129]).toList = [2, 129] := by decide +kernel
theorem wakes_eq (k : Nat) (hk : 3 < k) : lapwinglaw04_wakes.f k = some true := by
  unfold lapwinglaw04_wakes.f
  have h : addr_Put.f k 0 64 true = some (strOfNums [2, 129], 0) := put_eq k hk 0 64 true
  refine bind_at (show addr_Make.f 0 64 true true = some (0, 64, true) from rfl) (bind_at h ?_)
  refine Eq.trans (if_pos rfl) (Eq.trans (if_pos first_put) ?_)
  exact bind_at (kindOf k (by omega) 64) rfl
theorem make_eq (s t : Int) (c w : Bool) : addr_Make.f s t c w = some (s, t, (c == w)) := rfl
theorem command_eq (s t : Int) (c w : Bool) : addr_Address_Command.f s t c w = some (c == w) := rfl
end Go.Proofs.Ytbppngopiackcaa.TeiT
