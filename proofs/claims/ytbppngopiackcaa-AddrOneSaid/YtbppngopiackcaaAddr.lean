/- What the printed functions of package addr come to: an address' two octets, or the error; the address that octets begin with. Plain Lean over the printed functions. -/
import Derived.Test.YtbppngopiackcaaPack
import Derived.Test.YtbppngopiackcaaField
namespace Go.Proofs.Ytbppngopiackcaa.Addr
open Go.RowKit Go.Proofs.YtbppngopiackcaaW.PrintWords Go.Proofs.YtbppngopiackcaaW.PrintLast Go.Proofs.YtbppngopiackcaaW.PrintMore Go.Proofs.Ytbppngopiackcaa.Str Go.Proofs.Ytbppngopiackcaa.Field Go.Proofs.Ytbppngopiackcaa.Pack Go.Proofs.Ytbppngopiackcaa.Print

def num (b : Bool) : Int := if b then 1 else 0
theorem num_range (b : Bool) : 0 ≤ num b ∧ num b ≤ 1 := by cases b <;> simp [num]
theorem one_eq (b : Bool) : addr_one.f b = some (num b) := by cases b <;> rfl
theorem pk_last (low n : Nat) (h : low ≤ 8) : pk low n [] = ((n : Int) % 256, 0) := by rw [pk, if_neg (by omega)]
theorem pk_good (low n w : Nat) (v : Int) (fs : List S61) (hw : 1 ≤ w) (hw8 : w ≤ 8) (h0 : 0 ≤ v) (hv : v < 2 ^ w) (hl : low + w ≤ 8) :
    pk low n (⟨(w : Int), v⟩ :: fs) = pk (low + w) (n + v.toNat * 2 ^ low) fs := by
  have hg : good (⟨(w : Int), v⟩ : S61) := ⟨by show (1 : Int) ≤ w; omega, by show (w : Int) ≤ 8; omega, h0, by show v < 2 ^ (w : Int).toNat; simpa using hv⟩
  rw [pk, if_pos hg, if_pos (by omega)]
  show pk (min (low + (w : Int).toNat) 9) _ fs = _
  rw [Int.toNat_natCast, show min (low + w) 9 = low + w from by omega]
theorem pk_bad (low n w : Nat) (v : Int) (fs : List S61) (h : ¬ (0 ≤ v ∧ v < 2 ^ w)) : pk low n (⟨(w : Int), v⟩ :: fs) = (0, 2) := by
  rw [pk, if_neg]
  intro hg
  exact h ⟨hg.2.2.1, by have := hg.2.2.2; simpa using this⟩
theorem pk3 (c s : Int) (hc : 0 ≤ c ∧ c ≤ 1) : pk 0 0 [(⟨1, 0⟩ : S61), (⟨1, c⟩ : S61), (⟨6, s⟩ : S61)] = if 0 ≤ s ∧ s < 64 then (4 * s + 2 * c, 0) else (0, 2) := by
  have a := pk_good 0 0 1 0 [(⟨1, c⟩ : S61), (⟨6, s⟩ : S61)] (by omega) (by omega) (by omega) (by decide) (by omega)
  have b := pk_good 1 (0 + (0 : Int).toNat * 2 ^ 0) 1 c [(⟨6, s⟩ : S61)] (by omega) (by omega) hc.1 (by omega) (by omega)
  refine Eq.trans a (Eq.trans b ?_)
  by_cases h : 0 ≤ s ∧ s < 64
  · rw [if_pos h]
    have d := pk_good 2 (0 + (0 : Int).toNat * 2 ^ 0 + c.toNat * 2 ^ 1) 6 s [] (by omega) (by omega) h.1 (by omega) (by omega)
    refine Eq.trans d ?_
    rw [pk_last _ _ (by omega)]
    congr 1; omega
  · rw [if_neg h]
    exact pk_bad 2 _ 6 s [] (by intro q; exact h ⟨q.1, by omega⟩)
theorem pk2 (c t : Int) (hc : 0 ≤ c ∧ c ≤ 1) : pk 0 0 [(⟨1, c⟩ : S61), (⟨7, t⟩ : S61)] = if 0 ≤ t ∧ t < 128 then (2 * t + c, 0) else (0, 2) := by
  have a := pk_good 0 0 1 c [(⟨7, t⟩ : S61)] (by omega) (by omega) hc.1 (by omega) (by omega)
  refine Eq.trans a ?_
  by_cases h : 0 ≤ t ∧ t < 128
  · rw [if_pos h]
    have d := pk_good 1 (0 + c.toNat * 2 ^ 0) 7 t [] (by omega) (by omega) h.1 (by omega) (by omega)
    refine Eq.trans d ?_
    rw [pk_last _ _ (by omega)]
    congr 1; omega
  · rw [if_neg h]
    exact pk_bad 1 _ 7 t [] (by intro q; exact h ⟨q.1, by omega⟩)

def okA (s t : Int) : Prop := (0 ≤ s ∧ s < 64) ∧ (0 ≤ t ∧ t < 128)
instance (s t : Int) : Decidable (okA s t) := by unfold okA; infer_instance
def putA (s t : Int) (cr : Bool) : ByteArray × Int := if okA s t then (strOfNums [4 * s + 2 * num cr, 2 * t + 1], 0) else (⟨#[]⟩, 2)
theorem put_eq (k : Nat) (hk : 3 < k) (s t : Int) (cr : Bool) : addr_Put.f k s t cr = some (putA s t cr) := by
  have h3 : bits_Pack.f k [(⟨1, 0⟩ : S61), (⟨1, num cr⟩ : S61), (⟨6, s⟩ : S61)] = some (if 0 ≤ s ∧ s < 64 then (4 * s + 2 * num cr, 0) else (0, 2)) := by
    rw [pack_eq _ k (by show 3 ≤ 9223372036854775806; omega) (by show 3 < k; omega), pk3 _ _ (num_range cr)]
  have h2 : bits_Pack.f k [(⟨1, 1⟩ : S61), (⟨7, t⟩ : S61)] = some (if 0 ≤ t ∧ t < 128 then (2 * t + 1, 0) else (0, 2)) := by
    rw [pack_eq _ k (by show 2 ≤ 9223372036854775806; omega) (by show 2 < k; omega), pk2 _ _ (by decide)]
  unfold addr_Put.f
  refine bind_at (one_eq cr) (bind_at h3 (bind_at h2 ?_))
  unfold putA
  by_cases hs : 0 ≤ s ∧ s < 64
  · by_cases ht : 0 ≤ t ∧ t < 128
    · rw [if_pos hs, if_pos ht, if_pos rfl, if_pos rfl, if_pos (show okA s t from ⟨hs, ht⟩)]
    · rw [if_pos hs, if_neg ht, if_pos rfl, if_neg (by decide), if_neg (fun h : okA s t => ht h.2)]
  · rw [if_neg hs, if_neg (by decide), if_neg (fun h : okA s t => hs h.1)]
/-- The address that octets begin with, or the error. -/
def getA (l : List UInt8) : Int × Int × Bool × Int :=
  if l.length < 2 then (0, 0, false, 3)
  else if at_ l 0 % 2 = 0 ∧ at_ l 1 % 2 = 1 then (at_ l 0 / 4, at_ l 1 / 2, (at_ l 0 / 2 % 2 == 1), 0) else (0, 0, false, 4)
theorem get_eq (k : Nat) (hk : 0 < k) (s : ByteArray) : addr_Get.f k s = some (getA (L s)) := by
  obtain ⟨k, rfl⟩ : ∃ m, k = m + 1 := ⟨k - 1, by omega⟩
  have h0 := at_range (L s) 0
  have h1 := at_range (L s) 1
  have b0 : bt s 0 = at_ (L s) 0 := bt_L s 0
  have b1 : bt s 1 = at_ (L s) 1 := bt_L s 1
  unfold addr_Get.f getA
  rw [← size_L]
  by_cases hs : s.size < 2
  · rw [if_pos (by omega), if_pos hs]
  · rw [if_neg (by omega), if_neg hs, if_pos (by omega), b0, b1, low_bit _ h0.1 h0.2, low_bit _ h1.1 h1.2]
    by_cases e0 : at_ (L s) 0 % 2 = 0
    · rw [if_pos e0, if_pos (by omega), addr_Get.j0]
      by_cases e1 : at_ (L s) 1 % 2 = 1
      · rw [if_neg (by simp; omega), if_pos (show at_ (L s) 0 % 2 = 0 ∧ at_ (L s) 1 % 2 = 1 from ⟨e0, e1⟩), b0, b1]
        refine Eq.trans (if_pos (by omega)) ?_
        refine bind_at (f26 _ h0.1 h0.2) ?_
        refine Eq.trans (if_pos (by omega)) ?_
        refine bind_at (f17 _ h1.1 h1.2) (bind_at (f11 _ h0.1 h0.2) ?_)
        rw [show at_ (L s) 0 / 4 % 64 = at_ (L s) 0 / 4 from by omega, show at_ (L s) 1 / 2 % 128 = at_ (L s) 1 / 2 from by omega]
      · rw [if_pos (by simp; omega), if_neg (fun h : at_ (L s) 0 % 2 = 0 ∧ at_ (L s) 1 % 2 = 1 => e1 h.2)]
    · rw [if_neg e0, addr_Get.j0, if_pos rfl, if_neg (fun h : at_ (L s) 0 % 2 = 0 ∧ at_ (L s) 1 % 2 = 1 => e0 h.1)]
end Go.Proofs.Ytbppngopiackcaa.Addr
