/- The plain statements of AddrGets, AddrKinds, AddrPuts, AddrMakes over the printed functions: all hold. No condition. -/
import Derived.Test.YtbppngopiackcaaAddrRef
import Derived.OpenShut
import Derived.Test.YtbppngopiackcaaPrint6
namespace Go.Proofs.Ytbppngopiackcaa.Pure
open Go.RowKit Go.Proofs.YtbppngopiackcaaW.PrintWords Go.Proofs.YtbppngopiackcaaW.PrintLast Go.Proofs.YtbppngopiackcaaW.PrintMore Go.Proofs.Ytbppngopiackcaa.Str Go.Proofs.Ytbppngopiackcaa.Field Go.Proofs.Ytbppngopiackcaa.Addr Go.Proofs.Ytbppngopiackcaa.Print
theorem same_eq (a b : Int × Int × Bool × Int) (h : a = b) : lapwinglaw04_same.f a.1 a.2.1 a.2.2.1 b.1 b.2.1 b.2.2.1 = some true := by
  subst h
  unfold lapwinglaw04_same.f
  rw [if_pos rfl, if_pos rfl, beq_self_eq_true]
theorem first_get : getA [2, 129] = (1 - 1, 64, true, 0) := by decide +kernel
theorem AddrGets : lapwinglaw04_AddrGets.Pure := by
  intro s _
  obtain ⟨k, hk⟩ : ∃ k : Nat, 10 ≤ k := ⟨10, Nat.le_refl _⟩
  refine ⟨k, ?_⟩
  unfold lapwinglaw04_AddrGets.f
  have h0 : addr_Get.f k (⟨#[2, 129]⟩ : ByteArray) = some (getA [2, 129]) := get_eq k (by omega) _
  rw [first_get] at h0
  refine bind_at (get_eq k (by omega) s) (bind_at (AddrRef.get_eq s) (bind_at h0 ?_))
  refine Eq.trans (if_pos rfl) (Eq.trans (if_pos rfl) ?_)
  exact bind_at (same_eq _ _ rfl) rfl
theorem kindOf (k : Nat) (hk : 0 < k) (t : Int) : addr_KindOf.f k t = some (if t < 0 ∨ t > 127 then 0 else if t < 64 then 1 else if t ≤ 126 then 2 else 3) := by
  obtain ⟨k, rfl⟩ : ∃ m, k = m + 1 := ⟨k - 1, by omega⟩
  unfold addr_KindOf.f
  by_cases h1 : t < 0
  · rw [if_pos h1, if_pos (Or.inl h1), addr_KindOf.j0, if_pos rfl]
  · rw [if_neg h1, addr_KindOf.j0]
    by_cases h2 : t > 127
    · rw [if_pos (by simpa using h2), if_pos (Or.inr h2)]
    · rw [if_neg (by simpa using h2)]
      have h5 : ¬ (t < 0 ∨ t > 127) := by omega
      by_cases h3 : t < 64
      · rw [if_pos h3, if_neg h5, if_pos h3]
      · rw [if_neg h3]
        by_cases h4 : t ≤ 126
        · rw [if_pos h4, if_neg h5, if_neg h3, if_pos h4]
        · rw [if_neg h4, if_neg h5, if_neg h3, if_neg h4]
theorem ref_kindOf (k : Nat) (hk : 1 < k) (t : Int) : lapwingref04_KindOf.f k t = some (if t < 0 ∨ t > 127 then 0 else if t < 64 then 1 else if t ≤ 126 then 2 else 3) := by
  obtain ⟨k, rfl⟩ : ∃ m, k = m + 1 + 1 := ⟨k - 2, by omega⟩
  unfold lapwingref04_KindOf.f
  by_cases h1 : t ≥ 0
  · rw [if_pos h1, lapwingref04_KindOf.j0]
    by_cases h2 : t ≤ 63
    · rw [if_pos (by simpa using h2), if_neg (by omega), if_pos (by omega)]
    · rw [if_neg (by simpa using h2), if_pos (by omega), lapwingref04_KindOf.j1]
      by_cases h3 : t ≤ 126
      · rw [if_pos (by simpa using h3), if_neg (by omega), if_neg (by omega), if_pos h3]
      · rw [if_neg (by simpa using h3)]
        by_cases h4 : t = 127
        · rw [if_pos h4, if_neg (by omega), if_neg (by omega), if_neg h3]
        · rw [if_neg h4, if_pos (by omega)]
  · rw [if_neg h1, lapwingref04_KindOf.j0, if_neg (by decide), if_neg (by omega), lapwingref04_KindOf.j1, if_neg (by decide), if_neg (by omega), if_pos (by omega)]
theorem first_put : (strOfNums [2, 129]).toList = [2, 129] := by decide +kernel
theorem wakes_eq (k : Nat) (hk : 3 < k) : lapwinglaw04_wakes.f k = some true := by
  unfold lapwinglaw04_wakes.f
  have h : addr_Put.f k 0 64 true = some (strOfNums [2, 129], 0) := put_eq k hk 0 64 true
  refine bind_at (show addr_Make.f 0 64 true true = some (0, 64, true) from rfl) (bind_at h ?_)
  refine Eq.trans (if_pos rfl) (Eq.trans (if_pos first_put) ?_)
  exact bind_at (kindOf k (by omega) 64) rfl
theorem AddrKinds : lapwinglaw04_AddrKinds.Pure := by
  intro t _
  obtain ⟨k, hk⟩ : ∃ k : Nat, 10 ≤ k := ⟨10, Nat.le_refl _⟩
  refine ⟨k, ?_⟩
  unfold lapwinglaw04_AddrKinds.f
  refine bind_at (wakes_eq k (by omega)) (Eq.trans (if_pos rfl) ?_)
  refine bind_at (kindOf k (by omega) t) (bind_at (ref_kindOf k (by omega) t) ?_)
  refine Eq.trans (if_pos rfl) ?_
  refine bind_at (kindOf k (by omega) _) (bind_at (ref_kindOf k (by omega) _) ?_)
  exact congrArg some (beq_self_eq_true _)
theorem AddrPuts : lapwinglaw04_AddrPuts.Pure := by
  intro s t cr _ _
  obtain ⟨k, hk⟩ : ∃ k : Nat, 10 ≤ k := ⟨10, Nat.le_refl _⟩
  refine ⟨k, ?_⟩
  unfold lapwinglaw04_AddrPuts.f
  refine bind_at (put_eq k (by omega) s t cr) (bind_at (AddrRef.put_eq k (by omega) s t cr) (bind_at (wakes_eq k (by omega)) ?_))
  refine Eq.trans (if_pos rfl) (Eq.trans (if_pos rfl) ?_)
  exact congrArg some (beq_self_eq_true _)
theorem AddrMakes : lapwinglaw04_AddrMakes.Pure := by
  intro s t cr a b _ _
  obtain ⟨k, hk⟩ : ∃ k : Nat, 10 ≤ k := ⟨10, Nat.le_refl _⟩
  refine ⟨k, ?_⟩
  unfold lapwinglaw04_AddrMakes.f
  have h1 : lapwingref04_Make.f s t a b = some (s, t, (a == b)) := by cases a <;> cases b <;> rfl
  have h2 : lapwingref04_Command.f s t cr b = some (cr == b) := by cases cr <;> cases b <;> rfl
  have h3 : lapwinglaw04_same.f s t (a == b) s t (a == b) = some true := by
    unfold lapwinglaw04_same.f
    rw [if_pos rfl, if_pos rfl, beq_self_eq_true]
  refine bind_at (show addr_Make.f s t a b = some (s, t, (a == b)) from rfl) (bind_at (wakes_eq k (by omega)) ?_)
  refine Eq.trans (if_pos rfl) (bind_at h1 (bind_at h3 ?_))
  refine Eq.trans (if_pos rfl) (bind_at (show addr_Address_Command.f s t cr b = some (cr == b) from rfl) (bind_at h2 ?_))
  exact congrArg some (beq_self_eq_true _)
end Go.Proofs.Ytbppngopiackcaa.Pure
