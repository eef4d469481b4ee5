/- What the printed reference functions for addresses come to: the same as the program's. Plain Lean over the printed functions. -/
import Derived.Test.YtbppngopiackcaaAddr
import Derived.Test.YtbppngopiackcaaPrint5
namespace Go.Proofs.Ytbppngopiackcaa.AddrRef
open Go.RowKit Go.Proofs.YtbppngopiackcaaW.PrintWords Go.Proofs.YtbppngopiackcaaW.PrintLast Go.Proofs.YtbppngopiackcaaW.PrintMore Go.Proofs.Ytbppngopiackcaa.Str Go.Proofs.Ytbppngopiackcaa.Field Go.Proofs.Ytbppngopiackcaa.Pack Go.Proofs.Ytbppngopiackcaa.Addr Go.Proofs.Ytbppngopiackcaa.Print
theorem get_eq (s : ByteArray) : lapwingref04_Get.f s = some (getA (L s)) := by
  have h0 := at_range (L s) 0
  have h1 := at_range (L s) 1
  have b0 : bt s 0 = at_ (L s) 0 := bt_L s 0
  have b1 : bt s 1 = at_ (L s) 1 := bt_L s 1
  unfold lapwingref04_Get.f getA
  rw [← size_L]
  by_cases hs : s.size < 2
  · rw [if_pos (by omega), if_pos hs]
  · rw [if_neg (by omega), if_neg hs, if_pos (by omega), if_pos (by omega), b0, b1]
    generalize at_ (L s) 0 = x at *
    generalize at_ (L s) 1 = y at *
    rw [w64 (n := x) (by omega) (by omega), w64 (n := y) (by omega) (by omega), Int.tmod_eq_emod_of_nonneg h0.1, Int.tmod_eq_emod_of_nonneg h1.1, Int.tdiv_eq_ediv_of_nonneg h0.1, Int.tdiv_eq_ediv_of_nonneg h0.1, Int.tdiv_eq_ediv_of_nonneg h1.1]
    by_cases e0 : x % 2 = 0
    · by_cases e1 : y % 2 = 1
      · rw [if_neg (by omega), if_neg (by omega), if_pos (show x % 2 = 0 ∧ y % 2 = 1 from ⟨e0, e1⟩), w64 (n := x / 4) (by omega) (by omega), w64 (n := y / 2) (by omega) (by omega), w64 (n := x / 2) (by omega) (by omega), Int.tmod_eq_emod_of_nonneg (by omega)]
      · rw [if_neg (by omega), if_pos (by omega), if_neg (fun h : x % 2 = 0 ∧ y % 2 = 1 => e1 h.2)]
    · rw [if_pos (by omega), if_neg (fun h : x % 2 = 0 ∧ y % 2 = 1 => e0 h.1)]
theorem put_eq (k : Nat) (hk : 0 < k) (s t : Int) (cr : Bool) : lapwingref04_Put.f k s t cr = some (putA s t cr) := by
  obtain ⟨k, rfl⟩ : ∃ m, k = m + 1 := ⟨k - 1, by omega⟩
  unfold lapwingref04_Put.f putA
  by_cases h1 : s < 0
  · rw [if_pos h1, if_neg (fun h : okA s t => by obtain ⟨⟨_, _⟩, _, _⟩ := h; omega), lapwingref04_Put.j0, if_pos rfl]
  · rw [if_neg h1]
    by_cases h2 : s > 63
    · rw [if_pos h2, if_neg (fun h : okA s t => by obtain ⟨⟨_, _⟩, _, _⟩ := h; omega), lapwingref04_Put.j0, if_pos rfl]
    · rw [if_neg h2]
      by_cases h3 : t < 0
      · rw [if_pos h3, if_neg (fun h : okA s t => by obtain ⟨⟨_, _⟩, _, _⟩ := h; omega), lapwingref04_Put.j0, if_pos rfl]
      · rw [if_neg h3, lapwingref04_Put.j0]
        by_cases h4 : t > 127
        · rw [if_pos (by simpa using h4), if_neg (fun h : okA s t => by obtain ⟨⟨_, _⟩, _, _⟩ := h; omega)]
        · rw [if_neg (by simpa using h4), if_pos (show okA s t from ⟨⟨by omega, by omega⟩, by omega, by omega⟩)]
          have e1 : wrap64 (4 * s) = 4 * s := w64 (by omega) (by omega)
          have e2 : wrap64 (2 * t) = 2 * t := w64 (by omega) (by omega)
          have e3 : wrap64 (2 * t + 1) = 2 * t + 1 := w64 (by omega) (by omega)
          have e4 : wrap64 (4 * s + 2) = 4 * s + 2 := w64 (by omega) (by omega)
          rw [e1, e2, e3, e4]
          have m1 : (4 * s + 2) % 256 = 4 * s + 2 := by omega
          have m2 : (4 * s) % 256 = 4 * s := by omega
          have m3 : (2 * t + 1) % 256 = 2 * t + 1 := by omega
          rw [m1, m2, m3]
          cases cr
          · rw [if_neg (by decide)]; simp [Addr.num]
          · rw [if_pos rfl]; simp [Addr.num]
end Go.Proofs.Ytbppngopiackcaa.AddrRef
