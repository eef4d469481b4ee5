/- What the printed reference functions for addresses come to: the same as the program's. Plain Lean over the printed functions. -/
import Derived.Test.YtdpgdnbknmncfaaDoorPlainB
import Derived.Test.YtdpgdnbknmncfaaDoorPrint11
namespace Go.Proofs.YtdpgdnbknmncfaaDoor.AddrRef
open Go.RowKit Go.Proofs.YtdpgdnbknmncfaaDoorW.PrintWords Go.Proofs.YtdpgdnbknmncfaaDoorW.PrintLast Go.Proofs.YtdpgdnbknmncfaaDoorW.PrintMore Go.Proofs.YtdpgdnbknmncfaaDoor.Str Go.Proofs.YtdpgdnbknmncfaaDoor.Field Go.Proofs.YtdpgdnbknmncfaaDoor.Pack Go.Proofs.YtdpgdnbknmncfaaDoor.Addr Go.Proofs.YtdpgdnbknmncfaaDoor.Print
theorem put_eq (k : Nat) (hk : 0 < k) (s t : Int) (cr : Bool) : lapwingref04_Put.f k s t cr = some (putA s t cr) := by
  obtain ⟨k, rfl⟩ : ∃ m, k = m + 1 := ⟨k - 1, by omega⟩
  unfold lapwingref04_Put.f putA
  by_cases h1 : s < 0
  · rw [if_pos h1, if_neg (fun h : okA s t => by obtain ⟨⟨_, _⟩, _, _⟩ := h; omega), lapwingref04_Put.j0, if_pos rfl]
  · rw [if_neg h1]
    by_cases h2 : s > 63
    · rw [if_pos h2, if_neg (fun h : okA s t => by obtain ⟨⟨_, _⟩, _, _⟩ := h; omega), lapwingref04_Put.j0, if_pos rfl]
    · rw [if_neg h2]
      by_cases h3 : t < 0
      · rw [if_pos h3, if_neg (fun h : okA s t => by obtain ⟨⟨_, _⟩, _, _⟩ := h; omega), lapwingref04_Put.j0, if_pos rfl]
      · rw [if_neg h3, lapwingref04_Put.j0]
        by_cases h4 : t > 127
        · rw [if_pos (by simpa using h4), if_neg (fun h : okA s t => by obtain ⟨⟨_, _⟩, _, _⟩ := h; omega)]
        · rw [if_neg (by simpa using h4), if_pos (show okA s t from ⟨⟨by omega, by omega⟩, by omega, by omega⟩)]
          have e1 : wrap64 (4 * s) = 4 * s := w64 (by omega) (by omega)
          have e2 : wrap64 (2 * t) = 2 * t := w64 (by omega) (by omega)
          have e3 : wrap64 (2 * t + 1) = 2 * t + 1 := w64 (by omega) (by omega)
          have e4 : wrap64 (4 * s + 2) = 4 * s + 2 := w64 (by omega) (by omega)
          rw [e1, e2, e3, e4]
          have m1 : (4 * s + 2) % 256 = 4 * s + 2 := by omega
          have m2 : (4 * s) % 256 = 4 * s := by omega
          have m3 : (2 * t + 1) % 256 = 2 * t + 1 := by omega
          rw [m1, m2, m3]
          cases cr
          · rw [if_neg (by decide)]; simp [Addr.num]
          · rw [if_pos rfl]; simp [Addr.num]
end Go.Proofs.YtdpgdnbknmncfaaDoor.AddrRef
