/- The plain statement of FrameBefore over the printed functions: each frame is told by its octets alone. No condition. -/
import Derived.Test.YtdpgdnbknmncfaaDoorFrameGetP
import Derived.Test.YtdpgdnbknmncfaaDoorPrint24
namespace Go.Proofs.YtdpgdnbknmncfaaDoor.Pure
open Go.RowKit Go.Proofs.YtdpgdnbknmncfaaDoorW.PrintWords Go.Proofs.YtdpgdnbknmncfaaDoorW.PrintLast Go.Proofs.YtdpgdnbknmncfaaDoorW.PrintMore Go.Proofs.YtdpgdnbknmncfaaDoor.Str Go.Proofs.YtdpgdnbknmncfaaDoor.Field Go.Proofs.YtdpgdnbknmncfaaDoor.Frm Go.Proofs.YtdpgdnbknmncfaaDoor.Print
theorem cut_size4 (s : ByteArray) (n : Nat) : (s.extract 0 (min s.size n)).size = min s.size n := size_take s _ (by omega)
theorem FrameBefore : lapwinglaw06_FrameBefore.Pure := by
  intro s t w _ _
  obtain ⟨k, hk⟩ : ∃ k : Nat, 600 < k := ⟨601, by omega⟩
  refine ⟨k, ?_⟩
  unfold lapwinglaw06_FrameBefore.f
  have e1 : mn (s.size : Int) 400 = ((min s.size 400 : Nat) : Int) := mn_nat s.size 400
  have e2 : mn (t.size : Int) 400 = ((min t.size 400 : Nat) : Int) := mn_nat t.size 400
  rw [e1, e2, if_pos (by omega), if_pos (by omega), if_pos (by omega), if_pos (by omega), Int.toNat_natCast, Int.toNat_natCast]
  have z1 := cut_size4 s 400
  have z2 := cut_size4 t 400
  generalize s.extract 0 (min s.size 400) = s' at *
  generalize t.extract 0 (min t.size 400) = t' at *
  obtain ⟨r, h1⟩ := get_some k t' w (by omega) (by omega)
  obtain ⟨r2, h2⟩ := get_some k s' w (by omega) (by omega)
  obtain ⟨r3, h3⟩ := get_some k s' (!w) (by omega) (by omega)
  refine bind_at h1 (bind_at h2 (bind_at h3 (bind_at h1 (bind_at (wakes_eq k (by omega)) (Eq.trans (if_pos rfl) ?_)))))
  refine Eq.trans (if_pos (by simp)) ?_
  rw [beq_self_eq_true]
end Go.Proofs.YtdpgdnbknmncfaaDoor.Pure
