/- The plain statement of FrameMay over the printed functions: what frames of every kind may be, and carry, is the document's answer. No condition. -/
import Derived.Test.YtdpgdnbknmncfaaDoorFrameRM
import Derived.Test.YtdpgdnbknmncfaaDoorPrint7
namespace Go.Proofs.YtdpgdnbknmncfaaDoor.Pure
open Go.RowKit Go.Proofs.YtdpgdnbknmncfaaDoorW.PrintWords Go.Proofs.YtdpgdnbknmncfaaDoorW.PrintLast Go.Proofs.YtdpgdnbknmncfaaDoorW.PrintMore Go.Proofs.YtdpgdnbknmncfaaDoor.Str Go.Proofs.YtdpgdnbknmncfaaDoor.Field Go.Proofs.YtdpgdnbknmncfaaDoor.Frm Go.Proofs.YtdpgdnbknmncfaaDoor.Print
theorem may_step (k : Nat) (hk : 4 < k) (x n i : Int) (h0 : 0 ≤ i) (h : i < 12) : lapwinglaw06_FrameMay.l0 (k + 1) x n i = lapwinglaw06_FrameMay.l0 k x n (i + 1) := by
  rw [lapwinglaw06_FrameMay.l0, if_pos h]
  refine bind_at (may_eq i true) (bind_at (rmay_eq k hk i true) (Eq.trans (if_neg (by simp)) (bind_at (may_eq i false) (bind_at (rmay_eq k hk i false) (Eq.trans (if_neg (by simp)) (bind_at (car_eq k (by omega) i n) (bind_at (rcar_eq k (by omega) i n) (Eq.trans (if_neg (by simp)) ?_))))))))
  rw [w64 (n := i + 1) (by omega) (by omega)]
theorem may_loop (k : Nat) (hk : 4 < k) (x n : Int) : ∀ (d : Nat) (i : Int), 0 ≤ i → i + d = 12 → lapwinglaw06_FrameMay.l0 (k + d) x n i = lapwinglaw06_FrameMay.l0 k x n 12
  | 0, i, _, h => by rw [show i = 12 from by omega]; rfl
  | d + 1, i, h0, h => by
    rw [show k + (d + 1) = (k + d) + 1 from rfl, may_step (k + d) (by omega) x n i h0 (by omega)]
    exact may_loop k hk x n d (i + 1) (by omega) (by omega)
theorem may_end (k : Nat) (hk : 50 < k) (x n : Int) : lapwinglaw06_FrameMay.l0 (k + 1) x n 12 = some true := by
  rw [lapwinglaw06_FrameMay.l0, if_neg (by decide)]
  refine bind_at (wakes_eq k hk) (Eq.trans (if_pos rfl) (bind_at (may_eq x true) (bind_at (rmay_eq k (by omega) x true) (Eq.trans (if_pos (beq_self_eq_true _)) (bind_at (car_eq k (by omega) x n) (bind_at (rcar_eq k (by omega) x n) ?_))))))
  rw [beq_self_eq_true]
theorem FrameMay : lapwinglaw06_FrameMay.Pure := by
  intro x n _ _
  obtain ⟨k, hk⟩ : ∃ k : Nat, 50 < k := ⟨51, by omega⟩
  refine ⟨k + 1 + 12, ?_⟩
  unfold lapwinglaw06_FrameMay.f
  exact (may_loop (k + 1) (by omega) x n 12 0 (by decide) (by decide)).trans (may_end k hk x n)
end Go.Proofs.YtdpgdnbknmncfaaDoor.Pure
