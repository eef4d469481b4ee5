/- What the document's frame.Put comes to: the same as the program's. Plain Lean over the printed functions. -/
import Derived.Test.YtdpgdnbknmncfaaDoorFrameRM
import Derived.Test.YtdpgdnbknmncfaaDoorCtrlFR
import Derived.Test.YtdpgdnbknmncfaaDoorAddrRefP
import Derived.Test.YtdpgdnbknmncfaaDoorFcsRef
import Derived.Test.YtdpgdnbknmncfaaDoorPrint13
namespace Go.Proofs.YtdpgdnbknmncfaaDoor.Frm
open Go.RowKit Go.Proofs.YtdpgdnbknmncfaaDoorW.PrintWords Go.Proofs.YtdpgdnbknmncfaaDoorW.PrintLast Go.Proofs.YtdpgdnbknmncfaaDoorW.PrintMore Go.Proofs.YtdpgdnbknmncfaaDoor.Str Go.Proofs.YtdpgdnbknmncfaaDoor.Field Go.Proofs.YtdpgdnbknmncfaaDoor.Ctl Go.Proofs.YtdpgdnbknmncfaaDoor.Print Go.Proofs.YtdpgdnbknmncfaaDoorX
open Go.Proofs.YtdpgdnbknmncfaaDoor.Fcs (sealL checkL)
open Go.Proofs.YtdpgdnbknmncfaaDoor.Addr (putA getA)
theorem rmake_eq (s t : Int) (c w : Bool) : lapwingref04_Make.f s t c w = some (s, t, (c == w)) := by cases c <;> cases w <;> rfl
theorem rput_eq (k : Nat) (s t : Int) (c : Bool) (a : Int) (p : Bool) (x y : Int) (i : ByteArray) (w : Bool) (hi : i.size ≤ 140737488351232) (hk : i.size + 40 < k) :
    lapwingref06_Put.f k s t c a p x y i w = some (putF s t c a p x y i w) := by
  have hA := sizeA s t (c == w)
  have hC := sizeC a p x y
  unfold lapwingref06_Put.f putF
  refine bind_at (Ctl.rput_eq k (by omega) a p x y) ?_
  generalize putC a p x y = C at *
  by_cases h4 : C.2 = 4
  · rw [if_pos h4, if_pos (Or.inl h4)]
  rw [if_neg h4]
  refine bind_at (rmay_eq k (by omega) a c) ?_
  by_cases hm : mayF a c = false
  · rw [if_neg (by rw [hm]; decide), if_pos (Or.inr hm)]
  have hm' : mayF a c = true := by simpa using hm
  rw [if_pos hm', if_neg (show ¬ (C.2 = 4 ∨ mayF a c = false) from fun h => h.elim h4 hm)]
  by_cases he : C.2 = 0
  · rw [if_pos he, if_pos he]
    refine bind_at (rmake_eq s t c w) (bind_at (AddrRef.put_eq k (by omega) s t (c == w)) ?_)
    generalize putA s t (c == w) = A at *
    by_cases ha : A.2 = 0
    · rw [if_pos ha, if_pos ha]
      refine bind_at (rcar_eq k (by omega) a (i.size : Int)) ?_
      by_cases hc : carF a (i.size : Int) = true
      · rw [if_pos hc, if_pos hc]
        have z1 : (A.1 ++ C.1).size ≤ 4 := by rw [size_app]; omega
        have z2 : ((A.1 ++ C.1) ++ i).size ≤ i.size + 4 := by rw [size_app]; omega
        rw [if_pos (by omega), if_pos (by omega)]
        exact bind_at (FcsRef.seal_eq k ((A.1 ++ C.1) ++ i) (by omega) (by omega)) rfl
      · rw [if_neg hc, if_neg hc]
    · rw [if_neg ha, if_neg ha]
  · rw [if_neg he, if_neg he]
end Go.Proofs.YtdpgdnbknmncfaaDoor.Frm
