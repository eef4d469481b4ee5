/- What a control field of each kind begins with, and its name: no two alike; package ctrl's functions as they are called by CtrlUnlike, CtrlAll. Condition: the package's tables stand as they were laid (X.Laid). -/
import Derived.Test.YtbailgigabdhaaaDoorCtrl
import Derived.WalkKit
import Derived.BigCall
namespace Go.Proofs.YtbailgigabdhaaaDoor.Cu
open Go.RowKit Go.Proofs.YtbailgigabdhaaaDoorW.PrintWords Go.Proofs.YtbailgigabdhaaaDoorW.PrintLast Go.Proofs.YtbailgigabdhaaaDoorW.PrintMore Go.Proofs.YtbailgigabdhaaaDoor.Str Go.Proofs.YtbailgigabdhaaaDoor.Field Go.Proofs.YtbailgigabdhaaaDoor.Pack Go.Proofs.YtbailgigabdhaaaDoor.Print Go.Proofs.YtbailgigabdhaaaDoorX Go.Proofs.YtbailgigabdhaaaDoor.Ctl
set_option linter.unusedVariables false
/-- The name of a kind. -/
def nm (k : Nat) : ByteArray := glNames.getD k ⟨#[]⟩
theorem nm_inj : ∀ i j, i < 10 → j < 10 → nm i = nm j → i = j := by
  have : ∀ i : Fin 10, ∀ j : Fin 10, L (nm i.val) = L (nm j.val) → i = j := by decide +kernel
  intro i j hi hj h
  have := this ⟨i, hi⟩ ⟨j, hj⟩ (congrArg L h)
  simpa using this
theorem nm_size : ∀ k, k < 10 → 0 < (nm k).size ∧ (nm k).size ≤ 5 := by
  have : ∀ k : Fin 10, 0 < (nm k.val).size ∧ (nm k.val).size ≤ 5 := by decide +kernel
  intro k hk
  exact this ⟨k, hk⟩
/-- The first octet. -/
def o1 (s : Int) (p : Bool) (k : Nat) : Int := if k = 0 then 2 * s else if k ≤ 3 then rd glFirst k else rd glFirst k + 16 * b2i p
theorem o1_range (s : Int) (hs : 0 ≤ s ∧ s < 128) (p : Bool) (k : Nat) (hk : k < 10) : 0 ≤ o1 s p k ∧ o1 s p k < 256 := by
  unfold o1
  have := b2i_range p
  have h : ∀ k : Fin 10, 0 ≤ rd glFirst (k.val : Int) ∧ rd glFirst (k.val : Int) ≤ 135 := by decide +kernel
  have := h ⟨k, hk⟩
  simp only at this
  split
  · omega
  · split <;> omega
theorem o1_odd (s : Int) (p : Bool) (k : Nat) (hk : k < 10) (h0 : k ≠ 0) : o1 s p k % 2 = 1 := by
  unfold o1
  rw [if_neg h0]
  have h : ∀ k : Fin 10, k.val ≠ 0 → rd glFirst (k.val : Int) % 2 = 1 := by decide +kernel
  have := h ⟨k, hk⟩ h0
  simp only at this
  split <;> omega
theorem o1_inj (s : Int) (p : Bool) : ∀ i j, i < 10 → j < 10 → o1 s p i = o1 s p j → i = j := by
  intro i j hi hj h
  by_cases h0 : i = 0
  · by_cases h1 : j = 0
    · omega
    · have e1 := o1_odd s p j hj h1
      rw [← h] at e1
      unfold o1 at e1
      rw [if_pos h0] at e1
      omega
  · by_cases h1 : j = 0
    · have e1 := o1_odd s p i hi h0
      rw [h] at e1
      unfold o1 at e1
      rw [if_pos h1] at e1
      omega
    · have : ∀ p : Bool, ∀ i : Fin 10, ∀ j : Fin 10, i.val ≠ 0 → j.val ≠ 0 → o1 0 p i.val = o1 0 p j.val → i = j := by decide +kernel
      have e0 : ∀ k, k ≠ 0 → o1 s p k = o1 0 p k := by
        intro k hk
        unfold o1
        rw [if_neg hk, if_neg hk]
      rw [e0 i h0, e0 j h1] at h
      have := this p ⟨i, hi⟩ ⟨j, hj⟩ h0 h1 h
      simpa using this
/-- A field's octets. -/
def oc (s r : Int) (p : Bool) (k : Nat) : ByteArray := (putC k p s r).1
theorem oc_eq (s r : Int) (p : Bool) (k : Nat) (hs : 0 ≤ s ∧ s < 128) (hr : 0 ≤ r ∧ r < 128) (hk : k < 10) : putC k p s r = (oc s r p k, 0) ∧ ∃ l, oc s r p k = strOfNums (o1 s p k :: l) ∧ l.length ≤ 1 := by
  have hp := b2i_range p
  unfold oc putC o1
  rw [if_pos (show 0 ≤ (k : Int) ∧ (k : Int) < 10 by omega)]
  by_cases h3 : k ≤ 3
  · rw [if_pos (show (k : Int) ≤ 3 by omega), if_pos hr]
    by_cases h0 : k = 0
    · rw [if_pos (show (k : Int) = 0 by omega), if_pos hs, if_pos h0]
      exact ⟨rfl, [2 * r + b2i p], rfl, by simp⟩
    · rw [if_neg (show ¬ (k : Int) = 0 by omega), if_neg h0, if_pos h3]
      exact ⟨rfl, [2 * r + b2i p], rfl, by simp⟩
  · rw [if_neg (show ¬ (k : Int) ≤ 3 by omega), if_neg (show ¬ k = 0 by omega), if_neg h3]
    exact ⟨rfl, [], rfl, by simp⟩
theorem putH (w : World) (hL : Laid w) (s r : Int) (p : Bool) (k : Nat) (hs : 0 ≤ s ∧ s < 128) (hr : 0 ≤ r ∧ r < 128) (hk : k < 10) :
    Calls Tryd.prog 17 #[.agg #[.int .i64 k, .bool p, .int .i64 s, .int .i64 r]] w fun e w' => e = .returned (.tuple #[.string (oc s r p k), .int .i64 0]) ∧ Below w.heap.size w w' :=
  ctrl_Put.calls 10 k p s r _ _ w hL (by rw [put_eq 10 (by decide), (oc_eq s r p k hs hr hk).1])
set_option maxRecDepth 100000 in
theorem goodW (k : Int) (w : World) : Calls Tryd.prog 23 #[.int .i64 k] w fun e w' => e = .returned (.bool (decide (0 ≤ k ∧ k < 10))) ∧ w = w' := by
  by_cases h0 : 0 ≤ k
  · by_cases h1 : k < 10
    · rw [decide_eq_true ⟨h0, h1⟩]
      go_enter Tryd.func23, Tryd.ntmps23
      go_wp2
      go_ret
      trivial
    · rw [decide_eq_false (by omega)]
      go_enter Tryd.func23, Tryd.ntmps23
      go_wp2
      go_ret
      trivial
  · rw [decide_eq_false (by omega)]
    go_enter Tryd.func23, Tryd.ntmps23
    go_wp2
    go_ret
    trivial
set_option maxRecDepth 100000 in
theorem nameH (k : Nat) (hk : k < 10) (w : World) (hL : Laid w) :
    Calls Tryd.prog 15 #[.int .i64 k] w fun e w' => e = .returned (.string (nm k)) ∧ w = w' := by
  have hc : w.cell? ⟨1, k, none⟩ = some (.string (nm k)) := hL.2 k _ (by
    unfold nm
    rw [List.getD_eq_getElem?_getD, List.getElem?_eq_getElem (show k < glNames.length from hk)]; rfl)
  clear hL
  go_enter Tryd.func15, Tryd.ntmps15
  go_wp2_with fail
  refine (goodW k w).mono ?_
  rintro e w' ⟨rfl, rfl⟩
  have hd : decide (0 ≤ (k : Int) ∧ (k : Int) < 10) = true := decide_eq_true (by omega)
  rw [hd]
  go_wp2
  go_ret
  trivial
end Go.Proofs.YtbailgigabdhaaaDoor.Cu
