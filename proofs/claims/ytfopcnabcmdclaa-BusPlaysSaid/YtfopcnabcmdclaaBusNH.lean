/- The document's bus between calls. No condition. -/
import Derived.Test.YtfopcnabcmdclaaBusNY
import Derived.Test.YtfopcnabcmdclaaBusNZ
import Derived.Test.YtfopcnabcmdclaaBusNS
namespace Go.Proofs.Ytfopcnabcmdclaa.Bs
open Go Go.RowKit Go.Proofs.YtfopcnabcmdclaaW.PrintWords Go.Proofs.YtfopcnabcmdclaaW.PrintLast Go.Proofs.YtfopcnabcmdclaaW.PrintMore Go.Proofs.Ytfopcnabcmdclaa.Str Go.Proofs.Ytfopcnabcmdclaa.Bits Go.Proofs.Ytfopcnabcmdclaa.Mp Go.Proofs.Ytfopcnabcmdclaa.Ra
set_option linter.unusedVariables false
theorem newHR (n : Int) (w : World) :
    Calls Try.prog 14 #[.int .i64 n] w fun e w' => e = .returned (.pointer (some ⟨w.heap.size, 0, none⟩)) ∧ HasR (fun k => k < w.heap.size) w' w.heap.size (size20 n) (fun _ _ => []) ∧ Below w.heap.size w w' := by
  refine (newR n w).mono ?_
  rintro e w' ⟨he, hw⟩
  obtain ⟨h1, h2⟩ := HasR.went (F := fun k => k < w.heap.size) (fun k hk => ⟨id, hk⟩) hw
  exact ⟨he, h1, h2.below (Nat.le_refl _) (fun k hk => by omega)⟩
theorem lenHR (F : Nat → Prop) (p n : Nat) (q : Bool → Int → List ByteArray) (w : World) (h : HasR F w p n q) (d : Bool) (i : Int) :
    Calls Try.prog 22 #[.pointer (some ⟨p, 0, none⟩), .bool d, .int .i64 i] w fun e w' => e = .returned (.int .i64 ((q d i).length : Int)) ∧ w = w' := by
  obtain ⟨T, v, hb, hF⟩ := h
  exact lenR T p n q v w hb d i
theorem sendHR (F : Nat → Prop) (p n : Nat) (q : Bool → Int → List ByteArray) (w : World) (h : HasR F w p n q) (s : ByteArray) (hs : s.size ≤ 9223372036854775807) :
    Calls Try.prog 21 #[.pointer (some ⟨p, 0, none⟩), .string s] w fun e w' => e = .returned (.int .i64 (downN q s n : Int)) ∧ HasR F w' p n (downQ q s n) ∧ Kb (fun k => ¬ F k) w w' := by
  obtain ⟨T, v, hb, hF⟩ := h
  exact (sendR T p n q v w hb s hs).mono fun e w' ⟨he, hw⟩ => ⟨he, HasR.went hF hw⟩
theorem riseHR (F : Nat → Prop) (p n : Nat) (q : Bool → Int → List ByteArray) (w : World) (h : HasR F w p n q) (i : Int) (s : ByteArray) (hs : s.size ≤ 9223372036854775807) :
    Calls Try.prog 15 #[.pointer (some ⟨p, 0, none⟩), .int .i64 i, .string s] w fun e w' => e = .returned (.int .i64 (upE q n i)) ∧ HasR F w' p n (upQ q n i s) ∧ Kb (fun k => ¬ F k) w w' := by
  obtain ⟨T, v, hb, hF⟩ := h
  exact (riseR T p n q v w hb i s hs).mono fun e w' ⟨he, hw⟩ => ⟨he, HasR.went hF hw⟩
theorem takeHR (F : Nat → Prop) (p n : Nat) (q : Bool → Int → List ByteArray) (w : World) (h : HasR F w p n q) (d : Bool) (i : Int) :
    Calls Try.prog 16 #[.pointer (some ⟨p, 0, none⟩), .bool d, .int .i64 i] w fun e w' => e = .returned (.tuple #[.string ((q d i).headD ⟨#[]⟩), .bool (decide (0 < (q d i).length))]) ∧ HasR F w' p n (updQ q d i (q d i).tail) ∧ Kb (fun k => ¬ F k) w w' := by
  obtain ⟨T, v, hb, hF⟩ := h
  exact (takeR T p n q v w hb d i).mono fun e w' ⟨he, hw⟩ => ⟨he, HasR.went hF hw⟩
theorem spoilHR (F : Nat → Prop) (p n : Nat) (q : Bool → Int → List ByteArray) (w : World) (h : HasR F w p n q) (d : Bool) (i : Int) (A : Option Addr) (na ca : Nat) (m : List Int) (hr : (Kd.int .i64).C w A na m) (hc : na ≤ ca) :
    Calls Try.prog 18 #[.pointer (some ⟨p, 0, none⟩), .bool d, .int .i64 i, .slice A na ca] w fun e w' => e = .returned (.bool (decide (0 < (q d i).length))) ∧ HasR F w' p n (spoilQ q d i m) ∧ Kb (fun k => ¬ F k) w w' := by
  obtain ⟨T, v, hb, hF⟩ := h
  exact (spoilR T p n q v w hb d i A na ca m hr hc).mono fun e w' ⟨he, hw⟩ => ⟨he, HasR.went hF hw⟩
theorem clearHR (F : Nat → Prop) (p n : Nat) (q : Bool → Int → List ByteArray) (w : World) (h : HasR F w p n q) (i : Int) :
    Calls Try.prog 20 #[.pointer (some ⟨p, 0, none⟩), .int .i64 i] w fun e w' => e = .returned (.int .i64 (clrN q i 2 : Int)) ∧ HasR F w' p n (clrQ q i 2) ∧ Kb (fun k => ¬ F k) w w' := by
  obtain ⟨T, v, hb, hF⟩ := h
  exact (clearR T p n q v w hb i).mono fun e w' ⟨he, hw⟩ => ⟨he, HasR.went hF hw⟩
end Go.Proofs.Ytfopcnabcmdclaa.Bs
