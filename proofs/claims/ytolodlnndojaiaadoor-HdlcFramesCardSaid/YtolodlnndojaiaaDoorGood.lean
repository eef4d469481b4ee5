/- bits.Good by its own text: strings.Trim at the cutset of both digits leaves nothing. The text at most 2^63 - 1 octets long. -/
import Derived.Test.YtolodlnndojaiaaDoorShelf
import Derived.Test.YtolodlnndojaiaaDoorOct
import Derived.WalkKit
import Derived.BigCall
namespace Go.Proofs.YtolodlnndojaiaaDoor.Good
open Go.RowKit Go.Proofs.YtolodlnndojaiaaDoor.Str Go.Proofs.YtolodlnndojaiaaDoor.Bits Go.Proofs.YtolodlnndojaiaaDoor.Oct
set_option linter.unusedVariables false
theorem mem_digits (c : UInt8) : ([48, 49] : List UInt8).contains c = (c == 48 || c == 49) := by
  simp [List.contains, List.elem]
  cases (c == 48) <;> cases (c == 49) <;> rfl
theorem drop_nil (p : UInt8 → Bool) (l : List UInt8) : (l.dropWhile p = []) ↔ l.all p = true := by
  induction l with
  | nil => simp
  | cons c l ih =>
    rw [List.dropWhile_cons, List.all_cons]
    cases h : p c <;> simp [ih]
theorem drop_all (p : UInt8 → Bool) (l : List UInt8) (h : (l.dropWhile p).all p = true) : l.dropWhile p = [] := by
  induction l with
  | nil => rfl
  | cons c l ih =>
    rw [List.dropWhile_cons] at h ⊢
    split at h
    · rename_i hc
      rw [if_pos hc]
      exact ih h
    · rename_i hc
      rw [List.all_cons] at h
      simp [hc] at h
theorem trim_good (l : List UInt8) : (Lib.trimS l [48, 49]).isEmpty = goodL l := by
  have hp : (fun c => ([48, 49] : List UInt8).contains c) = fun c => (c == 48 || c == 49) := funext mem_digits
  unfold Lib.trimS Lib.trimLeftS Lib.trimRightS goodL
  rw [hp]
  by_cases h : (l.all fun c => c == 48 || c == 49) = true
  · rw [h]
    have h2 : l.reverse.dropWhile (fun c => c == 48 || c == 49) = [] := (drop_nil _ _).2 (by rw [List.all_reverse]; exact h)
    rw [h2]; rfl
  · have h' : (l.all fun c => c == 48 || c == 49) = false := by simpa using h
    rw [h']
    cases hc : (List.dropWhile (fun c => c == 48 || c == 49) (l.reverse.dropWhile fun c => c == 48 || c == 49).reverse) with
    | cons => rfl
    | nil =>
      exfalso
      have h3 := (drop_nil _ _).1 hc
      rw [List.all_reverse] at h3
      have h4 := (drop_nil _ _).1 (drop_all _ _ h3)
      rw [List.all_reverse] at h4
      exact h h4
set_option maxHeartbeats 1000000 in
set_option maxRecDepth 100000 in
theorem walk (s : ByteArray) (w : World) (hs : s.size ≤ 9223372036854775807) :
    Calls Tryd.prog 27 #[.string s] w fun e w' => e = .returned (.bool (goodL (L s))) ∧ Below w.heap.size w w' := by
  have hg : (Lib.trimS (L s) [48, 49]).isEmpty = goodL (L s) := trim_good (L s)
  go_enter Tryd.func27, Tryd.ntmps27
  go_wp2_with (go_at_call 39; refine (Any.strings_Trim_laid Tryd.lays160 (by kernel_rfl) s ⟨#[48, 49]⟩ w hs (by decide) (ascii_of_all (by decide))).mono ?_; rintro e w1 ⟨rfl, hb⟩)
  go_ret
  exact ⟨rfl, hb⟩
end Go.Proofs.YtolodlnndojaiaaDoor.Good
