/- The law BitsFlips by its own text: it answers true. -/
import Derived.Test.YtjgcoidfkpjeiaaFlip
import Derived.Deep.CutBlock
import Derived.Test.YtjgcoidfkpjeiaaWMore
namespace Go.Proofs.Ytjgcoidfkpjeiaa.Wk
open Go.RowKit Go.Proofs.YtjgcoidfkpjeiaaW.PrintWords Go.Proofs.YtjgcoidfkpjeiaaW.PrintLast Go.Proofs.YtjgcoidfkpjeiaaW.PrintMore Go.Proofs.Ytjgcoidfkpjeiaa.Str Go.Proofs.Ytjgcoidfkpjeiaa.Bits
set_option linter.unusedVariables false
attribute [local go_sem] max2_int min2_int
theorem first : (⟨(turnL (L ⟨#[48, 49]⟩) [0]).toArray⟩ : ByteArray) = ⟨#[49, 49]⟩ := by decide +kernel
/-- One number, made by a call. -/
theorem one_int (w : World) : (Kd.int .i64).C (w.alloc (.cells #[.int .i64 0] 3)) (some ⟨w.heap.size, 0, none⟩) 1 [0] := by
  refine ⟨rfl, by decide, fun _ => ⟨_, rfl, fun j p hj => ⟨[.int .i64 p], rfl, rfl, fun i u hu => ?_⟩⟩⟩
  match j, hj with
  | 0, hj =>
    match i, hu with
    | 0, hu =>
      simp at hj hu
      subst hj; subst hu
      exact cell_one_new w _ 3 0 _ rfl
theorem Below.alloc_then {w w1 : World} {o : Obj} (h : Below w.heap.size w w) (h1 : Below (w.alloc o).heap.size (w.alloc o) w1) : Below w.heap.size w w1 :=
  (h.alloc (Nat.le_refl _) o).trans (h1.mono (by show w.heap.size ≤ (w.heap.push o).size; simp))
set_option maxHeartbeats 4000000 in
set_option maxRecDepth 1000000 in
theorem short (a0 : ByteArray) (A : Option Addr) (c n : Nat) (l : List Int) (w : World) (w0 : a0.size ≤ 140737488351232) (hr : (Kd.int .i64).C w A n l) (hc : n ≤ c) (hn : n ≤ 100) :
    Calls Try.prog 4 #[.string a0, .slice A n c] w fun e w' => e = .returned (.bool true) ∧ Below w.heap.size w w' := by
  go_enter Try.func4, Try.ntmps4
  go_wp2_with fail
  refine (Flip.walkN _ _ 1 1 [0] _ (by decide) (one_int w) (Nat.le_refl _)).mono ?_
  rintro e w1 ⟨he, hb1⟩
  rw [first] at he
  subst he
  have hb1' := Below.alloc_then (Below.refl _ w) hb1
  clear hb1
  go_wp2_with fail
  refine (Flip.walkN a0 A _ c _ _ (by omega) (Kd.C_below hr hb1') (by omega)).mono ?_
  rintro e w2 ⟨rfl, hb2⟩
  have hb3 := below_step hb1' hb2
  clear hb2 hb1'
  go_wp2_with fail
  refine (Flip.walkRN a0 A _ c _ _ (by omega) (Kd.C_below hr hb3) (by omega)).mono ?_
  rintro e w3 ⟨rfl, hb4⟩
  have hb5 := below_step hb3 hb4
  clear hb3 hb4
  go_wp2
  go_ret
  exact ⟨by simp, hb5⟩
set_option maxHeartbeats 4000000 in
set_option maxRecDepth 1000000 in
theorem long (a0 : ByteArray) (A : Option Addr) (c n : Nat) (l : List Int) (w : World) (w0 : a0.size ≤ 140737488351232) (hr0 : (Kd.int .i64).C w A n l) (hc : n ≤ c) (hn : 100 < n) :
    Calls Try.prog 4 #[.string a0, .slice A n c] w fun e w' => e = .returned (.bool true) ∧ Below w.heap.size w w' := by
  have hr := Flip.C_take hr0 (by omega : 100 ≤ n)
  have hm := hr0.2.1
  clear hr0
  go_enter Try.func4, Try.ntmps4
  go_wp2_with fail
  refine (Flip.walkN _ _ 1 1 [0] _ (by decide) (one_int w) (Nat.le_refl _)).mono ?_
  rintro e w1 ⟨he, hb1⟩
  rw [first] at he
  subst he
  have hb1' := Below.alloc_then (Below.refl _ w) hb1
  clear hb1
  go_wp2_with fail
  refine (Flip.walkN a0 A _ c _ _ (by omega) (Kd.C_below hr hb1') (by omega)).mono ?_
  rintro e w2 ⟨rfl, hb2⟩
  have hb3 := below_step hb1' hb2
  clear hb2 hb1'
  go_wp2_with fail
  refine (Flip.walkRN a0 A _ c _ _ (by omega) (Kd.C_below hr hb3) (by omega)).mono ?_
  rintro e w3 ⟨rfl, hb4⟩
  have hb5 := below_step hb3 hb4
  clear hb3 hb4
  go_wp2
  go_ret
  exact ⟨by simp, hb5⟩
theorem BitsFlips (a0 : ByteArray) (a1 : Option Addr) (len1 cap1 : Nat) (z1 : List Int) (w : World) (w0 : a0.size ≤ 140737488351232) (w1 : (a1 = none ∧ len1 = 0 ∧ cap1 = 0 ∧ z1 = []) ∨ ∃ x, a1 = some x ∧ len1 ≤ cap1 ∧ cap1 ≤ maxLen ∧ z1.length = cap1 ∧ (∀ i, i < z1.length → w.cell? (x.add i) = some (.int .i64 (z1.getD i 0))) ∧ ∀ n ∈ z1, (Lit.int .i64 n).wf = true) (y1 : len1 * 8 ≤ 140737488351232) :
    Calls Try.prog 4 #[.string a0, .slice a1 len1 cap1] w fun e w' => e = .returned (.bool true) ∧ Below w.heap.size w w' := by
  obtain ⟨l1, rfl, hr1, hm1, hw1, hc1⟩ := ReadsInt.ofRowC w1
  have hr := Kd.C_of_reads (d := (0 : Int)) (h1 := fun _ => rfl) hr1
  by_cases h : l1.length ≤ 100
  · exact short a0 a1 cap1 l1.length l1 w w0 hr hc1 h
  · exact long a0 a1 cap1 l1.length l1 w w0 hr hc1 (by omega)
end Go.Proofs.Ytjgcoidfkpjeiaa.Wk
