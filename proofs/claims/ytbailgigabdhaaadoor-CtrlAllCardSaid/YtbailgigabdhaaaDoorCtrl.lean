/- What the printed functions of package ctrl come to: kinds, names, a control field's octets or the error; and the document's the same. Plain Lean over the printed functions. -/
import Derived.Test.YtbailgigabdhaaaDoorPackTwo
import Derived.Test.YtbailgigabdhaaaDoorLaidCtrl
import Derived.Test.YtbailgigabdhaaaDoorPrint4
namespace Go.Proofs.YtbailgigabdhaaaDoor.Ctl
open Go.RowKit Go.Proofs.YtbailgigabdhaaaDoorW.PrintWords Go.Proofs.YtbailgigabdhaaaDoorW.PrintLast Go.Proofs.YtbailgigabdhaaaDoorW.PrintMore Go.Proofs.YtbailgigabdhaaaDoor.Str Go.Proofs.YtbailgigabdhaaaDoor.Field Go.Proofs.YtbailgigabdhaaaDoor.Pack Go.Proofs.YtbailgigabdhaaaDoor.Print Go.Proofs.YtbailgigabdhaaaDoorX
theorem ten {a : Int} (h : 0 ≤ a ∧ a < 10) : a = 0 ∨ a = 1 ∨ a = 2 ∨ a = 3 ∨ a = 4 ∨ a = 5 ∨ a = 6 ∨ a = 7 ∨ a = 8 ∨ a = 9 := by omega
theorem good_eq (a : Int) : ctrl_Kind_good.f a = some (decide (0 ≤ a ∧ a < 10)) := by
  unfold ctrl_Kind_good.f
  by_cases h : a ≥ 0
  · rw [if_pos h]; simp [h]
  · rw [if_neg h]; simp [h]
theorem num_eq (a : Int) : ctrl_Kind_Numbered.f a = some (decide (0 ≤ a ∧ a ≤ 3)) := by
  unfold ctrl_Kind_Numbered.f
  by_cases h : a ≥ 0
  · rw [if_pos h]; simp [h]
  · rw [if_neg h]; simp [h]
theorem rnum_eq (a : Int) : lapwingref05_Numbered.f a = some (decide (0 ≤ a ∧ a ≤ 3)) := by
  unfold lapwingref05_Numbered.f
  by_cases h0 : a = 0
  · rw [if_pos h0]; subst h0; rfl
  · rw [if_neg h0]
    by_cases h1 : a = 1
    · rw [if_pos h1]; subst h1; rfl
    · rw [if_neg h1]
      by_cases h2 : a = 2
      · rw [if_pos h2]; subst h2; rfl
      · rw [if_neg h2]
        by_cases h3 : a = 3
        · subst h3; rfl
        · rw [beq_false_of_ne h3, decide_eq_false (by omega)]
theorem name_eq (a : Int) : ∃ n, ctrl_Kind_Name.f a = some n ∧ lapwingref05_Name.f a = some n := by
  by_cases h : 0 ≤ a ∧ a < 10
  · rcases ten h with rfl | rfl | rfl | rfl | rfl | rfl | rfl | rfl | rfl | rfl <;> exact ⟨_, rfl, rfl⟩
  · refine ⟨⟨#[]⟩, ?_, ?_⟩
    · unfold ctrl_Kind_Name.f
      refine bind_at (good_eq a) (if_neg ?_)
      rw [decide_eq_false h]; decide
    · unfold lapwingref05_Name.f
      rw [if_neg (by omega), if_neg (by omega), if_neg (by omega), if_neg (by omega), if_neg (by omega), if_neg (by omega), if_neg (by omega), if_neg (by omega), if_neg (by omega), if_neg (by omega)]
/-- A bit as a number. -/
def b2i (b : Bool) : Int := if b = true then 1 else 0
theorem b2i_range (b : Bool) : 0 ≤ b2i b ∧ b2i b ≤ 1 := by cases b <;> decide
theorem one_eq (b : Bool) : ctrl_one.f b = some (b2i b) := by cases b <;> rfl
theorem fo_range {a : Int} (h : 0 ≤ a ∧ a < 10) : 0 ≤ rd glFirst a ∧ rd glFirst a ≤ 135 := by
  rcases ten h with rfl | rfl | rfl | rfl | rfl | rfl | rfl | rfl | rfl | rfl <;> decide
theorem octet_eq {a : Int} (h : 0 ≤ a ∧ a < 10) : lapwingref05_octet.f a = some (rd glFirst a) := by
  rcases ten h with rfl | rfl | rfl | rfl | rfl | rfl | rfl | rfl | rfl | rfl <;> rfl
/-- A control field's octets, or the error. -/
def putC (a : Int) (p : Bool) (s r : Int) : ByteArray × Int :=
  if 0 ≤ a ∧ a < 10 then
    if a ≤ 3 then
      if 0 ≤ r ∧ r < 128 then
        if a = 0 then (if 0 ≤ s ∧ s < 128 then (strOfNums [2 * s, 2 * r + b2i p], 0) else (⟨#[]⟩, 2))
        else (strOfNums [rd glFirst a, 2 * r + b2i p], 0)
      else (⟨#[]⟩, 2)
    else (strOfNums [rd glFirst a + 16 * b2i p], 0)
  else (⟨#[]⟩, 4)
theorem with_bit {a : Int} (h : 0 ≤ a ∧ a < 10) (h3 : ¬ a ≤ 3) (p : Bool) : Go.bits .or .u8 (rd glFirst a) ((wrap64 (b2i p * 16)) % 256) = rd glFirst a + 16 * b2i p := by
  have : a = 4 ∨ a = 5 ∨ a = 6 ∨ a = 7 ∨ a = 8 ∨ a = 9 := by omega
  rcases this with rfl | rfl | rfl | rfl | rfl | rfl <;> cases p <;> decide +kernel
theorem put_eq (k : Nat) (hk : 5 < k) (a : Int) (p : Bool) (s r : Int) : ctrl_Put.f k a p s r = some (putC a p s r) := by
  obtain ⟨m, hm, rfl⟩ : ∃ m, 4 < m ∧ k = m + 1 := ⟨k - 1, by omega, by omega⟩
  have hp := b2i_range p
  unfold ctrl_Put.f putC
  refine bind_at (good_eq a) ?_
  by_cases h : 0 ≤ a ∧ a < 10
  · rw [if_pos (decide_eq_true h), if_pos h, if_pos h.1, if_pos h.2]
    refine bind_at (num_eq a) ?_
    by_cases h3 : a ≤ 3
    · rw [if_pos (decide_eq_true ⟨h.1, h3⟩), if_pos h3]
      refine bind_at (one_eq p) ?_
      refine bind_at (pack_two (m + 1) (by omega) (b2i p) r hp) ?_
      by_cases hr : 0 ≤ r ∧ r < 128
      · rw [if_pos hr, if_pos hr]
        refine Eq.trans (if_pos rfl) ?_
        rw [ctrl_Put.j0]
        by_cases h0 : a = 0
        · subst h0
          refine Eq.trans (if_pos rfl) ?_
          refine bind_at (pack_two m (by omega) 0 s (by decide)) ?_
          rw [if_pos rfl]
          by_cases hs : 0 ≤ s ∧ s < 128
          · rw [if_pos hs, if_pos hs]
            refine Eq.trans (if_pos rfl) ?_
            rw [Int.add_zero]
          · rw [if_neg hs, if_neg hs]
            exact if_neg (by decide)
        · rw [if_neg h0]
          refine Eq.trans (if_neg (by rw [beq_false_of_ne h0]; decide)) ?_
          exact if_pos rfl
      · rw [if_neg hr, if_neg hr]
        refine Eq.trans (if_neg (by decide)) ?_
        rw [ctrl_Put.j0]
        refine Eq.trans (if_neg (by decide)) ?_
        exact if_neg (by decide)
    · rw [if_neg (by rw [decide_eq_false (fun q => h3 q.2)]; decide), if_neg h3]
      refine bind_at (one_eq p) ?_
      rw [with_bit h h3 p]
  · rw [if_neg (by rw [decide_eq_false h]; decide), if_neg h]
theorem rput_in (k : Nat) (hk : 3 < k) {a : Int} (h : 0 ≤ a ∧ a < 10) (p : Bool) (s r : Int) : lapwingref05_Put.j0 k false a p s r = some (putC a p s r) := by
  obtain ⟨m, hm, rfl⟩ : ∃ m, 0 < m ∧ k = m + 1 + 1 + 1 := ⟨k - 3, by omega, by omega⟩
  have hf := fo_range h
  have hp := b2i_range p
  rw [lapwingref05_Put.j0]
  refine Eq.trans (if_neg (by decide)) ?_
  refine bind_at (octet_eq h) ?_
  refine bind_at (rnum_eq a) ?_
  unfold putC
  rw [if_pos h]
  generalize rd glFirst a = x at *
  by_cases h3 : a ≤ 3
  · rw [if_pos (decide_eq_true ⟨h.1, h3⟩), if_pos h3]
    have hj1 : ∀ b, b = decide (¬ (0 ≤ r ∧ r < 128)) → lapwingref05_Put.j1 (m + 1 + 1) x b a p s r = some (if 0 ≤ r ∧ r < 128 then if a = 0 then (if 0 ≤ s ∧ s < 128 then (strOfNums [2 * s, 2 * r + b2i p], 0) else (⟨#[]⟩, 2)) else (strOfNums [x, 2 * r + b2i p], 0) else (⟨#[]⟩, 2)) := by
      intro b hb
      rw [lapwingref05_Put.j1]
      by_cases hr : 0 ≤ r ∧ r < 128
      · rw [if_neg (by rw [hb, decide_eq_false (by omega)]; decide), if_pos hr]
        have y0 : wrap64 (2 * r) = 2 * r := w64 (by omega) (by omega)
        have y1 : wrap64 (2 * r + 1) = 2 * r + 1 := w64 (by omega) (by omega)
        by_cases h0 : a = 0
        · rw [if_pos h0, if_pos h0]
          have hj2 : ∀ c, c = decide (¬ (0 ≤ s ∧ s < 128)) → lapwingref05_Put.j2 (m + 1) c a p s r = some (if 0 ≤ s ∧ s < 128 then (strOfNums [2 * s, 2 * r + b2i p], 0) else (⟨#[]⟩, 2)) := by
            intro c hc
            rw [lapwingref05_Put.j2]
            by_cases hs : 0 ≤ s ∧ s < 128
            · rw [if_neg (by rw [hc, decide_eq_false (by omega)]; decide), if_pos hs]
              have z0 : wrap64 (2 * s) = 2 * s := w64 (by omega) (by omega)
              rw [y0, y1, z0, show 2 * s % 256 = 2 * s from by omega, show 2 * r % 256 = 2 * r from by omega, show (2 * r + 1) % 256 = 2 * r + 1 from by omega]
              cases p
              · exact (if_neg (by decide)).trans (by rw [show b2i false = 0 from rfl, Int.add_zero])
              · exact if_pos rfl
            · rw [if_pos (by rw [hc, decide_eq_true hs]), if_neg hs]
          by_cases hs : s < 0
          · rw [if_pos hs]; exact hj2 true (decide_eq_true (by omega)).symm
          · rw [if_neg hs]
            refine hj2 _ ?_
            by_cases hs2 : s > 127
            · rw [decide_eq_true hs2, decide_eq_true (by omega)]
            · rw [decide_eq_false hs2, decide_eq_false (by omega)]
        · rw [if_neg h0, if_neg h0]
          rw [y0, y1, show x % 256 = x from by omega, show 2 * r % 256 = 2 * r from by omega, show (2 * r + 1) % 256 = 2 * r + 1 from by omega]
          cases p
          · exact (if_neg (by decide)).trans (by rw [show b2i false = 0 from rfl, Int.add_zero])
          · exact if_pos rfl
      · rw [if_pos (by rw [hb, decide_eq_true hr]), if_neg hr]
    by_cases hr : r < 0
    · rw [if_pos hr]; exact hj1 true (decide_eq_true (by omega)).symm
    · rw [if_neg hr]
      refine hj1 _ ?_
      by_cases hr2 : r > 127
      · rw [decide_eq_true hr2, decide_eq_true (by omega)]
      · rw [decide_eq_false hr2, decide_eq_false (by omega)]
  · rw [if_neg (by rw [decide_eq_false (fun q => h3 q.2)]; decide), if_neg h3]
    have y0 : wrap64 (x + 16) = x + 16 := w64 (by omega) (by omega)
    rw [y0, show x % 256 = x from by omega, show (x + 16) % 256 = x + 16 from by omega]
    cases p
    · exact (if_neg (by decide)).trans (by rw [show b2i false = 0 from rfl, Int.mul_zero, Int.add_zero])
    · exact if_pos rfl
theorem rput_out (k : Nat) (hk : 0 < k) {a : Int} (h : ¬ (0 ≤ a ∧ a < 10)) (p : Bool) (s r : Int) : lapwingref05_Put.j0 k true a p s r = some (putC a p s r) := by
  obtain ⟨m, rfl⟩ : ∃ m, k = m + 1 := ⟨k - 1, by omega⟩
  rw [lapwingref05_Put.j0, putC, if_neg h]
  exact if_pos rfl
theorem rput_eq (k : Nat) (hk : 3 < k) (a : Int) (p : Bool) (s r : Int) : lapwingref05_Put.f k a p s r = some (putC a p s r) := by
  unfold lapwingref05_Put.f
  by_cases h0 : a < 0
  · rw [if_pos h0]; exact rput_out k (by omega) (by omega) p s r
  · rw [if_neg h0]
    by_cases h1 : a ≥ 10
    · rw [decide_eq_true h1]; exact rput_out k (by omega) (by omega) p s r
    · rw [decide_eq_false h1]; exact rput_in k hk (by omega) p s r
theorem first_put : putC 0 true 3 2 = (strOfNums [6, 5], 0) := rfl
theorem first_list : (strOfNums [6, 5]).toList = [6, 5] := by decide +kernel
theorem sabme_name : ctrl_Kind_Name.f 4 = some ⟨#[83, 65, 66, 77, 69]⟩ := rfl
theorem sabme_list : ((⟨#[83, 65, 66, 77, 69]⟩ : ByteArray).toList == ([83, 65, 66, 77, 69] : List UInt8)) = true := by decide +kernel
theorem wakes_eq (k : Nat) (hk : 5 < k) : lapwinglaw05_wakes.f k = some true := by
  unfold lapwinglaw05_wakes.f
  have h : ctrl_Put.f k 0 true 3 2 = some (strOfNums [6, 5], 0) := put_eq k hk 0 true 3 2
  refine bind_at h (Eq.trans (if_pos rfl) (Eq.trans (if_pos first_list) ?_))
  refine bind_at sabme_name ?_
  rw [sabme_list]
end Go.Proofs.YtbailgigabdhaaaDoor.Ctl
