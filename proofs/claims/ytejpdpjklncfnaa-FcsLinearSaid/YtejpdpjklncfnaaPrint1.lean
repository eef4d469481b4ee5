-- Written by a program of this session's, over the kit's printer turned by wip/tools/mkprint.py. Lean checks it.
import Derived.Test.YtejpdpjklncfnaaPrint0
namespace Go.Proofs.Ytejpdpjklncfnaa.Print
open Go.RowKit Go.Proofs.YtejpdpjklncfnaaW.PrintWords Go.Proofs.YtejpdpjklncfnaaW.PrintLast Go.Proofs.YtejpdpjklncfnaaW.PrintMore
attribute [local go_sem] max2_int min2_int max_two min_two max_three min_three max_four min_four   -- for this text's walks alone
set_option linter.unusedVariables false
set_option linter.unusedSimpArgs false
attribute [local go_sem high] Go.Proofs.YtejpdpjklncfnaaX.unary_xor_u16 Go.Proofs.YtejpdpjklncfnaaX.unary_xor_u8

/-! ### fcs_Step: function 10 -/
def fcs_Step.l0 : Nat → Int → Int → Option (Int)
  | 0, _, _ => none
  | k + 1, x0, x10 => if x10 < 8 then (fcs_Step.l0 k (Go.bits .xor .u16 (x0 / 2) (IntKind.u16.wrap ((Go.bits .and .u16 x0 1) * 33800))) (wrap64 (x10 + 1))) else (some x0)
def fcs_Step.f (k : Nat) (a0 : Int) (a1 : Int) : Option (Int) := fcs_Step.l0 k (Go.bits .xor .u16 a0 (IntKind.u16.wrap (a1))) 0
theorem fcs_Step.mono_l : ∀ k, (∀ y0 y1, LeO (fcs_Step.l0 k y0 y1) (fcs_Step.l0 (k + 1) y0 y1))
  | 0 => fun _ _ r h => by simp [fcs_Step.l0] at h
  | k + 1 => by
    have ih0 := fcs_Step.mono_l k
    · intro y0 y1
      unfold fcs_Step.l0
      repeat' first
      | (with_reducible exact ih0 _ _)
      | (with_reducible exact LeO.refl _)
      | (with_reducible exact LeO.none _)
      | (with_reducible refine LeO.ite ?_ ?_)
      | (with_reducible refine LeO.bind ?_ (fun _ => ?_))
      | exact ih0 _ _
      | exact LeO.none _
      | refine LeO.ite ?_ ?_
      | refine LeO.bind ?_ (fun _ => ?_)
theorem fcs_Step.mono : ∀ a0 a1 k, LeO (fcs_Step.f k a0 a1) (fcs_Step.f (k + 1) a0 a1) := by
  intro a0 a1 k
  have ih0 := fcs_Step.mono_l k
  unfold fcs_Step.f
  repeat' first
      | (with_reducible exact ih0 _ _)
      | (with_reducible exact LeO.refl _)
      | (with_reducible exact LeO.none _)
      | (with_reducible refine LeO.ite ?_ ?_)
      | (with_reducible refine LeO.bind ?_ (fun _ => ?_))
      | exact ih0 _ _
      | exact LeO.none _
      | refine LeO.ite ?_ ?_
      | refine LeO.bind ?_ (fun _ => ?_)
set_option maxHeartbeats 8000000 in
set_option maxRecDepth 100000 in
theorem fcs_Step.calls (k : Nat) (a0 : Int) (a1 : Int) (r : Int) (w : World) (h : fcs_Step.f k a0 a1 = some r) :
    Calls Try.prog 10 #[.int .u16 a0, .int .u8 a1] w fun e w' => e = .returned (.int .u16 r) ∧ Drawn0 w w' := by
  have H : (fcs_Step.l0 k (Go.bits .xor .u16 a0 (IntKind.u16.wrap (a1))) 0) = some r := h
  clear h
  have H' := Aside0.mk H
  clear H
  go_enter Try.func10, Try.ntmps10
  go_wp2
  go_loopg [0, 10] k (fun kq v0 v10 w' => ∃ (x0_1 : Int) (x10_1 : Int), v0 = .int .u16 x0_1 ∧ v10 = .int .i64 x10_1 ∧ Aside0 (fcs_Step.l0 kq x0_1 x10_1 = some r) ∧ Aside0 (kq ≤ k) ∧ Drawn0 w w')
  case atStart => exact ⟨(Go.bits .xor .u16 a0 (IntKind.u16.wrap (a1))), (0), (by first | rfl | (simp; done) | (simp [*]; done)), (by first | rfl | (simp; done) | (simp [*]; done)), H', ⟨Nat.le_refl _⟩, by repeat (first | exact Drawn0.refl _ | apply Drawn0.step)⟩
  case round =>
    clear H'
    try clear c1
    try clear p2
    obtain ⟨x0_1, x10_1, rfl, rfl, HA, HK1, ⟨m1, rfl⟩⟩ := hrel
    cases gk with
    | zero => exact absurd HA.out (by simp [fcs_Step.l0])
    | succ k1 =>
      have H := HA.out
      clear HA
      simp only [fcs_Step.l0] at H
      by_cases c3 : x10_1 < 8
      · rw [if_pos c3] at H
        have c3b0 : decide (x10_1 < 8) = true := decide_eq_true c3
        clear c3
        have H' := Aside0.mk H
        clear H
        go_wp2
        go_roundg k1
        case measure => have := HK1.out; omega
        case rel => exact ⟨(Go.bits .xor .u16 (x0_1 / 2) (IntKind.u16.wrap ((Go.bits .and .u16 x0_1 1) * 33800))), (wrap64 (x10_1 + 1)), (by first | rfl | (simp; done) | (simp [*]; done)), (by first | rfl | (simp; done) | (simp [*]; done)), H', ⟨by have := HK1.out; omega⟩, by repeat (first | exact Drawn0.refl _ | apply Drawn0.step)⟩
      · rw [if_neg c3] at H
        have c3b0 : decide (x10_1 < 8) = false := decide_eq_false c3
        clear c3
        obtain rfl := Option.some.inj H
        go_wp2
        go_ret
        exact ⟨by first | rfl | (simp; done) | (simp [*]; done), by repeat (first | exact Drawn0.refl _ | apply Drawn0.step)⟩

/-! ### fcs_Sum: function 9 -/
def fcs_Sum.l0 : Nat → ByteArray → Int → Int → Int → Option (Int)
  | 0, _, _, _, _ => none
  | k + 1, x0, x3, x6, x7 => if x7 < x6 then (if 0 ≤ x7 then (if x7 < (x0.size : Int) then ((fcs_Step.f k x3 (bt x0 x7)).bind fun t101 => (fcs_Sum.l0 k x0 t101 x6 (wrap64 (x7 + 1)))) else (none)) else (none)) else (some (Go.bits .xor .u16 65535 x3))
def fcs_Sum.f (k : Nat) (a0 : ByteArray) : Option (Int) := fcs_Sum.l0 k a0 65535 (a0.size : Int) 0
theorem fcs_Sum.mono_l : ∀ k, (∀ y0 y1 y2 y3, LeO (fcs_Sum.l0 k y0 y1 y2 y3) (fcs_Sum.l0 (k + 1) y0 y1 y2 y3))
  | 0 => fun _ _ _ _ r h => by simp [fcs_Sum.l0] at h
  | k + 1 => by
    have ih0 := fcs_Sum.mono_l k
    · intro y0 y1 y2 y3
      unfold fcs_Sum.l0
      repeat' first
      | (with_reducible exact ih0 _ _ _ _)
      | (with_reducible exact fcs_Step.mono _ _ _)
      | (with_reducible exact LeO.refl _)
      | (with_reducible exact LeO.none _)
      | (with_reducible refine LeO.ite ?_ ?_)
      | (with_reducible refine LeO.bind ?_ (fun _ => ?_))
      | exact ih0 _ _ _ _
      | exact fcs_Step.mono _ _ _
      | exact LeO.none _
      | refine LeO.ite ?_ ?_
      | refine LeO.bind ?_ (fun _ => ?_)
theorem fcs_Sum.mono : ∀ a0 k, LeO (fcs_Sum.f k a0) (fcs_Sum.f (k + 1) a0) := by
  intro a0 k
  have ih0 := fcs_Sum.mono_l k
  unfold fcs_Sum.f
  repeat' first
      | (with_reducible exact ih0 _ _ _ _)
      | (with_reducible exact fcs_Step.mono _ _ _)
      | (with_reducible exact LeO.refl _)
      | (with_reducible exact LeO.none _)
      | (with_reducible refine LeO.ite ?_ ?_)
      | (with_reducible refine LeO.bind ?_ (fun _ => ?_))
      | exact ih0 _ _ _ _
      | exact fcs_Step.mono _ _ _
      | exact LeO.none _
      | refine LeO.ite ?_ ?_
      | refine LeO.bind ?_ (fun _ => ?_)
set_option maxHeartbeats 8000000 in
set_option maxRecDepth 100000 in
theorem fcs_Sum.calls (k : Nat) (a0 : ByteArray) (r : Int) (w : World) (h : fcs_Sum.f k a0 = some r) :
    Calls Try.prog 9 #[.string a0] w fun e w' => e = .returned (.int .u16 r) ∧ Drawn0 w w' := by
  have H : (fcs_Sum.l0 k a0 65535 (a0.size : Int) 0) = some r := h
  clear h
  have H' := Aside0.mk H
  clear H
  go_enter Try.func9, Try.ntmps9
  go_wp2
  go_loopg [3, 7] k (fun kq v3 v7 w' => ∃ (x3_1 : Int) (x7_1 : Int), v3 = .int .u16 x3_1 ∧ v7 = .int .i64 x7_1 ∧ Aside0 (fcs_Sum.l0 kq a0 x3_1 (a0.size : Int) x7_1 = some r) ∧ Aside0 (kq ≤ k) ∧ Drawn0 w w')
  case atStart => exact ⟨(65535), (0), (by first | rfl | (simp; done) | (simp [*]; done)), (by first | rfl | (simp; done) | (simp [*]; done)), H', ⟨Nat.le_refl _⟩, by repeat (first | exact Drawn0.refl _ | apply Drawn0.step)⟩
  case round =>
    clear H'
    obtain ⟨x3_1, x7_1, rfl, rfl, HA, HK1, ⟨m1, rfl⟩⟩ := hrel
    cases gk with
    | zero => exact absurd HA.out (by simp [fcs_Sum.l0])
    | succ k1 =>
      have H := HA.out
      clear HA
      simp only [fcs_Sum.l0] at H
      by_cases c2 : x7_1 < (a0.size : Int)
      · rw [if_pos c2] at H
        have c2b0 : decide (x7_1 < (a0.size : Int)) = true := decide_eq_true c2
        clear c2
        by_cases c3 : 0 ≤ x7_1
        · rw [if_pos c3] at H
          have c3b0 : decide (0 ≤ x7_1) = true := decide_eq_true c3
          clear c3
          by_cases c4 : x7_1 < (a0.size : Int)
          · rw [if_pos c4] at H
            have c4b0 : decide (x7_1 < (a0.size : Int)) = true := decide_eq_true c4
            clear c4
            replace H := Option.bind_eq_some_iff.mp H
            obtain ⟨t101, A60, H⟩ := H
            replace H : (fcs_Sum.l0 k1 a0 t101 (a0.size : Int) (wrap64 (x7_1 + 1))) = some r := H
            have A6 := Aside0.mk A60
            clear A60
            have H' := Aside0.mk H
            clear H
            have p5 : 0 ≤ (x7_1 : Int) := of_decide_eq_true (by first | (with_reducible assumption) | assumption)
            have q5 : x7_1 < (a0.size : Int) := of_decide_eq_true (by first | (with_reducible assumption) | assumption)
            have hx5 := bt_at a0 x7_1
            replace p5 := eq_true p5
            replace q5 := eq_true q5
            go_wp2_with (first | ((with_reducible refine gate_callee (f := 10) rfl ?_); refine goesL_ (some 14) rfl rfl Try.func10 (by kernel_rfl) rfl #[.int .u16 x3_1, .int .u8 (bt a0 x7_1)] rfl (by (try simp only [List.map_toArray, List.map_cons, List.map_nil]); first | done | rfl | (simp only [List.length_drop, List.length_take]; rfl)) ?_; (with_reducible refine (fcs_Step.calls k1 x3_1 (bt a0 x7_1) t101 _ A6.out).mono ?_); rintro e w' ⟨rfl, ⟨nd, rfl⟩⟩; refine ⟨_, rfl, ?_⟩))
            go_roundg k1
            case measure => have := HK1.out; omega
            case rel => exact ⟨(t101), (wrap64 (x7_1 + 1)), (by first | rfl | (simp; done) | (simp [*]; done)), (by first | rfl | (simp; done) | (simp [*]; done)), H', ⟨by have := HK1.out; omega⟩, by repeat (first | exact Drawn0.refl _ | apply Drawn0.step)⟩
          · rw [if_neg c4] at H
            exact absurd H (by simp)
        · rw [if_neg c3] at H
          exact absurd H (by simp)
      · rw [if_neg c2] at H
        have c2b0 : decide (x7_1 < (a0.size : Int)) = false := decide_eq_false c2
        clear c2
        obtain rfl := Option.some.inj H
        go_wp2
        go_ret
        exact ⟨by first | rfl | (simp; done) | (simp [*]; done), by repeat (first | exact Drawn0.refl _ | apply Drawn0.step)⟩

end Go.Proofs.Ytejpdpjklncfnaa.Print
