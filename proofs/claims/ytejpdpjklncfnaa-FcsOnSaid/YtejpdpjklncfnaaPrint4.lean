-- Written by a program of this session's, over the kit's printer turned by wip/tools/mkprint.py. Lean checks it.
import Derived.Test.YtejpdpjklncfnaaPrint0
import Derived.Test.YtejpdpjklncfnaaPrint1
namespace Go.Proofs.Ytejpdpjklncfnaa.Print
open Go.RowKit Go.Proofs.YtejpdpjklncfnaaW.PrintWords Go.Proofs.YtejpdpjklncfnaaW.PrintLast Go.Proofs.YtejpdpjklncfnaaW.PrintMore
attribute [local go_sem] max2_int min2_int max_two min_two max_three min_three max_four min_four   -- for this text's walks alone
set_option linter.unusedVariables false
set_option linter.unusedSimpArgs false
attribute [local go_sem high] Go.Proofs.YtejpdpjklncfnaaX.unary_xor_u16 Go.Proofs.YtejpdpjklncfnaaX.unary_xor_u8

/-! ### lapwinglaw02_FcsOn: function 5 -/
def lapwinglaw02_FcsOn.l0 : Nat → ByteArray → ByteArray → Int → Int → Int → Option (Bool)
  | 0, _, _, _, _, _ => none
  | k + 1, x0, x1, x5, x21, x22 => if x22 < x21 then (if 0 ≤ x22 then (if x22 < (x1.size : Int) then ((fcs_Step.f k x5 (bt x1 x22)).bind fun t153 => (lapwinglaw02_FcsOn.l0 k x0 x1 t153 x21 (wrap64 (x22 + 1)))) else (none)) else (none)) else ((fcs_Sum.f k (⟨#[49, 50, 51, 52, 53, 54, 55, 56, 57]⟩ : ByteArray)).bind fun t154 => (if t154 = 36974 then (if x0.size + x1.size ≤ 9223372036854775807 then ((fcs_Sum.f k (x0 ++ x1)).bind fun t155 => (some ((Go.bits .xor .u16 65535 x5) == t155))) else (none)) else (some false)))
def lapwinglaw02_FcsOn.f (k : Nat) (a0 : ByteArray) (a1 : ByteArray) : Option (Bool) := if 0 ≤ (mn (a0.size : Int) 600) then (if (mn (a0.size : Int) 600) ≤ (a0.size : Int) then (if 0 ≤ (mn (a1.size : Int) 600) then (if (mn (a1.size : Int) 600) ≤ (a1.size : Int) then ((fcs_Sum.f k (a0.extract 0 ((mn (a0.size : Int) 600) : Int).toNat)).bind fun t152 => (lapwinglaw02_FcsOn.l0 k (a0.extract 0 ((mn (a0.size : Int) 600) : Int).toNat) (a1.extract 0 ((mn (a1.size : Int) 600) : Int).toNat) (Go.bits .xor .u16 65535 t152) ((a1.extract 0 ((mn (a1.size : Int) 600) : Int).toNat).size : Int) 0)) else (none)) else (none)) else (none)) else (none)
theorem lapwinglaw02_FcsOn.mono_l : ∀ k, (∀ y0 y1 y2 y3 y4, LeO (lapwinglaw02_FcsOn.l0 k y0 y1 y2 y3 y4) (lapwinglaw02_FcsOn.l0 (k + 1) y0 y1 y2 y3 y4))
  | 0 => fun _ _ _ _ _ r h => by simp [lapwinglaw02_FcsOn.l0] at h
  | k + 1 => by
    have ih0 := lapwinglaw02_FcsOn.mono_l k
    · intro y0 y1 y2 y3 y4
      unfold lapwinglaw02_FcsOn.l0
      repeat' first
      | (with_reducible exact ih0 _ _ _ _ _)
      | (with_reducible exact fcs_Step.mono _ _ _)
      | (with_reducible exact fcs_Sum.mono _ _)
      | (with_reducible exact LeO.refl _)
      | (with_reducible exact LeO.none _)
      | (with_reducible refine LeO.ite ?_ ?_)
      | (with_reducible refine LeO.bind ?_ (fun _ => ?_))
      | exact ih0 _ _ _ _ _
      | exact fcs_Step.mono _ _ _
      | exact fcs_Sum.mono _ _
      | exact LeO.none _
      | refine LeO.ite ?_ ?_
      | refine LeO.bind ?_ (fun _ => ?_)
theorem lapwinglaw02_FcsOn.mono : ∀ a0 a1 k, LeO (lapwinglaw02_FcsOn.f k a0 a1) (lapwinglaw02_FcsOn.f (k + 1) a0 a1) := by
  intro a0 a1 k
  have ih0 := lapwinglaw02_FcsOn.mono_l k
  unfold lapwinglaw02_FcsOn.f
  repeat' first
      | (with_reducible exact ih0 _ _ _ _ _)
      | (with_reducible exact fcs_Step.mono _ _ _)
      | (with_reducible exact fcs_Sum.mono _ _)
      | (with_reducible exact LeO.refl _)
      | (with_reducible exact LeO.none _)
      | (with_reducible refine LeO.ite ?_ ?_)
      | (with_reducible refine LeO.bind ?_ (fun _ => ?_))
      | exact ih0 _ _ _ _ _
      | exact fcs_Step.mono _ _ _
      | exact fcs_Sum.mono _ _
      | exact LeO.none _
      | refine LeO.ite ?_ ?_
      | refine LeO.bind ?_ (fun _ => ?_)
set_option maxHeartbeats 8000000 in
set_option maxRecDepth 100000 in
theorem lapwinglaw02_FcsOn.calls (k : Nat) (a0 : ByteArray) (a1 : ByteArray) (r : Bool) (w : World) (h : lapwinglaw02_FcsOn.f k a0 a1 = some r) :
    Calls Try.prog 5 #[.string a0, .string a1] w fun e w' => e = .returned (.bool r) ∧ Below w.heap.size w w' := by
  have HB := Aside0.mk (Below.refl w.heap.size w)
  have H : (if 0 ≤ (mn (a0.size : Int) 600) then (if (mn (a0.size : Int) 600) ≤ (a0.size : Int) then (if 0 ≤ (mn (a1.size : Int) 600) then (if (mn (a1.size : Int) 600) ≤ (a1.size : Int) then ((fcs_Sum.f k (a0.extract 0 ((mn (a0.size : Int) 600) : Int).toNat)).bind fun t152 => (lapwinglaw02_FcsOn.l0 k (a0.extract 0 ((mn (a0.size : Int) 600) : Int).toNat) (a1.extract 0 ((mn (a1.size : Int) 600) : Int).toNat) (Go.bits .xor .u16 65535 t152) ((a1.extract 0 ((mn (a1.size : Int) 600) : Int).toNat).size : Int) 0)) else (none)) else (none)) else (none)) else (none)) = some r := h
  clear h
  obtain ⟨ji3, hji3⟩ : ∃ j_ : Int, (mn (a0.size : Int) 600) = j_ := ⟨_, rfl⟩
  replace H : (if 0 ≤ (ji3) then (if (ji3) ≤ (a0.size : Int) then (if 0 ≤ (mn (a1.size : Int) 600) then (if (mn (a1.size : Int) 600) ≤ (a1.size : Int) then ((fcs_Sum.f k (a0.extract 0 ((ji3) : Int).toNat)).bind fun t152 => (lapwinglaw02_FcsOn.l0 k (a0.extract 0 ((ji3) : Int).toNat) (a1.extract 0 ((mn (a1.size : Int) 600) : Int).toNat) (Go.bits .xor .u16 65535 t152) ((a1.extract 0 ((mn (a1.size : Int) 600) : Int).toNat).size : Int) 0)) else (none)) else (none)) else (none)) else (none)) = some r := by first | (rw [hji3] at H; exact H) | (simp only [hji3] at H ⊢; exact H)
  (try (have hji3h : ji3 ≤ 600 := by (rw [← hji3]; unfold mn; (repeat' split) <;> omega)))
  (try (have hji3g : ji3 ≤ 64 := by omega))
  (try (have hji3l : 0 ≤ ji3 := by (rw [← hji3]; unfold mn; (repeat' split) <;> omega)))
  (try (have hji3m : 0 ≤ ji3 := by omega))
  have hji3_ : (if 600 < (a0.size : Int) then 600 else (a0.size : Int)) = ji3 := hji3
  (try (have hji3_n := hji3_; simp only [Int.ofNat_lt] at hji3_n))
  by_cases c4 : 0 ≤ (ji3)
  · rw [if_pos c4] at H
    have c4b0 := eq_true c4
    have c4b1 : decide (0 ≤ (ji3)) = true := decide_eq_true c4
    clear c4
    by_cases c5 : (ji3) ≤ (a0.size : Int)
    · rw [if_pos c5] at H
      have c5b0 := eq_true c5
      have c5b1 : decide ((ji3) ≤ (a0.size : Int)) = true := decide_eq_true c5
      clear c5
      obtain ⟨ji6, hji6⟩ : ∃ j_ : Int, (mn (a1.size : Int) 600) = j_ := ⟨_, rfl⟩
      replace H : (if 0 ≤ (ji6) then (if (ji6) ≤ (a1.size : Int) then ((fcs_Sum.f k (a0.extract 0 ((ji3) : Int).toNat)).bind fun t152 => (lapwinglaw02_FcsOn.l0 k (a0.extract 0 ((ji3) : Int).toNat) (a1.extract 0 ((ji6) : Int).toNat) (Go.bits .xor .u16 65535 t152) ((a1.extract 0 ((ji6) : Int).toNat).size : Int) 0)) else (none)) else (none)) = some r := by first | (rw [hji6] at H; exact H) | (simp only [hji6] at H ⊢; exact H)
      (try (have hji6h : ji6 ≤ 600 := by (rw [← hji6]; unfold mn; (repeat' split) <;> omega)))
      (try (have hji6g : ji6 ≤ 64 := by omega))
      (try (have hji6l : 0 ≤ ji6 := by (rw [← hji6]; unfold mn; (repeat' split) <;> omega)))
      (try (have hji6m : 0 ≤ ji6 := by omega))
      have hji6_ : (if 600 < (a1.size : Int) then 600 else (a1.size : Int)) = ji6 := hji6
      (try (have hji6_n := hji6_; simp only [Int.ofNat_lt] at hji6_n))
      by_cases c7 : 0 ≤ (ji6)
      · rw [if_pos c7] at H
        have c7b0 := eq_true c7
        have c7b1 : decide (0 ≤ (ji6)) = true := decide_eq_true c7
        clear c7
        by_cases c8 : (ji6) ≤ (a1.size : Int)
        · rw [if_pos c8] at H
          have c8b0 := eq_true c8
          have c8b1 : decide ((ji6) ≤ (a1.size : Int)) = true := decide_eq_true c8
          clear c8
          replace H := Option.bind_eq_some_iff.mp H
          obtain ⟨t152, A90, H⟩ := H
          replace H : (lapwinglaw02_FcsOn.l0 k (a0.extract 0 ((ji3) : Int).toNat) (a1.extract 0 ((ji6) : Int).toNat) (Go.bits .xor .u16 65535 t152) ((a1.extract 0 ((ji6) : Int).toNat).size : Int) 0) = some r := H
          have A9 := Aside0.mk A90
          clear A90
          obtain ⟨se0, hse0⟩ : ∃ s_ : ByteArray, (a0.extract 0 ((ji3) : Int).toNat) = s_ := ⟨_, rfl⟩
          simp only [hse0] at H
          (try rw [hse0] at A9)
          obtain ⟨se1, hse1⟩ : ∃ s_ : ByteArray, (a1.extract 0 ((ji6) : Int).toNat) = s_ := ⟨_, rfl⟩
          simp only [hse1] at H
          (try rw [hse1] at A9)
          have H' := Aside0.mk H
          clear H
          go_enter Try.func5, Try.ntmps5
          go_wp2_with (first | (go_at_call 9; (with_reducible refine (fcs_Sum.calls k se0 t152 _ A9.out).mono ?_); rintro e w' ⟨rfl, ⟨nd, rfl⟩⟩; (try first | exact ⟨rfl, _, World.drewN_drewN _ _ _⟩ | exact ⟨rfl, _, Eq.trans (World.drewN_drewN _ _ _) (congrArg (World.drewN _) (Nat.add_assoc _ _ _))⟩)))
          repeat (go_quiet (first | (go_at_call 9; (with_reducible refine (fcs_Sum.calls k se0 t152 _ A9.out).mono ?_); rintro e w' ⟨rfl, ⟨nd, rfl⟩⟩; (try first | exact ⟨rfl, _, World.drewN_drewN _ _ _⟩ | exact ⟨rfl, _, Eq.trans (World.drewN_drewN _ _ _) (congrArg (World.drewN _) (Nat.add_assoc _ _ _))⟩))); try go_wp2_with (first | (go_at_call 9; (with_reducible refine (fcs_Sum.calls k se0 t152 _ A9.out).mono ?_); rintro e w' ⟨rfl, ⟨nd, rfl⟩⟩; (try first | exact ⟨rfl, _, World.drewN_drewN _ _ _⟩ | exact ⟨rfl, _, Eq.trans (World.drewN_drewN _ _ _) (congrArg (World.drewN _) (Nat.add_assoc _ _ _))⟩))))
          go_loopg [5, 22] k (fun kq v5 v22 w' => ∃ (x5_1 : Int) (x22_1 : Int), v5 = .int .u16 x5_1 ∧ v22 = .int .i64 x22_1 ∧ Aside0 (lapwinglaw02_FcsOn.l0 kq se0 se1 x5_1 (se1.size : Int) x22_1 = some r) ∧ Aside0 (kq ≤ k) ∧ Aside0 (Below w.heap.size w w'))
          case atStart => exact ⟨(Go.bits .xor .u16 65535 t152), (0), (by first | rfl | (simp; done) | (simp [*]; done)), (by first | rfl | (simp; done) | (simp [*]; done)), H', ⟨Nat.le_refl _⟩, ⟨by repeat (first | (with_reducible first | exact HB.out | apply below_alloc | apply pw_below_drewN | apply below_drew1) | exact HB.out)⟩⟩
          case round =>
            clear H'
            try clear p2
            try clear c4
            try clear c4b0
            try clear c4b1
            try clear c5
            try clear c5b0
            try clear c5b1
            try clear c7
            try clear c7b0
            try clear c7b1
            try clear c8
            try clear c8b0
            try clear c8b1
            obtain ⟨x5_1, x22_1, rfl, rfl, HA, HK1, HB⟩ := hrel
            cases gk with
            | zero => exact absurd HA.out (by simp [lapwinglaw02_FcsOn.l0])
            | succ k1 =>
              have H := HA.out
              clear HA
              simp only [lapwinglaw02_FcsOn.l0] at H
              by_cases c10 : x22_1 < (se1.size : Int)
              · rw [if_pos c10] at H
                have c10b0 : decide (x22_1 < (se1.size : Int)) = true := decide_eq_true c10
                clear c10
                by_cases c11 : 0 ≤ x22_1
                · rw [if_pos c11] at H
                  have c11b0 : decide (0 ≤ x22_1) = true := decide_eq_true c11
                  clear c11
                  by_cases c12 : x22_1 < (se1.size : Int)
                  · rw [if_pos c12] at H
                    have c12b0 : decide (x22_1 < (se1.size : Int)) = true := decide_eq_true c12
                    clear c12
                    replace H := Option.bind_eq_some_iff.mp H
                    obtain ⟨t153, A140, H⟩ := H
                    replace H : (lapwinglaw02_FcsOn.l0 k1 se0 se1 t153 (se1.size : Int) (wrap64 (x22_1 + 1))) = some r := H
                    have A14 := Aside0.mk A140
                    clear A140
                    have H' := Aside0.mk H
                    clear H
                    have p13 : 0 ≤ (x22_1 : Int) := of_decide_eq_true (by first | (with_reducible assumption) | assumption)
                    have q13 : x22_1 < (se1.size : Int) := of_decide_eq_true (by first | (with_reducible assumption) | assumption)
                    have hx13 := bt_at se1 x22_1
                    replace p13 := eq_true p13
                    replace q13 := eq_true q13
                    go_wp2_with (first | (go_at_call 10; (with_reducible refine (fcs_Step.calls k1 x5_1 (bt se1 x22_1) t153 _ A14.out).mono ?_); rintro e w' ⟨rfl, ⟨nd, rfl⟩⟩; (try first | exact ⟨rfl, _, World.drewN_drewN _ _ _⟩ | exact ⟨rfl, _, Eq.trans (World.drewN_drewN _ _ _) (congrArg (World.drewN _) (Nat.add_assoc _ _ _))⟩)))
                    repeat (go_quiet (first | (go_at_call 10; (with_reducible refine (fcs_Step.calls k1 x5_1 (bt se1 x22_1) t153 _ A14.out).mono ?_); rintro e w' ⟨rfl, ⟨nd, rfl⟩⟩; (try first | exact ⟨rfl, _, World.drewN_drewN _ _ _⟩ | exact ⟨rfl, _, Eq.trans (World.drewN_drewN _ _ _) (congrArg (World.drewN _) (Nat.add_assoc _ _ _))⟩))); try go_wp2_with (first | (go_at_call 10; (with_reducible refine (fcs_Step.calls k1 x5_1 (bt se1 x22_1) t153 _ A14.out).mono ?_); rintro e w' ⟨rfl, ⟨nd, rfl⟩⟩; (try first | exact ⟨rfl, _, World.drewN_drewN _ _ _⟩ | exact ⟨rfl, _, Eq.trans (World.drewN_drewN _ _ _) (congrArg (World.drewN _) (Nat.add_assoc _ _ _))⟩))))
                    go_roundg k1
                    case measure => have := HK1.out; omega
                    case rel => exact ⟨(t153), (wrap64 (x22_1 + 1)), (by first | rfl | (simp; done) | (simp [*]; done)), (by first | rfl | (simp; done) | (simp [*]; done)), H', ⟨by have := HK1.out; omega⟩, ⟨by repeat (first | (with_reducible first | exact HB.out | apply below_alloc | apply pw_below_drewN | apply below_drew1) | exact HB.out)⟩⟩
                  · rw [if_neg c12] at H
                    exact absurd H (by simp)
                · rw [if_neg c11] at H
                  exact absurd H (by simp)
              · rw [if_neg c10] at H
                have c10b0 : decide (x22_1 < (se1.size : Int)) = false := decide_eq_false c10
                clear c10
                replace H := Option.bind_eq_some_iff.mp H
                obtain ⟨t154, A150, H⟩ := H
                replace H : (if t154 = 36974 then (if se0.size + se1.size ≤ 9223372036854775807 then ((fcs_Sum.f k1 (se0 ++ se1)).bind fun t155 => (some ((Go.bits .xor .u16 65535 x5_1) == t155))) else (none)) else (some false)) = some r := H
                have A15 := Aside0.mk A150
                clear A150
                by_cases c16 : t154 = 36974
                · rw [if_pos c16] at H
                  have c16b0 : (t154 == 36974) = true := beq_iff_eq.mpr c16
                  have c16b1 : (t154 != 36974) = false := bne_eq_false_iff_eq.mpr c16
                  clear c16
                  by_cases c17 : se0.size + se1.size ≤ 9223372036854775807
                  · rw [if_pos c17] at H
                    have c17b0 := eq_true c17
                    have c17b1 : decide (se0.size + se1.size ≤ 9223372036854775807) = true := decide_eq_true c17
                    try have c17b2 : (9223372036854775807 < se0.size + se1.size) = False := eq_false (Nat.not_lt.2 c17)
                    replace H := Option.bind_eq_some_iff.mp H
                    obtain ⟨t155, A180, H⟩ := H
                    replace H : (some ((Go.bits .xor .u16 65535 x5_1) == t155)) = some r := H
                    have A18 := Aside0.mk A180
                    clear A180
                    obtain rfl := Option.some.inj H
                    go_wp2_with (first | (go_at_call 9; (with_reducible refine (fcs_Sum.calls k1 (⟨#[49, 50, 51, 52, 53, 54, 55, 56, 57]⟩ : ByteArray) t154 _ A15.out).mono ?_); rintro e w' ⟨rfl, ⟨nd, rfl⟩⟩; (try first | exact ⟨rfl, _, World.drewN_drewN _ _ _⟩ | exact ⟨rfl, _, Eq.trans (World.drewN_drewN _ _ _) (congrArg (World.drewN _) (Nat.add_assoc _ _ _))⟩)) | (go_at_call 9; (with_reducible refine (fcs_Sum.calls k1 (se0 ++ se1) t155 _ A18.out).mono ?_); rintro e w' ⟨rfl, ⟨nd, rfl⟩⟩; (try first | exact ⟨rfl, _, World.drewN_drewN _ _ _⟩ | exact ⟨rfl, _, Eq.trans (World.drewN_drewN _ _ _) (congrArg (World.drewN _) (Nat.add_assoc _ _ _))⟩)))
                    repeat (go_quiet (first | (go_at_call 9; (with_reducible refine (fcs_Sum.calls k1 (⟨#[49, 50, 51, 52, 53, 54, 55, 56, 57]⟩ : ByteArray) t154 _ A15.out).mono ?_); rintro e w' ⟨rfl, ⟨nd, rfl⟩⟩; (try first | exact ⟨rfl, _, World.drewN_drewN _ _ _⟩ | exact ⟨rfl, _, Eq.trans (World.drewN_drewN _ _ _) (congrArg (World.drewN _) (Nat.add_assoc _ _ _))⟩)) | (go_at_call 9; (with_reducible refine (fcs_Sum.calls k1 (se0 ++ se1) t155 _ A18.out).mono ?_); rintro e w' ⟨rfl, ⟨nd, rfl⟩⟩; (try first | exact ⟨rfl, _, World.drewN_drewN _ _ _⟩ | exact ⟨rfl, _, Eq.trans (World.drewN_drewN _ _ _) (congrArg (World.drewN _) (Nat.add_assoc _ _ _))⟩))); try go_wp2_with (first | (go_at_call 9; (with_reducible refine (fcs_Sum.calls k1 (⟨#[49, 50, 51, 52, 53, 54, 55, 56, 57]⟩ : ByteArray) t154 _ A15.out).mono ?_); rintro e w' ⟨rfl, ⟨nd, rfl⟩⟩; (try first | exact ⟨rfl, _, World.drewN_drewN _ _ _⟩ | exact ⟨rfl, _, Eq.trans (World.drewN_drewN _ _ _) (congrArg (World.drewN _) (Nat.add_assoc _ _ _))⟩)) | (go_at_call 9; (with_reducible refine (fcs_Sum.calls k1 (se0 ++ se1) t155 _ A18.out).mono ?_); rintro e w' ⟨rfl, ⟨nd, rfl⟩⟩; (try first | exact ⟨rfl, _, World.drewN_drewN _ _ _⟩ | exact ⟨rfl, _, Eq.trans (World.drewN_drewN _ _ _) (congrArg (World.drewN _) (Nat.add_assoc _ _ _))⟩))))
                    go_ret
                    exact ⟨by first | rfl | (simp [errW_none, errW_some] <;> rfl) | (simp only [← hji3, ← hji6]; first | rfl | (simp [errW_none, errW_some] <;> rfl)) | (simp [*, errW_none, errW_some] <;> rfl), by repeat (first | (with_reducible first | exact HB.out | apply below_alloc | apply pw_below_drewN | apply below_drew1) | exact HB.out)⟩
                  · rw [if_neg c17] at H
                    exact absurd H (by simp)
                · rw [if_neg c16] at H
                  have c16b0 : (t154 == 36974) = false := beq_eq_false_iff_ne.mpr c16
                  have c16b1 : (t154 != 36974) = true := bne_iff_ne.mpr c16
                  obtain rfl := Option.some.inj H
                  go_wp2_with (first | (go_at_call 9; (with_reducible refine (fcs_Sum.calls k1 (⟨#[49, 50, 51, 52, 53, 54, 55, 56, 57]⟩ : ByteArray) t154 _ A15.out).mono ?_); rintro e w' ⟨rfl, ⟨nd, rfl⟩⟩; (try first | exact ⟨rfl, _, World.drewN_drewN _ _ _⟩ | exact ⟨rfl, _, Eq.trans (World.drewN_drewN _ _ _) (congrArg (World.drewN _) (Nat.add_assoc _ _ _))⟩)))
                  repeat (go_quiet (first | (go_at_call 9; (with_reducible refine (fcs_Sum.calls k1 (⟨#[49, 50, 51, 52, 53, 54, 55, 56, 57]⟩ : ByteArray) t154 _ A15.out).mono ?_); rintro e w' ⟨rfl, ⟨nd, rfl⟩⟩; (try first | exact ⟨rfl, _, World.drewN_drewN _ _ _⟩ | exact ⟨rfl, _, Eq.trans (World.drewN_drewN _ _ _) (congrArg (World.drewN _) (Nat.add_assoc _ _ _))⟩))); try go_wp2_with (first | (go_at_call 9; (with_reducible refine (fcs_Sum.calls k1 (⟨#[49, 50, 51, 52, 53, 54, 55, 56, 57]⟩ : ByteArray) t154 _ A15.out).mono ?_); rintro e w' ⟨rfl, ⟨nd, rfl⟩⟩; (try first | exact ⟨rfl, _, World.drewN_drewN _ _ _⟩ | exact ⟨rfl, _, Eq.trans (World.drewN_drewN _ _ _) (congrArg (World.drewN _) (Nat.add_assoc _ _ _))⟩))))
                  go_ret
                  exact ⟨by first | rfl | (simp [errW_none, errW_some] <;> rfl) | (simp only [← hji3, ← hji6]; first | rfl | (simp [errW_none, errW_some] <;> rfl)) | (simp [*, errW_none, errW_some] <;> rfl), by repeat (first | (with_reducible first | exact HB.out | apply below_alloc | apply pw_below_drewN | apply below_drew1) | exact HB.out)⟩
        · rw [if_neg c8] at H
          exact absurd H (by simp)
      · rw [if_neg c7] at H
        exact absurd H (by simp)
    · rw [if_neg c5] at H
      exact absurd H (by simp)
  · rw [if_neg c4] at H
    exact absurd H (by simp)

/-- THE ONE PURE STATEMENT of lapwinglaw02_FcsOn: yours. -/
def lapwinglaw02_FcsOn.Pure : Prop := ∀ (a0 : ByteArray) (a1 : ByteArray), a0.size ≤ 140737488351232 → a1.size ≤ 140737488351232 → ∃ k, lapwinglaw02_FcsOn.f k a0 a1 = some true
theorem lapwinglaw02_FcsOn.walk (P : lapwinglaw02_FcsOn.Pure) (a0 : ByteArray) (a1 : ByteArray) (w : World) (w0 : a0.size ≤ 140737488351232) (w1 : a1.size ≤ 140737488351232) :
    Calls Try.prog 5 #[.string a0, .string a1] w fun e w' => e = .returned (.bool true) ∧ Below w.heap.size w w' := by
  obtain ⟨k, h⟩ := P a0 a1 w0 w1
  refine (lapwinglaw02_FcsOn.calls k a0 a1 true w h).mono ?_
  rintro e w' ⟨rfl, hd⟩
  exact ⟨rfl, hd⟩

end Go.Proofs.Ytejpdpjklncfnaa.Print
