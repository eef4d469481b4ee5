-- PRINTED BY print.sh 35421559b90ae4d0a3588c463048766b98c2df88dd9212a6774a882060cdf62d: not written by this session
import Derived.Test.YtjgcoidfkpjeiaaPBitsFieldsx0
namespace Go.Proofs.Ytjgcoidfkpjeiaa.PBitsFields
open Go.RowKit Go.Proofs.YtjgcoidfkpjeiaaW.PrintWords Go.Proofs.YtjgcoidfkpjeiaaW.PrintLast Go.Proofs.YtjgcoidfkpjeiaaW.PrintMore
attribute [local go_sem] max2_int min2_int max_two min_two max_three min_three max_four min_four   -- for this text's walks alone
set_option linter.unusedVariables false
set_option linter.unusedSimpArgs false

/-! ### bits_Field: function 9 -/
def bits_Field.f (a0 : Int) (a1 : Int) (a2 : Int) : Option (Int) := if a1 < 0 then (some 0) else (if a1 ≥ 8 then (some 0) else (if a2 < 1 then (some 0) else (if 0 ≤ a1 then (if 0 ≤ (mn a2 8) then (some (Go.bits .and .i64 (wrap64 (shr .u8 a0 a1)) (wrap64 ((wrap64 (2 ^ (mn a2 8).toNat)) - 1)))) else (none)) else (none))))
set_option maxHeartbeats 8000000 in
set_option maxRecDepth 100000 in
theorem bits_Field.calls (a0 : Int) (a1 : Int) (a2 : Int) (r : Int) (w : World) (h : bits_Field.f a0 a1 a2 = some r) :
    Calls Try.prog 9 #[.int .u8 a0, .int .i64 a1, .int .i64 a2] w fun e w' => e = .returned (.int .i64 r) ∧ Below w.heap.size w w' := by
  have HB := Aside0.mk (Below.refl w.heap.size w)
  have H : (if a1 < 0 then (some 0) else (if a1 ≥ 8 then (some 0) else (if a2 < 1 then (some 0) else (if 0 ≤ a1 then (if 0 ≤ (mn a2 8) then (some (Go.bits .and .i64 (wrap64 (shr .u8 a0 a1)) (wrap64 ((wrap64 (2 ^ (mn a2 8).toNat)) - 1)))) else (none)) else (none))))) = some r := h
  clear h
  by_cases c4 : a1 < 0
  · rw [if_pos c4] at H
    have c4b0 : decide (a1 < 0) = true := decide_eq_true c4
    clear c4
    obtain rfl := Option.some.inj H
    go_enter Try.func9, Try.ntmps9
    go_wp2
    repeat (go_quiet (fail); try go_wp2)
    go_ret
    exact ⟨by first | rfl | (simp [errW_none, errW_some] <;> rfl) | (simp [*, errW_none, errW_some] <;> rfl), by repeat (first | (with_reducible first | exact HB.out | apply below_alloc | apply pw_below_drewN | apply below_drew1) | exact HB.out)⟩
  · rw [if_neg c4] at H
    have c4b0 : decide (a1 < 0) = false := decide_eq_false c4
    clear c4
    by_cases c5 : a1 ≥ 8
    · rw [if_pos c5] at H
      have c5b0 : decide (8 ≤ a1) = true := decide_eq_true c5
      clear c5
      obtain rfl := Option.some.inj H
      go_enter Try.func9, Try.ntmps9
      go_wp2
      repeat (go_quiet (fail); try go_wp2)
      go_ret
      exact ⟨by first | rfl | (simp [errW_none, errW_some] <;> rfl) | (simp [*, errW_none, errW_some] <;> rfl), by repeat (first | (with_reducible first | exact HB.out | apply below_alloc | apply pw_below_drewN | apply below_drew1) | exact HB.out)⟩
    · rw [if_neg c5] at H
      have c5b0 : decide (8 ≤ a1) = false := decide_eq_false c5
      clear c5
      by_cases c6 : a2 < 1
      · rw [if_pos c6] at H
        have c6b0 : decide (a2 < 1) = true := decide_eq_true c6
        clear c6
        obtain rfl := Option.some.inj H
        go_enter Try.func9, Try.ntmps9
        go_wp2
        repeat (go_quiet (fail); try go_wp2)
        go_ret
        exact ⟨by first | rfl | (simp [errW_none, errW_some] <;> rfl) | (simp [*, errW_none, errW_some] <;> rfl), by repeat (first | (with_reducible first | exact HB.out | apply below_alloc | apply pw_below_drewN | apply below_drew1) | exact HB.out)⟩
      · rw [if_neg c6] at H
        have c6b0 : decide (a2 < 1) = false := decide_eq_false c6
        clear c6
        by_cases c7 : 0 ≤ a1
        · rw [if_pos c7] at H
          have c7b0 := eq_true c7
          have c7b1 : decide (0 ≤ a1) = true := decide_eq_true c7
          clear c7
          obtain ⟨ji8, hji8⟩ : ∃ j_ : Int, (shr .u8 a0 a1) = j_ := ⟨_, rfl⟩
          replace H : (if 0 ≤ (mn a2 8) then (some (Go.bits .and .i64 (wrap64 (ji8)) (wrap64 ((wrap64 (2 ^ (mn a2 8).toNat)) - 1)))) else (none)) = some r := by first | (rw [hji8] at H; exact H) | (simp only [hji8] at H ⊢; exact H)
          have hji8_ : (a0 / 2 ^ min a1.toNat 8) = ji8 := hji8
          have hji8z : a1 ≤ 8 → (a0 / 2 ^ a1.toNat) = ji8 := shr_small hji8
          obtain ⟨ji9, hji9⟩ : ∃ j_ : Int, (mn a2 8) = j_ := ⟨_, rfl⟩
          replace H : (if 0 ≤ (ji9) then (some (Go.bits .and .i64 (wrap64 (ji8)) (wrap64 ((wrap64 (2 ^ (ji9).toNat)) - 1)))) else (none)) = some r := by first | (rw [hji9] at H; exact H) | (simp only [hji9] at H ⊢; exact H)
          (try (have hji9h : ji9 ≤ 8 := by (rw [← hji9]; unfold mn; (repeat' split) <;> omega)))
          (try (have hji9g : ji9 ≤ 64 := by omega))
          have hji9_ : (if 8 < a2 then 8 else a2) = ji9 := hji9
          by_cases c10 : 0 ≤ (ji9)
          · rw [if_pos c10] at H
            have c10b0 := eq_true c10
            have c10b1 : decide (0 ≤ (ji9)) = true := decide_eq_true c10
            clear c10
            obtain rfl := Option.some.inj H
            go_enter Try.func9, Try.ntmps9
            go_wp2
            repeat (go_quiet (fail); try go_wp2)
            go_ret
            exact ⟨by first | rfl | (simp [errW_none, errW_some] <;> rfl) | (simp only [← hji8, ← hji9]; first | rfl | (simp [errW_none, errW_some] <;> rfl)) | (simp [*, errW_none, errW_some] <;> rfl), by repeat (first | (with_reducible first | exact HB.out | apply below_alloc | apply pw_below_drewN | apply below_drew1) | exact HB.out)⟩
          · rw [if_neg c10] at H
            exact absurd H (by simp)
        · rw [if_neg c7] at H
          exact absurd H (by simp)

/-! ### lapwingref01_power: function 17 -/
def lapwingref01_power.l0 : Nat → Int → Int → Int → Option (Int)
  | 0, _, _, _ => none
  | k + 1, x0, x3, x4 => if x4 < x0 then (lapwingref01_power.l0 k x0 (wrap64 (2 * x3)) (wrap64 (x4 + 1))) else (some x3)
def lapwingref01_power.f (k : Nat) (a0 : Int) : Option (Int) := lapwingref01_power.l0 k a0 1 0
theorem lapwingref01_power.mono_l : ∀ k, (∀ y0 y1 y2, LeO (lapwingref01_power.l0 k y0 y1 y2) (lapwingref01_power.l0 (k + 1) y0 y1 y2))
  | 0 => fun _ _ _ r h => by simp [lapwingref01_power.l0] at h
  | k + 1 => by
    have ih0 := lapwingref01_power.mono_l k
    · intro y0 y1 y2
      unfold lapwingref01_power.l0
      repeat' first
      | (with_reducible exact ih0 _ _ _)
      | (with_reducible exact LeO.refl _)
      | (with_reducible exact LeO.none _)
      | (with_reducible refine LeO.ite ?_ ?_)
      | (with_reducible refine LeO.bind ?_ (fun _ => ?_))
      | exact ih0 _ _ _
      | exact LeO.none _
      | refine LeO.ite ?_ ?_
      | refine LeO.bind ?_ (fun _ => ?_)
theorem lapwingref01_power.mono : ∀ a0 k, LeO (lapwingref01_power.f k a0) (lapwingref01_power.f (k + 1) a0) := by
  intro a0 k
  have ih0 := lapwingref01_power.mono_l k
  unfold lapwingref01_power.f
  repeat' first
      | (with_reducible exact ih0 _ _ _)
      | (with_reducible exact LeO.refl _)
      | (with_reducible exact LeO.none _)
      | (with_reducible refine LeO.ite ?_ ?_)
      | (with_reducible refine LeO.bind ?_ (fun _ => ?_))
      | exact ih0 _ _ _
      | exact LeO.none _
      | refine LeO.ite ?_ ?_
      | refine LeO.bind ?_ (fun _ => ?_)
set_option maxHeartbeats 8000000 in
set_option maxRecDepth 100000 in
theorem lapwingref01_power.calls (k : Nat) (a0 : Int) (r : Int) (w : World) (h : lapwingref01_power.f k a0 = some r) :
    Calls Try.prog 17 #[.int .i64 a0] w fun e w' => e = .returned (.int .i64 r) ∧ Drawn0 w w' := by
  have H : (lapwingref01_power.l0 k a0 1 0) = some r := h
  clear h
  have H' := Aside0.mk H
  clear H
  go_enter Try.func17, Try.ntmps17
  go_wp2
  go_loopg [3, 4] k (fun kq v3 v4 w' => ∃ (x3_1 : Int) (x4_1 : Int), v3 = .int .i64 x3_1 ∧ v4 = .int .i64 x4_1 ∧ Aside0 (lapwingref01_power.l0 kq a0 x3_1 x4_1 = some r) ∧ Aside0 (kq ≤ k) ∧ Drawn0 w w')
  case atStart => exact ⟨(1), (0), (by first | rfl | (simp; done) | (simp [*]; done)), (by first | rfl | (simp; done) | (simp [*]; done)), H', ⟨Nat.le_refl _⟩, by repeat (first | exact Drawn0.refl _ | apply Drawn0.step)⟩
  case round =>
    clear H'
    try clear c1
    obtain ⟨x3_1, x4_1, rfl, rfl, HA, HK1, ⟨m1, rfl⟩⟩ := hrel
    cases gk with
    | zero => exact absurd HA.out (by simp [lapwingref01_power.l0])
    | succ k1 =>
      have H := HA.out
      clear HA
      simp only [lapwingref01_power.l0] at H
      by_cases c2 : x4_1 < a0
      · rw [if_pos c2] at H
        have c2b0 : decide (x4_1 < a0) = true := decide_eq_true c2
        clear c2
        have H' := Aside0.mk H
        clear H
        go_wp2
        go_roundg k1
        case measure => have := HK1.out; omega
        case rel => exact ⟨(wrap64 (2 * x3_1)), (wrap64 (x4_1 + 1)), (by first | rfl | (simp; done) | (simp [*]; done)), (by first | rfl | (simp; done) | (simp [*]; done)), H', ⟨by have := HK1.out; omega⟩, by repeat (first | exact Drawn0.refl _ | apply Drawn0.step)⟩
      · rw [if_neg c2] at H
        have c2b0 : decide (x4_1 < a0) = false := decide_eq_false c2
        clear c2
        obtain rfl := Option.some.inj H
        go_wp2
        go_ret
        exact ⟨by first | rfl | (simp; done) | (simp [*]; done), by repeat (first | exact Drawn0.refl _ | apply Drawn0.step)⟩

/-! ### lapwingref01_Field: function 10 -/
def lapwingref01_Field.j0 : Nat → Int → Int → Int → Bool → Option (Int)
  | 0, _, _, _, _ => none
  | k + 1, x0, x1, x2, x18 => if x18 = true then (some 0) else (if x2 > 8 then ((lapwingref01_power.f k x1).bind fun t101 => ((lapwingref01_power.f k 8).bind fun t102 => (if t101 = 0 then (none) else (if t102 = 0 then (none) else (some (Int.tmod (wrap64 (Int.tdiv (wrap64 (x0)) t101)) t102)))))) else ((lapwingref01_power.f k x1).bind fun t103 => ((lapwingref01_power.f k x2).bind fun t104 => (if t103 = 0 then (none) else (if t104 = 0 then (none) else (some (Int.tmod (wrap64 (Int.tdiv (wrap64 (x0)) t103)) t104)))))))
def lapwingref01_Field.f (k : Nat) (a0 : Int) (a1 : Int) (a2 : Int) : Option (Int) := if a1 < 0 then (lapwingref01_Field.j0 k a0 a1 a2 true) else (if a1 > 7 then (lapwingref01_Field.j0 k a0 a1 a2 true) else (lapwingref01_Field.j0 k a0 a1 a2 (decide (a2 < 1))))
theorem lapwingref01_Field.mono_l : ∀ k, (∀ y0 y1 y2 y3, LeO (lapwingref01_Field.j0 k y0 y1 y2 y3) (lapwingref01_Field.j0 (k + 1) y0 y1 y2 y3))
  | 0 => fun _ _ _ _ r h => by simp [lapwingref01_Field.j0] at h
  | k + 1 => by
    have ih0 := lapwingref01_Field.mono_l k
    · intro y0 y1 y2 y3
      unfold lapwingref01_Field.j0
      repeat' first
      | (with_reducible exact ih0 _ _ _ _)
      | (with_reducible exact lapwingref01_power.mono _ _)
      | (with_reducible exact LeO.refl _)
      | (with_reducible exact LeO.none _)
      | (with_reducible refine LeO.ite ?_ ?_)
      | (with_reducible refine LeO.bind ?_ (fun _ => ?_))
      | exact ih0 _ _ _ _
      | exact lapwingref01_power.mono _ _
      | exact LeO.none _
      | refine LeO.ite ?_ ?_
      | refine LeO.bind ?_ (fun _ => ?_)
theorem lapwingref01_Field.mono : ∀ a0 a1 a2 k, LeO (lapwingref01_Field.f k a0 a1 a2) (lapwingref01_Field.f (k + 1) a0 a1 a2) := by
  intro a0 a1 a2 k
  have ih0 := lapwingref01_Field.mono_l k
  unfold lapwingref01_Field.f
  repeat' first
      | (with_reducible exact ih0 _ _ _ _)
      | (with_reducible exact lapwingref01_power.mono _ _)
      | (with_reducible exact LeO.refl _)
      | (with_reducible exact LeO.none _)
      | (with_reducible refine LeO.ite ?_ ?_)
      | (with_reducible refine LeO.bind ?_ (fun _ => ?_))
      | exact ih0 _ _ _ _
      | exact lapwingref01_power.mono _ _
      | exact LeO.none _
      | refine LeO.ite ?_ ?_
      | refine LeO.bind ?_ (fun _ => ?_)
set_option maxHeartbeats 8000000 in
set_option maxRecDepth 100000 in
theorem lapwingref01_Field.calls (k : Nat) (a0 : Int) (a1 : Int) (a2 : Int) (r : Int) (w : World) (h : lapwingref01_Field.f k a0 a1 a2 = some r) :
    Calls Try.prog 10 #[.int .u8 a0, .int .i64 a1, .int .i64 a2] w fun e w' => e = .returned (.int .i64 r) ∧ Drawn0 w w' := by
  have H : (if a1 < 0 then (lapwingref01_Field.j0 k a0 a1 a2 true) else (if a1 > 7 then (lapwingref01_Field.j0 k a0 a1 a2 true) else (lapwingref01_Field.j0 k a0 a1 a2 (decide (a2 < 1))))) = some r := h
  clear h
  have HC4 := Aside0.mk H
  clear H
  go_enter Try.func10, Try.ntmps10
  go_upto_region 1 with (fail)
  go_cut [18] (fun v18 wc => ∃ (kq : Nat) (x18_3 : Bool), v18 = .bool x18_3 ∧ Aside0 (lapwingref01_Field.j0 kq a0 a1 a2 x18_3 = some r) ∧ Aside0 (kq ≤ k) ∧ Drawn0 w wc)
  case first =>
    have H := HC4.out
    clear HC4
    by_cases c5 : a1 < 0
    · rw [if_pos c5] at H
      have c5b0 : decide (a1 < 0) = true := decide_eq_true c5
      clear c5
      (first | rw [c5b0] | (simp only [i64_w, i32_w]; rw [c5b0]) | skip)
      have H' := Aside0.mk H
      clear H
      go_wp2
      go_meet
      case rel => exact ⟨_, (true), (by first | rfl | (simp; done) | (simp [*]; done)), H', ⟨by first | omega | exact Nat.le_refl _⟩, by repeat (first | exact Drawn0.refl _ | apply Drawn0.step)⟩
    · rw [if_neg c5] at H
      have c5b0 : decide (a1 < 0) = false := decide_eq_false c5
      clear c5
      (first | rw [c5b0] | (simp only [i64_w, i32_w]; rw [c5b0]) | skip)
      by_cases c6 : a1 > 7
      · rw [if_pos c6] at H
        have c6b0 : decide (7 < a1) = true := decide_eq_true c6
        clear c6
        have H' := Aside0.mk H
        clear H
        go_wp2
        go_meet
        case rel => exact ⟨_, (true), (by first | rfl | (simp; done) | (simp [*]; done)), H', ⟨by first | omega | exact Nat.le_refl _⟩, by repeat (first | exact Drawn0.refl _ | apply Drawn0.step)⟩
      · rw [if_neg c6] at H
        have c6b0 : decide (7 < a1) = false := decide_eq_false c6
        clear c6
        have H' := Aside0.mk H
        clear H
        go_wp2
        go_meet
        case rel => exact ⟨_, (decide (a2 < 1)), (by first | rfl | (simp; done) | (simp [*]; done)), H', ⟨by first | omega | exact Nat.le_refl _⟩, by repeat (first | exact Drawn0.refl _ | apply Drawn0.step)⟩
  case rest =>
    clear HC4
    try clear c1
    try clear p2
    try clear c5
    try clear c5b0
    try clear c6
    try clear c6b0
    obtain ⟨kq, x18_3, rfl, HA, HJ3, ⟨mc3, rfl⟩⟩ := hcut
    cases kq with
    | zero => exact absurd HA.out (by simp [lapwingref01_Field.j0])
    | succ kj3 =>
      have H := HA.out
      clear HA
      simp only [lapwingref01_Field.j0] at H
      by_cases c7 : x18_3 = true
      · subst c7
        have H1 : (some 0) = some r := by rw [if_pos rfl] at H; exact H
        clear H
        have H := H1
        clear H1
        obtain rfl := Option.some.inj H
        go_wp2
        go_ret
        exact ⟨by first | rfl | (simp; done) | (simp [*]; done), by repeat (first | exact Drawn0.refl _ | apply Drawn0.step)⟩
      · replace c7 := Bool.eq_false_iff.mpr c7
        subst c7
        have H1 : (if a2 > 8 then ((lapwingref01_power.f kj3 a1).bind fun t101 => ((lapwingref01_power.f kj3 8).bind fun t102 => (if t101 = 0 then (none) else (if t102 = 0 then (none) else (some (Int.tmod (wrap64 (Int.tdiv (wrap64 (a0)) t101)) t102)))))) else ((lapwingref01_power.f kj3 a1).bind fun t103 => ((lapwingref01_power.f kj3 a2).bind fun t104 => (if t103 = 0 then (none) else (if t104 = 0 then (none) else (some (Int.tmod (wrap64 (Int.tdiv (wrap64 (a0)) t103)) t104))))))) = some r := by rw [if_neg (show ¬ (false = true) by decide)] at H; exact H
        clear H
        have H := H1
        clear H1
        by_cases c8 : a2 > 8
        · rw [if_pos c8] at H
          have c8b0 : decide (8 < a2) = true := decide_eq_true c8
          clear c8
          replace H := Option.bind_eq_some_iff.mp H
          obtain ⟨t101, A90, H⟩ := H
          replace H : ((lapwingref01_power.f kj3 8).bind fun t102 => (if t101 = 0 then (none) else (if t102 = 0 then (none) else (some (Int.tmod (wrap64 (Int.tdiv (wrap64 (a0)) t101)) t102))))) = some r := H
          have A9 := Aside0.mk A90
          clear A90
          replace H := Option.bind_eq_some_iff.mp H
          obtain ⟨t102, A100, H⟩ := H
          replace H : (if t101 = 0 then (none) else (if t102 = 0 then (none) else (some (Int.tmod (wrap64 (Int.tdiv (wrap64 (a0)) t101)) t102)))) = some r := H
          have A10 := Aside0.mk A100
          clear A100
          by_cases c11 : t101 = 0
          · rw [if_pos c11] at H
            exact absurd H (by simp)
          · rw [if_neg c11] at H
            have c11b0 : (t101 == 0) = false := beq_eq_false_iff_ne.mpr c11
            have c11b1 : (t101 != 0) = true := bne_iff_ne.mpr c11
            by_cases c12 : t102 = 0
            · rw [if_pos c12] at H
              exact absurd H (by simp)
            · rw [if_neg c12] at H
              have c12b0 : (t102 == 0) = false := beq_eq_false_iff_ne.mpr c12
              have c12b1 : (t102 != 0) = true := bne_iff_ne.mpr c12
              obtain rfl := Option.some.inj H
              go_wp2_with (first | ((with_reducible refine gate_callee (f := 17) rfl ?_); refine goesL_ (some 22) rfl rfl Try.func17 (by kernel_rfl) rfl #[.int .i64 a1] rfl (by (try simp only [List.map_toArray, List.map_cons, List.map_nil]); first | done | rfl | (simp only [List.length_drop, List.length_take]; rfl)) ?_; (with_reducible refine (lapwingref01_power.calls kj3 a1 t101 _ A9.out).mono ?_); rintro e w' ⟨rfl, ⟨nd, rfl⟩⟩; refine ⟨_, rfl, ?_⟩) | ((with_reducible refine gate_callee (f := 17) rfl ?_); refine goesL_ (some 24) rfl rfl Try.func17 (by kernel_rfl) rfl #[.int .i64 8] rfl (by (try simp only [List.map_toArray, List.map_cons, List.map_nil]); first | done | rfl | (simp only [List.length_drop, List.length_take]; rfl)) ?_; (with_reducible refine (lapwingref01_power.calls kj3 8 t102 _ A10.out).mono ?_); rintro e w' ⟨rfl, ⟨nd, rfl⟩⟩; refine ⟨_, rfl, ?_⟩))
              go_ret
              exact ⟨by first | rfl | (simp; done) | (simp [*]; done), by repeat (first | exact Drawn0.refl _ | apply Drawn0.step)⟩
        · rw [if_neg c8] at H
          have c8b0 : decide (8 < a2) = false := decide_eq_false c8
          clear c8
          replace H := Option.bind_eq_some_iff.mp H
          obtain ⟨t103, A130, H⟩ := H
          replace H : ((lapwingref01_power.f kj3 a2).bind fun t104 => (if t103 = 0 then (none) else (if t104 = 0 then (none) else (some (Int.tmod (wrap64 (Int.tdiv (wrap64 (a0)) t103)) t104))))) = some r := H
          have A13 := Aside0.mk A130
          clear A130
          replace H := Option.bind_eq_some_iff.mp H
          obtain ⟨t104, A140, H⟩ := H
          replace H : (if t103 = 0 then (none) else (if t104 = 0 then (none) else (some (Int.tmod (wrap64 (Int.tdiv (wrap64 (a0)) t103)) t104)))) = some r := H
          have A14 := Aside0.mk A140
          clear A140
          by_cases c15 : t103 = 0
          · rw [if_pos c15] at H
            exact absurd H (by simp)
          · rw [if_neg c15] at H
            have c15b0 : (t103 == 0) = false := beq_eq_false_iff_ne.mpr c15
            have c15b1 : (t103 != 0) = true := bne_iff_ne.mpr c15
            by_cases c16 : t104 = 0
            · rw [if_pos c16] at H
              exact absurd H (by simp)
            · rw [if_neg c16] at H
              have c16b0 : (t104 == 0) = false := beq_eq_false_iff_ne.mpr c16
              have c16b1 : (t104 != 0) = true := bne_iff_ne.mpr c16
              obtain rfl := Option.some.inj H
              go_wp2_with (first | ((with_reducible refine gate_callee (f := 17) rfl ?_); refine goesL_ (some 22) rfl rfl Try.func17 (by kernel_rfl) rfl #[.int .i64 a1] rfl (by (try simp only [List.map_toArray, List.map_cons, List.map_nil]); first | done | rfl | (simp only [List.length_drop, List.length_take]; rfl)) ?_; (with_reducible refine (lapwingref01_power.calls kj3 a1 t103 _ A13.out).mono ?_); rintro e w' ⟨rfl, ⟨nd, rfl⟩⟩; refine ⟨_, rfl, ?_⟩) | ((with_reducible refine gate_callee (f := 17) rfl ?_); refine goesL_ (some 24) rfl rfl Try.func17 (by kernel_rfl) rfl #[.int .i64 a2] rfl (by (try simp only [List.map_toArray, List.map_cons, List.map_nil]); first | done | rfl | (simp only [List.length_drop, List.length_take]; rfl)) ?_; (with_reducible refine (lapwingref01_power.calls kj3 a2 t104 _ A14.out).mono ?_); rintro e w' ⟨rfl, ⟨nd, rfl⟩⟩; refine ⟨_, rfl, ?_⟩))
              go_ret
              exact ⟨by first | rfl | (simp; done) | (simp [*]; done), by repeat (first | exact Drawn0.refl _ | apply Drawn0.step)⟩

/-! ### lapwinglaw01_BitsFields: function 3 -/
def lapwinglaw01_BitsFields.f (k : Nat) (a0 : Int) (a1 : Int) (a2 : Int) : Option (Bool) := (bits_Field.f 253 2 6).bind fun t105 => (if t105 = 63 then ((bits_Field.f a0 a1 a2).bind fun t106 => ((lapwingref01_Field.f k a0 a1 a2).bind fun t107 => (some (t106 == t107)))) else (some false))
theorem lapwinglaw01_BitsFields.mono : ∀ a0 a1 a2 k, LeO (lapwinglaw01_BitsFields.f k a0 a1 a2) (lapwinglaw01_BitsFields.f (k + 1) a0 a1 a2) := by
  intro a0 a1 a2 k
  unfold lapwinglaw01_BitsFields.f
  repeat' first
      | (with_reducible exact lapwingref01_Field.mono _ _ _ _)
      | (with_reducible exact LeO.refl _)
      | (with_reducible exact LeO.none _)
      | (with_reducible refine LeO.ite ?_ ?_)
      | (with_reducible refine LeO.bind ?_ (fun _ => ?_))
      | exact lapwingref01_Field.mono _ _ _ _
      | exact LeO.none _
      | refine LeO.ite ?_ ?_
      | refine LeO.bind ?_ (fun _ => ?_)
set_option maxHeartbeats 8000000 in
set_option maxRecDepth 100000 in
theorem lapwinglaw01_BitsFields.calls (k : Nat) (a0 : Int) (a1 : Int) (a2 : Int) (r : Bool) (w : World) (h : lapwinglaw01_BitsFields.f k a0 a1 a2 = some r) :
    Calls Try.prog 3 #[.int .u8 a0, .int .i64 a1, .int .i64 a2] w fun e w' => e = .returned (.bool r) ∧ Below w.heap.size w w' := by
  have HB := Aside0.mk (Below.refl w.heap.size w)
  have H : ((bits_Field.f 253 2 6).bind fun t105 => (if t105 = 63 then ((bits_Field.f a0 a1 a2).bind fun t106 => ((lapwingref01_Field.f k a0 a1 a2).bind fun t107 => (some (t106 == t107)))) else (some false))) = some r := h
  clear h
  replace H := Option.bind_eq_some_iff.mp H
  obtain ⟨t105, A40, H⟩ := H
  replace H : (if t105 = 63 then ((bits_Field.f a0 a1 a2).bind fun t106 => ((lapwingref01_Field.f k a0 a1 a2).bind fun t107 => (some (t106 == t107)))) else (some false)) = some r := H
  have A4 := Aside0.mk A40
  clear A40
  by_cases c5 : t105 = 63
  · rw [if_pos c5] at H
    have c5b0 : (t105 == 63) = true := beq_iff_eq.mpr c5
    have c5b1 : (t105 != 63) = false := bne_eq_false_iff_eq.mpr c5
    clear c5
    replace H := Option.bind_eq_some_iff.mp H
    obtain ⟨t106, A60, H⟩ := H
    replace H : ((lapwingref01_Field.f k a0 a1 a2).bind fun t107 => (some (t106 == t107))) = some r := H
    have A6 := Aside0.mk A60
    clear A60
    replace H := Option.bind_eq_some_iff.mp H
    obtain ⟨t107, A70, H⟩ := H
    replace H : (some (t106 == t107)) = some r := H
    have A7 := Aside0.mk A70
    clear A70
    obtain rfl := Option.some.inj H
    go_enter Try.func3, Try.ntmps3
    go_wp2_with (first | ((with_reducible refine gate_callee (f := 9) rfl ?_); refine goesL_ (some 7) rfl rfl Try.func9 (by kernel_rfl) rfl #[.int .u8 253, .int .i64 2, .int .i64 6] rfl (by (try simp only [List.map_toArray, List.map_cons, List.map_nil]); first | done | rfl | (simp only [List.length_drop, List.length_take]; rfl)) ?_; (with_reducible refine (bits_Field.calls 253 2 6 t105 _ A4.out).mono ?_); rintro e w8 ⟨rfl, hb⟩; refine ⟨_, rfl, ?_⟩; have n0_ := Aside0.mk (below_step (by repeat (first | (with_reducible first | exact HB.out | apply below_alloc | apply pw_below_drewN | apply below_drew1) | exact HB.out)) hb); clear HB; have HB := n0_; clear n0_; (try clear hb); (try clear hb2); (try clear hk); (try clear hi)) | (go_at_call 9; (with_reducible refine (bits_Field.calls a0 a1 a2 t106 _ A6.out).mono ?_); rintro e w9 ⟨rfl, hb⟩; have n0_ := Aside0.mk (below_step (by repeat (first | (with_reducible first | exact HB.out | apply below_alloc | apply pw_below_drewN | apply below_drew1) | exact HB.out)) hb); clear HB; have HB := n0_; clear n0_; (try clear hb); (try clear hb2); (try clear hk); (try clear hi)) | (go_at_call 10; (with_reducible refine (lapwingref01_Field.calls k a0 a1 a2 t107 _ A7.out).mono ?_); rintro e w' ⟨rfl, ⟨nd, rfl⟩⟩))
    go_ret
    exact ⟨by first | rfl | (simp [errW_none, errW_some] <;> rfl) | (simp [*, errW_none, errW_some] <;> rfl), by repeat (first | (with_reducible first | exact HB.out | apply below_alloc | apply pw_below_drewN | apply below_drew1) | exact HB.out)⟩
  · rw [if_neg c5] at H
    have c5b0 : (t105 == 63) = false := beq_eq_false_iff_ne.mpr c5
    have c5b1 : (t105 != 63) = true := bne_iff_ne.mpr c5
    obtain rfl := Option.some.inj H
    go_enter Try.func3, Try.ntmps3
    go_wp2_with (first | ((with_reducible refine gate_callee (f := 9) rfl ?_); refine goesL_ (some 7) rfl rfl Try.func9 (by kernel_rfl) rfl #[.int .u8 253, .int .i64 2, .int .i64 6] rfl (by (try simp only [List.map_toArray, List.map_cons, List.map_nil]); first | done | rfl | (simp only [List.length_drop, List.length_take]; rfl)) ?_; (with_reducible refine (bits_Field.calls 253 2 6 t105 _ A4.out).mono ?_); rintro e w10 ⟨rfl, hb⟩; refine ⟨_, rfl, ?_⟩; have n0_ := Aside0.mk (below_step (by repeat (first | (with_reducible first | exact HB.out | apply below_alloc | apply pw_below_drewN | apply below_drew1) | exact HB.out)) hb); clear HB; have HB := n0_; clear n0_; (try clear hb); (try clear hb2); (try clear hk); (try clear hi)))
    go_ret
    exact ⟨by first | rfl | (simp [errW_none, errW_some] <;> rfl) | (simp [*, errW_none, errW_some] <;> rfl), by repeat (first | (with_reducible first | exact HB.out | apply below_alloc | apply pw_below_drewN | apply below_drew1) | exact HB.out)⟩

/-- THE ONE PURE STATEMENT of lapwinglaw01_BitsFields: yours. -/
def lapwinglaw01_BitsFields.Pure : Prop := ∀ (a0 : Int) (a1 : Int) (a2 : Int), (Lit.int .u8 a0).wf = true → (Lit.int .i64 a1).wf = true → (Lit.int .i64 a2).wf = true → ∃ k, lapwinglaw01_BitsFields.f k a0 a1 a2 = some true
theorem lapwinglaw01_BitsFields.walk (P : lapwinglaw01_BitsFields.Pure) (a0 : Int) (a1 : Int) (a2 : Int) (w : World) (w0 : (Lit.int .u8 a0).wf = true) (w1 : (Lit.int .i64 a1).wf = true) (w2 : (Lit.int .i64 a2).wf = true) :
    Calls Try.prog 3 #[.int .u8 a0, .int .i64 a1, .int .i64 a2] w fun e w' => e = .returned (.bool true) ∧ Below w.heap.size w w' := by
  obtain ⟨k, h⟩ := P a0 a1 a2 w0 w1 w2
  refine (lapwinglaw01_BitsFields.calls k a0 a1 a2 true w h).mono ?_
  rintro e w' ⟨rfl, hd⟩
  exact ⟨rfl, hd⟩

end Go.Proofs.Ytjgcoidfkpjeiaa.PBitsFields
