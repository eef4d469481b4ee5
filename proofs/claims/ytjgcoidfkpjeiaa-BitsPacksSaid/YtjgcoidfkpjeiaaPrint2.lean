-- Written by a program of this session's, over the kit's printer turned by wip/tools/mkprint.py. Lean checks it.
import Derived.Test.YtjgcoidfkpjeiaaPrint0
import Derived.Test.YtjgcoidfkpjeiaaPrint1
namespace Go.Proofs.Ytjgcoidfkpjeiaa.Print
open Go.RowKit Go.Proofs.YtjgcoidfkpjeiaaW.PrintWords Go.Proofs.YtjgcoidfkpjeiaaW.PrintLast Go.Proofs.YtjgcoidfkpjeiaaW.PrintMore
attribute [local go_sem] max2_int min2_int max_two min_two max_three min_three max_four min_four   -- for this text's walks alone
set_option linter.unusedVariables false
set_option linter.unusedSimpArgs false
attribute [local go_sem high] Go.Proofs.YtjgcoidfkpjeiaaX.unary_xor_u16 Go.Proofs.YtjgcoidfkpjeiaaX.unary_xor_u8

/-! ### lapwingref01_Pack: function 14 -/
mutual
def lapwingref01_Pack.l0 : Nat → List (S34) → Int → Int → Int → Option (Int × Int)
  | 0, _, _, _, _ => none
  | k + 1, x0, x4, x5, x6 => if x6 < (x0.length : Int) then (if 0 ≤ x6 then (if ((rd_T34 x0 x6).f0) < 1 then (lapwingref01_Pack.j1 k x0 x4 x5 x6 ((rd_T34 x0 x6).f0) true) else (lapwingref01_Pack.j1 k x0 x4 x5 x6 ((rd_T34 x0 x6).f0) (decide (((rd_T34 x0 x6).f0) > 8)))) else (none)) else (if x5 > 8 then (some (0, 5)) else (some ((x4) % 256, 0)))
def lapwingref01_Pack.j1 : Nat → List (S34) → Int → Int → Int → Int → Bool → Option (Int × Int)
  | 0, _, _, _, _, _, _ => none
  | k + 1, x0, x4, x5, x6, x7, x26 => if x26 = true then (some (0, 2)) else ((lapwingref01_power.f k x7).bind fun t111 => (if 0 ≤ x6 then (if x6 < (x0.length : Int) then (if ((rd_T34 x0 x6).f1) < 0 then (lapwingref01_Pack.j2 k x0 x4 x5 x6 x7 true) else (lapwingref01_Pack.j2 k x0 x4 x5 x6 x7 (decide (((rd_T34 x0 x6).f1) ≥ t111)))) else (none)) else (none)))
def lapwingref01_Pack.j2 : Nat → List (S34) → Int → Int → Int → Int → Bool → Option (Int × Int)
  | 0, _, _, _, _, _, _ => none
  | k + 1, x0, x4, x5, x6, x7, x43 => if x43 = true then (some (0, 2)) else (if x5 ≤ 8 then ((lapwingref01_power.f k x5).bind fun t114 => (if 0 ≤ x6 then (if x6 < (x0.length : Int) then (lapwingref01_Pack.l0 k x0 (wrap64 (x4 + (wrap64 (((rd_T34 x0 x6).f1) * t114)))) (wrap64 (x5 + x7)) (wrap64 (x6 + 1))) else (none)) else (none))) else (lapwingref01_Pack.l0 k x0 x4 x5 (wrap64 (x6 + 1))))
end
def lapwingref01_Pack.f (k : Nat) (l0 : List (S34)) : Option (Int × Int) := lapwingref01_Pack.l0 k l0 0 0 0
theorem lapwingref01_Pack.mono_l : ∀ k, (∀ y0 y1 y2 y3, LeO (lapwingref01_Pack.l0 k y0 y1 y2 y3) (lapwingref01_Pack.l0 (k + 1) y0 y1 y2 y3)) ∧ (∀ y0 y1 y2 y3 y4 y5, LeO (lapwingref01_Pack.j1 k y0 y1 y2 y3 y4 y5) (lapwingref01_Pack.j1 (k + 1) y0 y1 y2 y3 y4 y5)) ∧ (∀ y0 y1 y2 y3 y4 y5, LeO (lapwingref01_Pack.j2 k y0 y1 y2 y3 y4 y5) (lapwingref01_Pack.j2 (k + 1) y0 y1 y2 y3 y4 y5))
  | 0 => ⟨fun _ _ _ _ r h => by simp [lapwingref01_Pack.l0] at h, fun _ _ _ _ _ _ r h => by simp [lapwingref01_Pack.j1] at h, fun _ _ _ _ _ _ r h => by simp [lapwingref01_Pack.j2] at h⟩
  | k + 1 => by
    obtain ⟨ih0, ih1, ih2⟩ := lapwingref01_Pack.mono_l k
    refine ⟨?_, ?_, ?_⟩
    · intro y0 y1 y2 y3
      unfold lapwingref01_Pack.l0
      repeat' first
      | (with_reducible exact ih0 _ _ _ _)
      | (with_reducible exact ih1 _ _ _ _ _ _)
      | (with_reducible exact ih2 _ _ _ _ _ _)
      | (with_reducible exact lapwingref01_power.mono _ _)
      | (with_reducible exact LeO.refl _)
      | (with_reducible exact LeO.none _)
      | (with_reducible refine LeO.ite ?_ ?_)
      | (with_reducible refine LeO.bind ?_ (fun _ => ?_))
      | exact ih0 _ _ _ _
      | exact ih1 _ _ _ _ _ _
      | exact ih2 _ _ _ _ _ _
      | exact lapwingref01_power.mono _ _
      | exact LeO.none _
      | refine LeO.ite ?_ ?_
      | refine LeO.bind ?_ (fun _ => ?_)
    · intro y0 y1 y2 y3 y4 y5
      unfold lapwingref01_Pack.j1
      repeat' first
      | (with_reducible exact ih0 _ _ _ _)
      | (with_reducible exact ih1 _ _ _ _ _ _)
      | (with_reducible exact ih2 _ _ _ _ _ _)
      | (with_reducible exact lapwingref01_power.mono _ _)
      | (with_reducible exact LeO.refl _)
      | (with_reducible exact LeO.none _)
      | (with_reducible refine LeO.ite ?_ ?_)
      | (with_reducible refine LeO.bind ?_ (fun _ => ?_))
      | exact ih0 _ _ _ _
      | exact ih1 _ _ _ _ _ _
      | exact ih2 _ _ _ _ _ _
      | exact lapwingref01_power.mono _ _
      | exact LeO.none _
      | refine LeO.ite ?_ ?_
      | refine LeO.bind ?_ (fun _ => ?_)
    · intro y0 y1 y2 y3 y4 y5
      unfold lapwingref01_Pack.j2
      repeat' first
      | (with_reducible exact ih0 _ _ _ _)
      | (with_reducible exact ih1 _ _ _ _ _ _)
      | (with_reducible exact ih2 _ _ _ _ _ _)
      | (with_reducible exact lapwingref01_power.mono _ _)
      | (with_reducible exact LeO.refl _)
      | (with_reducible exact LeO.none _)
      | (with_reducible refine LeO.ite ?_ ?_)
      | (with_reducible refine LeO.bind ?_ (fun _ => ?_))
      | exact ih0 _ _ _ _
      | exact ih1 _ _ _ _ _ _
      | exact ih2 _ _ _ _ _ _
      | exact lapwingref01_power.mono _ _
      | exact LeO.none _
      | refine LeO.ite ?_ ?_
      | refine LeO.bind ?_ (fun _ => ?_)
theorem lapwingref01_Pack.mono : ∀ a0 k, LeO (lapwingref01_Pack.f k a0) (lapwingref01_Pack.f (k + 1) a0) := by
  intro a0 k
  obtain ⟨ih0, ih1, ih2⟩ := lapwingref01_Pack.mono_l k
  unfold lapwingref01_Pack.f
  repeat' first
      | (with_reducible exact ih0 _ _ _ _)
      | (with_reducible exact ih1 _ _ _ _ _ _)
      | (with_reducible exact ih2 _ _ _ _ _ _)
      | (with_reducible exact lapwingref01_power.mono _ _)
      | (with_reducible exact LeO.refl _)
      | (with_reducible exact LeO.none _)
      | (with_reducible refine LeO.ite ?_ ?_)
      | (with_reducible refine LeO.bind ?_ (fun _ => ?_))
      | exact ih0 _ _ _ _
      | exact ih1 _ _ _ _ _ _
      | exact ih2 _ _ _ _ _ _
      | exact lapwingref01_power.mono _ _
      | exact LeO.none _
      | refine LeO.ite ?_ ?_
      | refine LeO.bind ?_ (fun _ => ?_)
set_option maxHeartbeats 8000000 in
set_option maxRecDepth 100000 in
theorem lapwingref01_Pack.calls (k : Nat) (A0 : Option Addr) (c0 : Nat) (l0 : List (S34)) (r1 : Int) (r2 : Int) (w : World) (hr0 : Kd.C k34 w A0 l0.length l0) (hc0 : l0.length ≤ c0) (h : lapwingref01_Pack.f k l0 = some (r1, r2)) :
    Calls Try.prog 14 #[.slice A0 l0.length c0] w fun e w' => e = .returned (.tuple #[.int .u8 r1, .int .i64 r2]) ∧ Drawn0 w w' := by
  have HR0 := Aside0.mk hr0
  have HC0 := Aside0.mk hc0
  clear hr0 hc0
  have H : (lapwingref01_Pack.l0 k l0 0 0 0) = some (r1, r2) := h
  clear h
  have H' := Aside0.mk H
  clear H
  go_enter Try.func14, Try.ntmps14
  go_wp2
  go_loopg [4, 5, 6] k (fun kq v4 v5 v6 w' => ∃ (x4_1 : Int) (x5_1 : Int) (x6_1 : Int), v4 = .int .i64 x4_1 ∧ v5 = .int .i64 x5_1 ∧ v6 = .int .i64 x6_1 ∧ Aside0 (lapwingref01_Pack.l0 kq l0 x4_1 x5_1 x6_1 = some (r1, r2)) ∧ Aside0 (kq ≤ k) ∧ Drawn0 w w')
  case atStart => exact ⟨(0), (0), (0), (by first | rfl | (simp; done) | (simp [*]; done)), (by first | rfl | (simp; done) | (simp [*]; done)), (by first | rfl | (simp; done) | (simp [*]; done)), H', ⟨Nat.le_refl _⟩, by repeat (first | exact Drawn0.refl _ | apply Drawn0.step)⟩
  case round =>
    clear H'
    try clear c1
    obtain ⟨x4_1, x5_1, x6_1, rfl, rfl, rfl, HA, HK1, ⟨m1, rfl⟩⟩ := hrel
    cases gk with
    | zero => exact absurd HA.out (by simp [lapwingref01_Pack.l0])
    | succ k1 =>
      have H := HA.out
      clear HA
      simp only [lapwingref01_Pack.l0] at H
      by_cases c2 : x6_1 < (l0.length : Int)
      · rw [if_pos c2] at H
        have c2b0 : decide (x6_1 < (l0.length : Int)) = true := decide_eq_true c2
        clear c2
        by_cases c3 : 0 ≤ x6_1
        · rw [if_pos c3] at H
          have c3b0 : decide (0 ≤ x6_1) = true := decide_eq_true c3
          clear c3
          have HC4 := Aside0.mk H
          clear H
          have p110 : 0 ≤ (x6_1 : Int) := of_decide_eq_true (by first | (with_reducible assumption) | assumption)
          have q110 : x6_1 < (l0.length : Int) := of_decide_eq_true (by first | (with_reducible assumption) | assumption)
          obtain ⟨ad110, e110, hx110_0, hx110_1⟩ := at_T34 HR0.out x6_1 p110 q110
          cases e110
          replace p110 := eq_true p110
          replace q110 := eq_true q110
          go_upto_region 7 with (fail)
          go_cut [26] (fun v26 wc => ∃ (kq : Nat) (x26_3 : Bool), v26 = .bool x26_3 ∧ Aside0 (lapwingref01_Pack.j1 kq l0 x4_1 x5_1 x6_1 ((rd_T34 l0 x6_1).f0) x26_3 = some (r1, r2)) ∧ Aside0 (kq ≤ k1) ∧ Drawn0 w wc)
          case first =>
            have H := HC4.out
            clear HC4
            by_cases c5 : ((rd_T34 l0 x6_1).f0) < 1
            · rw [if_pos c5] at H
              have c5b0 : decide (((rd_T34 l0 x6_1).f0) < 1) = true := decide_eq_true c5
              clear c5
              (first | rw [c5b0] | (simp only [i64_w, i32_w]; rw [c5b0]) | skip)
              have H' := Aside0.mk H
              clear H
              go_wp2
              go_meet
              case rel => exact ⟨_, (true), (by first | rfl | (simp; done) | (simp [*]; done)), H', ⟨by have := HK1.out; first | omega | exact Nat.le_refl _⟩, by repeat (first | exact Drawn0.refl _ | apply Drawn0.step)⟩
            · rw [if_neg c5] at H
              have c5b0 : decide (((rd_T34 l0 x6_1).f0) < 1) = false := decide_eq_false c5
              clear c5
              (first | rw [c5b0] | (simp only [i64_w, i32_w]; rw [c5b0]) | skip)
              have H' := Aside0.mk H
              clear H
              go_wp2
              go_meet
              case rel => exact ⟨_, (decide (((rd_T34 l0 x6_1).f0) > 8)), (by first | rfl | (simp; done) | (simp [*]; done)), H', ⟨by have := HK1.out; first | omega | exact Nat.le_refl _⟩, by repeat (first | exact Drawn0.refl _ | apply Drawn0.step)⟩
          case rest =>
            clear HC4
            try clear c1
            try clear p1
            try clear q1
            try clear hx1
            try clear c2
            try clear c2b0
            try clear p2
            try clear c3
            try clear c3b0
            try clear c5
            try clear c5b0
            try clear hx110_0
            try clear hx110_1
            try clear p110
            try clear q110
            obtain ⟨kq, x26_3, rfl, HA, HJ3, ⟨mc3, rfl⟩⟩ := hcut
            cases kq with
            | zero => exact absurd HA.out (by simp [lapwingref01_Pack.j1])
            | succ kj3 =>
              have H := HA.out
              clear HA
              simp only [lapwingref01_Pack.j1] at H
              by_cases c6 : x26_3 = true
              · subst c6
                have H1 : (some (0, 2)) = some (r1, r2) := by rw [if_pos rfl] at H; exact H
                clear H
                have H := H1
                clear H1
                simp only [Option.some.injEq, Prod.mk.injEq] at H
                obtain ⟨rfl, rfl⟩ := H
                go_wp2
                go_ret2
                exact ⟨by first | rfl | (simp; done) | (simp [*]; done), by repeat (first | exact Drawn0.refl _ | apply Drawn0.step)⟩
              · replace c6 := Bool.eq_false_iff.mpr c6
                subst c6
                have H1 : ((lapwingref01_power.f kj3 ((rd_T34 l0 x6_1).f0)).bind fun t111 => (if 0 ≤ x6_1 then (if x6_1 < (l0.length : Int) then (if ((rd_T34 l0 x6_1).f1) < 0 then (lapwingref01_Pack.j2 kj3 l0 x4_1 x5_1 x6_1 ((rd_T34 l0 x6_1).f0) true) else (lapwingref01_Pack.j2 kj3 l0 x4_1 x5_1 x6_1 ((rd_T34 l0 x6_1).f0) (decide (((rd_T34 l0 x6_1).f1) ≥ t111)))) else (none)) else (none))) = some (r1, r2) := by rw [if_neg (show ¬ (false = true) by decide)] at H; exact H
                clear H
                have H := H1
                clear H1
                replace H := Option.bind_eq_some_iff.mp H
                obtain ⟨t111, A70, H⟩ := H
                replace H : (if 0 ≤ x6_1 then (if x6_1 < (l0.length : Int) then (if ((rd_T34 l0 x6_1).f1) < 0 then (lapwingref01_Pack.j2 kj3 l0 x4_1 x5_1 x6_1 ((rd_T34 l0 x6_1).f0) true) else (lapwingref01_Pack.j2 kj3 l0 x4_1 x5_1 x6_1 ((rd_T34 l0 x6_1).f0) (decide (((rd_T34 l0 x6_1).f1) ≥ t111)))) else (none)) else (none)) = some (r1, r2) := H
                have A7 := Aside0.mk A70
                clear A70
                have HC8 := Aside0.mk H
                clear H
                go_upto_region 10 with (first | ((with_reducible refine gate_callee (f := 17) rfl ?_); refine goesL_ (some 28) rfl rfl Try.func17 (by kernel_rfl) rfl #[.int .i64 ((rd_T34 l0 x6_1).f0)] rfl (by (try simp only [List.map_toArray, List.map_cons, List.map_nil]); first | done | rfl | (simp only [List.length_drop, List.length_take]; rfl)) ?_; (with_reducible refine (lapwingref01_power.calls kj3 ((rd_T34 l0 x6_1).f0) t111 _ A7.out).mono ?_); rintro e w' ⟨rfl, ⟨nd, rfl⟩⟩; refine ⟨_, rfl, ?_⟩))
                (try simp only [Act.put, List.setIfInBounds_toArray, List.set_cons_zero, List.set_cons_succ])
                go_cut [43] (fun v43 wc => ∃ (kq : Nat) (x43_7 : Bool), v43 = .bool x43_7 ∧ Aside0 (lapwingref01_Pack.j2 kq l0 x4_1 x5_1 x6_1 ((rd_T34 l0 x6_1).f0) x43_7 = some (r1, r2)) ∧ Aside0 (kq ≤ kj3) ∧ Drawn0 w wc)
                case first =>
                  have H := HC8.out
                  clear HC8
                  by_cases c9 : 0 ≤ x6_1
                  · rw [if_pos c9] at H
                    have c9b0 : decide (0 ≤ x6_1) = true := decide_eq_true c9
                    clear c9
                    (first | rw [c9b0] | (simp only [i64_w, i32_w]; rw [c9b0]) | skip)
                    by_cases c10 : x6_1 < (l0.length : Int)
                    · rw [if_pos c10] at H
                      have c10b0 : decide (x6_1 < (l0.length : Int)) = true := decide_eq_true c10
                      clear c10
                      by_cases c11 : ((rd_T34 l0 x6_1).f1) < 0
                      · rw [if_pos c11] at H
                        have c11b0 : decide (((rd_T34 l0 x6_1).f1) < 0) = true := decide_eq_true c11
                        clear c11
                        have H' := Aside0.mk H
                        clear H
                        have p112 : 0 ≤ (x6_1 : Int) := of_decide_eq_true (by first | (with_reducible assumption) | assumption)
                        have q112 : x6_1 < (l0.length : Int) := of_decide_eq_true (by first | (with_reducible assumption) | assumption)
                        obtain ⟨ad112, e112, hx112_0, hx112_1⟩ := at_T34 HR0.out x6_1 p112 q112
                        obtain rfl : ad110 = ad112 := (by injection e112)
                        replace p112 := eq_true p112
                        replace q112 := eq_true q112
                        go_wp2
                        go_meet
                        case rel => exact ⟨_, (true), (by first | rfl | (simp; done) | (simp [*]; done)), H', ⟨by have := HK1.out; have := HJ3.out; first | omega | exact Nat.le_refl _⟩, by repeat (first | exact Drawn0.refl _ | apply Drawn0.step)⟩
                      · rw [if_neg c11] at H
                        have c11b0 : decide (((rd_T34 l0 x6_1).f1) < 0) = false := decide_eq_false c11
                        clear c11
                        have H' := Aside0.mk H
                        clear H
                        have p112 : 0 ≤ (x6_1 : Int) := of_decide_eq_true (by first | (with_reducible assumption) | assumption)
                        have q112 : x6_1 < (l0.length : Int) := of_decide_eq_true (by first | (with_reducible assumption) | assumption)
                        obtain ⟨ad112, e112, hx112_0, hx112_1⟩ := at_T34 HR0.out x6_1 p112 q112
                        obtain rfl : ad110 = ad112 := (by injection e112)
                        replace p112 := eq_true p112
                        replace q112 := eq_true q112
                        have p113 : 0 ≤ (x6_1 : Int) := of_decide_eq_true (by first | (with_reducible assumption) | assumption)
                        have q113 : x6_1 < (l0.length : Int) := of_decide_eq_true (by first | (with_reducible assumption) | assumption)
                        obtain ⟨ad113, e113, hx113_0, hx113_1⟩ := at_T34 HR0.out x6_1 p113 q113
                        obtain rfl : ad110 = ad113 := (by injection e113)
                        replace p113 := eq_true p113
                        replace q113 := eq_true q113
                        go_wp2
                        go_meet
                        case rel => exact ⟨_, (decide (((rd_T34 l0 x6_1).f1) ≥ t111)), (by first | rfl | (simp; done) | (simp [*]; done)), H', ⟨by have := HK1.out; have := HJ3.out; first | omega | exact Nat.le_refl _⟩, by repeat (first | exact Drawn0.refl _ | apply Drawn0.step)⟩
                    · rw [if_neg c10] at H
                      exact absurd H (by simp)
                  · rw [if_neg c9] at H
                    exact absurd H (by simp)
                case rest =>
                  clear HC8
                  try clear c1
                  try clear p1
                  try clear q1
                  try clear hx1
                  try clear c2
                  try clear c2b0
                  try clear p2
                  try clear c3
                  try clear c3b0
                  try clear c5
                  try clear c5b0
                  try clear c6
                  try clear c9
                  try clear c9b0
                  try clear c10
                  try clear c10b0
                  try clear c11
                  try clear c11b0
                  try clear p11
                  try clear q11
                  try clear hx11
                  try clear hx110_0
                  try clear hx110_1
                  try clear hx112_0
                  try clear hx112_1
                  try clear hx113_0
                  try clear hx113_1
                  try clear p1
                  try clear p110
                  try clear p112
                  try clear p113
                  try clear p2
                  try clear q1
                  try clear q110
                  try clear q112
                  try clear q113
                  obtain ⟨kq, x43_7, rfl, HA, HJ7, ⟨mc7, rfl⟩⟩ := hcut
                  cases kq with
                  | zero => exact absurd HA.out (by simp [lapwingref01_Pack.j2])
                  | succ kj7 =>
                    have H := HA.out
                    clear HA
                    simp only [lapwingref01_Pack.j2] at H
                    by_cases c12 : x43_7 = true
                    · subst c12
                      have H1 : (some (0, 2)) = some (r1, r2) := by rw [if_pos rfl] at H; exact H
                      clear H
                      have H := H1
                      clear H1
                      simp only [Option.some.injEq, Prod.mk.injEq] at H
                      obtain ⟨rfl, rfl⟩ := H
                      go_wp2
                      go_ret2
                      exact ⟨by first | rfl | (simp; done) | (simp [*]; done), by repeat (first | exact Drawn0.refl _ | apply Drawn0.step)⟩
                    · replace c12 := Bool.eq_false_iff.mpr c12
                      subst c12
                      have H1 : (if x5_1 ≤ 8 then ((lapwingref01_power.f kj7 x5_1).bind fun t114 => (if 0 ≤ x6_1 then (if x6_1 < (l0.length : Int) then (lapwingref01_Pack.l0 kj7 l0 (wrap64 (x4_1 + (wrap64 (((rd_T34 l0 x6_1).f1) * t114)))) (wrap64 (x5_1 + ((rd_T34 l0 x6_1).f0))) (wrap64 (x6_1 + 1))) else (none)) else (none))) else (lapwingref01_Pack.l0 kj7 l0 x4_1 x5_1 (wrap64 (x6_1 + 1)))) = some (r1, r2) := by rw [if_neg (show ¬ (false = true) by decide)] at H; exact H
                      clear H
                      have H := H1
                      clear H1
                      by_cases c13 : x5_1 ≤ 8
                      · rw [if_pos c13] at H
                        have c13b0 : decide (x5_1 ≤ 8) = true := decide_eq_true c13
                        clear c13
                        replace H := Option.bind_eq_some_iff.mp H
                        obtain ⟨t114, A140, H⟩ := H
                        replace H : (if 0 ≤ x6_1 then (if x6_1 < (l0.length : Int) then (lapwingref01_Pack.l0 kj7 l0 (wrap64 (x4_1 + (wrap64 (((rd_T34 l0 x6_1).f1) * t114)))) (wrap64 (x5_1 + ((rd_T34 l0 x6_1).f0))) (wrap64 (x6_1 + 1))) else (none)) else (none)) = some (r1, r2) := H
                        have A14 := Aside0.mk A140
                        clear A140
                        by_cases c15 : 0 ≤ x6_1
                        · rw [if_pos c15] at H
                          have c15b0 : decide (0 ≤ x6_1) = true := decide_eq_true c15
                          clear c15
                          by_cases c16 : x6_1 < (l0.length : Int)
                          · rw [if_pos c16] at H
                            have c16b0 : decide (x6_1 < (l0.length : Int)) = true := decide_eq_true c16
                            clear c16
                            have H' := Aside0.mk H
                            clear H
                            go_wp2_with (first | ((with_reducible refine gate_callee (f := 17) rfl ?_); refine goesL_ (some 47) rfl rfl Try.func17 (by kernel_rfl) rfl #[.int .i64 x5_1] rfl (by (try simp only [List.map_toArray, List.map_cons, List.map_nil]); first | done | rfl | (simp only [List.length_drop, List.length_take]; rfl)) ?_; (with_reducible refine (lapwingref01_power.calls kj7 x5_1 t114 _ A14.out).mono ?_); rintro e w' ⟨rfl, ⟨nd, rfl⟩⟩; refine ⟨_, rfl, ?_⟩; have p115 : 0 ≤ (x6_1 : Int) := of_decide_eq_true (by first | (with_reducible assumption) | assumption); have q115 : x6_1 < (l0.length : Int) := of_decide_eq_true (by first | (with_reducible assumption) | assumption); obtain ⟨ad115, e115, hx115_0, hx115_1⟩ := at_T34 HR0.out x6_1 p115 q115; obtain rfl : ad110 = ad115 := (by injection e115); replace p115 := eq_true p115; replace q115 := eq_true q115))
                            go_roundg kj7
                            case measure => have := HK1.out; have := HJ3.out; have := HJ7.out; omega
                            case rel => exact ⟨(wrap64 (x4_1 + (wrap64 (((rd_T34 l0 x6_1).f1) * t114)))), (wrap64 (x5_1 + ((rd_T34 l0 x6_1).f0))), (wrap64 (x6_1 + 1)), (by first | rfl | (simp; done) | (simp [*]; done)), (by first | rfl | (simp; done) | (simp [*]; done)), (by first | rfl | (simp; done) | (simp [*]; done)), H', ⟨by have := HK1.out; have := HJ3.out; have := HJ7.out; omega⟩, by repeat (first | exact Drawn0.refl _ | apply Drawn0.step)⟩
                          · rw [if_neg c16] at H
                            exact absurd H (by simp)
                        · rw [if_neg c15] at H
                          exact absurd H (by simp)
                      · rw [if_neg c13] at H
                        have c13b0 : decide (x5_1 ≤ 8) = false := decide_eq_false c13
                        clear c13
                        have H' := Aside0.mk H
                        clear H
                        go_wp2
                        go_roundg kj7
                        case measure => have := HK1.out; have := HJ3.out; have := HJ7.out; omega
                        case rel => exact ⟨(x4_1), (x5_1), (wrap64 (x6_1 + 1)), (by first | rfl | (simp; done) | (simp [*]; done)), (by first | rfl | (simp; done) | (simp [*]; done)), (by first | rfl | (simp; done) | (simp [*]; done)), H', ⟨by have := HK1.out; have := HJ3.out; have := HJ7.out; omega⟩, by repeat (first | exact Drawn0.refl _ | apply Drawn0.step)⟩
        · rw [if_neg c3] at H
          exact absurd H (by simp)
      · rw [if_neg c2] at H
        have c2b0 : decide (x6_1 < (l0.length : Int)) = false := decide_eq_false c2
        clear c2
        by_cases c17 : x5_1 > 8
        · rw [if_pos c17] at H
          have c17b0 : decide (8 < x5_1) = true := decide_eq_true c17
          clear c17
          simp only [Option.some.injEq, Prod.mk.injEq] at H
          obtain ⟨rfl, rfl⟩ := H
          go_wp2
          go_ret2
          exact ⟨by first | rfl | (simp; done) | (simp [*]; done), by repeat (first | exact Drawn0.refl _ | apply Drawn0.step)⟩
        · rw [if_neg c17] at H
          have c17b0 : decide (8 < x5_1) = false := decide_eq_false c17
          clear c17
          simp only [Option.some.injEq, Prod.mk.injEq] at H
          obtain ⟨rfl, rfl⟩ := H
          go_wp2
          go_ret2
          exact ⟨by first | rfl | (simp; done) | (simp [*]; done), by repeat (first | exact Drawn0.refl _ | apply Drawn0.step)⟩

/-! ### lapwinglaw01_BitsPacks: function 5 -/
def lapwinglaw01_BitsPacks.f (k : Nat) (l0 : List (S34)) : Option (Bool) := if 0 ≤ (mn (l0.length : Int) 50) then (if (mn (l0.length : Int) 50) ≤ (l0.length : Int) then ((some (l0.take ((mn (l0.length : Int) 50) : Int).toNat : List (S34))).bind fun y116 => ((bits_Pack.f k y116).bind fun bt120 => ((lapwingref01_Pack.f k y116).bind fun bt122 => ((bits_Pack.f k (([(⟨1, 1⟩ : S34), (⟨1, 0⟩ : S34), (⟨6, 63⟩ : S34)] : List (S34)))).bind fun bt127 => (if bt127.1 = 253 then (if bt120.1 = bt122.1 then (some (bt120.2 == bt122.2)) else (some false)) else (some false)))))) else (none)) else (none)
theorem lapwinglaw01_BitsPacks.mono : ∀ a0 k, LeO (lapwinglaw01_BitsPacks.f k a0) (lapwinglaw01_BitsPacks.f (k + 1) a0) := by
  intro a0 k
  unfold lapwinglaw01_BitsPacks.f
  repeat' first
      | (with_reducible exact bits_Pack.mono _ _)
      | (with_reducible exact lapwingref01_Pack.mono _ _)
      | (with_reducible exact LeO.refl _)
      | (with_reducible exact LeO.none _)
      | (with_reducible refine LeO.ite ?_ ?_)
      | (with_reducible refine LeO.bind ?_ (fun _ => ?_))
      | exact bits_Pack.mono _ _
      | exact lapwingref01_Pack.mono _ _
      | exact LeO.none _
      | refine LeO.ite ?_ ?_
      | refine LeO.bind ?_ (fun _ => ?_)
set_option maxHeartbeats 8000000 in
set_option maxRecDepth 100000 in
theorem lapwinglaw01_BitsPacks.calls (k : Nat) (A0 : Option Addr) (c0 : Nat) (l0 : List (S34)) (r : Bool) (w : World) (hr0 : Kd.C k34 w A0 l0.length l0) (hc0 : l0.length ≤ c0) (h : lapwinglaw01_BitsPacks.f k l0 = some r) :
    Calls Try.prog 5 #[.slice A0 l0.length c0] w fun e w' => e = .returned (.bool r) ∧ Below w.heap.size w w' := by
  have hu34 := Try.underlying34
  have HR0 := Aside0.mk hr0
  have HC0 := Aside0.mk hc0
  clear hr0 hc0
  have HB := Aside0.mk (Below.refl w.heap.size w)
  have H : (if 0 ≤ (mn (l0.length : Int) 50) then (if (mn (l0.length : Int) 50) ≤ (l0.length : Int) then ((some (l0.take ((mn (l0.length : Int) 50) : Int).toNat : List (S34))).bind fun y116 => ((bits_Pack.f k y116).bind fun bt120 => ((lapwingref01_Pack.f k y116).bind fun bt122 => ((bits_Pack.f k (([(⟨1, 1⟩ : S34), (⟨1, 0⟩ : S34), (⟨6, 63⟩ : S34)] : List (S34)))).bind fun bt127 => (if bt127.1 = 253 then (if bt120.1 = bt122.1 then (some (bt120.2 == bt122.2)) else (some false)) else (some false)))))) else (none)) else (none)) = some r := h
  clear h
  obtain ⟨ji2, hji2⟩ : ∃ j_ : Int, (mn (l0.length : Int) 50) = j_ := ⟨_, rfl⟩
  replace H : (if 0 ≤ (ji2) then (if (ji2) ≤ (l0.length : Int) then ((some (l0.take ((ji2) : Int).toNat : List (S34))).bind fun y116 => ((bits_Pack.f k y116).bind fun bt120 => ((lapwingref01_Pack.f k y116).bind fun bt122 => ((bits_Pack.f k (([(⟨1, 1⟩ : S34), (⟨1, 0⟩ : S34), (⟨6, 63⟩ : S34)] : List (S34)))).bind fun bt127 => (if bt127.1 = 253 then (if bt120.1 = bt122.1 then (some (bt120.2 == bt122.2)) else (some false)) else (some false)))))) else (none)) else (none)) = some r := by first | (rw [hji2] at H; exact H) | (simp only [hji2] at H ⊢; exact H)
  (try (have hji2k0 : ji2 ≤ (l0.length : Int) := by (rw [← hji2]; unfold mn; (repeat' split) <;> omega)))
  (try (have hji2h : ji2 ≤ 50 := by (rw [← hji2]; unfold mn; (repeat' split) <;> omega)))
  (try (have hji2g : ji2 ≤ 64 := by omega))
  (try (have hji2t : min (ji2).toNat 64 = (ji2).toNat := by omega))
  (try (have hji2l : 0 ≤ ji2 := by (rw [← hji2]; unfold mn; (repeat' split) <;> omega)))
  (try (have hji2m : 0 ≤ ji2 := by omega))
  have hji2_ : (if 50 < (l0.length : Int) then 50 else (l0.length : Int)) = ji2 := hji2
  (try (have hji2_n := hji2_; simp only [Int.ofNat_lt] at hji2_n))
  by_cases c3 : 0 ≤ (ji2)
  · rw [if_pos c3] at H
    have c3b0 := eq_true c3
    have c3b1 : decide (0 ≤ (ji2)) = true := decide_eq_true c3
    clear c3
    by_cases c4 : (ji2) ≤ (l0.length : Int)
    · rw [if_pos c4] at H
      have c4b0 := eq_true c4
      have c4b1 : decide ((ji2) ≤ (l0.length : Int)) = true := decide_eq_true c4
      clear c4
      obtain ⟨y116, hy116⟩ : ∃ y_ : List (S34), y_ = (l0.take ((ji2) : Int).toNat) := ⟨_, rfl⟩
      replace H : ((bits_Pack.f k y116).bind fun bt120 => ((lapwingref01_Pack.f k y116).bind fun bt122 => ((bits_Pack.f k (([(⟨1, 1⟩ : S34), (⟨1, 0⟩ : S34), (⟨6, 63⟩ : S34)] : List (S34)))).bind fun bt127 => (if bt127.1 = 253 then (if bt120.1 = bt122.1 then (some (bt120.2 == bt122.2)) else (some false)) else (some false))))) = some r := by first | (rw [hy116]; with_reducible exact H) | (have H2_ := (Option.bind_some _ _).symm.trans H; rw [hy116]; with_reducible exact H2_) | (have H2_ := (Option.bind_some _ _).symm.trans H; with_reducible exact H2_) | with_reducible exact H | (rw [hy116]; exact H) | exact H
      have Ny116 := Aside0.mk hy116
      clear hy116
      replace H := Option.bind_eq_some_iff.mp H
      obtain ⟨⟨t120, t121⟩, A50, H⟩ := H
      replace H : ((lapwingref01_Pack.f k y116).bind fun bt122 => ((bits_Pack.f k (([(⟨1, 1⟩ : S34), (⟨1, 0⟩ : S34), (⟨6, 63⟩ : S34)] : List (S34)))).bind fun bt127 => (if bt127.1 = 253 then (if t120 = bt122.1 then (some (t121 == bt122.2)) else (some false)) else (some false)))) = some r := H
      have A5 := Aside0.mk A50
      clear A50
      replace H := Option.bind_eq_some_iff.mp H
      obtain ⟨⟨t122, t123⟩, A60, H⟩ := H
      replace H : ((bits_Pack.f k (([(⟨1, 1⟩ : S34), (⟨1, 0⟩ : S34), (⟨6, 63⟩ : S34)] : List (S34)))).bind fun bt127 => (if bt127.1 = 253 then (if t120 = t122 then (some (t121 == t123)) else (some false)) else (some false))) = some r := H
      have A6 := Aside0.mk A60
      clear A60
      obtain ⟨y124, hy124⟩ : ∃ y_ : List (S34), y_ = (([(⟨1, 1⟩ : S34), (⟨1, 0⟩ : S34), (⟨6, 63⟩ : S34)] : List (S34))) := ⟨_, rfl⟩
      replace H : ((bits_Pack.f k y124).bind fun bt127 => (if bt127.1 = 253 then (if t120 = t122 then (some (t121 == t123)) else (some false)) else (some false))) = some r := by first | (rw [hy124]; with_reducible exact H) | (have H2_ := (Option.bind_some _ _).symm.trans H; rw [hy124]; with_reducible exact H2_) | (have H2_ := (Option.bind_some _ _).symm.trans H; with_reducible exact H2_) | with_reducible exact H | (rw [hy124]; exact H) | exact H
      have Ny124 := Aside0.mk hy124
      clear hy124
      replace H := Option.bind_eq_some_iff.mp H
      obtain ⟨⟨t127, t128⟩, A70, H⟩ := H
      replace H : (if t127 = 253 then (if t120 = t122 then (some (t121 == t123)) else (some false)) else (some false)) = some r := H
      have A7 := Aside0.mk A70
      clear A70
      by_cases c8 : t127 = 253
      · rw [if_pos c8] at H
        have c8b0 : (t127 == 253) = true := beq_iff_eq.mpr c8
        have c8b1 : (t127 != 253) = false := bne_eq_false_iff_eq.mpr c8
        clear c8
        by_cases c9 : t120 = t122
        · rw [if_pos c9] at H
          have c9b0 : (t120 == t122) = true := beq_iff_eq.mpr c9
          have c9b1 : (t120 != t122) = false := bne_eq_false_iff_eq.mpr c9
          clear c9
          obtain rfl := Option.some.inj H
          have q10 : ((ji2) : Int) ≤ ((l0.length : Int) : Int) := of_decide_eq_true (by first | (with_reducible assumption) | assumption)
          obtain ⟨i010, hi010, _, hsz10, _⟩ := info_parts info34
          have hroom10 : l0.length ≤ c0 := HC0.out
          have hC10 : Kd.C k34 _ A0 l0.length l0 := HR0.out
          have hcut10 := cut_to (P := Try.prog) 28 34 .i64 Try.underlying28 hi010 A0 l0.length c0 (ji2) (of_decide_eq_true (by first | (with_reducible assumption) | assumption)) q10 hroom10
          have hr10 := Kd.C_take (m := ((ji2) : Int).toNat) hC10 (by omega)
          have hy10 : y116.length = ((ji2) : Int).toNat := (by rw [Ny116.out, List.length_take]; omega)
          rw [← Ny116.out] at hr10
          rw [← hy10] at hcut10
          have HR119 := Aside0.mk hr10
          have HC119 := Aside0.mk (show y116.length ≤ c0 from by omega)
          clear hr10 hC10 hroom10 hi010 hsz10
          have KY10 := Aside0.mk hy10
          clear hy10
          replace q10 := eq_true q10
          go_enter Try.func5, Try.ntmps5
          go_wp2_with (first | ((with_reducible refine gate_callee (f := 13) rfl ?_); refine goesL_ (some 16) rfl rfl Try.func13 (by kernel_rfl) rfl #[.slice A0 y116.length c0] rfl (by (try simp only [List.map_toArray, List.map_cons, List.map_nil]); first | done | rfl | (simp only [List.length_drop, List.length_take]; rfl)) ?_; (with_reducible refine (bits_Pack.calls k _ _ y116 t120 t121 _ ?side1 ?side2 A5.out).mono ?_); (case side1 => repeat (first | exact HR119.out | (with_reducible refine Kd.C_alloc ?_ _) | (with_reducible refine Kd.C_drewN ?_ _) | (with_reducible refine Kd.C_drew ?_))); (case side2 => exact HC119.out); rintro e w11 ⟨rfl, hb⟩; refine ⟨_, rfl, ?_⟩; have n0_ := Aside0.mk (below_step (by repeat (first | (with_reducible first | exact HB.out | apply below_alloc | apply pw_below_drewN | apply below_drew1) | exact HB.out)) hb); clear HB; have HB := n0_; clear n0_; (try clear hb); (try clear hb2); (try clear hk); (try clear hi)) | ((with_reducible refine gate_callee (f := 14) rfl ?_); refine goesL_ (some 21) rfl rfl Try.func14 (by kernel_rfl) rfl #[.slice A0 y116.length c0] rfl (by (try simp only [List.map_toArray, List.map_cons, List.map_nil]); first | done | rfl | (simp only [List.length_drop, List.length_take]; rfl)) ?_; (with_reducible refine (lapwingref01_Pack.calls k _ _ y116 t122 t123 _ ?side1 ?side2 A6.out).mono ?_); (case side1 => repeat (first | exact (Kd.C_below HR119.out HB.out) | (with_reducible refine Kd.C_alloc ?_ _) | (with_reducible refine Kd.C_drewN ?_ _) | (with_reducible refine Kd.C_drew ?_))); (case side2 => exact HC119.out); rintro e w' ⟨rfl, ⟨nd, rfl⟩⟩; refine ⟨_, rfl, ?_⟩) | ((with_reducible refine gate_dst (N := 28) rfl ?_); refine Kd.R_lit k34 _ 34 ?hg (N := 28) ?hd (xs := ([(⟨1, 1⟩ : S34), (⟨1, 0⟩ : S34), (⟨6, 63⟩ : S34)] : List (S34))) (inner := [.int .i64 1, .int .i64 1, .int .i64 1, .int .i64 0, .int .i64 6, .int .i64 63]) (ok := fun _ => True) (okp := fun _ => True) ?hr ?hp (fun _ hk => hk) trivial (Below.refl _ _) (Nat.le_refl _) (by simp) ?_; (case hd => rfl); (case hg => rfl); (case hr => first | (go_simp; done) | (go_simp; rfl)); (case hp => exact (Reps.c2 (show Kd.M k34 _ _ _ (⟨1, 1⟩ : S34) [.int .i64 1, .int .i64 1] from (k34_mkM _ _ _ (⟨1, 1⟩ : S34) )) (Reps.c2 (show Kd.M k34 _ _ _ (⟨1, 0⟩ : S34) [.int .i64 1, .int .i64 0] from (k34_mkM _ _ _ (⟨1, 0⟩ : S34) )) (Reps.c2 (show Kd.M k34 _ _ _ (⟨6, 63⟩ : S34) [.int .i64 6, .int .i64 63] from (k34_mkM _ _ _ (⟨6, 63⟩ : S34) )) (Reps.none _ _))))); intro v125 w12 ho13 hb hg_ hnew_; clear hg_ hnew_; (first | rw [← Ny124.out] at ho13 | (simp only [Int.reduceToNat] at ho13; rw [← Ny124.out] at ho13)); have n0_ := Aside0.mk (Kd.R_lower ho13 (below_size (by repeat (first | (with_reducible first | exact HB.out | apply below_alloc | apply pw_below_drewN | apply below_drew1) | exact HB.out)))); have n1_ := Aside0.mk (below_step (by repeat (first | (with_reducible first | exact HB.out | apply below_alloc | apply pw_below_drewN | apply below_drew1) | exact HB.out)) hb); clear HB; have HO126 := n0_; have HB := n1_; clear n0_ n1_; clear hb ho13; obtain ⟨Ao14, co14, eo14⟩ := Kd.R_slice HO126.out; subst eo14) | ((with_reducible refine gate_callee (f := 13) rfl ?_); refine goesL_ (some 29) rfl rfl Try.func13 (by kernel_rfl) rfl #[.slice Ao14 y124.length co14] rfl (by (try simp only [List.map_toArray, List.map_cons, List.map_nil]); first | done | rfl | (simp only [List.length_drop, List.length_take]; rfl)) ?_; (with_reducible refine (bits_Pack.calls k _ _ y124 t127 t128 _ ?side1 ?side2 A7.out).mono ?_); (case side1 => repeat (first | exact (Kd.R_reads' HO126.out).2.2 | (with_reducible refine Kd.C_alloc ?_ _) | (with_reducible refine Kd.C_drewN ?_ _) | (with_reducible refine Kd.C_drew ?_))); (case side2 => exact (Kd.R_reads' HO126.out).2.1); rintro e w15 ⟨rfl, hb⟩; refine ⟨_, rfl, ?_⟩; have n0_ := Aside0.mk (Kd.R_below (by (with_reducible repeat (first | apply Kd.R_alloc | apply Kd.R_drewN | apply Kd.R_drew)); exact HO126.out) hb); have n1_ := Aside0.mk (below_step (by repeat (first | (with_reducible first | exact HB.out | apply below_alloc | apply pw_below_drewN | apply below_drew1) | exact HB.out)) hb); clear HO126; clear HB; have HO126 := n0_; have HB := n1_; clear n0_ n1_; (try clear hb); (try clear hb2); (try clear hk); (try clear hi)))
          go_ret
          exact ⟨by first | rfl | (simp [errW_none, errW_some] <;> rfl) | (simp only [← hji2]; first | rfl | (simp [errW_none, errW_some] <;> rfl)) | (simp [*, errW_none, errW_some] <;> rfl), by repeat (first | (with_reducible first | exact HB.out | apply below_alloc | apply pw_below_drewN | apply below_drew1) | exact HB.out)⟩
        · rw [if_neg c9] at H
          have c9b0 : (t120 == t122) = false := beq_eq_false_iff_ne.mpr c9
          have c9b1 : (t120 != t122) = true := bne_iff_ne.mpr c9
          obtain rfl := Option.some.inj H
          have q16 : ((ji2) : Int) ≤ ((l0.length : Int) : Int) := of_decide_eq_true (by first | (with_reducible assumption) | assumption)
          obtain ⟨i016, hi016, _, hsz16, _⟩ := info_parts info34
          have hroom16 : l0.length ≤ c0 := HC0.out
          have hC16 : Kd.C k34 _ A0 l0.length l0 := HR0.out
          have hcut16 := cut_to (P := Try.prog) 28 34 .i64 Try.underlying28 hi016 A0 l0.length c0 (ji2) (of_decide_eq_true (by first | (with_reducible assumption) | assumption)) q16 hroom16
          have hr16 := Kd.C_take (m := ((ji2) : Int).toNat) hC16 (by omega)
          have hy16 : y116.length = ((ji2) : Int).toNat := (by rw [Ny116.out, List.length_take]; omega)
          rw [← Ny116.out] at hr16
          rw [← hy16] at hcut16
          have HR119 := Aside0.mk hr16
          have HC119 := Aside0.mk (show y116.length ≤ c0 from by omega)
          clear hr16 hC16 hroom16 hi016 hsz16
          have KY16 := Aside0.mk hy16
          clear hy16
          replace q16 := eq_true q16
          go_enter Try.func5, Try.ntmps5
          go_wp2_with (first | ((with_reducible refine gate_callee (f := 13) rfl ?_); refine goesL_ (some 16) rfl rfl Try.func13 (by kernel_rfl) rfl #[.slice A0 y116.length c0] rfl (by (try simp only [List.map_toArray, List.map_cons, List.map_nil]); first | done | rfl | (simp only [List.length_drop, List.length_take]; rfl)) ?_; (with_reducible refine (bits_Pack.calls k _ _ y116 t120 t121 _ ?side1 ?side2 A5.out).mono ?_); (case side1 => repeat (first | exact HR119.out | (with_reducible refine Kd.C_alloc ?_ _) | (with_reducible refine Kd.C_drewN ?_ _) | (with_reducible refine Kd.C_drew ?_))); (case side2 => exact HC119.out); rintro e w17 ⟨rfl, hb⟩; refine ⟨_, rfl, ?_⟩; have n0_ := Aside0.mk (below_step (by repeat (first | (with_reducible first | exact HB.out | apply below_alloc | apply pw_below_drewN | apply below_drew1) | exact HB.out)) hb); clear HB; have HB := n0_; clear n0_; (try clear hb); (try clear hb2); (try clear hk); (try clear hi)) | ((with_reducible refine gate_callee (f := 14) rfl ?_); refine goesL_ (some 21) rfl rfl Try.func14 (by kernel_rfl) rfl #[.slice A0 y116.length c0] rfl (by (try simp only [List.map_toArray, List.map_cons, List.map_nil]); first | done | rfl | (simp only [List.length_drop, List.length_take]; rfl)) ?_; (with_reducible refine (lapwingref01_Pack.calls k _ _ y116 t122 t123 _ ?side1 ?side2 A6.out).mono ?_); (case side1 => repeat (first | exact (Kd.C_below HR119.out HB.out) | (with_reducible refine Kd.C_alloc ?_ _) | (with_reducible refine Kd.C_drewN ?_ _) | (with_reducible refine Kd.C_drew ?_))); (case side2 => exact HC119.out); rintro e w' ⟨rfl, ⟨nd, rfl⟩⟩; refine ⟨_, rfl, ?_⟩) | ((with_reducible refine gate_dst (N := 28) rfl ?_); refine Kd.R_lit k34 _ 34 ?hg (N := 28) ?hd (xs := ([(⟨1, 1⟩ : S34), (⟨1, 0⟩ : S34), (⟨6, 63⟩ : S34)] : List (S34))) (inner := [.int .i64 1, .int .i64 1, .int .i64 1, .int .i64 0, .int .i64 6, .int .i64 63]) (ok := fun _ => True) (okp := fun _ => True) ?hr ?hp (fun _ hk => hk) trivial (Below.refl _ _) (Nat.le_refl _) (by simp) ?_; (case hd => rfl); (case hg => rfl); (case hr => first | (go_simp; done) | (go_simp; rfl)); (case hp => exact (Reps.c2 (show Kd.M k34 _ _ _ (⟨1, 1⟩ : S34) [.int .i64 1, .int .i64 1] from (k34_mkM _ _ _ (⟨1, 1⟩ : S34) )) (Reps.c2 (show Kd.M k34 _ _ _ (⟨1, 0⟩ : S34) [.int .i64 1, .int .i64 0] from (k34_mkM _ _ _ (⟨1, 0⟩ : S34) )) (Reps.c2 (show Kd.M k34 _ _ _ (⟨6, 63⟩ : S34) [.int .i64 6, .int .i64 63] from (k34_mkM _ _ _ (⟨6, 63⟩ : S34) )) (Reps.none _ _))))); intro v125 w18 ho19 hb hg_ hnew_; clear hg_ hnew_; (first | rw [← Ny124.out] at ho19 | (simp only [Int.reduceToNat] at ho19; rw [← Ny124.out] at ho19)); have n0_ := Aside0.mk (Kd.R_lower ho19 (below_size (by repeat (first | (with_reducible first | exact HB.out | apply below_alloc | apply pw_below_drewN | apply below_drew1) | exact HB.out)))); have n1_ := Aside0.mk (below_step (by repeat (first | (with_reducible first | exact HB.out | apply below_alloc | apply pw_below_drewN | apply below_drew1) | exact HB.out)) hb); clear HB; have HO126 := n0_; have HB := n1_; clear n0_ n1_; clear hb ho19; obtain ⟨Ao20, co20, eo20⟩ := Kd.R_slice HO126.out; subst eo20) | ((with_reducible refine gate_callee (f := 13) rfl ?_); refine goesL_ (some 29) rfl rfl Try.func13 (by kernel_rfl) rfl #[.slice Ao20 y124.length co20] rfl (by (try simp only [List.map_toArray, List.map_cons, List.map_nil]); first | done | rfl | (simp only [List.length_drop, List.length_take]; rfl)) ?_; (with_reducible refine (bits_Pack.calls k _ _ y124 t127 t128 _ ?side1 ?side2 A7.out).mono ?_); (case side1 => repeat (first | exact (Kd.R_reads' HO126.out).2.2 | (with_reducible refine Kd.C_alloc ?_ _) | (with_reducible refine Kd.C_drewN ?_ _) | (with_reducible refine Kd.C_drew ?_))); (case side2 => exact (Kd.R_reads' HO126.out).2.1); rintro e w21 ⟨rfl, hb⟩; refine ⟨_, rfl, ?_⟩; have n0_ := Aside0.mk (Kd.R_below (by (with_reducible repeat (first | apply Kd.R_alloc | apply Kd.R_drewN | apply Kd.R_drew)); exact HO126.out) hb); have n1_ := Aside0.mk (below_step (by repeat (first | (with_reducible first | exact HB.out | apply below_alloc | apply pw_below_drewN | apply below_drew1) | exact HB.out)) hb); clear HO126; clear HB; have HO126 := n0_; have HB := n1_; clear n0_ n1_; (try clear hb); (try clear hb2); (try clear hk); (try clear hi)))
          go_ret
          exact ⟨by first | rfl | (simp [errW_none, errW_some] <;> rfl) | (simp only [← hji2]; first | rfl | (simp [errW_none, errW_some] <;> rfl)) | (simp [*, errW_none, errW_some] <;> rfl), by repeat (first | (with_reducible first | exact HB.out | apply below_alloc | apply pw_below_drewN | apply below_drew1) | exact HB.out)⟩
      · rw [if_neg c8] at H
        have c8b0 : (t127 == 253) = false := beq_eq_false_iff_ne.mpr c8
        have c8b1 : (t127 != 253) = true := bne_iff_ne.mpr c8
        obtain rfl := Option.some.inj H
        have q22 : ((ji2) : Int) ≤ ((l0.length : Int) : Int) := of_decide_eq_true (by first | (with_reducible assumption) | assumption)
        obtain ⟨i022, hi022, _, hsz22, _⟩ := info_parts info34
        have hroom22 : l0.length ≤ c0 := HC0.out
        have hC22 : Kd.C k34 _ A0 l0.length l0 := HR0.out
        have hcut22 := cut_to (P := Try.prog) 28 34 .i64 Try.underlying28 hi022 A0 l0.length c0 (ji2) (of_decide_eq_true (by first | (with_reducible assumption) | assumption)) q22 hroom22
        have hr22 := Kd.C_take (m := ((ji2) : Int).toNat) hC22 (by omega)
        have hy22 : y116.length = ((ji2) : Int).toNat := (by rw [Ny116.out, List.length_take]; omega)
        rw [← Ny116.out] at hr22
        rw [← hy22] at hcut22
        have HR119 := Aside0.mk hr22
        have HC119 := Aside0.mk (show y116.length ≤ c0 from by omega)
        clear hr22 hC22 hroom22 hi022 hsz22
        have KY22 := Aside0.mk hy22
        clear hy22
        replace q22 := eq_true q22
        go_enter Try.func5, Try.ntmps5
        go_wp2_with (first | ((with_reducible refine gate_callee (f := 13) rfl ?_); refine goesL_ (some 16) rfl rfl Try.func13 (by kernel_rfl) rfl #[.slice A0 y116.length c0] rfl (by (try simp only [List.map_toArray, List.map_cons, List.map_nil]); first | done | rfl | (simp only [List.length_drop, List.length_take]; rfl)) ?_; (with_reducible refine (bits_Pack.calls k _ _ y116 t120 t121 _ ?side1 ?side2 A5.out).mono ?_); (case side1 => repeat (first | exact HR119.out | (with_reducible refine Kd.C_alloc ?_ _) | (with_reducible refine Kd.C_drewN ?_ _) | (with_reducible refine Kd.C_drew ?_))); (case side2 => exact HC119.out); rintro e w23 ⟨rfl, hb⟩; refine ⟨_, rfl, ?_⟩; have n0_ := Aside0.mk (below_step (by repeat (first | (with_reducible first | exact HB.out | apply below_alloc | apply pw_below_drewN | apply below_drew1) | exact HB.out)) hb); clear HB; have HB := n0_; clear n0_; (try clear hb); (try clear hb2); (try clear hk); (try clear hi)) | ((with_reducible refine gate_callee (f := 14) rfl ?_); refine goesL_ (some 21) rfl rfl Try.func14 (by kernel_rfl) rfl #[.slice A0 y116.length c0] rfl (by (try simp only [List.map_toArray, List.map_cons, List.map_nil]); first | done | rfl | (simp only [List.length_drop, List.length_take]; rfl)) ?_; (with_reducible refine (lapwingref01_Pack.calls k _ _ y116 t122 t123 _ ?side1 ?side2 A6.out).mono ?_); (case side1 => repeat (first | exact (Kd.C_below HR119.out HB.out) | (with_reducible refine Kd.C_alloc ?_ _) | (with_reducible refine Kd.C_drewN ?_ _) | (with_reducible refine Kd.C_drew ?_))); (case side2 => exact HC119.out); rintro e w' ⟨rfl, ⟨nd, rfl⟩⟩; refine ⟨_, rfl, ?_⟩) | ((with_reducible refine gate_dst (N := 28) rfl ?_); refine Kd.R_lit k34 _ 34 ?hg (N := 28) ?hd (xs := ([(⟨1, 1⟩ : S34), (⟨1, 0⟩ : S34), (⟨6, 63⟩ : S34)] : List (S34))) (inner := [.int .i64 1, .int .i64 1, .int .i64 1, .int .i64 0, .int .i64 6, .int .i64 63]) (ok := fun _ => True) (okp := fun _ => True) ?hr ?hp (fun _ hk => hk) trivial (Below.refl _ _) (Nat.le_refl _) (by simp) ?_; (case hd => rfl); (case hg => rfl); (case hr => first | (go_simp; done) | (go_simp; rfl)); (case hp => exact (Reps.c2 (show Kd.M k34 _ _ _ (⟨1, 1⟩ : S34) [.int .i64 1, .int .i64 1] from (k34_mkM _ _ _ (⟨1, 1⟩ : S34) )) (Reps.c2 (show Kd.M k34 _ _ _ (⟨1, 0⟩ : S34) [.int .i64 1, .int .i64 0] from (k34_mkM _ _ _ (⟨1, 0⟩ : S34) )) (Reps.c2 (show Kd.M k34 _ _ _ (⟨6, 63⟩ : S34) [.int .i64 6, .int .i64 63] from (k34_mkM _ _ _ (⟨6, 63⟩ : S34) )) (Reps.none _ _))))); intro v125 w24 ho25 hb hg_ hnew_; clear hg_ hnew_; (first | rw [← Ny124.out] at ho25 | (simp only [Int.reduceToNat] at ho25; rw [← Ny124.out] at ho25)); have n0_ := Aside0.mk (Kd.R_lower ho25 (below_size (by repeat (first | (with_reducible first | exact HB.out | apply below_alloc | apply pw_below_drewN | apply below_drew1) | exact HB.out)))); have n1_ := Aside0.mk (below_step (by repeat (first | (with_reducible first | exact HB.out | apply below_alloc | apply pw_below_drewN | apply below_drew1) | exact HB.out)) hb); clear HB; have HO126 := n0_; have HB := n1_; clear n0_ n1_; clear hb ho25; obtain ⟨Ao26, co26, eo26⟩ := Kd.R_slice HO126.out; subst eo26) | ((with_reducible refine gate_callee (f := 13) rfl ?_); refine goesL_ (some 29) rfl rfl Try.func13 (by kernel_rfl) rfl #[.slice Ao26 y124.length co26] rfl (by (try simp only [List.map_toArray, List.map_cons, List.map_nil]); first | done | rfl | (simp only [List.length_drop, List.length_take]; rfl)) ?_; (with_reducible refine (bits_Pack.calls k _ _ y124 t127 t128 _ ?side1 ?side2 A7.out).mono ?_); (case side1 => repeat (first | exact (Kd.R_reads' HO126.out).2.2 | (with_reducible refine Kd.C_alloc ?_ _) | (with_reducible refine Kd.C_drewN ?_ _) | (with_reducible refine Kd.C_drew ?_))); (case side2 => exact (Kd.R_reads' HO126.out).2.1); rintro e w27 ⟨rfl, hb⟩; refine ⟨_, rfl, ?_⟩; have n0_ := Aside0.mk (Kd.R_below (by (with_reducible repeat (first | apply Kd.R_alloc | apply Kd.R_drewN | apply Kd.R_drew)); exact HO126.out) hb); have n1_ := Aside0.mk (below_step (by repeat (first | (with_reducible first | exact HB.out | apply below_alloc | apply pw_below_drewN | apply below_drew1) | exact HB.out)) hb); clear HO126; clear HB; have HO126 := n0_; have HB := n1_; clear n0_ n1_; (try clear hb); (try clear hb2); (try clear hk); (try clear hi)))
        go_ret
        exact ⟨by first | rfl | (simp [errW_none, errW_some] <;> rfl) | (simp only [← hji2]; first | rfl | (simp [errW_none, errW_some] <;> rfl)) | (simp [*, errW_none, errW_some] <;> rfl), by repeat (first | (with_reducible first | exact HB.out | apply below_alloc | apply pw_below_drewN | apply below_drew1) | exact HB.out)⟩
    · rw [if_neg c4] at H
      exact absurd H (by simp)
  · rw [if_neg c3] at H
    exact absurd H (by simp)

/-! ### lapwinglaw01_BitsParts: function 6 -/
def lapwinglaw01_BitsParts.l0 : Nat → Int → List (S34) → Int → List Int → Int → Int → Option (Bool)
  | 0, _, _, _, _, _, _ => none
  | k + 1, x0, x5, x6, x18, x19, x20 => if x20 < x19 then (if 0 ≤ x20 then (if x20 < (x18.length : Int) then (if (mn (1 + ((mx 0 (rd x18 x20)) % 8)) (wrap64 (8 - x6))) > 0 then ((bits_Field.f x0 x6 (mn (1 + ((mx 0 (rd x18 x20)) % 8)) (wrap64 (8 - x6)))).bind fun t131 => (if x5.length < 8796093022208 then (lapwinglaw01_BitsParts.l0 k x0 (x5 ++ [(⟨mn (1 + ((mx 0 (rd x18 x20)) % 8)) (wrap64 (8 - x6)), t131⟩ : S34)]) (wrap64 (x6 + (mn (1 + ((mx 0 (rd x18 x20)) % 8)) (wrap64 (8 - x6))))) x18 x19 (wrap64 (x20 + 1))) else (none))) else (lapwinglaw01_BitsParts.l0 k x0 x5 x6 x18 x19 (wrap64 (x20 + 1)))) else (none)) else (none)) else (if x6 < 8 then ((bits_Field.f x0 x6 (wrap64 (8 - x6))).bind fun t135 => (if x5.length < 8796093022208 then ((some (x5 ++ [(⟨wrap64 (8 - x6), t135⟩ : S34)] : List (S34))).bind fun y136 => ((bits_Pack.f k y136).bind fun bt139 => (if y136.length < 8796093022208 then ((bits_Pack.f k (y136 ++ [(⟨1, 0⟩ : S34)])).bind fun bt144 => (if bt139.2 = 0 then (if bt139.1 = x0 then (if bt144.2 = 5 then ((bits_Field.f 128 7 1).bind fun t146 => (some (t146 == 1))) else (some false)) else (some false)) else (some false))) else (none)))) else (none))) else ((bits_Pack.f k x5).bind fun bt147 => (if x5.length < 8796093022208 then ((bits_Pack.f k (x5 ++ [(⟨1, 0⟩ : S34)])).bind fun bt152 => (if bt147.2 = 0 then (if bt147.1 = x0 then (if bt152.2 = 5 then ((bits_Field.f 128 7 1).bind fun t154 => (some (t154 == 1))) else (some false)) else (some false)) else (some false))) else (none))))
def lapwinglaw01_BitsParts.f (k : Nat) (a0 : Int) (l1 : List Int) : Option (Bool) := if 0 ≤ (mn (l1.length : Int) 8) then (if (mn (l1.length : Int) 8) ≤ (l1.length : Int) then (lapwinglaw01_BitsParts.l0 k a0 ([] : List (S34)) 0 (l1.take ((mn (l1.length : Int) 8) : Int).toNat) ((l1.take ((mn (l1.length : Int) 8) : Int).toNat).length : Int) 0) else (none)) else (none)
theorem lapwinglaw01_BitsParts.mono_l : ∀ k, (∀ y0 y1 y2 y3 y4 y5, LeO (lapwinglaw01_BitsParts.l0 k y0 y1 y2 y3 y4 y5) (lapwinglaw01_BitsParts.l0 (k + 1) y0 y1 y2 y3 y4 y5))
  | 0 => fun _ _ _ _ _ _ r h => by simp [lapwinglaw01_BitsParts.l0] at h
  | k + 1 => by
    have ih0 := lapwinglaw01_BitsParts.mono_l k
    · intro y0 y1 y2 y3 y4 y5
      unfold lapwinglaw01_BitsParts.l0
      repeat' first
      | (with_reducible exact ih0 _ _ _ _ _ _)
      | (with_reducible exact bits_Pack.mono _ _)
      | (with_reducible exact LeO.refl _)
      | (with_reducible exact LeO.none _)
      | (with_reducible refine LeO.ite ?_ ?_)
      | (with_reducible refine LeO.bind ?_ (fun _ => ?_))
      | exact ih0 _ _ _ _ _ _
      | exact bits_Pack.mono _ _
      | exact LeO.none _
      | refine LeO.ite ?_ ?_
      | refine LeO.bind ?_ (fun _ => ?_)
theorem lapwinglaw01_BitsParts.mono : ∀ a0 a1 k, LeO (lapwinglaw01_BitsParts.f k a0 a1) (lapwinglaw01_BitsParts.f (k + 1) a0 a1) := by
  intro a0 a1 k
  have ih0 := lapwinglaw01_BitsParts.mono_l k
  unfold lapwinglaw01_BitsParts.f
  repeat' first
      | (with_reducible exact ih0 _ _ _ _ _ _)
      | (with_reducible exact bits_Pack.mono _ _)
      | (with_reducible exact LeO.refl _)
      | (with_reducible exact LeO.none _)
      | (with_reducible refine LeO.ite ?_ ?_)
      | (with_reducible refine LeO.bind ?_ (fun _ => ?_))
      | exact ih0 _ _ _ _ _ _
      | exact bits_Pack.mono _ _
      | exact LeO.none _
      | refine LeO.ite ?_ ?_
      | refine LeO.bind ?_ (fun _ => ?_)
set_option maxHeartbeats 8000000 in
set_option maxRecDepth 100000 in
theorem lapwinglaw01_BitsParts.calls (k : Nat) (a0 : Int) (A1 : Option Addr) (c1 : Nat) (l1 : List Int) (r : Bool) (w : World) (hr1 : Kd.C (Kd.int .i64) w A1 l1.length l1) (hc1 : l1.length ≤ c1) (h : lapwinglaw01_BitsParts.f k a0 l1 = some r) :
    Calls Try.prog 6 #[.int .u8 a0, .slice A1 l1.length c1] w fun e w' => e = .returned (.bool r) ∧ Below w.heap.size w w' := by
  have hu34 := Try.underlying34
  have HR1 := Aside0.mk hr1
  have HC1 := Aside0.mk hc1
  clear hr1 hc1
  have HB := Aside0.mk (Below.refl w.heap.size w)
  have H : (if 0 ≤ (mn (l1.length : Int) 8) then (if (mn (l1.length : Int) 8) ≤ (l1.length : Int) then (lapwinglaw01_BitsParts.l0 k a0 ([] : List (S34)) 0 (l1.take ((mn (l1.length : Int) 8) : Int).toNat) ((l1.take ((mn (l1.length : Int) 8) : Int).toNat).length : Int) 0) else (none)) else (none)) = some r := h
  clear h
  obtain ⟨ji3, hji3⟩ : ∃ j_ : Int, (mn (l1.length : Int) 8) = j_ := ⟨_, rfl⟩
  replace H : (if 0 ≤ (ji3) then (if (ji3) ≤ (l1.length : Int) then (lapwinglaw01_BitsParts.l0 k a0 ([] : List (S34)) 0 (l1.take ((ji3) : Int).toNat) ((l1.take ((ji3) : Int).toNat).length : Int) 0) else (none)) else (none)) = some r := by first | (rw [hji3] at H; exact H) | (simp only [hji3] at H ⊢; exact H)
  (try (have hji3k0 : ji3 ≤ (l1.length : Int) := by (rw [← hji3]; unfold mn; (repeat' split) <;> omega)))
  (try (have hji3h : ji3 ≤ 8 := by (rw [← hji3]; unfold mn; (repeat' split) <;> omega)))
  (try (have hji3g : ji3 ≤ 64 := by omega))
  (try (have hji3t : min (ji3).toNat 64 = (ji3).toNat := by omega))
  (try (have hji3l : 0 ≤ ji3 := by (rw [← hji3]; unfold mn; (repeat' split) <;> omega)))
  (try (have hji3m : 0 ≤ ji3 := by omega))
  have hji3_ : (if 8 < (l1.length : Int) then 8 else (l1.length : Int)) = ji3 := hji3
  (try (have hji3_n := hji3_; simp only [Int.ofNat_lt] at hji3_n))
  by_cases c4 : 0 ≤ (ji3)
  · rw [if_pos c4] at H
    have c4b0 := eq_true c4
    have c4b1 : decide (0 ≤ (ji3)) = true := decide_eq_true c4
    clear c4
    by_cases c5 : (ji3) ≤ (l1.length : Int)
    · rw [if_pos c5] at H
      have c5b0 := eq_true c5
      have c5b1 : decide ((ji3) ≤ (l1.length : Int)) = true := decide_eq_true c5
      clear c5
      have H' := Aside0.mk H
      clear H
      obtain ⟨i06, hi06, _, hsz6, _⟩ := info_parts info3
      obtain ⟨hcut6, hA6, hC6⟩ := print_take_of (P := Try.prog) (Value.int .i64) 0 24 3 .i64 Try.underlying24 hi06 hsz6 A1 c1 l1 (ji3) (of_decide_eq_true (by first | (with_reducible assumption) | assumption)) (of_decide_eq_true (by first | (with_reducible assumption) | assumption)) HC1.out
      have HR129 := Aside0.mk (Kd.C_of_reads (h1 := fun _ => rfl) (hA6 _ (Kd.reads_of_C HR1.out)))
      have HC129 := Aside0.mk hC6
      clear hA6 hC6 hi06 hsz6
      go_enter Try.func6, Try.ntmps6
      go_wp2
      go_loopg [5, 6, 20] k (fun kq v5 v6 v20 w' => ∃ (x5_1 : List (S34)) (x6_1 : Int) (x20_1 : Int), v6 = .int .i64 x6_1 ∧ v20 = .int .i64 x20_1 ∧ Aside0 (lapwinglaw01_BitsParts.l0 kq a0 x5_1 x6_1 (l1.take ((ji3) : Int).toNat) ((l1.take ((ji3) : Int).toNat).length : Int) x20_1 = some r) ∧ Aside0 (kq ≤ k) ∧ Aside0 (Kd.R k34 34 w' w.heap.size (fun _ => True) v5 x5_1) ∧ Aside0 (Below w.heap.size w w'))
      case atStart => exact ⟨(([] : List (S34))), (0), (0), (by first | rfl | (simp; done) | (simp [*]; done)), (by first | rfl | (simp; done) | (simp [*]; done)), H', ⟨Nat.le_refl _⟩, ⟨by first | exact Kd.R_nil _ _ _ _ _ | exact Kd.N_nil _ _ _ _ _ | exact Kd.V_nil _ _ _ _ _ | exact Kd.Q_nil _ _ _ _ _ | exact Kd.S_nil _ _ _ _ _⟩, ⟨by repeat (first | (with_reducible first | exact HB.out | apply below_alloc | apply pw_below_drewN | apply below_drew1) | exact HB.out)⟩⟩
      case round =>
        clear H'
        try clear c1
        try clear p2
        try clear c4
        try clear c4b0
        try clear c4b1
        try clear c5
        try clear c5b0
        try clear c5b1
        try clear c6
        obtain ⟨x5_1, x6_1, x20_1, rfl, rfl, HA, HK1, HO_5, HB⟩ := hrel
        cases gk with
        | zero => exact absurd HA.out (by simp [lapwinglaw01_BitsParts.l0])
        | succ k1 =>
          have H := HA.out
          clear HA
          simp only [lapwinglaw01_BitsParts.l0] at H
          by_cases c7 : x20_1 < ((l1.take ((ji3) : Int).toNat).length : Int)
          · rw [if_pos c7] at H
            have c7b0 : decide (x20_1 < ((l1.take ((ji3) : Int).toNat).length : Int)) = true := decide_eq_true c7
            (try (have c7b0m : decide (x20_1 < (max ji3 0)) = true := by have h_ := c7b0; simp only [decide_eq_true_eq, decide_eq_false_iff_not, List.length_take, ByteArray.size_extract] at h_ ⊢; omega))
            (try (have c7b0p := eq_true (of_decide_eq_true c7b0m)))
            (try (have c7b0r : (x20_1 < ji3) = True := eq_true (by have h_ := of_decide_eq_true c7b0m; omega)))
            clear c7
            by_cases c8 : 0 ≤ x20_1
            · rw [if_pos c8] at H
              have c8b0 : decide (0 ≤ x20_1) = true := decide_eq_true c8
              clear c8
              by_cases c9 : x20_1 < ((l1.take ((ji3) : Int).toNat).length : Int)
              · rw [if_pos c9] at H
                have c9b0 : decide (x20_1 < ((l1.take ((ji3) : Int).toNat).length : Int)) = true := decide_eq_true c9
                (try (have c9b0m : decide (x20_1 < (max ji3 0)) = true := by have h_ := c9b0; simp only [decide_eq_true_eq, decide_eq_false_iff_not, List.length_take, ByteArray.size_extract] at h_ ⊢; omega))
                (try (have c9b0p := eq_true (of_decide_eq_true c9b0m)))
                (try (have c9b0r : (x20_1 < ji3) = True := eq_true (by have h_ := of_decide_eq_true c9b0m; omega)))
                clear c9
                obtain ⟨ji10, hji10⟩ : ∃ j_ : Int, (mx 0 (rd (l1.take ((ji3) : Int).toNat) x20_1)) = j_ := ⟨_, rfl⟩
                replace H : (if (mn (1 + ((ji10) % 8)) (wrap64 (8 - x6_1))) > 0 then ((bits_Field.f a0 x6_1 (mn (1 + ((ji10) % 8)) (wrap64 (8 - x6_1)))).bind fun t131 => (if x5_1.length < 8796093022208 then (lapwinglaw01_BitsParts.l0 k1 a0 (x5_1 ++ [(⟨mn (1 + ((ji10) % 8)) (wrap64 (8 - x6_1)), t131⟩ : S34)]) (wrap64 (x6_1 + (mn (1 + ((ji10) % 8)) (wrap64 (8 - x6_1))))) (l1.take ((ji3) : Int).toNat) ((l1.take ((ji3) : Int).toNat).length : Int) (wrap64 (x20_1 + 1))) else (none))) else (lapwinglaw01_BitsParts.l0 k1 a0 x5_1 x6_1 (l1.take ((ji3) : Int).toNat) ((l1.take ((ji3) : Int).toNat).length : Int) (wrap64 (x20_1 + 1)))) = some r := by first | (rw [hji10] at H; exact H) | (simp only [hji10] at H ⊢; exact H)
                (try (have hji10l : 0 ≤ ji10 := by (rw [← hji10]; unfold mx; (repeat' split) <;> omega)))
                (try (have hji10m : 0 ≤ ji10 := by omega))
                have hji10_ : (if 0 < (rd (l1.take ((ji3) : Int).toNat) x20_1) then (rd (l1.take ((ji3) : Int).toNat) x20_1) else 0) = ji10 := hji10
                (try (have hji10_n := hji10_; simp only [Int.ofNat_lt] at hji10_n))
                obtain ⟨ji11, hji11⟩ : ∃ j_ : Int, (mn (1 + ((ji10) % 8)) (wrap64 (8 - x6_1))) = j_ := ⟨_, rfl⟩
                replace H : (if (ji11) > 0 then ((bits_Field.f a0 x6_1 (ji11)).bind fun t131 => (if x5_1.length < 8796093022208 then (lapwinglaw01_BitsParts.l0 k1 a0 (x5_1 ++ [(⟨ji11, t131⟩ : S34)]) (wrap64 (x6_1 + (ji11))) (l1.take ((ji3) : Int).toNat) ((l1.take ((ji3) : Int).toNat).length : Int) (wrap64 (x20_1 + 1))) else (none))) else (lapwinglaw01_BitsParts.l0 k1 a0 x5_1 x6_1 (l1.take ((ji3) : Int).toNat) ((l1.take ((ji3) : Int).toNat).length : Int) (wrap64 (x20_1 + 1)))) = some r := by first | (rw [hji11] at H; exact H) | (simp only [hji11] at H ⊢; exact H)
                have hji11_ : (if (wrap64 (8 - x6_1)) < (1 + ((ji10) % 8)) then (wrap64 (8 - x6_1)) else (1 + ((ji10) % 8))) = ji11 := hji11
                (try (have hji11_n := hji11_; simp only [Int.ofNat_lt] at hji11_n))
                by_cases c12 : (ji11) > 0
                · rw [if_pos c12] at H
                  have c12b0 : decide (0 < (ji11)) = true := decide_eq_true c12
                  clear c12
                  replace H := Option.bind_eq_some_iff.mp H
                  obtain ⟨t131, A130, H⟩ := H
                  replace H : (if x5_1.length < 8796093022208 then (lapwinglaw01_BitsParts.l0 k1 a0 (x5_1 ++ [(⟨ji11, t131⟩ : S34)]) (wrap64 (x6_1 + (ji11))) (l1.take ((ji3) : Int).toNat) ((l1.take ((ji3) : Int).toNat).length : Int) (wrap64 (x20_1 + 1))) else (none)) = some r := H
                  have A13 := Aside0.mk A130
                  clear A130
                  by_cases c14 : x5_1.length < 8796093022208
                  · rw [if_pos c14] at H
                    have LMc14 := Aside0.mk c14
                    clear c14
                    obtain ⟨y132, hy132⟩ : ∃ y_ : List (S34), y_ = (x5_1 ++ [(⟨ji11, t131⟩ : S34)]) := ⟨_, rfl⟩
                    replace H : (lapwinglaw01_BitsParts.l0 k1 a0 y132 (wrap64 (x6_1 + (ji11))) (l1.take ((ji3) : Int).toNat) ((l1.take ((ji3) : Int).toNat).length : Int) (wrap64 (x20_1 + 1))) = some r := by first | (rw [hy132]; with_reducible exact H) | (have H2_ := (Option.bind_some _ _).symm.trans H; rw [hy132]; with_reducible exact H2_) | (have H2_ := (Option.bind_some _ _).symm.trans H; with_reducible exact H2_) | with_reducible exact H | (rw [hy132]; exact H) | exact H
                    have Ny132 := Aside0.mk hy132
                    clear hy132
                    have H' := Aside0.mk H
                    clear H
                    have p130 : 0 ≤ (x20_1 : Int) := of_decide_eq_true (by first | (with_reducible assumption) | assumption)
                    have q130 : x20_1 < ((l1.take ((ji3) : Int).toNat).length : Int) := of_decide_eq_true (by first | (with_reducible assumption) | assumption)
                    obtain ⟨ad130, e130, hx130_0⟩ := Kd.at_int HR129.out x20_1 p130 q130
                    cases e130
                    replace hx130_0 := (HB.out.cell (World.block_lt_of_cell? w _ hx130_0)).trans hx130_0
                    replace p130 := eq_true p130
                    replace q130 := eq_true q130
                    go_wp2_with (first | ((with_reducible refine gate_callee (f := 9) rfl ?_); refine goesL_ (some 38) rfl rfl Try.func9 (by kernel_rfl) rfl #[.int .u8 a0, .int .i64 x6_1, .int .i64 ji11] rfl (by (try simp only [List.map_toArray, List.map_cons, List.map_nil]); first | done | (simp only [hji11]; rfl) | rfl | (simp only [List.length_drop, List.length_take]; rfl)) ?_; (with_reducible refine (bits_Field.calls a0 x6_1 ji11 t131 _ A13.out).mono ?_); rintro e w15 ⟨rfl, hb⟩; refine ⟨_, rfl, ?_⟩; have n0_ := Aside0.mk (Kd.R_below (by (with_reducible repeat (first | apply Kd.R_alloc | apply Kd.R_drewN | apply Kd.R_drew)); exact HO_5.out) hb); have n1_ := Aside0.mk (below_step (by repeat (first | (with_reducible first | exact HB.out | apply below_alloc | apply pw_below_drewN | apply below_drew1) | exact HB.out)) hb); clear HO_5; clear HB; have HO_5 := n0_; have HB := n1_; clear n0_ n1_; (try clear hb); (try clear hb2); (try clear hk); (try clear hi)) | ((with_reducible refine gate_builtin (b := .append) (xs := #[.tmp 33, .tmp 40]) rfl ?_); at_builtin; refine Kd.R_append k34 (w0 := w) w.heap.size rfl (.tmp 33) (.tmp 40) 28 34 (.agg #[(.int .i64 0), (.int .i64 0)]) 16 rfl Try.underlying28 info34 rfl (by decide) (by omega) u5 x5_1 (⟨ji11, t131⟩ : S34) [.int .i64 ji11, .int .i64 t131] (fun _ => True) (fun _ => False) rfl rfl ?aP (fun _ hk => hk.elim) ?aF ?aO ?aB ?aS ?aL ?_; (case aP => exact k34_mkM _ _ _ (⟨ji11, t131⟩ : S34)); (case aB => exact (by repeat (first | (with_reducible first | exact HB.out | apply below_alloc | apply pw_below_drewN | apply below_drew1) | exact HB.out))); (case aF => exact (fun _ _ => trivial)); (case aO => exact (by (with_reducible repeat (first | apply Kd.R_alloc | apply Kd.R_drewN | apply Kd.R_drew)); exact HO_5.out)); (case aS => exact (below_size (by repeat (first | (with_reducible first | exact HB.out | apply below_alloc | apply pw_below_drewN | apply below_drew1) | exact HB.out)))); (case aL => have := LMc14.out; omega); intro v133 w16 ho hb hg hat; rw [← Ny132.out] at ho; have n0_ := Aside0.mk (hb); have n1_ := Aside0.mk (ho); clear HB; clear HO_5; have HB := n0_; have HO134 := n1_; clear n0_ n1_; clear ho hb hg hat))
                    go_roundg k1
                    case measure => have := HK1.out; omega
                    case rel => exact ⟨(y132), (wrap64 (x6_1 + (ji11))), (wrap64 (x20_1 + 1)), (by first | rfl | (simp; done) | (simp only [← hji11] <;> (first | rfl | simp)) | (simp [*]; done)), (by first | rfl | (simp; done) | (simp [*]; done)), H', ⟨by have := HK1.out; omega⟩, ⟨by (with_reducible repeat (first | apply Kd.R_alloc | apply Kd.R_drewN | apply Kd.R_drew)); exact HO134.out⟩, ⟨by repeat (first | (with_reducible first | exact HB.out | apply below_alloc | apply pw_below_drewN | apply below_drew1) | exact HB.out)⟩⟩
                  · rw [if_neg c14] at H
                    exact absurd H (by simp)
                · rw [if_neg c12] at H
                  have c12b0 : decide (0 < (ji11)) = false := decide_eq_false c12
                  clear c12
                  have H' := Aside0.mk H
                  clear H
                  have p130 : 0 ≤ (x20_1 : Int) := of_decide_eq_true (by first | (with_reducible assumption) | assumption)
                  have q130 : x20_1 < ((l1.take ((ji3) : Int).toNat).length : Int) := of_decide_eq_true (by first | (with_reducible assumption) | assumption)
                  obtain ⟨ad130, e130, hx130_0⟩ := Kd.at_int HR129.out x20_1 p130 q130
                  cases e130
                  replace hx130_0 := (HB.out.cell (World.block_lt_of_cell? w _ hx130_0)).trans hx130_0
                  replace p130 := eq_true p130
                  replace q130 := eq_true q130
                  go_wp2
                  go_roundg k1
                  case measure => have := HK1.out; omega
                  case rel => exact ⟨(x5_1), (x6_1), (wrap64 (x20_1 + 1)), (by first | rfl | (simp; done) | (simp [*]; done)), (by first | rfl | (simp; done) | (simp [*]; done)), H', ⟨by have := HK1.out; omega⟩, ⟨by (with_reducible repeat (first | apply Kd.R_alloc | apply Kd.R_drewN | apply Kd.R_drew)); exact HO_5.out⟩, ⟨by repeat (first | (with_reducible first | exact HB.out | apply below_alloc | apply pw_below_drewN | apply below_drew1) | exact HB.out)⟩⟩
              · rw [if_neg c9] at H
                exact absurd H (by simp)
            · rw [if_neg c8] at H
              exact absurd H (by simp)
          · rw [if_neg c7] at H
            have c7b0 : decide (x20_1 < ((l1.take ((ji3) : Int).toNat).length : Int)) = false := decide_eq_false c7
            (try (have c7b0m : decide (x20_1 < (max ji3 0)) = false := by have h_ := c7b0; simp only [decide_eq_true_eq, decide_eq_false_iff_not, List.length_take, ByteArray.size_extract] at h_ ⊢; omega))
            (try (have c7b0p := eq_true (of_decide_eq_true c7b0m)))
            (try (have c7b0r : (x20_1 < ji3) = True := eq_true (by have h_ := of_decide_eq_true c7b0m; omega)))
            clear c7
            by_cases c17 : x6_1 < 8
            · rw [if_pos c17] at H
              have c17b0 : decide (x6_1 < 8) = true := decide_eq_true c17
              clear c17
              replace H := Option.bind_eq_some_iff.mp H
              obtain ⟨t135, A180, H⟩ := H
              replace H : (if x5_1.length < 8796093022208 then ((some (x5_1 ++ [(⟨wrap64 (8 - x6_1), t135⟩ : S34)] : List (S34))).bind fun y136 => ((bits_Pack.f k1 y136).bind fun bt139 => (if y136.length < 8796093022208 then ((bits_Pack.f k1 (y136 ++ [(⟨1, 0⟩ : S34)])).bind fun bt144 => (if bt139.2 = 0 then (if bt139.1 = a0 then (if bt144.2 = 5 then ((bits_Field.f 128 7 1).bind fun t146 => (some (t146 == 1))) else (some false)) else (some false)) else (some false))) else (none)))) else (none)) = some r := H
              have A18 := Aside0.mk A180
              clear A180
              by_cases c19 : x5_1.length < 8796093022208
              · rw [if_pos c19] at H
                have LMc19 := Aside0.mk c19
                clear c19
                obtain ⟨y136, hy136⟩ : ∃ y_ : List (S34), y_ = (x5_1 ++ [(⟨wrap64 (8 - x6_1), t135⟩ : S34)]) := ⟨_, rfl⟩
                replace H : ((bits_Pack.f k1 y136).bind fun bt139 => (if y136.length < 8796093022208 then ((bits_Pack.f k1 (y136 ++ [(⟨1, 0⟩ : S34)])).bind fun bt144 => (if bt139.2 = 0 then (if bt139.1 = a0 then (if bt144.2 = 5 then ((bits_Field.f 128 7 1).bind fun t146 => (some (t146 == 1))) else (some false)) else (some false)) else (some false))) else (none))) = some r := by first | (rw [hy136]; with_reducible exact H) | (have H2_ := (Option.bind_some _ _).symm.trans H; rw [hy136]; with_reducible exact H2_) | (have H2_ := (Option.bind_some _ _).symm.trans H; with_reducible exact H2_) | with_reducible exact H | (rw [hy136]; exact H) | exact H
                have Ny136 := Aside0.mk hy136
                clear hy136
                replace H := Option.bind_eq_some_iff.mp H
                obtain ⟨⟨t139, t140⟩, A200, H⟩ := H
                replace H : (if y136.length < 8796093022208 then ((bits_Pack.f k1 (y136 ++ [(⟨1, 0⟩ : S34)])).bind fun bt144 => (if t140 = 0 then (if t139 = a0 then (if bt144.2 = 5 then ((bits_Field.f 128 7 1).bind fun t146 => (some (t146 == 1))) else (some false)) else (some false)) else (some false))) else (none)) = some r := H
                have A20 := Aside0.mk A200
                clear A200
                by_cases c21 : y136.length < 8796093022208
                · rw [if_pos c21] at H
                  have LMc21 := Aside0.mk c21
                  clear c21
                  obtain ⟨y141, hy141⟩ : ∃ y_ : List (S34), y_ = (y136 ++ [(⟨1, 0⟩ : S34)]) := ⟨_, rfl⟩
                  replace H : ((bits_Pack.f k1 y141).bind fun bt144 => (if t140 = 0 then (if t139 = a0 then (if bt144.2 = 5 then ((bits_Field.f 128 7 1).bind fun t146 => (some (t146 == 1))) else (some false)) else (some false)) else (some false))) = some r := by first | (rw [hy141]; with_reducible exact H) | (have H2_ := (Option.bind_some _ _).symm.trans H; rw [hy141]; with_reducible exact H2_) | (have H2_ := (Option.bind_some _ _).symm.trans H; with_reducible exact H2_) | with_reducible exact H | (rw [hy141]; exact H) | exact H
                  have Ny141 := Aside0.mk hy141
                  clear hy141
                  replace H := Option.bind_eq_some_iff.mp H
                  obtain ⟨⟨t144, t145⟩, A220, H⟩ := H
                  replace H : (if t140 = 0 then (if t139 = a0 then (if t145 = 5 then ((bits_Field.f 128 7 1).bind fun t146 => (some (t146 == 1))) else (some false)) else (some false)) else (some false)) = some r := H
                  have A22 := Aside0.mk A220
                  clear A220
                  by_cases c23 : t140 = 0
                  · rw [if_pos c23] at H
                    have c23b0 : (t140 == 0) = true := beq_iff_eq.mpr c23
                    have c23b1 : (t140 != 0) = false := bne_eq_false_iff_eq.mpr c23
                    clear c23
                    by_cases c24 : t139 = a0
                    · rw [if_pos c24] at H
                      have c24b0 : (t139 == a0) = true := beq_iff_eq.mpr c24
                      have c24b1 : (t139 != a0) = false := bne_eq_false_iff_eq.mpr c24
                      clear c24
                      by_cases c25 : t145 = 5
                      · rw [if_pos c25] at H
                        have c25b0 : (t145 == 5) = true := beq_iff_eq.mpr c25
                        have c25b1 : (t145 != 5) = false := bne_eq_false_iff_eq.mpr c25
                        clear c25
                        replace H := Option.bind_eq_some_iff.mp H
                        obtain ⟨t146, A260, H⟩ := H
                        replace H : (some (t146 == 1)) = some r := H
                        have A26 := Aside0.mk A260
                        clear A260
                        obtain rfl := Option.some.inj H
                        go_wp2_with (first | ((with_reducible refine gate_callee (f := 9) rfl ?_); refine goesL_ (some 55) rfl rfl Try.func9 (by kernel_rfl) rfl #[.int .u8 a0, .int .i64 x6_1, .int .i64 (wrap64 (8 - x6_1))] rfl (by (try simp only [List.map_toArray, List.map_cons, List.map_nil]); first | done | rfl | (simp only [List.length_drop, List.length_take]; rfl)) ?_; (with_reducible refine (bits_Field.calls a0 x6_1 (wrap64 (8 - x6_1)) t135 _ A18.out).mono ?_); rintro e w27 ⟨rfl, hb⟩; refine ⟨_, rfl, ?_⟩; have n0_ := Aside0.mk (Kd.R_below (by (with_reducible repeat (first | apply Kd.R_alloc | apply Kd.R_drewN | apply Kd.R_drew)); exact HO_5.out) hb); have n1_ := Aside0.mk (below_step (by repeat (first | (with_reducible first | exact HB.out | apply below_alloc | apply pw_below_drewN | apply below_drew1) | exact HB.out)) hb); clear HO_5; clear HB; have HO_5 := n0_; have HB := n1_; clear n0_ n1_; (try clear hb); (try clear hb2); (try clear hk); (try clear hi)) | ((with_reducible refine gate_builtin (b := .append) (xs := #[.tmp 48, .tmp 57]) rfl ?_); at_builtin; refine Kd.R_append k34 (w0 := w) w.heap.size rfl (.tmp 48) (.tmp 57) 28 34 (.agg #[(.int .i64 0), (.int .i64 0)]) 16 rfl Try.underlying28 info34 rfl (by decide) (by omega) u5 x5_1 (⟨wrap64 (8 - x6_1), t135⟩ : S34) [.int .i64 (wrap64 (8 - x6_1)), .int .i64 t135] (fun _ => True) (fun _ => False) rfl rfl ?aP (fun _ hk => hk.elim) ?aF ?aO ?aB ?aS ?aL ?_; (case aP => exact k34_mkM _ _ _ (⟨wrap64 (8 - x6_1), t135⟩ : S34)); (case aB => exact (by repeat (first | (with_reducible first | exact HB.out | apply below_alloc | apply pw_below_drewN | apply below_drew1) | exact HB.out))); (case aF => exact (fun _ _ => trivial)); (case aO => exact (by (with_reducible repeat (first | apply Kd.R_alloc | apply Kd.R_drewN | apply Kd.R_drew)); exact HO_5.out)); (case aS => exact (below_size (by repeat (first | (with_reducible first | exact HB.out | apply below_alloc | apply pw_below_drewN | apply below_drew1) | exact HB.out)))); (case aL => have := LMc19.out; omega); intro v137 w28 ho hb hg hat; rw [← Ny136.out] at ho; have n0_ := Aside0.mk (hb); have n1_ := Aside0.mk (ho); clear HB; clear HO_5; have HB := n0_; have HO138 := n1_; clear n0_ n1_; clear ho hb hg hat; obtain ⟨Ao29, co29, eo29⟩ := Kd.R_slice HO138.out; subst eo29) | ((with_reducible refine gate_callee (f := 13) rfl ?_); refine goesL_ (some 61) rfl rfl Try.func13 (by kernel_rfl) rfl #[.slice Ao29 y136.length co29] rfl (by (try simp only [List.map_toArray, List.map_cons, List.map_nil]); first | done | rfl | (simp only [List.length_drop, List.length_take]; rfl)) ?_; (with_reducible refine (bits_Pack.calls k1 _ _ y136 t139 t140 _ ?side1 ?side2 A20.out).mono ?_); (case side1 => repeat (first | exact (Kd.R_reads' HO138.out).2.2 | (with_reducible refine Kd.C_alloc ?_ _) | (with_reducible refine Kd.C_drewN ?_ _) | (with_reducible refine Kd.C_drew ?_))); (case side2 => exact (Kd.R_reads' HO138.out).2.1); rintro e w30 ⟨rfl, hb⟩; refine ⟨_, rfl, ?_⟩; have n0_ := Aside0.mk (Kd.R_below (by (with_reducible repeat (first | apply Kd.R_alloc | apply Kd.R_drewN | apply Kd.R_drew)); exact HO138.out) hb); have n1_ := Aside0.mk (below_step (by repeat (first | (with_reducible first | exact HB.out | apply below_alloc | apply pw_below_drewN | apply below_drew1) | exact HB.out)) hb); clear HO138; clear HB; have HO138 := n0_; have HB := n1_; clear n0_ n1_; (try clear hb); (try clear hb2); (try clear hk); (try clear hi)) | ((with_reducible refine gate_builtin (b := .append) (xs := #[.tmp 65, .tmp 67]) rfl ?_); at_builtin; refine Kd.R_append k34 (w0 := w) w.heap.size rfl (.tmp 65) (.tmp 67) 28 34 (.agg #[(.int .i64 0), (.int .i64 0)]) 16 rfl Try.underlying28 info34 rfl (by decide) (by omega) (.slice Ao29 y136.length co29) y136 (⟨1, 0⟩ : S34) [.int .i64 1, .int .i64 0] (fun _ => True) (fun _ => False) rfl rfl ?aP (fun _ hk => hk.elim) ?aF ?aO ?aB ?aS ?aL ?_; (case aP => exact k34_mkM _ _ _ (⟨1, 0⟩ : S34)); (case aB => exact (by repeat (first | (with_reducible first | exact HB.out | apply below_alloc | apply pw_below_drewN | apply below_drew1) | exact HB.out))); (case aF => exact (fun _ _ => trivial)); (case aO => exact (by (with_reducible repeat (first | apply Kd.R_alloc | apply Kd.R_drewN | apply Kd.R_drew)); exact HO138.out)); (case aS => exact (below_size (by repeat (first | (with_reducible first | exact HB.out | apply below_alloc | apply pw_below_drewN | apply below_drew1) | exact HB.out)))); (case aL => have := LMc21.out; omega); intro v142 w31 ho hb hg hat; rw [← Ny141.out] at ho; have n0_ := Aside0.mk (hb); have n1_ := Aside0.mk (ho); clear HB; clear HO138; have HB := n0_; have HO143 := n1_; clear n0_ n1_; clear ho hb hg hat; obtain ⟨Ao32, co32, eo32⟩ := Kd.R_slice HO143.out; subst eo32) | ((with_reducible refine gate_callee (f := 13) rfl ?_); refine goesL_ (some 69) rfl rfl Try.func13 (by kernel_rfl) rfl #[.slice Ao32 y141.length co32] rfl (by (try simp only [List.map_toArray, List.map_cons, List.map_nil]); first | done | rfl | (simp only [List.length_drop, List.length_take]; rfl)) ?_; (with_reducible refine (bits_Pack.calls k1 _ _ y141 t144 t145 _ ?side1 ?side2 A22.out).mono ?_); (case side1 => repeat (first | exact (Kd.R_reads' HO143.out).2.2 | (with_reducible refine Kd.C_alloc ?_ _) | (with_reducible refine Kd.C_drewN ?_ _) | (with_reducible refine Kd.C_drew ?_))); (case side2 => exact (Kd.R_reads' HO143.out).2.1); rintro e w33 ⟨rfl, hb⟩; refine ⟨_, rfl, ?_⟩; have n0_ := Aside0.mk (Kd.R_below (by (with_reducible repeat (first | apply Kd.R_alloc | apply Kd.R_drewN | apply Kd.R_drew)); exact HO143.out) hb); have n1_ := Aside0.mk (below_step (by repeat (first | (with_reducible first | exact HB.out | apply below_alloc | apply pw_below_drewN | apply below_drew1) | exact HB.out)) hb); clear HO143; clear HB; have HO143 := n0_; have HB := n1_; clear n0_ n1_; (try clear hb); (try clear hb2); (try clear hk); (try clear hi)) | (go_at_call 9; (with_reducible refine (bits_Field.calls 128 7 1 t146 _ A26.out).mono ?_); rintro e w34 ⟨rfl, hb⟩; have n0_ := Aside0.mk (Kd.R_below (by (with_reducible repeat (first | apply Kd.R_alloc | apply Kd.R_drewN | apply Kd.R_drew)); exact HO143.out) hb); have n1_ := Aside0.mk (below_step (by repeat (first | (with_reducible first | exact HB.out | apply below_alloc | apply pw_below_drewN | apply below_drew1) | exact HB.out)) hb); clear HO143; clear HB; have HO143 := n0_; have HB := n1_; clear n0_ n1_; (try clear hb); (try clear hb2); (try clear hk); (try clear hi)))
                        go_ret
                        exact ⟨by first | rfl | (simp [errW_none, errW_some] <;> rfl) | (simp only [← hji3]; first | rfl | (simp [errW_none, errW_some] <;> rfl)) | (simp [*, errW_none, errW_some] <;> rfl), by repeat (first | (with_reducible first | exact HB.out | apply below_alloc | apply pw_below_drewN | apply below_drew1) | exact HB.out)⟩
                      · rw [if_neg c25] at H
                        have c25b0 : (t145 == 5) = false := beq_eq_false_iff_ne.mpr c25
                        have c25b1 : (t145 != 5) = true := bne_iff_ne.mpr c25
                        obtain rfl := Option.some.inj H
                        go_wp2_with (first | ((with_reducible refine gate_callee (f := 9) rfl ?_); refine goesL_ (some 55) rfl rfl Try.func9 (by kernel_rfl) rfl #[.int .u8 a0, .int .i64 x6_1, .int .i64 (wrap64 (8 - x6_1))] rfl (by (try simp only [List.map_toArray, List.map_cons, List.map_nil]); first | done | rfl | (simp only [List.length_drop, List.length_take]; rfl)) ?_; (with_reducible refine (bits_Field.calls a0 x6_1 (wrap64 (8 - x6_1)) t135 _ A18.out).mono ?_); rintro e w35 ⟨rfl, hb⟩; refine ⟨_, rfl, ?_⟩; have n0_ := Aside0.mk (Kd.R_below (by (with_reducible repeat (first | apply Kd.R_alloc | apply Kd.R_drewN | apply Kd.R_drew)); exact HO_5.out) hb); have n1_ := Aside0.mk (below_step (by repeat (first | (with_reducible first | exact HB.out | apply below_alloc | apply pw_below_drewN | apply below_drew1) | exact HB.out)) hb); clear HO_5; clear HB; have HO_5 := n0_; have HB := n1_; clear n0_ n1_; (try clear hb); (try clear hb2); (try clear hk); (try clear hi)) | ((with_reducible refine gate_builtin (b := .append) (xs := #[.tmp 48, .tmp 57]) rfl ?_); at_builtin; refine Kd.R_append k34 (w0 := w) w.heap.size rfl (.tmp 48) (.tmp 57) 28 34 (.agg #[(.int .i64 0), (.int .i64 0)]) 16 rfl Try.underlying28 info34 rfl (by decide) (by omega) u5 x5_1 (⟨wrap64 (8 - x6_1), t135⟩ : S34) [.int .i64 (wrap64 (8 - x6_1)), .int .i64 t135] (fun _ => True) (fun _ => False) rfl rfl ?aP (fun _ hk => hk.elim) ?aF ?aO ?aB ?aS ?aL ?_; (case aP => exact k34_mkM _ _ _ (⟨wrap64 (8 - x6_1), t135⟩ : S34)); (case aB => exact (by repeat (first | (with_reducible first | exact HB.out | apply below_alloc | apply pw_below_drewN | apply below_drew1) | exact HB.out))); (case aF => exact (fun _ _ => trivial)); (case aO => exact (by (with_reducible repeat (first | apply Kd.R_alloc | apply Kd.R_drewN | apply Kd.R_drew)); exact HO_5.out)); (case aS => exact (below_size (by repeat (first | (with_reducible first | exact HB.out | apply below_alloc | apply pw_below_drewN | apply below_drew1) | exact HB.out)))); (case aL => have := LMc19.out; omega); intro v137 w36 ho hb hg hat; rw [← Ny136.out] at ho; have n0_ := Aside0.mk (hb); have n1_ := Aside0.mk (ho); clear HB; clear HO_5; have HB := n0_; have HO138 := n1_; clear n0_ n1_; clear ho hb hg hat; obtain ⟨Ao37, co37, eo37⟩ := Kd.R_slice HO138.out; subst eo37) | ((with_reducible refine gate_callee (f := 13) rfl ?_); refine goesL_ (some 61) rfl rfl Try.func13 (by kernel_rfl) rfl #[.slice Ao37 y136.length co37] rfl (by (try simp only [List.map_toArray, List.map_cons, List.map_nil]); first | done | rfl | (simp only [List.length_drop, List.length_take]; rfl)) ?_; (with_reducible refine (bits_Pack.calls k1 _ _ y136 t139 t140 _ ?side1 ?side2 A20.out).mono ?_); (case side1 => repeat (first | exact (Kd.R_reads' HO138.out).2.2 | (with_reducible refine Kd.C_alloc ?_ _) | (with_reducible refine Kd.C_drewN ?_ _) | (with_reducible refine Kd.C_drew ?_))); (case side2 => exact (Kd.R_reads' HO138.out).2.1); rintro e w38 ⟨rfl, hb⟩; refine ⟨_, rfl, ?_⟩; have n0_ := Aside0.mk (Kd.R_below (by (with_reducible repeat (first | apply Kd.R_alloc | apply Kd.R_drewN | apply Kd.R_drew)); exact HO138.out) hb); have n1_ := Aside0.mk (below_step (by repeat (first | (with_reducible first | exact HB.out | apply below_alloc | apply pw_below_drewN | apply below_drew1) | exact HB.out)) hb); clear HO138; clear HB; have HO138 := n0_; have HB := n1_; clear n0_ n1_; (try clear hb); (try clear hb2); (try clear hk); (try clear hi)) | ((with_reducible refine gate_builtin (b := .append) (xs := #[.tmp 65, .tmp 67]) rfl ?_); at_builtin; refine Kd.R_append k34 (w0 := w) w.heap.size rfl (.tmp 65) (.tmp 67) 28 34 (.agg #[(.int .i64 0), (.int .i64 0)]) 16 rfl Try.underlying28 info34 rfl (by decide) (by omega) (.slice Ao37 y136.length co37) y136 (⟨1, 0⟩ : S34) [.int .i64 1, .int .i64 0] (fun _ => True) (fun _ => False) rfl rfl ?aP (fun _ hk => hk.elim) ?aF ?aO ?aB ?aS ?aL ?_; (case aP => exact k34_mkM _ _ _ (⟨1, 0⟩ : S34)); (case aB => exact (by repeat (first | (with_reducible first | exact HB.out | apply below_alloc | apply pw_below_drewN | apply below_drew1) | exact HB.out))); (case aF => exact (fun _ _ => trivial)); (case aO => exact (by (with_reducible repeat (first | apply Kd.R_alloc | apply Kd.R_drewN | apply Kd.R_drew)); exact HO138.out)); (case aS => exact (below_size (by repeat (first | (with_reducible first | exact HB.out | apply below_alloc | apply pw_below_drewN | apply below_drew1) | exact HB.out)))); (case aL => have := LMc21.out; omega); intro v142 w39 ho hb hg hat; rw [← Ny141.out] at ho; have n0_ := Aside0.mk (hb); have n1_ := Aside0.mk (ho); clear HB; clear HO138; have HB := n0_; have HO143 := n1_; clear n0_ n1_; clear ho hb hg hat; obtain ⟨Ao40, co40, eo40⟩ := Kd.R_slice HO143.out; subst eo40) | ((with_reducible refine gate_callee (f := 13) rfl ?_); refine goesL_ (some 69) rfl rfl Try.func13 (by kernel_rfl) rfl #[.slice Ao40 y141.length co40] rfl (by (try simp only [List.map_toArray, List.map_cons, List.map_nil]); first | done | rfl | (simp only [List.length_drop, List.length_take]; rfl)) ?_; (with_reducible refine (bits_Pack.calls k1 _ _ y141 t144 t145 _ ?side1 ?side2 A22.out).mono ?_); (case side1 => repeat (first | exact (Kd.R_reads' HO143.out).2.2 | (with_reducible refine Kd.C_alloc ?_ _) | (with_reducible refine Kd.C_drewN ?_ _) | (with_reducible refine Kd.C_drew ?_))); (case side2 => exact (Kd.R_reads' HO143.out).2.1); rintro e w41 ⟨rfl, hb⟩; refine ⟨_, rfl, ?_⟩; have n0_ := Aside0.mk (Kd.R_below (by (with_reducible repeat (first | apply Kd.R_alloc | apply Kd.R_drewN | apply Kd.R_drew)); exact HO143.out) hb); have n1_ := Aside0.mk (below_step (by repeat (first | (with_reducible first | exact HB.out | apply below_alloc | apply pw_below_drewN | apply below_drew1) | exact HB.out)) hb); clear HO143; clear HB; have HO143 := n0_; have HB := n1_; clear n0_ n1_; (try clear hb); (try clear hb2); (try clear hk); (try clear hi)))
                        go_ret
                        exact ⟨by first | rfl | (simp [errW_none, errW_some] <;> rfl) | (simp only [← hji3]; first | rfl | (simp [errW_none, errW_some] <;> rfl)) | (simp [*, errW_none, errW_some] <;> rfl), by repeat (first | (with_reducible first | exact HB.out | apply below_alloc | apply pw_below_drewN | apply below_drew1) | exact HB.out)⟩
                    · rw [if_neg c24] at H
                      have c24b0 : (t139 == a0) = false := beq_eq_false_iff_ne.mpr c24
                      have c24b1 : (t139 != a0) = true := bne_iff_ne.mpr c24
                      obtain rfl := Option.some.inj H
                      go_wp2_with (first | ((with_reducible refine gate_callee (f := 9) rfl ?_); refine goesL_ (some 55) rfl rfl Try.func9 (by kernel_rfl) rfl #[.int .u8 a0, .int .i64 x6_1, .int .i64 (wrap64 (8 - x6_1))] rfl (by (try simp only [List.map_toArray, List.map_cons, List.map_nil]); first | done | rfl | (simp only [List.length_drop, List.length_take]; rfl)) ?_; (with_reducible refine (bits_Field.calls a0 x6_1 (wrap64 (8 - x6_1)) t135 _ A18.out).mono ?_); rintro e w42 ⟨rfl, hb⟩; refine ⟨_, rfl, ?_⟩; have n0_ := Aside0.mk (Kd.R_below (by (with_reducible repeat (first | apply Kd.R_alloc | apply Kd.R_drewN | apply Kd.R_drew)); exact HO_5.out) hb); have n1_ := Aside0.mk (below_step (by repeat (first | (with_reducible first | exact HB.out | apply below_alloc | apply pw_below_drewN | apply below_drew1) | exact HB.out)) hb); clear HO_5; clear HB; have HO_5 := n0_; have HB := n1_; clear n0_ n1_; (try clear hb); (try clear hb2); (try clear hk); (try clear hi)) | ((with_reducible refine gate_builtin (b := .append) (xs := #[.tmp 48, .tmp 57]) rfl ?_); at_builtin; refine Kd.R_append k34 (w0 := w) w.heap.size rfl (.tmp 48) (.tmp 57) 28 34 (.agg #[(.int .i64 0), (.int .i64 0)]) 16 rfl Try.underlying28 info34 rfl (by decide) (by omega) u5 x5_1 (⟨wrap64 (8 - x6_1), t135⟩ : S34) [.int .i64 (wrap64 (8 - x6_1)), .int .i64 t135] (fun _ => True) (fun _ => False) rfl rfl ?aP (fun _ hk => hk.elim) ?aF ?aO ?aB ?aS ?aL ?_; (case aP => exact k34_mkM _ _ _ (⟨wrap64 (8 - x6_1), t135⟩ : S34)); (case aB => exact (by repeat (first | (with_reducible first | exact HB.out | apply below_alloc | apply pw_below_drewN | apply below_drew1) | exact HB.out))); (case aF => exact (fun _ _ => trivial)); (case aO => exact (by (with_reducible repeat (first | apply Kd.R_alloc | apply Kd.R_drewN | apply Kd.R_drew)); exact HO_5.out)); (case aS => exact (below_size (by repeat (first | (with_reducible first | exact HB.out | apply below_alloc | apply pw_below_drewN | apply below_drew1) | exact HB.out)))); (case aL => have := LMc19.out; omega); intro v137 w43 ho hb hg hat; rw [← Ny136.out] at ho; have n0_ := Aside0.mk (hb); have n1_ := Aside0.mk (ho); clear HB; clear HO_5; have HB := n0_; have HO138 := n1_; clear n0_ n1_; clear ho hb hg hat; obtain ⟨Ao44, co44, eo44⟩ := Kd.R_slice HO138.out; subst eo44) | ((with_reducible refine gate_callee (f := 13) rfl ?_); refine goesL_ (some 61) rfl rfl Try.func13 (by kernel_rfl) rfl #[.slice Ao44 y136.length co44] rfl (by (try simp only [List.map_toArray, List.map_cons, List.map_nil]); first | done | rfl | (simp only [List.length_drop, List.length_take]; rfl)) ?_; (with_reducible refine (bits_Pack.calls k1 _ _ y136 t139 t140 _ ?side1 ?side2 A20.out).mono ?_); (case side1 => repeat (first | exact (Kd.R_reads' HO138.out).2.2 | (with_reducible refine Kd.C_alloc ?_ _) | (with_reducible refine Kd.C_drewN ?_ _) | (with_reducible refine Kd.C_drew ?_))); (case side2 => exact (Kd.R_reads' HO138.out).2.1); rintro e w45 ⟨rfl, hb⟩; refine ⟨_, rfl, ?_⟩; have n0_ := Aside0.mk (Kd.R_below (by (with_reducible repeat (first | apply Kd.R_alloc | apply Kd.R_drewN | apply Kd.R_drew)); exact HO138.out) hb); have n1_ := Aside0.mk (below_step (by repeat (first | (with_reducible first | exact HB.out | apply below_alloc | apply pw_below_drewN | apply below_drew1) | exact HB.out)) hb); clear HO138; clear HB; have HO138 := n0_; have HB := n1_; clear n0_ n1_; (try clear hb); (try clear hb2); (try clear hk); (try clear hi)) | ((with_reducible refine gate_builtin (b := .append) (xs := #[.tmp 65, .tmp 67]) rfl ?_); at_builtin; refine Kd.R_append k34 (w0 := w) w.heap.size rfl (.tmp 65) (.tmp 67) 28 34 (.agg #[(.int .i64 0), (.int .i64 0)]) 16 rfl Try.underlying28 info34 rfl (by decide) (by omega) (.slice Ao44 y136.length co44) y136 (⟨1, 0⟩ : S34) [.int .i64 1, .int .i64 0] (fun _ => True) (fun _ => False) rfl rfl ?aP (fun _ hk => hk.elim) ?aF ?aO ?aB ?aS ?aL ?_; (case aP => exact k34_mkM _ _ _ (⟨1, 0⟩ : S34)); (case aB => exact (by repeat (first | (with_reducible first | exact HB.out | apply below_alloc | apply pw_below_drewN | apply below_drew1) | exact HB.out))); (case aF => exact (fun _ _ => trivial)); (case aO => exact (by (with_reducible repeat (first | apply Kd.R_alloc | apply Kd.R_drewN | apply Kd.R_drew)); exact HO138.out)); (case aS => exact (below_size (by repeat (first | (with_reducible first | exact HB.out | apply below_alloc | apply pw_below_drewN | apply below_drew1) | exact HB.out)))); (case aL => have := LMc21.out; omega); intro v142 w46 ho hb hg hat; rw [← Ny141.out] at ho; have n0_ := Aside0.mk (hb); have n1_ := Aside0.mk (ho); clear HB; clear HO138; have HB := n0_; have HO143 := n1_; clear n0_ n1_; clear ho hb hg hat; obtain ⟨Ao47, co47, eo47⟩ := Kd.R_slice HO143.out; subst eo47) | ((with_reducible refine gate_callee (f := 13) rfl ?_); refine goesL_ (some 69) rfl rfl Try.func13 (by kernel_rfl) rfl #[.slice Ao47 y141.length co47] rfl (by (try simp only [List.map_toArray, List.map_cons, List.map_nil]); first | done | rfl | (simp only [List.length_drop, List.length_take]; rfl)) ?_; (with_reducible refine (bits_Pack.calls k1 _ _ y141 t144 t145 _ ?side1 ?side2 A22.out).mono ?_); (case side1 => repeat (first | exact (Kd.R_reads' HO143.out).2.2 | (with_reducible refine Kd.C_alloc ?_ _) | (with_reducible refine Kd.C_drewN ?_ _) | (with_reducible refine Kd.C_drew ?_))); (case side2 => exact (Kd.R_reads' HO143.out).2.1); rintro e w48 ⟨rfl, hb⟩; refine ⟨_, rfl, ?_⟩; have n0_ := Aside0.mk (Kd.R_below (by (with_reducible repeat (first | apply Kd.R_alloc | apply Kd.R_drewN | apply Kd.R_drew)); exact HO143.out) hb); have n1_ := Aside0.mk (below_step (by repeat (first | (with_reducible first | exact HB.out | apply below_alloc | apply pw_below_drewN | apply below_drew1) | exact HB.out)) hb); clear HO143; clear HB; have HO143 := n0_; have HB := n1_; clear n0_ n1_; (try clear hb); (try clear hb2); (try clear hk); (try clear hi)))
                      go_ret
                      exact ⟨by first | rfl | (simp [errW_none, errW_some] <;> rfl) | (simp only [← hji3]; first | rfl | (simp [errW_none, errW_some] <;> rfl)) | (simp [*, errW_none, errW_some] <;> rfl), by repeat (first | (with_reducible first | exact HB.out | apply below_alloc | apply pw_below_drewN | apply below_drew1) | exact HB.out)⟩
                  · rw [if_neg c23] at H
                    have c23b0 : (t140 == 0) = false := beq_eq_false_iff_ne.mpr c23
                    have c23b1 : (t140 != 0) = true := bne_iff_ne.mpr c23
                    obtain rfl := Option.some.inj H
                    go_wp2_with (first | ((with_reducible refine gate_callee (f := 9) rfl ?_); refine goesL_ (some 55) rfl rfl Try.func9 (by kernel_rfl) rfl #[.int .u8 a0, .int .i64 x6_1, .int .i64 (wrap64 (8 - x6_1))] rfl (by (try simp only [List.map_toArray, List.map_cons, List.map_nil]); first | done | rfl | (simp only [List.length_drop, List.length_take]; rfl)) ?_; (with_reducible refine (bits_Field.calls a0 x6_1 (wrap64 (8 - x6_1)) t135 _ A18.out).mono ?_); rintro e w49 ⟨rfl, hb⟩; refine ⟨_, rfl, ?_⟩; have n0_ := Aside0.mk (Kd.R_below (by (with_reducible repeat (first | apply Kd.R_alloc | apply Kd.R_drewN | apply Kd.R_drew)); exact HO_5.out) hb); have n1_ := Aside0.mk (below_step (by repeat (first | (with_reducible first | exact HB.out | apply below_alloc | apply pw_below_drewN | apply below_drew1) | exact HB.out)) hb); clear HO_5; clear HB; have HO_5 := n0_; have HB := n1_; clear n0_ n1_; (try clear hb); (try clear hb2); (try clear hk); (try clear hi)) | ((with_reducible refine gate_builtin (b := .append) (xs := #[.tmp 48, .tmp 57]) rfl ?_); at_builtin; refine Kd.R_append k34 (w0 := w) w.heap.size rfl (.tmp 48) (.tmp 57) 28 34 (.agg #[(.int .i64 0), (.int .i64 0)]) 16 rfl Try.underlying28 info34 rfl (by decide) (by omega) u5 x5_1 (⟨wrap64 (8 - x6_1), t135⟩ : S34) [.int .i64 (wrap64 (8 - x6_1)), .int .i64 t135] (fun _ => True) (fun _ => False) rfl rfl ?aP (fun _ hk => hk.elim) ?aF ?aO ?aB ?aS ?aL ?_; (case aP => exact k34_mkM _ _ _ (⟨wrap64 (8 - x6_1), t135⟩ : S34)); (case aB => exact (by repeat (first | (with_reducible first | exact HB.out | apply below_alloc | apply pw_below_drewN | apply below_drew1) | exact HB.out))); (case aF => exact (fun _ _ => trivial)); (case aO => exact (by (with_reducible repeat (first | apply Kd.R_alloc | apply Kd.R_drewN | apply Kd.R_drew)); exact HO_5.out)); (case aS => exact (below_size (by repeat (first | (with_reducible first | exact HB.out | apply below_alloc | apply pw_below_drewN | apply below_drew1) | exact HB.out)))); (case aL => have := LMc19.out; omega); intro v137 w50 ho hb hg hat; rw [← Ny136.out] at ho; have n0_ := Aside0.mk (hb); have n1_ := Aside0.mk (ho); clear HB; clear HO_5; have HB := n0_; have HO138 := n1_; clear n0_ n1_; clear ho hb hg hat; obtain ⟨Ao51, co51, eo51⟩ := Kd.R_slice HO138.out; subst eo51) | ((with_reducible refine gate_callee (f := 13) rfl ?_); refine goesL_ (some 61) rfl rfl Try.func13 (by kernel_rfl) rfl #[.slice Ao51 y136.length co51] rfl (by (try simp only [List.map_toArray, List.map_cons, List.map_nil]); first | done | rfl | (simp only [List.length_drop, List.length_take]; rfl)) ?_; (with_reducible refine (bits_Pack.calls k1 _ _ y136 t139 t140 _ ?side1 ?side2 A20.out).mono ?_); (case side1 => repeat (first | exact (Kd.R_reads' HO138.out).2.2 | (with_reducible refine Kd.C_alloc ?_ _) | (with_reducible refine Kd.C_drewN ?_ _) | (with_reducible refine Kd.C_drew ?_))); (case side2 => exact (Kd.R_reads' HO138.out).2.1); rintro e w52 ⟨rfl, hb⟩; refine ⟨_, rfl, ?_⟩; have n0_ := Aside0.mk (Kd.R_below (by (with_reducible repeat (first | apply Kd.R_alloc | apply Kd.R_drewN | apply Kd.R_drew)); exact HO138.out) hb); have n1_ := Aside0.mk (below_step (by repeat (first | (with_reducible first | exact HB.out | apply below_alloc | apply pw_below_drewN | apply below_drew1) | exact HB.out)) hb); clear HO138; clear HB; have HO138 := n0_; have HB := n1_; clear n0_ n1_; (try clear hb); (try clear hb2); (try clear hk); (try clear hi)) | ((with_reducible refine gate_builtin (b := .append) (xs := #[.tmp 65, .tmp 67]) rfl ?_); at_builtin; refine Kd.R_append k34 (w0 := w) w.heap.size rfl (.tmp 65) (.tmp 67) 28 34 (.agg #[(.int .i64 0), (.int .i64 0)]) 16 rfl Try.underlying28 info34 rfl (by decide) (by omega) (.slice Ao51 y136.length co51) y136 (⟨1, 0⟩ : S34) [.int .i64 1, .int .i64 0] (fun _ => True) (fun _ => False) rfl rfl ?aP (fun _ hk => hk.elim) ?aF ?aO ?aB ?aS ?aL ?_; (case aP => exact k34_mkM _ _ _ (⟨1, 0⟩ : S34)); (case aB => exact (by repeat (first | (with_reducible first | exact HB.out | apply below_alloc | apply pw_below_drewN | apply below_drew1) | exact HB.out))); (case aF => exact (fun _ _ => trivial)); (case aO => exact (by (with_reducible repeat (first | apply Kd.R_alloc | apply Kd.R_drewN | apply Kd.R_drew)); exact HO138.out)); (case aS => exact (below_size (by repeat (first | (with_reducible first | exact HB.out | apply below_alloc | apply pw_below_drewN | apply below_drew1) | exact HB.out)))); (case aL => have := LMc21.out; omega); intro v142 w53 ho hb hg hat; rw [← Ny141.out] at ho; have n0_ := Aside0.mk (hb); have n1_ := Aside0.mk (ho); clear HB; clear HO138; have HB := n0_; have HO143 := n1_; clear n0_ n1_; clear ho hb hg hat; obtain ⟨Ao54, co54, eo54⟩ := Kd.R_slice HO143.out; subst eo54) | ((with_reducible refine gate_callee (f := 13) rfl ?_); refine goesL_ (some 69) rfl rfl Try.func13 (by kernel_rfl) rfl #[.slice Ao54 y141.length co54] rfl (by (try simp only [List.map_toArray, List.map_cons, List.map_nil]); first | done | rfl | (simp only [List.length_drop, List.length_take]; rfl)) ?_; (with_reducible refine (bits_Pack.calls k1 _ _ y141 t144 t145 _ ?side1 ?side2 A22.out).mono ?_); (case side1 => repeat (first | exact (Kd.R_reads' HO143.out).2.2 | (with_reducible refine Kd.C_alloc ?_ _) | (with_reducible refine Kd.C_drewN ?_ _) | (with_reducible refine Kd.C_drew ?_))); (case side2 => exact (Kd.R_reads' HO143.out).2.1); rintro e w55 ⟨rfl, hb⟩; refine ⟨_, rfl, ?_⟩; have n0_ := Aside0.mk (Kd.R_below (by (with_reducible repeat (first | apply Kd.R_alloc | apply Kd.R_drewN | apply Kd.R_drew)); exact HO143.out) hb); have n1_ := Aside0.mk (below_step (by repeat (first | (with_reducible first | exact HB.out | apply below_alloc | apply pw_below_drewN | apply below_drew1) | exact HB.out)) hb); clear HO143; clear HB; have HO143 := n0_; have HB := n1_; clear n0_ n1_; (try clear hb); (try clear hb2); (try clear hk); (try clear hi)))
                    go_ret
                    exact ⟨by first | rfl | (simp [errW_none, errW_some] <;> rfl) | (simp only [← hji3]; first | rfl | (simp [errW_none, errW_some] <;> rfl)) | (simp [*, errW_none, errW_some] <;> rfl), by repeat (first | (with_reducible first | exact HB.out | apply below_alloc | apply pw_below_drewN | apply below_drew1) | exact HB.out)⟩
                · rw [if_neg c21] at H
                  exact absurd H (by simp)
              · rw [if_neg c19] at H
                exact absurd H (by simp)
            · rw [if_neg c17] at H
              have c17b0 : decide (x6_1 < 8) = false := decide_eq_false c17
              clear c17
              replace H := Option.bind_eq_some_iff.mp H
              obtain ⟨⟨t147, t148⟩, A560, H⟩ := H
              replace H : (if x5_1.length < 8796093022208 then ((bits_Pack.f k1 (x5_1 ++ [(⟨1, 0⟩ : S34)])).bind fun bt152 => (if t148 = 0 then (if t147 = a0 then (if bt152.2 = 5 then ((bits_Field.f 128 7 1).bind fun t154 => (some (t154 == 1))) else (some false)) else (some false)) else (some false))) else (none)) = some r := H
              have A56 := Aside0.mk A560
              clear A560
              by_cases c57 : x5_1.length < 8796093022208
              · rw [if_pos c57] at H
                have LMc57 := Aside0.mk c57
                clear c57
                obtain ⟨y149, hy149⟩ : ∃ y_ : List (S34), y_ = (x5_1 ++ [(⟨1, 0⟩ : S34)]) := ⟨_, rfl⟩
                replace H : ((bits_Pack.f k1 y149).bind fun bt152 => (if t148 = 0 then (if t147 = a0 then (if bt152.2 = 5 then ((bits_Field.f 128 7 1).bind fun t154 => (some (t154 == 1))) else (some false)) else (some false)) else (some false))) = some r := by first | (rw [hy149]; with_reducible exact H) | (have H2_ := (Option.bind_some _ _).symm.trans H; rw [hy149]; with_reducible exact H2_) | (have H2_ := (Option.bind_some _ _).symm.trans H; with_reducible exact H2_) | with_reducible exact H | (rw [hy149]; exact H) | exact H
                have Ny149 := Aside0.mk hy149
                clear hy149
                replace H := Option.bind_eq_some_iff.mp H
                obtain ⟨⟨t152, t153⟩, A580, H⟩ := H
                replace H : (if t148 = 0 then (if t147 = a0 then (if t153 = 5 then ((bits_Field.f 128 7 1).bind fun t154 => (some (t154 == 1))) else (some false)) else (some false)) else (some false)) = some r := H
                have A58 := Aside0.mk A580
                clear A580
                by_cases c59 : t148 = 0
                · rw [if_pos c59] at H
                  have c59b0 : (t148 == 0) = true := beq_iff_eq.mpr c59
                  have c59b1 : (t148 != 0) = false := bne_eq_false_iff_eq.mpr c59
                  clear c59
                  by_cases c60 : t147 = a0
                  · rw [if_pos c60] at H
                    have c60b0 : (t147 == a0) = true := beq_iff_eq.mpr c60
                    have c60b1 : (t147 != a0) = false := bne_eq_false_iff_eq.mpr c60
                    clear c60
                    by_cases c61 : t153 = 5
                    · rw [if_pos c61] at H
                      have c61b0 : (t153 == 5) = true := beq_iff_eq.mpr c61
                      have c61b1 : (t153 != 5) = false := bne_eq_false_iff_eq.mpr c61
                      clear c61
                      replace H := Option.bind_eq_some_iff.mp H
                      obtain ⟨t154, A620, H⟩ := H
                      replace H : (some (t154 == 1)) = some r := H
                      have A62 := Aside0.mk A620
                      clear A620
                      obtain rfl := Option.some.inj H
                      obtain ⟨Ao63, co63, eo63⟩ := Kd.R_slice HO_5.out
                      subst eo63
                      go_wp2_with (first | ((with_reducible refine gate_callee (f := 13) rfl ?_); refine goesL_ (some 61) rfl rfl Try.func13 (by kernel_rfl) rfl #[.slice Ao63 x5_1.length co63] rfl (by (try simp only [List.map_toArray, List.map_cons, List.map_nil]); first | done | rfl | (simp only [List.length_drop, List.length_take]; rfl)) ?_; (with_reducible refine (bits_Pack.calls k1 _ _ x5_1 t147 t148 _ ?side1 ?side2 A56.out).mono ?_); (case side1 => repeat (first | exact (Kd.R_reads' HO_5.out).2.2 | (with_reducible refine Kd.C_alloc ?_ _) | (with_reducible refine Kd.C_drewN ?_ _) | (with_reducible refine Kd.C_drew ?_))); (case side2 => exact (Kd.R_reads' HO_5.out).2.1); rintro e w64 ⟨rfl, hb⟩; refine ⟨_, rfl, ?_⟩; have n0_ := Aside0.mk (Kd.R_below (by (with_reducible repeat (first | apply Kd.R_alloc | apply Kd.R_drewN | apply Kd.R_drew)); exact HO_5.out) hb); have n1_ := Aside0.mk (below_step (by repeat (first | (with_reducible first | exact HB.out | apply below_alloc | apply pw_below_drewN | apply below_drew1) | exact HB.out)) hb); clear HO_5; clear HB; have HO_5 := n0_; have HB := n1_; clear n0_ n1_; (try clear hb); (try clear hb2); (try clear hk); (try clear hi)) | ((with_reducible refine gate_builtin (b := .append) (xs := #[.tmp 65, .tmp 67]) rfl ?_); at_builtin; refine Kd.R_append k34 (w0 := w) w.heap.size rfl (.tmp 65) (.tmp 67) 28 34 (.agg #[(.int .i64 0), (.int .i64 0)]) 16 rfl Try.underlying28 info34 rfl (by decide) (by omega) (.slice Ao63 x5_1.length co63) x5_1 (⟨1, 0⟩ : S34) [.int .i64 1, .int .i64 0] (fun _ => True) (fun _ => False) rfl rfl ?aP (fun _ hk => hk.elim) ?aF ?aO ?aB ?aS ?aL ?_; (case aP => exact k34_mkM _ _ _ (⟨1, 0⟩ : S34)); (case aB => exact (by repeat (first | (with_reducible first | exact HB.out | apply below_alloc | apply pw_below_drewN | apply below_drew1) | exact HB.out))); (case aF => exact (fun _ _ => trivial)); (case aO => exact (by (with_reducible repeat (first | apply Kd.R_alloc | apply Kd.R_drewN | apply Kd.R_drew)); exact HO_5.out)); (case aS => exact (below_size (by repeat (first | (with_reducible first | exact HB.out | apply below_alloc | apply pw_below_drewN | apply below_drew1) | exact HB.out)))); (case aL => have := LMc57.out; omega); intro v150 w65 ho hb hg hat; rw [← Ny149.out] at ho; have n0_ := Aside0.mk (hb); have n1_ := Aside0.mk (ho); clear HB; clear HO_5; have HB := n0_; have HO151 := n1_; clear n0_ n1_; clear ho hb hg hat; obtain ⟨Ao66, co66, eo66⟩ := Kd.R_slice HO151.out; subst eo66) | ((with_reducible refine gate_callee (f := 13) rfl ?_); refine goesL_ (some 69) rfl rfl Try.func13 (by kernel_rfl) rfl #[.slice Ao66 y149.length co66] rfl (by (try simp only [List.map_toArray, List.map_cons, List.map_nil]); first | done | rfl | (simp only [List.length_drop, List.length_take]; rfl)) ?_; (with_reducible refine (bits_Pack.calls k1 _ _ y149 t152 t153 _ ?side1 ?side2 A58.out).mono ?_); (case side1 => repeat (first | exact (Kd.R_reads' HO151.out).2.2 | (with_reducible refine Kd.C_alloc ?_ _) | (with_reducible refine Kd.C_drewN ?_ _) | (with_reducible refine Kd.C_drew ?_))); (case side2 => exact (Kd.R_reads' HO151.out).2.1); rintro e w67 ⟨rfl, hb⟩; refine ⟨_, rfl, ?_⟩; have n0_ := Aside0.mk (Kd.R_below (by (with_reducible repeat (first | apply Kd.R_alloc | apply Kd.R_drewN | apply Kd.R_drew)); exact HO151.out) hb); have n1_ := Aside0.mk (below_step (by repeat (first | (with_reducible first | exact HB.out | apply below_alloc | apply pw_below_drewN | apply below_drew1) | exact HB.out)) hb); clear HO151; clear HB; have HO151 := n0_; have HB := n1_; clear n0_ n1_; (try clear hb); (try clear hb2); (try clear hk); (try clear hi)) | (go_at_call 9; (with_reducible refine (bits_Field.calls 128 7 1 t154 _ A62.out).mono ?_); rintro e w68 ⟨rfl, hb⟩; have n0_ := Aside0.mk (Kd.R_below (by (with_reducible repeat (first | apply Kd.R_alloc | apply Kd.R_drewN | apply Kd.R_drew)); exact HO151.out) hb); have n1_ := Aside0.mk (below_step (by repeat (first | (with_reducible first | exact HB.out | apply below_alloc | apply pw_below_drewN | apply below_drew1) | exact HB.out)) hb); clear HO151; clear HB; have HO151 := n0_; have HB := n1_; clear n0_ n1_; (try clear hb); (try clear hb2); (try clear hk); (try clear hi)))
                      go_ret
                      exact ⟨by first | rfl | (simp [errW_none, errW_some] <;> rfl) | (simp only [← hji3]; first | rfl | (simp [errW_none, errW_some] <;> rfl)) | (simp [*, errW_none, errW_some] <;> rfl), by repeat (first | (with_reducible first | exact HB.out | apply below_alloc | apply pw_below_drewN | apply below_drew1) | exact HB.out)⟩
                    · rw [if_neg c61] at H
                      have c61b0 : (t153 == 5) = false := beq_eq_false_iff_ne.mpr c61
                      have c61b1 : (t153 != 5) = true := bne_iff_ne.mpr c61
                      obtain rfl := Option.some.inj H
                      obtain ⟨Ao69, co69, eo69⟩ := Kd.R_slice HO_5.out
                      subst eo69
                      go_wp2_with (first | ((with_reducible refine gate_callee (f := 13) rfl ?_); refine goesL_ (some 61) rfl rfl Try.func13 (by kernel_rfl) rfl #[.slice Ao69 x5_1.length co69] rfl (by (try simp only [List.map_toArray, List.map_cons, List.map_nil]); first | done | rfl | (simp only [List.length_drop, List.length_take]; rfl)) ?_; (with_reducible refine (bits_Pack.calls k1 _ _ x5_1 t147 t148 _ ?side1 ?side2 A56.out).mono ?_); (case side1 => repeat (first | exact (Kd.R_reads' HO_5.out).2.2 | (with_reducible refine Kd.C_alloc ?_ _) | (with_reducible refine Kd.C_drewN ?_ _) | (with_reducible refine Kd.C_drew ?_))); (case side2 => exact (Kd.R_reads' HO_5.out).2.1); rintro e w70 ⟨rfl, hb⟩; refine ⟨_, rfl, ?_⟩; have n0_ := Aside0.mk (Kd.R_below (by (with_reducible repeat (first | apply Kd.R_alloc | apply Kd.R_drewN | apply Kd.R_drew)); exact HO_5.out) hb); have n1_ := Aside0.mk (below_step (by repeat (first | (with_reducible first | exact HB.out | apply below_alloc | apply pw_below_drewN | apply below_drew1) | exact HB.out)) hb); clear HO_5; clear HB; have HO_5 := n0_; have HB := n1_; clear n0_ n1_; (try clear hb); (try clear hb2); (try clear hk); (try clear hi)) | ((with_reducible refine gate_builtin (b := .append) (xs := #[.tmp 65, .tmp 67]) rfl ?_); at_builtin; refine Kd.R_append k34 (w0 := w) w.heap.size rfl (.tmp 65) (.tmp 67) 28 34 (.agg #[(.int .i64 0), (.int .i64 0)]) 16 rfl Try.underlying28 info34 rfl (by decide) (by omega) (.slice Ao69 x5_1.length co69) x5_1 (⟨1, 0⟩ : S34) [.int .i64 1, .int .i64 0] (fun _ => True) (fun _ => False) rfl rfl ?aP (fun _ hk => hk.elim) ?aF ?aO ?aB ?aS ?aL ?_; (case aP => exact k34_mkM _ _ _ (⟨1, 0⟩ : S34)); (case aB => exact (by repeat (first | (with_reducible first | exact HB.out | apply below_alloc | apply pw_below_drewN | apply below_drew1) | exact HB.out))); (case aF => exact (fun _ _ => trivial)); (case aO => exact (by (with_reducible repeat (first | apply Kd.R_alloc | apply Kd.R_drewN | apply Kd.R_drew)); exact HO_5.out)); (case aS => exact (below_size (by repeat (first | (with_reducible first | exact HB.out | apply below_alloc | apply pw_below_drewN | apply below_drew1) | exact HB.out)))); (case aL => have := LMc57.out; omega); intro v150 w71 ho hb hg hat; rw [← Ny149.out] at ho; have n0_ := Aside0.mk (hb); have n1_ := Aside0.mk (ho); clear HB; clear HO_5; have HB := n0_; have HO151 := n1_; clear n0_ n1_; clear ho hb hg hat; obtain ⟨Ao72, co72, eo72⟩ := Kd.R_slice HO151.out; subst eo72) | ((with_reducible refine gate_callee (f := 13) rfl ?_); refine goesL_ (some 69) rfl rfl Try.func13 (by kernel_rfl) rfl #[.slice Ao72 y149.length co72] rfl (by (try simp only [List.map_toArray, List.map_cons, List.map_nil]); first | done | rfl | (simp only [List.length_drop, List.length_take]; rfl)) ?_; (with_reducible refine (bits_Pack.calls k1 _ _ y149 t152 t153 _ ?side1 ?side2 A58.out).mono ?_); (case side1 => repeat (first | exact (Kd.R_reads' HO151.out).2.2 | (with_reducible refine Kd.C_alloc ?_ _) | (with_reducible refine Kd.C_drewN ?_ _) | (with_reducible refine Kd.C_drew ?_))); (case side2 => exact (Kd.R_reads' HO151.out).2.1); rintro e w73 ⟨rfl, hb⟩; refine ⟨_, rfl, ?_⟩; have n0_ := Aside0.mk (Kd.R_below (by (with_reducible repeat (first | apply Kd.R_alloc | apply Kd.R_drewN | apply Kd.R_drew)); exact HO151.out) hb); have n1_ := Aside0.mk (below_step (by repeat (first | (with_reducible first | exact HB.out | apply below_alloc | apply pw_below_drewN | apply below_drew1) | exact HB.out)) hb); clear HO151; clear HB; have HO151 := n0_; have HB := n1_; clear n0_ n1_; (try clear hb); (try clear hb2); (try clear hk); (try clear hi)))
                      go_ret
                      exact ⟨by first | rfl | (simp [errW_none, errW_some] <;> rfl) | (simp only [← hji3]; first | rfl | (simp [errW_none, errW_some] <;> rfl)) | (simp [*, errW_none, errW_some] <;> rfl), by repeat (first | (with_reducible first | exact HB.out | apply below_alloc | apply pw_below_drewN | apply below_drew1) | exact HB.out)⟩
                  · rw [if_neg c60] at H
                    have c60b0 : (t147 == a0) = false := beq_eq_false_iff_ne.mpr c60
                    have c60b1 : (t147 != a0) = true := bne_iff_ne.mpr c60
                    obtain rfl := Option.some.inj H
                    obtain ⟨Ao74, co74, eo74⟩ := Kd.R_slice HO_5.out
                    subst eo74
                    go_wp2_with (first | ((with_reducible refine gate_callee (f := 13) rfl ?_); refine goesL_ (some 61) rfl rfl Try.func13 (by kernel_rfl) rfl #[.slice Ao74 x5_1.length co74] rfl (by (try simp only [List.map_toArray, List.map_cons, List.map_nil]); first | done | rfl | (simp only [List.length_drop, List.length_take]; rfl)) ?_; (with_reducible refine (bits_Pack.calls k1 _ _ x5_1 t147 t148 _ ?side1 ?side2 A56.out).mono ?_); (case side1 => repeat (first | exact (Kd.R_reads' HO_5.out).2.2 | (with_reducible refine Kd.C_alloc ?_ _) | (with_reducible refine Kd.C_drewN ?_ _) | (with_reducible refine Kd.C_drew ?_))); (case side2 => exact (Kd.R_reads' HO_5.out).2.1); rintro e w75 ⟨rfl, hb⟩; refine ⟨_, rfl, ?_⟩; have n0_ := Aside0.mk (Kd.R_below (by (with_reducible repeat (first | apply Kd.R_alloc | apply Kd.R_drewN | apply Kd.R_drew)); exact HO_5.out) hb); have n1_ := Aside0.mk (below_step (by repeat (first | (with_reducible first | exact HB.out | apply below_alloc | apply pw_below_drewN | apply below_drew1) | exact HB.out)) hb); clear HO_5; clear HB; have HO_5 := n0_; have HB := n1_; clear n0_ n1_; (try clear hb); (try clear hb2); (try clear hk); (try clear hi)) | ((with_reducible refine gate_builtin (b := .append) (xs := #[.tmp 65, .tmp 67]) rfl ?_); at_builtin; refine Kd.R_append k34 (w0 := w) w.heap.size rfl (.tmp 65) (.tmp 67) 28 34 (.agg #[(.int .i64 0), (.int .i64 0)]) 16 rfl Try.underlying28 info34 rfl (by decide) (by omega) (.slice Ao74 x5_1.length co74) x5_1 (⟨1, 0⟩ : S34) [.int .i64 1, .int .i64 0] (fun _ => True) (fun _ => False) rfl rfl ?aP (fun _ hk => hk.elim) ?aF ?aO ?aB ?aS ?aL ?_; (case aP => exact k34_mkM _ _ _ (⟨1, 0⟩ : S34)); (case aB => exact (by repeat (first | (with_reducible first | exact HB.out | apply below_alloc | apply pw_below_drewN | apply below_drew1) | exact HB.out))); (case aF => exact (fun _ _ => trivial)); (case aO => exact (by (with_reducible repeat (first | apply Kd.R_alloc | apply Kd.R_drewN | apply Kd.R_drew)); exact HO_5.out)); (case aS => exact (below_size (by repeat (first | (with_reducible first | exact HB.out | apply below_alloc | apply pw_below_drewN | apply below_drew1) | exact HB.out)))); (case aL => have := LMc57.out; omega); intro v150 w76 ho hb hg hat; rw [← Ny149.out] at ho; have n0_ := Aside0.mk (hb); have n1_ := Aside0.mk (ho); clear HB; clear HO_5; have HB := n0_; have HO151 := n1_; clear n0_ n1_; clear ho hb hg hat; obtain ⟨Ao77, co77, eo77⟩ := Kd.R_slice HO151.out; subst eo77) | ((with_reducible refine gate_callee (f := 13) rfl ?_); refine goesL_ (some 69) rfl rfl Try.func13 (by kernel_rfl) rfl #[.slice Ao77 y149.length co77] rfl (by (try simp only [List.map_toArray, List.map_cons, List.map_nil]); first | done | rfl | (simp only [List.length_drop, List.length_take]; rfl)) ?_; (with_reducible refine (bits_Pack.calls k1 _ _ y149 t152 t153 _ ?side1 ?side2 A58.out).mono ?_); (case side1 => repeat (first | exact (Kd.R_reads' HO151.out).2.2 | (with_reducible refine Kd.C_alloc ?_ _) | (with_reducible refine Kd.C_drewN ?_ _) | (with_reducible refine Kd.C_drew ?_))); (case side2 => exact (Kd.R_reads' HO151.out).2.1); rintro e w78 ⟨rfl, hb⟩; refine ⟨_, rfl, ?_⟩; have n0_ := Aside0.mk (Kd.R_below (by (with_reducible repeat (first | apply Kd.R_alloc | apply Kd.R_drewN | apply Kd.R_drew)); exact HO151.out) hb); have n1_ := Aside0.mk (below_step (by repeat (first | (with_reducible first | exact HB.out | apply below_alloc | apply pw_below_drewN | apply below_drew1) | exact HB.out)) hb); clear HO151; clear HB; have HO151 := n0_; have HB := n1_; clear n0_ n1_; (try clear hb); (try clear hb2); (try clear hk); (try clear hi)))
                    go_ret
                    exact ⟨by first | rfl | (simp [errW_none, errW_some] <;> rfl) | (simp only [← hji3]; first | rfl | (simp [errW_none, errW_some] <;> rfl)) | (simp [*, errW_none, errW_some] <;> rfl), by repeat (first | (with_reducible first | exact HB.out | apply below_alloc | apply pw_below_drewN | apply below_drew1) | exact HB.out)⟩
                · rw [if_neg c59] at H
                  have c59b0 : (t148 == 0) = false := beq_eq_false_iff_ne.mpr c59
                  have c59b1 : (t148 != 0) = true := bne_iff_ne.mpr c59
                  obtain rfl := Option.some.inj H
                  obtain ⟨Ao79, co79, eo79⟩ := Kd.R_slice HO_5.out
                  subst eo79
                  go_wp2_with (first | ((with_reducible refine gate_callee (f := 13) rfl ?_); refine goesL_ (some 61) rfl rfl Try.func13 (by kernel_rfl) rfl #[.slice Ao79 x5_1.length co79] rfl (by (try simp only [List.map_toArray, List.map_cons, List.map_nil]); first | done | rfl | (simp only [List.length_drop, List.length_take]; rfl)) ?_; (with_reducible refine (bits_Pack.calls k1 _ _ x5_1 t147 t148 _ ?side1 ?side2 A56.out).mono ?_); (case side1 => repeat (first | exact (Kd.R_reads' HO_5.out).2.2 | (with_reducible refine Kd.C_alloc ?_ _) | (with_reducible refine Kd.C_drewN ?_ _) | (with_reducible refine Kd.C_drew ?_))); (case side2 => exact (Kd.R_reads' HO_5.out).2.1); rintro e w80 ⟨rfl, hb⟩; refine ⟨_, rfl, ?_⟩; have n0_ := Aside0.mk (Kd.R_below (by (with_reducible repeat (first | apply Kd.R_alloc | apply Kd.R_drewN | apply Kd.R_drew)); exact HO_5.out) hb); have n1_ := Aside0.mk (below_step (by repeat (first | (with_reducible first | exact HB.out | apply below_alloc | apply pw_below_drewN | apply below_drew1) | exact HB.out)) hb); clear HO_5; clear HB; have HO_5 := n0_; have HB := n1_; clear n0_ n1_; (try clear hb); (try clear hb2); (try clear hk); (try clear hi)) | ((with_reducible refine gate_builtin (b := .append) (xs := #[.tmp 65, .tmp 67]) rfl ?_); at_builtin; refine Kd.R_append k34 (w0 := w) w.heap.size rfl (.tmp 65) (.tmp 67) 28 34 (.agg #[(.int .i64 0), (.int .i64 0)]) 16 rfl Try.underlying28 info34 rfl (by decide) (by omega) (.slice Ao79 x5_1.length co79) x5_1 (⟨1, 0⟩ : S34) [.int .i64 1, .int .i64 0] (fun _ => True) (fun _ => False) rfl rfl ?aP (fun _ hk => hk.elim) ?aF ?aO ?aB ?aS ?aL ?_; (case aP => exact k34_mkM _ _ _ (⟨1, 0⟩ : S34)); (case aB => exact (by repeat (first | (with_reducible first | exact HB.out | apply below_alloc | apply pw_below_drewN | apply below_drew1) | exact HB.out))); (case aF => exact (fun _ _ => trivial)); (case aO => exact (by (with_reducible repeat (first | apply Kd.R_alloc | apply Kd.R_drewN | apply Kd.R_drew)); exact HO_5.out)); (case aS => exact (below_size (by repeat (first | (with_reducible first | exact HB.out | apply below_alloc | apply pw_below_drewN | apply below_drew1) | exact HB.out)))); (case aL => have := LMc57.out; omega); intro v150 w81 ho hb hg hat; rw [← Ny149.out] at ho; have n0_ := Aside0.mk (hb); have n1_ := Aside0.mk (ho); clear HB; clear HO_5; have HB := n0_; have HO151 := n1_; clear n0_ n1_; clear ho hb hg hat; obtain ⟨Ao82, co82, eo82⟩ := Kd.R_slice HO151.out; subst eo82) | ((with_reducible refine gate_callee (f := 13) rfl ?_); refine goesL_ (some 69) rfl rfl Try.func13 (by kernel_rfl) rfl #[.slice Ao82 y149.length co82] rfl (by (try simp only [List.map_toArray, List.map_cons, List.map_nil]); first | done | rfl | (simp only [List.length_drop, List.length_take]; rfl)) ?_; (with_reducible refine (bits_Pack.calls k1 _ _ y149 t152 t153 _ ?side1 ?side2 A58.out).mono ?_); (case side1 => repeat (first | exact (Kd.R_reads' HO151.out).2.2 | (with_reducible refine Kd.C_alloc ?_ _) | (with_reducible refine Kd.C_drewN ?_ _) | (with_reducible refine Kd.C_drew ?_))); (case side2 => exact (Kd.R_reads' HO151.out).2.1); rintro e w83 ⟨rfl, hb⟩; refine ⟨_, rfl, ?_⟩; have n0_ := Aside0.mk (Kd.R_below (by (with_reducible repeat (first | apply Kd.R_alloc | apply Kd.R_drewN | apply Kd.R_drew)); exact HO151.out) hb); have n1_ := Aside0.mk (below_step (by repeat (first | (with_reducible first | exact HB.out | apply below_alloc | apply pw_below_drewN | apply below_drew1) | exact HB.out)) hb); clear HO151; clear HB; have HO151 := n0_; have HB := n1_; clear n0_ n1_; (try clear hb); (try clear hb2); (try clear hk); (try clear hi)))
                  go_ret
                  exact ⟨by first | rfl | (simp [errW_none, errW_some] <;> rfl) | (simp only [← hji3]; first | rfl | (simp [errW_none, errW_some] <;> rfl)) | (simp [*, errW_none, errW_some] <;> rfl), by repeat (first | (with_reducible first | exact HB.out | apply below_alloc | apply pw_below_drewN | apply below_drew1) | exact HB.out)⟩
              · rw [if_neg c57] at H
                exact absurd H (by simp)
    · rw [if_neg c5] at H
      exact absurd H (by simp)
  · rw [if_neg c4] at H
    exact absurd H (by simp)

/-- THE ONE PURE STATEMENT of lapwinglaw01_BitsParts: yours. -/
def lapwinglaw01_BitsParts.Pure : Prop := ∀ (a0 : Int) (l1 : List Int), (Lit.int .u8 a0).wf = true → l1.length ≤ maxLen → l1.length * 8 ≤ 140737488351232 → (∀ x ∈ l1, (Lit.int .i64 x).wf = true) → ∃ k, lapwinglaw01_BitsParts.f k a0 l1 = some true
theorem lapwinglaw01_BitsParts.walk (P : lapwinglaw01_BitsParts.Pure) (a0 : Int) (a1 : Option Addr) (len1 cap1 : Nat) (z1 : List Int) (w : World) (w0 : (Lit.int .u8 a0).wf = true) (w1 : (a1 = none ∧ len1 = 0 ∧ cap1 = 0 ∧ z1 = []) ∨ ∃ x, a1 = some x ∧ len1 ≤ cap1 ∧ cap1 ≤ maxLen ∧ z1.length = cap1 ∧ (∀ i, i < z1.length → w.cell? (x.add i) = some (.int .i64 (z1.getD i 0))) ∧ ∀ n ∈ z1, (Lit.int .i64 n).wf = true) (y1 : len1 * 8 ≤ 140737488351232) :
    Calls Try.prog 6 #[.int .u8 a0, .slice a1 len1 cap1] w fun e w' => e = .returned (.bool true) ∧ Below w.heap.size w w' := by
  obtain ⟨l1, rfl, hr1, hm1, hw1, hc1⟩ := ReadsInt.ofRowC w1
  obtain ⟨k, h⟩ := P a0 l1 w0 hm1 y1 hw1
  refine (lapwinglaw01_BitsParts.calls k a0 _ _ l1 true w (Kd.C_of_reads (d := (0 : Int)) (h1 := fun _ => rfl) hr1) hc1 h).mono ?_
  rintro e w' ⟨rfl, hd⟩
  exact ⟨rfl, hd⟩

end Go.Proofs.Ytjgcoidfkpjeiaa.Print
