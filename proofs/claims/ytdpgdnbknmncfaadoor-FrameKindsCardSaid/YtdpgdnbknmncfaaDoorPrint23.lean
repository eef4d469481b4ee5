-- Written by a program of this session's, over the kit's printer turned by wip/tools/mkprint.py. Lean checks it.
import Derived.Test.YtdpgdnbknmncfaaDoorPrint0
import Derived.Test.YtdpgdnbknmncfaaDoorPrint1
import Derived.Test.YtdpgdnbknmncfaaDoorPrint2
import Derived.Test.YtdpgdnbknmncfaaDoorPrint5
import Derived.Test.YtdpgdnbknmncfaaDoorPrint17
namespace Go.Proofs.YtdpgdnbknmncfaaDoor.Print
open Go.RowKit Go.Proofs.YtdpgdnbknmncfaaDoorW.PrintWords Go.Proofs.YtdpgdnbknmncfaaDoorW.PrintLast Go.Proofs.YtdpgdnbknmncfaaDoorW.PrintMore
attribute [local go_sem] max2_int min2_int max_two min_two max_three min_three max_four min_four   -- for this text's walks alone
set_option linter.unusedVariables false
set_option linter.unusedSimpArgs false
attribute [local go_sem high] YtdpgdnbknmncfaaDoorX.unary_xor_u16 YtdpgdnbknmncfaaDoorX.unary_xor_u8

attribute [local go_sem high] eqA33
/-! ### lapwinglaw06_FrameKinds: function 8 -/
mutual
def lapwinglaw06_FrameKinds.l0 : Nat → Int → Bool → Int → Option (Bool)
 | 0, _, _, _ => none
 | k + 1, x0, x1, x5 => if x5 < 10 then ((some (([false, true] : List Bool) : List Bool)).bind fun y439 => (lapwinglaw06_FrameKinds.l1 k x0 x1 x5 y439 (y439.length : Int) 0)) else ((lapwinglaw06_wakes.f k).bind fun t438 => (some t438))
def lapwinglaw06_FrameKinds.l1 : Nat → Int → Bool → Int → List Bool → Int → Int → Option (Bool)
 | 0, _, _, _, _, _, _ => none
 | k + 1, x0, x1, x5, x21, x22, x23 => if x23 < x22 then (if 0 ≤ x23 then (if x23 < (x21.length : Int) then (if 0 ≤ x0 then (if (x0 : Int).toNat ≤ 281474976710656 then ((some (List.replicate (x0 : Int).toNat 0 : List Int)).bind fun y443 => ((frame_Put.f k 0 64 (rdOf false x21 x23) x5 false 0 0 (strOfNums y443) x1).bind fun bt447 => ((frame_May.f x5 (rdOf false x21 x23)).bind fun t449 => (if t449 = true then ((frame_Carries.f k x5 x0).bind fun t450 => (lapwinglaw06_FrameKinds.j2 k x0 x1 x5 bt447.1 bt447.2 t450 x21 x22 x23 0 64 (rdOf false x21 x23) x5 false 0 0 (strOfNums y443))) else (lapwinglaw06_FrameKinds.j2 k x0 x1 x5 bt447.1 bt447.2 false x21 x22 x23 0 64 (rdOf false x21 x23) x5 false 0 0 (strOfNums y443)))))) else (none)) else (none)) else (none)) else (none)) else (lapwinglaw06_FrameKinds.l0 k x0 x1 (wrap64 (x5 + 1)))
def lapwinglaw06_FrameKinds.j2 : Nat → Int → Bool → Int → ByteArray → Int → Bool → List Bool → Int → Int → Int → Int → Bool → Int → Bool → Int → Int → ByteArray → Option (Bool)
 | 0, _, _, _, _, _, _, _, _, _, _, _, _, _, _, _, _, _ => none
 | k + 1, x0, x1, x5, x9, x10, x11, x21, x22, x23, x447000, x447001, x447002, x447003, x447004, x447005, x447006, x447007 => if ((x10 == 0) != x11) = true then (lapwinglaw06_FrameKinds.j3 k x0 x1 x5 x9 x11 x21 x22 x23 true x447000 x447001 x447002 x447003 x447004 x447005 x447006 x447007) else (if x11 = true then (lapwinglaw06_FrameKinds.j3 k x0 x1 x5 x9 x11 x21 x22 x23 (decide ((x9.size : Int) < (wrap64 (x0 + 5)))) x447000 x447001 x447002 x447003 x447004 x447005 x447006 x447007) else (lapwinglaw06_FrameKinds.j3 k x0 x1 x5 x9 x11 x21 x22 x23 false x447000 x447001 x447002 x447003 x447004 x447005 x447006 x447007))
def lapwinglaw06_FrameKinds.j3 : Nat → Int → Bool → Int → ByteArray → Bool → List Bool → Int → Int → Bool → Int → Int → Bool → Int → Bool → Int → Int → ByteArray → Option (Bool)
 | 0, _, _, _, _, _, _, _, _, _, _, _, _, _, _, _, _, _ => none
 | k + 1, x0, x1, x5, x9, x11, x21, x22, x23, x61, x447000, x447001, x447002, x447003, x447004, x447005, x447006, x447007 => if x61 = true then (some false) else ((frame_Get.f k x9 x1).bind fun bt451 => (if x11 = true then (if bt451.2.2.2.2.2.2.2.2 = 0 then (if ((!(bt451.1 == x447000) || (!(bt451.2.1 == x447001))) || (!(bt451.2.2.1 == x447002) || (!(bt451.2.2.2.1 == x447003) || (!(bt451.2.2.2.2.1 == x447004) || (!(bt451.2.2.2.2.2.1 == x447005) || (!(bt451.2.2.2.2.2.2.1 == x447006) || (!(bt451.2.2.2.2.2.2.2.1.toList == x447007.toList)))))))) = true then (some false) else (lapwinglaw06_FrameKinds.l1 k x0 x1 x5 x21 x22 (wrap64 (x23 + 1)))) else (some false)) else (lapwinglaw06_FrameKinds.l1 k x0 x1 x5 x21 x22 (wrap64 (x23 + 1)))))
end
def lapwinglaw06_FrameKinds.f (k : Nat) (a0 : Int) (a1 : Bool) : Option (Bool) := lapwinglaw06_FrameKinds.l0 k ((mx 0 a0) % 300) a1 0
theorem lapwinglaw06_FrameKinds.mono_l : ∀ k, (∀ y0 y1 y2, LeO (lapwinglaw06_FrameKinds.l0 k y0 y1 y2) (lapwinglaw06_FrameKinds.l0 (k + 1) y0 y1 y2)) ∧ (∀ y0 y1 y2 y3 y4 y5, LeO (lapwinglaw06_FrameKinds.l1 k y0 y1 y2 y3 y4 y5) (lapwinglaw06_FrameKinds.l1 (k + 1) y0 y1 y2 y3 y4 y5)) ∧ (∀ y0 y1 y2 y3 y4 y5 y6 y7 y8 y9 y10 y11 y12 y13 y14 y15 y16, LeO (lapwinglaw06_FrameKinds.j2 k y0 y1 y2 y3 y4 y5 y6 y7 y8 y9 y10 y11 y12 y13 y14 y15 y16) (lapwinglaw06_FrameKinds.j2 (k + 1) y0 y1 y2 y3 y4 y5 y6 y7 y8 y9 y10 y11 y12 y13 y14 y15 y16)) ∧ (∀ y0 y1 y2 y3 y4 y5 y6 y7 y8 y9 y10 y11 y12 y13 y14 y15 y16, LeO (lapwinglaw06_FrameKinds.j3 k y0 y1 y2 y3 y4 y5 y6 y7 y8 y9 y10 y11 y12 y13 y14 y15 y16) (lapwinglaw06_FrameKinds.j3 (k + 1) y0 y1 y2 y3 y4 y5 y6 y7 y8 y9 y10 y11 y12 y13 y14 y15 y16))
 | 0 => ⟨fun _ _ _ r h => by simp [lapwinglaw06_FrameKinds.l0] at h, fun _ _ _ _ _ _ r h => by simp [lapwinglaw06_FrameKinds.l1] at h, fun _ _ _ _ _ _ _ _ _ _ _ _ _ _ _ _ _ r h => by simp [lapwinglaw06_FrameKinds.j2] at h, fun _ _ _ _ _ _ _ _ _ _ _ _ _ _ _ _ _ r h => by simp [lapwinglaw06_FrameKinds.j3] at h⟩
 | k + 1 => by
  obtain ⟨ih0, ih1, ih2, ih3⟩ := lapwinglaw06_FrameKinds.mono_l k
  refine ⟨?_, ?_, ?_, ?_⟩
  ·intro y0 y1 y2
   unfold lapwinglaw06_FrameKinds.l0
   repeat' first
   | (with_reducible exact ih0 _ _ _)
   | (with_reducible exact ih1 _ _ _ _ _ _)
   | (with_reducible exact ih2 _ _ _ _ _ _ _ _ _ _ _ _ _ _ _ _ _)
   | (with_reducible exact ih3 _ _ _ _ _ _ _ _ _ _ _ _ _ _ _ _ _)
   | (with_reducible exact frame_Carries.mono _ _ _)
   | (with_reducible exact frame_Get.mono _ _ _)
   | (with_reducible exact frame_Put.mono _ _ _ _ _ _ _ _ _ _)
   | (with_reducible exact lapwinglaw06_wakes.mono _)
   | (with_reducible exact LeO.refl _)
   | (with_reducible exact LeO.none _)
   | (with_reducible refine LeO.ite ?_ ?_)
   | (with_reducible refine LeO.bind ?_ (fun _ => ?_))
   | exact ih0 _ _ _
   | exact ih1 _ _ _ _ _ _
   | exact ih2 _ _ _ _ _ _ _ _ _ _ _ _ _ _ _ _ _
   | exact ih3 _ _ _ _ _ _ _ _ _ _ _ _ _ _ _ _ _
   | exact frame_Carries.mono _ _ _
   | exact frame_Get.mono _ _ _
   | exact frame_Put.mono _ _ _ _ _ _ _ _ _ _
   | exact lapwinglaw06_wakes.mono _
   | exact LeO.none _
   | refine LeO.ite ?_ ?_
   | refine LeO.bind ?_ (fun _ => ?_)
  ·intro y0 y1 y2 y3 y4 y5
   unfold lapwinglaw06_FrameKinds.l1
   repeat' first
   | (with_reducible exact ih0 _ _ _)
   | (with_reducible exact ih1 _ _ _ _ _ _)
   | (with_reducible exact ih2 _ _ _ _ _ _ _ _ _ _ _ _ _ _ _ _ _)
   | (with_reducible exact ih3 _ _ _ _ _ _ _ _ _ _ _ _ _ _ _ _ _)
   | (with_reducible exact frame_Carries.mono _ _ _)
   | (with_reducible exact frame_Get.mono _ _ _)
   | (with_reducible exact frame_Put.mono _ _ _ _ _ _ _ _ _ _)
   | (with_reducible exact lapwinglaw06_wakes.mono _)
   | (with_reducible exact LeO.refl _)
   | (with_reducible exact LeO.none _)
   | (with_reducible refine LeO.ite ?_ ?_)
   | (with_reducible refine LeO.bind ?_ (fun _ => ?_))
   | exact ih0 _ _ _
   | exact ih1 _ _ _ _ _ _
   | exact ih2 _ _ _ _ _ _ _ _ _ _ _ _ _ _ _ _ _
   | exact ih3 _ _ _ _ _ _ _ _ _ _ _ _ _ _ _ _ _
   | exact frame_Carries.mono _ _ _
   | exact frame_Get.mono _ _ _
   | exact frame_Put.mono _ _ _ _ _ _ _ _ _ _
   | exact lapwinglaw06_wakes.mono _
   | exact LeO.none _
   | refine LeO.ite ?_ ?_
   | refine LeO.bind ?_ (fun _ => ?_)
  ·intro y0 y1 y2 y3 y4 y5 y6 y7 y8 y9 y10 y11 y12 y13 y14 y15 y16
   unfold lapwinglaw06_FrameKinds.j2
   repeat' first
   | (with_reducible exact ih0 _ _ _)
   | (with_reducible exact ih1 _ _ _ _ _ _)
   | (with_reducible exact ih2 _ _ _ _ _ _ _ _ _ _ _ _ _ _ _ _ _)
   | (with_reducible exact ih3 _ _ _ _ _ _ _ _ _ _ _ _ _ _ _ _ _)
   | (with_reducible exact frame_Carries.mono _ _ _)
   | (with_reducible exact frame_Get.mono _ _ _)
   | (with_reducible exact frame_Put.mono _ _ _ _ _ _ _ _ _ _)
   | (with_reducible exact lapwinglaw06_wakes.mono _)
   | (with_reducible exact LeO.refl _)
   | (with_reducible exact LeO.none _)
   | (with_reducible refine LeO.ite ?_ ?_)
   | (with_reducible refine LeO.bind ?_ (fun _ => ?_))
   | exact ih0 _ _ _
   | exact ih1 _ _ _ _ _ _
   | exact ih2 _ _ _ _ _ _ _ _ _ _ _ _ _ _ _ _ _
   | exact ih3 _ _ _ _ _ _ _ _ _ _ _ _ _ _ _ _ _
   | exact frame_Carries.mono _ _ _
   | exact frame_Get.mono _ _ _
   | exact frame_Put.mono _ _ _ _ _ _ _ _ _ _
   | exact lapwinglaw06_wakes.mono _
   | exact LeO.none _
   | refine LeO.ite ?_ ?_
   | refine LeO.bind ?_ (fun _ => ?_)
  ·intro y0 y1 y2 y3 y4 y5 y6 y7 y8 y9 y10 y11 y12 y13 y14 y15 y16
   unfold lapwinglaw06_FrameKinds.j3
   repeat' first
   | (with_reducible exact ih0 _ _ _)
   | (with_reducible exact ih1 _ _ _ _ _ _)
   | (with_reducible exact ih2 _ _ _ _ _ _ _ _ _ _ _ _ _ _ _ _ _)
   | (with_reducible exact ih3 _ _ _ _ _ _ _ _ _ _ _ _ _ _ _ _ _)
   | (with_reducible exact frame_Carries.mono _ _ _)
   | (with_reducible exact frame_Get.mono _ _ _)
   | (with_reducible exact frame_Put.mono _ _ _ _ _ _ _ _ _ _)
   | (with_reducible exact lapwinglaw06_wakes.mono _)
   | (with_reducible exact LeO.refl _)
   | (with_reducible exact LeO.none _)
   | (with_reducible refine LeO.ite ?_ ?_)
   | (with_reducible refine LeO.bind ?_ (fun _ => ?_))
   | exact ih0 _ _ _
   | exact ih1 _ _ _ _ _ _
   | exact ih2 _ _ _ _ _ _ _ _ _ _ _ _ _ _ _ _ _
   | exact ih3 _ _ _ _ _ _ _ _ _ _ _ _ _ _ _ _ _
   | exact frame_Carries.mono _ _ _
   | exact frame_Get.mono _ _ _
   | exact frame_Put.mono _ _ _ _ _ _ _ _ _ _
   | exact lapwinglaw06_wakes.mono _
   | exact LeO.none _
   | refine LeO.ite ?_ ?_
   | refine LeO.bind ?_ (fun _ => ?_)
theorem lapwinglaw06_FrameKinds.mono : ∀ a0 a1 k, LeO (lapwinglaw06_FrameKinds.f k a0 a1) (lapwinglaw06_FrameKinds.f (k + 1) a0 a1) := by
 intro a0 a1 k
 obtain ⟨ih0, ih1, ih2, ih3⟩ := lapwinglaw06_FrameKinds.mono_l k
 unfold lapwinglaw06_FrameKinds.f
 repeat' first
   | (with_reducible exact ih0 _ _ _)
   | (with_reducible exact ih1 _ _ _ _ _ _)
   | (with_reducible exact ih2 _ _ _ _ _ _ _ _ _ _ _ _ _ _ _ _ _)
   | (with_reducible exact ih3 _ _ _ _ _ _ _ _ _ _ _ _ _ _ _ _ _)
   | (with_reducible exact frame_Carries.mono _ _ _)
   | (with_reducible exact frame_Get.mono _ _ _)
   | (with_reducible exact frame_Put.mono _ _ _ _ _ _ _ _ _ _)
   | (with_reducible exact lapwinglaw06_wakes.mono _)
   | (with_reducible exact LeO.refl _)
   | (with_reducible exact LeO.none _)
   | (with_reducible refine LeO.ite ?_ ?_)
   | (with_reducible refine LeO.bind ?_ (fun _ => ?_))
   | exact ih0 _ _ _
   | exact ih1 _ _ _ _ _ _
   | exact ih2 _ _ _ _ _ _ _ _ _ _ _ _ _ _ _ _ _
   | exact ih3 _ _ _ _ _ _ _ _ _ _ _ _ _ _ _ _ _
   | exact frame_Carries.mono _ _ _
   | exact frame_Get.mono _ _ _
   | exact frame_Put.mono _ _ _ _ _ _ _ _ _ _
   | exact lapwinglaw06_wakes.mono _
   | exact LeO.none _
   | refine LeO.ite ?_ ?_
   | refine LeO.bind ?_ (fun _ => ?_)
set_option maxHeartbeats 8000000 in
set_option maxRecDepth 100000 in
theorem lapwinglaw06_FrameKinds.calls (k : Nat) (a0 : Int) (a1 : Bool) (r : Bool) (w : World) (hL : YtdpgdnbknmncfaaDoorX.Laid w) (h : lapwinglaw06_FrameKinds.f k a0 a1 = some r) :
  Calls Tryd.prog 8 #[.int .i64 a0, .bool a1] w fun e w' => e = .returned (.bool r) ∧ Below w.heap.size w w' := by
 have hu31 := Tryd.underlying31
 have hu33 := Tryd.underlying33
 have HL := Aside0.mk hL
 have HGfirst := Aside0.mk (YtdpgdnbknmncfaaDoorX.Laid_HGfirst hL)
 have HGfirst1 := Aside0.mk (YtdpgdnbknmncfaaDoorX.Laid_HGfirst1 hL)
 have HGnames := Aside0.mk (YtdpgdnbknmncfaaDoorX.Laid_HGnames hL)
 have HCfirst := Aside0.mk (show YtdpgdnbknmncfaaDoorX.glFirst.length ≤ 10 by decide)
 have HCfirst1 := Aside0.mk (show YtdpgdnbknmncfaaDoorX.glFirst1.length ≤ 9 by decide)
 have HCnames := Aside0.mk (show YtdpgdnbknmncfaaDoorX.glNames.length ≤ 10 by decide)
 clear hL
 have HB := Aside0.mk (Below.refl w.heap.size w)
 have H : (lapwinglaw06_FrameKinds.l0 k ((mx 0 a0) % 300) a1 0) = some r := h
 clear h
 obtain ⟨ji3, hji3⟩ : ∃ j_ : Int, (mx 0 a0) = j_ := ⟨_, rfl⟩
 replace H : (lapwinglaw06_FrameKinds.l0 k ((ji3) % 300) a1 0) = some r := by first | (rw [hji3] at H; exact H) | (simp only [hji3] at H ⊢; exact H)
 (try (have hji3l : 0 ≤ ji3 := by (rw [← hji3]; unfold mx; (repeat' split) <;> omega)))
 (try (have hji3m : 0 ≤ ji3 := by omega))
 have hji3_ : (if 0 < a0 then a0 else 0) = ji3 := hji3
 (try (have hji3_n := hji3_; simp only [Int.ofNat_lt] at hji3_n))
 have H' := Aside0.mk H
 clear H
 go_enter Tryd.func8, Tryd.ntmps8
 go_wp2
 go_loopg [5] k (fun kq v5 w' => ∃ (x5_1 : Int), v5 = .int .i64 x5_1 ∧ Aside0 (lapwinglaw06_FrameKinds.l0 kq ((ji3) % 300) a1 x5_1 = some r) ∧ Aside0 (kq ≤ k) ∧ Aside0 (Below w.heap.size w w'))
 case atStart => exact ⟨(0), (by first | rfl | (simp; done) | (simp [*]; done)), H', ⟨Nat.le_refl _⟩, ⟨by repeat (first | (with_reducible first | exact HB.out | apply below_alloc | apply pw_below_drewN | apply below_drew1) | exact HB.out)⟩⟩
 case round =>
  clear H'
  try clear p2
  obtain ⟨x5_1, rfl, HA, HK1, HB⟩ := hrel
  cases gk with
  | zero => exact absurd HA.out (by simp [lapwinglaw06_FrameKinds.l0])
  | succ k1 =>
   have H := HA.out
   clear HA
   simp only [lapwinglaw06_FrameKinds.l0] at H
   by_cases c4 : x5_1 < 10
   ·rw [if_pos c4] at H
    have c4b0 : decide (x5_1 < 10) = true := decide_eq_true c4
    clear c4
    obtain ⟨y439, hy439⟩ : ∃ y_ : List Bool, y_ = (([false, true] : List Bool)) := ⟨_, rfl⟩
    replace H : (lapwinglaw06_FrameKinds.l1 k1 ((ji3) % 300) a1 x5_1 y439 (y439.length : Int) 0) = some r := by first | (rw [hy439]; with_reducible exact H) | (have H2_ := (Option.bind_some _ _).symm.trans H; rw [hy439]; with_reducible exact H2_) | (have H2_ := (Option.bind_some _ _).symm.trans H; with_reducible exact H2_) | with_reducible exact H | (rw [hy439]; exact H) | exact H
    have Ny439 := Aside0.mk hy439
    clear hy439
    have H' := Aside0.mk H
    clear H
    go_wp2_with (first | ((with_reducible refine gate_dst (N := 21) rfl ?_); (try (refine gate_guard (by rfl) ?_; dsimp only)); refine Kd.R_lit Kd.bool _ 4 ?hg (N := 21) ?hd (xs := ([false, true] : List Bool)) (inner := [.bool false, .bool true]) (ok := fun _ => True) (okp := fun _ => True) ?hr ?hp (fun _ hk => hk) trivial (Below.refl _ _) (Nat.le_refl _) (by simp) ?_; (case hd => rfl); (case hg => rfl); (case hr => first | (go_simp; done) | (go_simp; rfl)); (case hp => exact (Reps.one (show Kd.M Kd.bool _ _ _ false [.bool false] from rfl) (Reps.one (show Kd.M Kd.bool _ _ _ true [.bool true] from rfl) (Reps.none _ _)))); intro v440 w5 ho6 hb hg_ hnew_; clear hg_ hnew_; (first | rw [← Ny439.out] at ho6 | (simp only [Int.reduceToNat] at ho6; rw [← Ny439.out] at ho6)); have n0_ := Aside0.mk (Kd.R_lower ho6 (below_size (by repeat (first | (with_reducible first | exact HB.out | apply below_alloc | apply pw_below_drewN | apply below_drew1) | exact HB.out)))); have n1_ := Aside0.mk (below_step (by repeat (first | (with_reducible first | exact HB.out | apply below_alloc | apply pw_below_drewN | apply below_drew1) | exact HB.out)) hb); clear HB; have HO441 := n0_; have HB := n1_; clear n0_ n1_; clear hb ho6; obtain ⟨Ao7, co7, eo7⟩ := Kd.R_slice HO441.out; subst eo7))
    go_loopg [23] k1 (fun kq v23 w' => ∃ (x23_2 : Int), v23 = .int .i64 x23_2 ∧ Aside0 (lapwinglaw06_FrameKinds.l1 kq ((ji3) % 300) a1 x5_1 y439 (y439.length : Int) x23_2 = some r) ∧ Aside0 (kq ≤ k1) ∧ Aside0 (Kd.R Kd.bool 4 w' w.heap.size (fun _ => True) (.slice Ao7 y439.length co7) y439) ∧ Aside0 (Below w.heap.size w w'))
    case atStart => exact ⟨(0), (by first | rfl | (simp; done) | (simp [*]; done)), H', ⟨Nat.le_refl _⟩, ⟨by (with_reducible repeat (first | apply Kd.R_alloc | apply Kd.R_drewN | apply Kd.R_drew)); exact HO441.out⟩, ⟨by repeat (first | (with_reducible first | exact HB.out | apply below_alloc | apply pw_below_drewN | apply below_drew1) | exact HB.out)⟩⟩
    case round =>
     clear H'
     try clear p2
     try clear c4
     try clear c4b0
     try clear p2
     obtain ⟨x23_2, rfl, HA, HK2, HO_21, HB⟩ := hrel
     cases gk with
     | zero => exact absurd HA.out (by simp [lapwinglaw06_FrameKinds.l1])
     | succ k2 =>
      have H := HA.out
      clear HA
      simp only [lapwinglaw06_FrameKinds.l1] at H
      by_cases c8 : x23_2 < (y439.length : Int)
      ·rw [if_pos c8] at H
       have c8b0 : decide (x23_2 < (y439.length : Int)) = true := decide_eq_true c8
       clear c8
       by_cases c9 : 0 ≤ x23_2
       ·rw [if_pos c9] at H
        have c9b0 : decide (0 ≤ x23_2) = true := decide_eq_true c9
        clear c9
        by_cases c10 : x23_2 < (y439.length : Int)
        ·rw [if_pos c10] at H
         have c10b0 : decide (x23_2 < (y439.length : Int)) = true := decide_eq_true c10
         clear c10
         have hji11 : ((ji3) % 300) = ((ji3) % 300) := rfl
         replace H : (if 0 ≤ (((ji3) % 300)) then (if ((((ji3) % 300)) : Int).toNat ≤ 281474976710656 then ((some (List.replicate ((((ji3) % 300)) : Int).toNat 0 : List Int)).bind fun y443 => ((frame_Put.f k2 0 64 (rdOf false y439 x23_2) x5_1 false 0 0 (strOfNums y443) a1).bind fun bt447 => ((frame_May.f x5_1 (rdOf false y439 x23_2)).bind fun t449 => (if t449 = true then ((frame_Carries.f k2 x5_1 (((ji3) % 300))).bind fun t450 => (lapwinglaw06_FrameKinds.j2 k2 (((ji3) % 300)) a1 x5_1 bt447.1 bt447.2 t450 y439 (y439.length : Int) x23_2 0 64 (rdOf false y439 x23_2) x5_1 false 0 0 (strOfNums y443))) else (lapwinglaw06_FrameKinds.j2 k2 (((ji3) % 300)) a1 x5_1 bt447.1 bt447.2 false y439 (y439.length : Int) x23_2 0 64 (rdOf false y439 x23_2) x5_1 false 0 0 (strOfNums y443)))))) else (none)) else (none)) = some r := by first | (rw [hji11] at H; exact H) | (simp only [hji11] at H ⊢; exact H)
         by_cases c12 : 0 ≤ (((ji3) % 300))
         ·rw [if_pos c12] at H
          have c12b0 := eq_true c12
          have c12b1 : decide (0 ≤ (((ji3) % 300))) = true := decide_eq_true c12
          clear c12
          by_cases c13 : ((((ji3) % 300)) : Int).toNat ≤ 281474976710656
          ·rw [if_pos c13] at H
           have c13b0 := eq_true c13
           have c13b1 : decide (((((ji3) % 300)) : Int).toNat ≤ 281474976710656) = true := decide_eq_true c13
           clear c13
           obtain ⟨y443, hy443⟩ : ∃ y_ : List Int, y_ = (List.replicate ((((ji3) % 300)) : Int).toNat 0) := ⟨_, rfl⟩
           replace H : ((frame_Put.f k2 0 64 (rdOf false y439 x23_2) x5_1 false 0 0 (strOfNums y443) a1).bind fun bt447 => ((frame_May.f x5_1 (rdOf false y439 x23_2)).bind fun t449 => (if t449 = true then ((frame_Carries.f k2 x5_1 (((ji3) % 300))).bind fun t450 => (lapwinglaw06_FrameKinds.j2 k2 (((ji3) % 300)) a1 x5_1 bt447.1 bt447.2 t450 y439 (y439.length : Int) x23_2 0 64 (rdOf false y439 x23_2) x5_1 false 0 0 (strOfNums y443))) else (lapwinglaw06_FrameKinds.j2 k2 (((ji3) % 300)) a1 x5_1 bt447.1 bt447.2 false y439 (y439.length : Int) x23_2 0 64 (rdOf false y439 x23_2) x5_1 false 0 0 (strOfNums y443))))) = some r := by first | (rw [hy443]; with_reducible exact H) | (have H2_ := (Option.bind_some _ _).symm.trans H; rw [hy443]; with_reducible exact H2_) | (have H2_ := (Option.bind_some _ _).symm.trans H; with_reducible exact H2_) | with_reducible exact H | (rw [hy443]; exact H) | exact H
           have Ny443 := Aside0.mk hy443
           clear hy443
           replace H := Option.bind_eq_some_iff.mp H
           obtain ⟨⟨t447, t448⟩, A140, H⟩ := H
           replace H : ((frame_May.f x5_1 (rdOf false y439 x23_2)).bind fun t449 => (if t449 = true then ((frame_Carries.f k2 x5_1 (((ji3) % 300))).bind fun t450 => (lapwinglaw06_FrameKinds.j2 k2 (((ji3) % 300)) a1 x5_1 t447 t448 t450 y439 (y439.length : Int) x23_2 0 64 (rdOf false y439 x23_2) x5_1 false 0 0 (strOfNums y443))) else (lapwinglaw06_FrameKinds.j2 k2 (((ji3) % 300)) a1 x5_1 t447 t448 false y439 (y439.length : Int) x23_2 0 64 (rdOf false y439 x23_2) x5_1 false 0 0 (strOfNums y443)))) = some r := H
           have A14 := Aside0.mk A140
           clear A140
           have HC15 := Aside0.mk H
           clear H
           have p442 : 0 ≤ (x23_2 : Int) := of_decide_eq_true (by first | (with_reducible assumption) | assumption)
           have q442 : x23_2 < (y439.length : Int) := of_decide_eq_true (by first | (with_reducible assumption) | assumption)
           obtain ⟨ad442, e442, hx442_0⟩ := Kd.at_bool (Kd.R_reads' HO_21.out).2.2 x23_2 p442 q442
           cases e442
           replace p442 := eq_true p442
           replace q442 := eq_true q442
           go_upto_region 10 with (first | ((with_reducible refine gate_dst (N := 31) rfl ?_); (try (refine gate_guard (by rfl) ?_; dsimp only)); refine Kd.R_make (Kd.int .u8) _ 5 rfl (N := 31) rfl 52 _ _ rfl (((ji3) % 300)) rfl rfl Tryd.underlying52 (.int .u8 0) 1 info5 rfl (by decide) (by omega) 0 (ok := fun _ => True) (okp := fun _ => True) rfl (fun _ hk => hk) trivial (of_decide_eq_true (by first | (with_reducible assumption) | assumption)) (Nat.le_trans (Nat.mul_le_mul_right _ (of_decide_eq_true (by first | (with_reducible assumption) | assumption) : (((ji3) % 300)).toNat ≤ 281474976710656)) (by omega)) (Below.refl _ _) (Nat.le_refl _) ?_; intro v444 w16 ho17 hb hg_ hnew_; clear hg_ hnew_; (first | rw [← Ny443.out] at ho17 | (simp only [Int.reduceToNat] at ho17; rw [← Ny443.out] at ho17)); have n0_ := Aside0.mk (Kd.R_below (by (with_reducible repeat (first | apply Kd.R_alloc | apply Kd.R_drewN | apply Kd.R_drew)); exact HO_21.out) hb); have n1_ := Aside0.mk (Kd.R_lower ho17 (below_size (by repeat (first | (with_reducible first | exact HB.out | apply below_alloc | apply pw_below_drewN | apply below_drew1) | exact HB.out)))); have n2_ := Aside0.mk (below_step (by repeat (first | (with_reducible first | exact HB.out | apply below_alloc | apply pw_below_drewN | apply below_drew1) | exact HB.out)) hb); clear HO_21; clear HB; have HO_21 := n0_; have HO445 := n1_; have HB := n2_; clear n0_ n1_ n2_; clear hb ho17; have hcv18 := own_string (P := Tryd.prog) Tryd.underlying52 Tryd.underlying5 Tryd.underlying9 (Kd.own_of_R HO445.out)) | ((with_reducible refine gate_dst (N := 8) rfl ?_); (try (refine gate_guard (by rfl) ?_; dsimp only)); refine box_event ?hg (N := 8) ?hd (cs := #[.int .i64 0, .int .i64 0, .bool false, .int .i64 0, .bool false, .int .i64 0, .int .i64 0, .string (⟨#[]⟩ : ByteArray)]) (t := 33) ?hr ?_; (case hd => rfl); (case hg => rfl); (case hr => first | (go_simp; done) | (go_simp; rfl)); intro gb446 hg w19 hbox hb; have n0_ := Aside0.mk (Kd.R_below (by (with_reducible repeat (first | apply Kd.R_alloc | apply Kd.R_drewN | apply Kd.R_drew)); exact HO_21.out) hb); have n1_ := Aside0.mk (Kd.R_below (by (with_reducible repeat (first | apply Kd.R_alloc | apply Kd.R_drewN | apply Kd.R_drew)); exact HO445.out) hb); have n2_ := Aside0.mk (below_step (by repeat (first | (with_reducible first | exact HB.out | apply below_alloc | apply pw_below_drewN | apply below_drew1) | exact HB.out)) hb); have n3_ := Aside0.mk (hbox); have n4_ := Aside0.mk ((by rw [hg]; exact (below_size (by repeat (first | (with_reducible first | exact HB.out | apply below_alloc | apply pw_below_drewN | apply below_drew1) | exact HB.out))) : w.heap.size ≤ gb446)); have n5_ := n4_; clear HO_21; clear HO445; clear HB; have HO_21 := n0_; have HO445 := n1_; have HB := n2_; have BK446 := n3_; have GW446 := n4_; have GE446 := n5_; clear n0_ n1_ n2_ n3_ n4_ n5_; clear hb hbox hg; have hcz20_0 : w19.cell? ⟨gb446, 0, none⟩ = some (.int .i64 0) := (blk_cell BK446.out 0).trans rfl; have hcz20_1 : w19.cell? ⟨gb446, 1, none⟩ = some (.int .i64 0) := (blk_cell BK446.out 1).trans rfl; have hcz20_2 : w19.cell? ⟨gb446, 2, none⟩ = some (.bool false) := (blk_cell BK446.out 2).trans rfl; have hcz20_3 : w19.cell? ⟨gb446, 3, none⟩ = some (.int .i64 0) := (blk_cell BK446.out 3).trans rfl; have hcz20_4 : w19.cell? ⟨gb446, 4, none⟩ = some (.bool false) := (blk_cell BK446.out 4).trans rfl; have hcz20_5 : w19.cell? ⟨gb446, 5, none⟩ = some (.int .i64 0) := (blk_cell BK446.out 5).trans rfl; have hcz20_6 : w19.cell? ⟨gb446, 6, none⟩ = some (.int .i64 0) := (blk_cell BK446.out 6).trans rfl; have hcz20_7 : w19.cell? ⟨gb446, 7, none⟩ = some (.string (⟨#[]⟩ : ByteArray)) := (blk_cell BK446.out 7).trans rfl; have hfz20_0 := blk_frozen BK446.out 0; have hfz20_1 := blk_frozen BK446.out 1; have hfz20_2 := blk_frozen BK446.out 2; have hfz20_3 := blk_frozen BK446.out 3; have hfz20_4 := blk_frozen BK446.out 4; have hfz20_5 := blk_frozen BK446.out 5; have hfz20_6 := blk_frozen BK446.out 6; have hfz20_7 := blk_frozen BK446.out 7) | ((with_reducible refine gate_callee (f := 17) rfl ?_); refine goesL_ (some 37) rfl rfl Tryd.func17 (by kernel_rfl) rfl #[.agg #[.int .i64 0, .int .i64 64, .bool (rdOf false y439 x23_2), .int .i64 x5_1, .bool false, .int .i64 0, .int .i64 0, .string (strOfNums y443)], .bool a1] rfl (by (try simp only [List.map_toArray, List.map_cons, List.map_nil]); first | done | rfl) ?_; (with_reducible refine (frame_Put.calls k2 0 64 (rdOf false y439 x23_2) x5_1 false 0 0 (strOfNums y443) a1 t447 t448 _ ?side1 A14.out).mono ?_); (case side1 => first | (with_reducible exact HL.out) | (with_reducible exact YtdpgdnbknmncfaaDoorX.Laid_drewN HL.out _) | exact YtdpgdnbknmncfaaDoorX.Laid_below HL.out (by repeat (first | (with_reducible first | exact HB.out | apply below_alloc | apply pw_below_drewN | apply below_drew1 | refine below_set ?_ GE446.out) | exact HB.out))); rintro e w21 ⟨rfl, hb⟩; refine ⟨_, rfl, ?_⟩; have n0_ := Aside0.mk (Kd.R_below (by (with_reducible repeat (first | apply Kd.R_alloc | apply Kd.R_drewN | apply Kd.R_drew)); exact (Kd.R_mono (Kd.R_far (p := ⟨gb446, 7, none⟩) (Kd.R_far (p := ⟨gb446, 6, none⟩) (Kd.R_far (p := ⟨gb446, 5, none⟩) (Kd.R_far (p := ⟨gb446, 4, none⟩) (Kd.R_far (p := ⟨gb446, 3, none⟩) (Kd.R_far (p := ⟨gb446, 2, none⟩) (Kd.R_far (p := ⟨gb446, 1, none⟩) (Kd.R_far (p := ⟨gb446, 0, none⟩) (Kd.R_types HO_21.out BK446.out (by decide)) (fun _ hk => hk.2) (.int .i64 0)) (fun _ hk => hk.2) (.int .i64 64)) (fun _ hk => hk.2) (.bool (rdOf false y439 x23_2))) (fun _ hk => hk.2) (.int .i64 x5_1)) (fun _ hk => hk.2) (.bool false)) (fun _ hk => hk.2) (.int .i64 0)) (fun _ hk => hk.2) (.int .i64 0)) (fun _ hk => hk.2) (.string (strOfNums y443))) (fun _ h_ => h_.1))) hb); have n1_ := Aside0.mk (Kd.R_below (by (with_reducible repeat (first | apply Kd.R_alloc | apply Kd.R_drewN | apply Kd.R_drew)); exact (Kd.R_mono (Kd.R_far (p := ⟨gb446, 7, none⟩) (Kd.R_far (p := ⟨gb446, 6, none⟩) (Kd.R_far (p := ⟨gb446, 5, none⟩) (Kd.R_far (p := ⟨gb446, 4, none⟩) (Kd.R_far (p := ⟨gb446, 3, none⟩) (Kd.R_far (p := ⟨gb446, 2, none⟩) (Kd.R_far (p := ⟨gb446, 1, none⟩) (Kd.R_far (p := ⟨gb446, 0, none⟩) (Kd.R_types HO445.out BK446.out (by decide)) (fun _ hk => hk.2) (.int .i64 0)) (fun _ hk => hk.2) (.int .i64 64)) (fun _ hk => hk.2) (.bool (rdOf false y439 x23_2))) (fun _ hk => hk.2) (.int .i64 x5_1)) (fun _ hk => hk.2) (.bool false)) (fun _ hk => hk.2) (.int .i64 0)) (fun _ hk => hk.2) (.int .i64 0)) (fun _ hk => hk.2) (.string (strOfNums y443))) (fun _ h_ => h_.1))) hb); have n2_ := Aside0.mk (blk_below (g := gb446) (o := .cells #[.int .i64 0, .int .i64 64, .bool (rdOf false y439 x23_2), .int .i64 x5_1, .bool false, .int .i64 0, .int .i64 0, .string (strOfNums y443)] 33 (0, 0)) (by (with_reducible repeat (first | apply blk_drewN | apply blk_drew | apply blk_alloc)); refine blk_put (cs := #[.int .i64 0, .int .i64 64, .bool (rdOf false y439 x23_2), .int .i64 x5_1, .bool false, .int .i64 0, .int .i64 0, .string (⟨#[]⟩ : ByteArray)]) ?_ 7 _ rfl; (with_reducible repeat (first | apply blk_drewN | apply blk_drew | apply blk_alloc)); refine blk_put (cs := #[.int .i64 0, .int .i64 64, .bool (rdOf false y439 x23_2), .int .i64 x5_1, .bool false, .int .i64 0, .int .i64 0, .string (⟨#[]⟩ : ByteArray)]) ?_ 6 _ rfl; (with_reducible repeat (first | apply blk_drewN | apply blk_drew | apply blk_alloc)); refine blk_put (cs := #[.int .i64 0, .int .i64 64, .bool (rdOf false y439 x23_2), .int .i64 x5_1, .bool false, .int .i64 0, .int .i64 0, .string (⟨#[]⟩ : ByteArray)]) ?_ 5 _ rfl; (with_reducible repeat (first | apply blk_drewN | apply blk_drew | apply blk_alloc)); refine blk_put (cs := #[.int .i64 0, .int .i64 64, .bool (rdOf false y439 x23_2), .int .i64 x5_1, .bool false, .int .i64 0, .int .i64 0, .string (⟨#[]⟩ : ByteArray)]) ?_ 4 _ rfl; (with_reducible repeat (first | apply blk_drewN | apply blk_drew | apply blk_alloc)); refine blk_put (cs := #[.int .i64 0, .int .i64 64, .bool (rdOf false y439 x23_2), .int .i64 0, .bool false, .int .i64 0, .int .i64 0, .string (⟨#[]⟩ : ByteArray)]) ?_ 3 _ rfl; (with_reducible repeat (first | apply blk_drewN | apply blk_drew | apply blk_alloc)); refine blk_put (cs := #[.int .i64 0, .int .i64 64, .bool false, .int .i64 0, .bool false, .int .i64 0, .int .i64 0, .string (⟨#[]⟩ : ByteArray)]) ?_ 2 _ rfl; (with_reducible repeat (first | apply blk_drewN | apply blk_drew | apply blk_alloc)); refine blk_put (cs := #[.int .i64 0, .int .i64 0, .bool false, .int .i64 0, .bool false, .int .i64 0, .int .i64 0, .string (⟨#[]⟩ : ByteArray)]) ?_ 1 _ rfl; (with_reducible repeat (first | apply blk_drewN | apply blk_drew | apply blk_alloc)); refine blk_put (cs := #[.int .i64 0, .int .i64 0, .bool false, .int .i64 0, .bool false, .int .i64 0, .int .i64 0, .string (⟨#[]⟩ : ByteArray)]) ?_ 0 _ rfl; (with_reducible repeat (first | apply blk_drewN | apply blk_drew | apply blk_alloc)); exact BK446.out) hb); have n3_ := Aside0.mk (below_step (by repeat (first | (with_reducible first | exact HB.out | apply below_alloc | apply pw_below_drewN | apply below_drew1 | refine below_set ?_ GE446.out) | exact HB.out)) hb); clear HO_21; clear HO445; clear BK446; clear HB; have HO_21 := n0_; have HO445 := n1_; have BK446 := n2_; have HB := n3_; clear n0_ n1_ n2_ n3_; have hr1_0 := blk_frozen BK446.out 0; have hq1_0 : World.cell? _ ⟨gb446, 0, none⟩ = some (.int .i64 0) := (blk_cell BK446.out 0).trans rfl; have hr1_1 := blk_frozen BK446.out 1; have hq1_1 : World.cell? _ ⟨gb446, 1, none⟩ = some (.int .i64 64) := (blk_cell BK446.out 1).trans rfl; have hr1_2 := blk_frozen BK446.out 2; have hq1_2 : World.cell? _ ⟨gb446, 2, none⟩ = some (.bool (rdOf false y439 x23_2)) := (blk_cell BK446.out 2).trans rfl; have hr1_3 := blk_frozen BK446.out 3; have hq1_3 : World.cell? _ ⟨gb446, 3, none⟩ = some (.int .i64 x5_1) := (blk_cell BK446.out 3).trans rfl; have hr1_4 := blk_frozen BK446.out 4; have hq1_4 : World.cell? _ ⟨gb446, 4, none⟩ = some (.bool false) := (blk_cell BK446.out 4).trans rfl; have hr1_5 := blk_frozen BK446.out 5; have hq1_5 : World.cell? _ ⟨gb446, 5, none⟩ = some (.int .i64 0) := (blk_cell BK446.out 5).trans rfl; have hr1_6 := blk_frozen BK446.out 6; have hq1_6 : World.cell? _ ⟨gb446, 6, none⟩ = some (.int .i64 0) := (blk_cell BK446.out 6).trans rfl; have hr1_7 := blk_frozen BK446.out 7; have hq1_7 : World.cell? _ ⟨gb446, 7, none⟩ = some (.string (strOfNums y443)) := (blk_cell BK446.out 7).trans rfl; (try clear hb); (try clear hb2); (try clear hk); (try clear hi)))
           (try simp only [Act.put, List.setIfInBounds_toArray, List.set_cons_zero, List.set_cons_succ])
           go_cut [11] (fun v11 wc => ∃ (kq : Nat) (x11_14 : Bool), v11 = .bool x11_14 ∧ Aside0 (lapwinglaw06_FrameKinds.j2 kq (((ji3) % 300)) a1 x5_1 t447 t448 x11_14 y439 (y439.length : Int) x23_2 0 64 (rdOf false y439 x23_2) x5_1 false 0 0 (strOfNums y443) = some r) ∧ Aside0 (kq ≤ k2) ∧ Aside0 (Kd.R Kd.bool 4 wc w.heap.size (fun _ => True) (.slice (some ad442) y439.length co7) y439) ∧ Aside0 (wc.heap[gb446]? = some (.cells #[.int .i64 0, .int .i64 64, .bool (rdOf false y439 x23_2), .int .i64 x5_1, .bool false, .int .i64 0, .int .i64 0, .string (strOfNums y443)] 33 (0, 0))) ∧ Aside0 (Below w.heap.size w wc))
           case first =>
            have H := HC15.out
            clear HC15
            replace H := Option.bind_eq_some_iff.mp H
            obtain ⟨t449, A220, H⟩ := H
            replace H : (if t449 = true then ((frame_Carries.f k2 x5_1 (((ji3) % 300))).bind fun t450 => (lapwinglaw06_FrameKinds.j2 k2 (((ji3) % 300)) a1 x5_1 t447 t448 t450 y439 (y439.length : Int) x23_2 0 64 (rdOf false y439 x23_2) x5_1 false 0 0 (strOfNums y443))) else (lapwinglaw06_FrameKinds.j2 k2 (((ji3) % 300)) a1 x5_1 t447 t448 false y439 (y439.length : Int) x23_2 0 64 (rdOf false y439 x23_2) x5_1 false 0 0 (strOfNums y443))) = some r := H
            have A22 := Aside0.mk A220
            clear A220
            by_cases c23 : t449 = true
            ·subst c23
             have H1 : ((frame_Carries.f k2 x5_1 (((ji3) % 300))).bind fun t450 => (lapwinglaw06_FrameKinds.j2 k2 (((ji3) % 300)) a1 x5_1 t447 t448 t450 y439 (y439.length : Int) x23_2 0 64 (rdOf false y439 x23_2) x5_1 false 0 0 (strOfNums y443))) = some r := by rw [if_pos rfl] at H; exact H
             clear H
             have H := H1
             clear H1
             replace H := Option.bind_eq_some_iff.mp H
             obtain ⟨t450, A240, H⟩ := H
             replace H : (lapwinglaw06_FrameKinds.j2 k2 (((ji3) % 300)) a1 x5_1 t447 t448 t450 y439 (y439.length : Int) x23_2 0 64 (rdOf false y439 x23_2) x5_1 false 0 0 (strOfNums y443)) = some r := H
             have A24 := Aside0.mk A240
             clear A240
             have H' := Aside0.mk H
             clear H
             go_wp2_with (first | ((with_reducible refine gate_callee (f := 11) rfl ?_); refine goesL_ (some 42) rfl rfl Tryd.func11 (by kernel_rfl) rfl #[.int .i64 x5_1, .bool (rdOf false y439 x23_2)] rfl (by (try simp only [List.map_toArray, List.map_cons, List.map_nil]); first | done | rfl) ?_; (with_reducible refine (frame_May.calls x5_1 (rdOf false y439 x23_2) true _ A22.out).mono ?_); rintro e w25 ⟨rfl, hb⟩; refine ⟨_, rfl, ?_⟩; have n0_ := Aside0.mk (Kd.R_below (by (with_reducible repeat (first | apply Kd.R_alloc | apply Kd.R_drewN | apply Kd.R_drew)); exact HO_21.out) hb); have n1_ := Aside0.mk (Kd.R_below (by (with_reducible repeat (first | apply Kd.R_alloc | apply Kd.R_drewN | apply Kd.R_drew)); exact HO445.out) hb); have n2_ := Aside0.mk (blk_below (g := gb446) (o := .cells #[.int .i64 0, .int .i64 64, .bool (rdOf false y439 x23_2), .int .i64 x5_1, .bool false, .int .i64 0, .int .i64 0, .string (strOfNums y443)] 33 (0, 0)) (by (with_reducible repeat (first | apply blk_drewN | apply blk_drew | apply blk_alloc)); exact BK446.out) hb); have n3_ := Aside0.mk (below_step (by repeat (first | (with_reducible first | exact HB.out | apply below_alloc | apply pw_below_drewN | apply below_drew1 | refine below_set ?_ GE446.out) | exact HB.out)) hb); clear HO_21; clear HO445; clear BK446; clear HB; have HO_21 := n0_; have HO445 := n1_; have BK446 := n2_; have HB := n3_; clear n0_ n1_ n2_ n3_; have hr2_0 := blk_frozen BK446.out 0; have hq2_0 : World.cell? _ ⟨gb446, 0, none⟩ = some (.int .i64 0) := (blk_cell BK446.out 0).trans rfl; have hr2_1 := blk_frozen BK446.out 1; have hq2_1 : World.cell? _ ⟨gb446, 1, none⟩ = some (.int .i64 64) := (blk_cell BK446.out 1).trans rfl; have hr2_2 := blk_frozen BK446.out 2; have hq2_2 : World.cell? _ ⟨gb446, 2, none⟩ = some (.bool (rdOf false y439 x23_2)) := (blk_cell BK446.out 2).trans rfl; have hr2_3 := blk_frozen BK446.out 3; have hq2_3 : World.cell? _ ⟨gb446, 3, none⟩ = some (.int .i64 x5_1) := (blk_cell BK446.out 3).trans rfl; have hr2_4 := blk_frozen BK446.out 4; have hq2_4 : World.cell? _ ⟨gb446, 4, none⟩ = some (.bool false) := (blk_cell BK446.out 4).trans rfl; have hr2_5 := blk_frozen BK446.out 5; have hq2_5 : World.cell? _ ⟨gb446, 5, none⟩ = some (.int .i64 0) := (blk_cell BK446.out 5).trans rfl; have hr2_6 := blk_frozen BK446.out 6; have hq2_6 : World.cell? _ ⟨gb446, 6, none⟩ = some (.int .i64 0) := (blk_cell BK446.out 6).trans rfl; have hr2_7 := blk_frozen BK446.out 7; have hq2_7 : World.cell? _ ⟨gb446, 7, none⟩ = some (.string (strOfNums y443)) := (blk_cell BK446.out 7).trans rfl; (try clear hb); (try clear hb2); (try clear hk); (try clear hi)) | (go_at_call 13; (with_reducible refine (frame_Carries.calls k2 x5_1 (((ji3) % 300)) t450 _ ?side1 A24.out).mono ?_); (case side1 => first | (with_reducible exact HL.out) | (with_reducible exact YtdpgdnbknmncfaaDoorX.Laid_drewN HL.out _) | exact YtdpgdnbknmncfaaDoorX.Laid_below HL.out (by repeat (first | (with_reducible first | exact HB.out | apply below_alloc | apply pw_below_drewN | apply below_drew1 | refine below_set ?_ GE446.out) | exact HB.out))); rintro e w' ⟨rfl, ⟨nd, rfl⟩⟩))
             go_meet
             case rel => exact ⟨_, (t450), (by first | rfl | (simp; done) | (simp [*]; done)), H', ⟨by have := HK1.out; have := HK2.out; first | omega | exact Nat.le_refl _⟩, ⟨by (with_reducible repeat (first | apply Kd.R_alloc | apply Kd.R_drewN | apply Kd.R_drew)); exact HO_21.out⟩, ⟨by (with_reducible repeat (first | apply blk_drewN | apply blk_drew | apply blk_alloc)); exact BK446.out⟩, ⟨by repeat (first | (with_reducible first | exact HB.out | apply below_alloc | apply pw_below_drewN | apply below_drew1 | refine below_set ?_ GE446.out) | exact HB.out)⟩⟩
            ·replace c23 := Bool.eq_false_iff.mpr c23
             subst c23
             have H1 : (lapwinglaw06_FrameKinds.j2 k2 (((ji3) % 300)) a1 x5_1 t447 t448 false y439 (y439.length : Int) x23_2 0 64 (rdOf false y439 x23_2) x5_1 false 0 0 (strOfNums y443)) = some r := by rw [if_neg (show ¬ (false = true) by decide)] at H; exact H
             clear H
             have H := H1
             clear H1
             have H' := Aside0.mk H
             clear H
             go_wp2_with (first | ((with_reducible refine gate_callee (f := 11) rfl ?_); refine goesL_ (some 42) rfl rfl Tryd.func11 (by kernel_rfl) rfl #[.int .i64 x5_1, .bool (rdOf false y439 x23_2)] rfl (by (try simp only [List.map_toArray, List.map_cons, List.map_nil]); first | done | rfl) ?_; (with_reducible refine (frame_May.calls x5_1 (rdOf false y439 x23_2) false _ A22.out).mono ?_); rintro e w26 ⟨rfl, hb⟩; refine ⟨_, rfl, ?_⟩; have n0_ := Aside0.mk (Kd.R_below (by (with_reducible repeat (first | apply Kd.R_alloc | apply Kd.R_drewN | apply Kd.R_drew)); exact HO_21.out) hb); have n1_ := Aside0.mk (Kd.R_below (by (with_reducible repeat (first | apply Kd.R_alloc | apply Kd.R_drewN | apply Kd.R_drew)); exact HO445.out) hb); have n2_ := Aside0.mk (blk_below (g := gb446) (o := .cells #[.int .i64 0, .int .i64 64, .bool (rdOf false y439 x23_2), .int .i64 x5_1, .bool false, .int .i64 0, .int .i64 0, .string (strOfNums y443)] 33 (0, 0)) (by (with_reducible repeat (first | apply blk_drewN | apply blk_drew | apply blk_alloc)); exact BK446.out) hb); have n3_ := Aside0.mk (below_step (by repeat (first | (with_reducible first | exact HB.out | apply below_alloc | apply pw_below_drewN | apply below_drew1 | refine below_set ?_ GE446.out) | exact HB.out)) hb); clear HO_21; clear HO445; clear BK446; clear HB; have HO_21 := n0_; have HO445 := n1_; have BK446 := n2_; have HB := n3_; clear n0_ n1_ n2_ n3_; have hr3_0 := blk_frozen BK446.out 0; have hq3_0 : World.cell? _ ⟨gb446, 0, none⟩ = some (.int .i64 0) := (blk_cell BK446.out 0).trans rfl; have hr3_1 := blk_frozen BK446.out 1; have hq3_1 : World.cell? _ ⟨gb446, 1, none⟩ = some (.int .i64 64) := (blk_cell BK446.out 1).trans rfl; have hr3_2 := blk_frozen BK446.out 2; have hq3_2 : World.cell? _ ⟨gb446, 2, none⟩ = some (.bool (rdOf false y439 x23_2)) := (blk_cell BK446.out 2).trans rfl; have hr3_3 := blk_frozen BK446.out 3; have hq3_3 : World.cell? _ ⟨gb446, 3, none⟩ = some (.int .i64 x5_1) := (blk_cell BK446.out 3).trans rfl; have hr3_4 := blk_frozen BK446.out 4; have hq3_4 : World.cell? _ ⟨gb446, 4, none⟩ = some (.bool false) := (blk_cell BK446.out 4).trans rfl; have hr3_5 := blk_frozen BK446.out 5; have hq3_5 : World.cell? _ ⟨gb446, 5, none⟩ = some (.int .i64 0) := (blk_cell BK446.out 5).trans rfl; have hr3_6 := blk_frozen BK446.out 6; have hq3_6 : World.cell? _ ⟨gb446, 6, none⟩ = some (.int .i64 0) := (blk_cell BK446.out 6).trans rfl; have hr3_7 := blk_frozen BK446.out 7; have hq3_7 : World.cell? _ ⟨gb446, 7, none⟩ = some (.string (strOfNums y443)) := (blk_cell BK446.out 7).trans rfl; (try clear hb); (try clear hb2); (try clear hk); (try clear hi)))
             go_meet
             case rel => exact ⟨_, (false), (by first | rfl | (simp; done) | (simp [*]; done)), H', ⟨by have := HK1.out; have := HK2.out; first | omega | exact Nat.le_refl _⟩, ⟨by (with_reducible repeat (first | apply Kd.R_alloc | apply Kd.R_drewN | apply Kd.R_drew)); exact HO_21.out⟩, ⟨by (with_reducible repeat (first | apply blk_drewN | apply blk_drew | apply blk_alloc)); exact BK446.out⟩, ⟨by repeat (first | (with_reducible first | exact HB.out | apply below_alloc | apply pw_below_drewN | apply below_drew1 | refine below_set ?_ GE446.out) | exact HB.out)⟩⟩
           case rest =>
            clear HC15
            try clear c1
            try clear hcv1
            try clear c2
            try clear p2
            try clear c4
            try clear c4b0
            try clear p4
            try clear q4
            try clear hx4
            try clear c8
            try clear c8b0
            try clear c9
            try clear c9b0
            try clear c10
            try clear c10b0
            try clear c11
            try clear c12
            try clear c12b0
            try clear c12b1
            try clear c13
            try clear c13b0
            try clear c13b1
            try clear c17
            try clear hcv18
            try clear c23
            try clear hcz20_0
            try clear hcz20_1
            try clear hcz20_2
            try clear hcz20_3
            try clear hcz20_4
            try clear hcz20_5
            try clear hcz20_6
            try clear hcz20_7
            try clear hfz20_0
            try clear hfz20_1
            try clear hfz20_2
            try clear hfz20_3
            try clear hfz20_4
            try clear hfz20_5
            try clear hfz20_6
            try clear hfz20_7
            try clear hx442_0
            try clear p2
            try clear p442
            try clear q442
            obtain ⟨kq, x11_14, rfl, HA, HJ14, HO_21, BK446, HB⟩ := hcut
            cases kq with
            | zero => exact absurd HA.out (by simp [lapwinglaw06_FrameKinds.j2])
            | succ kj14 =>
             have H := HA.out
             clear HA
             simp only [lapwinglaw06_FrameKinds.j2] at H
             have HC27 := Aside0.mk H
             clear H
             go_upto_region 11 with (fail)
             go_cut [61] (fun v61 wc => ∃ (kq : Nat) (x61_26 : Bool), v61 = .bool x61_26 ∧ Aside0 (lapwinglaw06_FrameKinds.j3 kq (((ji3) % 300)) a1 x5_1 t447 x11_14 y439 (y439.length : Int) x23_2 x61_26 0 64 (rdOf false y439 x23_2) x5_1 false 0 0 (strOfNums y443) = some r) ∧ Aside0 (kq ≤ kj14) ∧ Aside0 (Kd.R Kd.bool 4 wc w.heap.size (fun _ => True) (.slice (some ad442) y439.length co7) y439) ∧ Aside0 (wc.heap[gb446]? = some (.cells #[.int .i64 0, .int .i64 64, .bool (rdOf false y439 x23_2), .int .i64 x5_1, .bool false, .int .i64 0, .int .i64 0, .string (strOfNums y443)] 33 (0, 0))) ∧ Aside0 (Below w.heap.size w wc))
             case first =>
              have H := HC27.out
              clear HC27
              by_cases c28 : ((t448 == 0) != x11_14) = true
              ·rw [if_pos c28] at H
               have c28b0 : ((t448 == 0) != x11_14) = true := c28
               (try (have c28b1 : decide ((t448 == 0) = x11_14) = false := by simpa using c28))
               (try (have c28b2 : ((t448 == 0) == x11_14) = false := by simpa using c28))
               (try (have c28b3 : ¬ ((t448 == 0) = x11_14) := by simpa using c28))
               clear c28
               (first | rw [c28b0] | (simp only [i64_w, i32_w]; rw [c28b0]) | skip)
               have H' := Aside0.mk H
               clear H
               go_wp2
               go_meet
               case rel => exact ⟨_, (true), (by first | rfl | (simp; done) | (simp [*]; done)), H', ⟨by have := HK1.out; have := HK2.out; have := HJ14.out; first | omega | exact Nat.le_refl _⟩, ⟨by (with_reducible repeat (first | apply Kd.R_alloc | apply Kd.R_drewN | apply Kd.R_drew)); exact HO_21.out⟩, ⟨by (with_reducible repeat (first | apply blk_drewN | apply blk_drew | apply blk_alloc)); exact BK446.out⟩, ⟨by repeat (first | (with_reducible first | exact HB.out | apply below_alloc | apply pw_below_drewN | apply below_drew1 | refine below_set ?_ GE446.out) | exact HB.out)⟩⟩
              ·rw [if_neg c28] at H
               have c28b0 : ((t448 == 0) != x11_14) = false := by simpa using c28
               (try (have c28b1 : decide ((t448 == 0) = x11_14) = true := by simpa using c28))
               (try (have c28b2 : ((t448 == 0) == x11_14) = true := by simpa using c28))
               clear c28
               (first | rw [c28b0] | (simp only [i64_w, i32_w]; rw [c28b0]) | skip)
               by_cases c29 : x11_14 = true
               ·subst c29
                have H1 : (lapwinglaw06_FrameKinds.j3 kj14 (((ji3) % 300)) a1 x5_1 t447 true y439 (y439.length : Int) x23_2 (decide ((t447.size : Int) < (wrap64 ((((ji3) % 300)) + 5)))) 0 64 (rdOf false y439 x23_2) x5_1 false 0 0 (strOfNums y443)) = some r := by rw [if_pos rfl] at H; exact H
                clear H
                have H := H1
                clear H1
                have H' := Aside0.mk H
                clear H
                go_wp2
                go_meet
                case rel => exact ⟨_, (decide ((t447.size : Int) < (wrap64 ((((ji3) % 300)) + 5)))), (by first | rfl | (simp only [show wrap64 ((((ji3) % 300)) + 5) = (((ji3) % 300)) + 5 from by (unfold wrap64; omega)]; done) | (simp; done) | (simp only [← hji11] <;> (first | rfl | simp)) | (simp [*]; done)), H', ⟨by have := HK1.out; have := HK2.out; have := HJ14.out; first | omega | exact Nat.le_refl _⟩, ⟨by (with_reducible repeat (first | apply Kd.R_alloc | apply Kd.R_drewN | apply Kd.R_drew)); exact HO_21.out⟩, ⟨by (with_reducible repeat (first | apply blk_drewN | apply blk_drew | apply blk_alloc)); exact BK446.out⟩, ⟨by repeat (first | (with_reducible first | exact HB.out | apply below_alloc | apply pw_below_drewN | apply below_drew1 | refine below_set ?_ GE446.out) | exact HB.out)⟩⟩
               ·replace c29 := Bool.eq_false_iff.mpr c29
                subst c29
                have H1 : (lapwinglaw06_FrameKinds.j3 kj14 (((ji3) % 300)) a1 x5_1 t447 false y439 (y439.length : Int) x23_2 false 0 64 (rdOf false y439 x23_2) x5_1 false 0 0 (strOfNums y443)) = some r := by rw [if_neg (show ¬ (false = true) by decide)] at H; exact H
                clear H
                have H := H1
                clear H1
                have H' := Aside0.mk H
                clear H
                go_wp2
                go_meet
                case rel => exact ⟨_, (false), (by first | rfl | (simp; done) | (simp [*]; done)), H', ⟨by have := HK1.out; have := HK2.out; have := HJ14.out; first | omega | exact Nat.le_refl _⟩, ⟨by (with_reducible repeat (first | apply Kd.R_alloc | apply Kd.R_drewN | apply Kd.R_drew)); exact HO_21.out⟩, ⟨by (with_reducible repeat (first | apply blk_drewN | apply blk_drew | apply blk_alloc)); exact BK446.out⟩, ⟨by repeat (first | (with_reducible first | exact HB.out | apply below_alloc | apply pw_below_drewN | apply below_drew1 | refine below_set ?_ GE446.out) | exact HB.out)⟩⟩
             case rest =>
              clear HC27
              try clear c1
              try clear hcv1
              try clear c2
              try clear p2
              try clear c4
              try clear c4b0
              try clear p4
              try clear q4
              try clear hx4
              try clear p6
              try clear c8
              try clear c8b0
              try clear c9
              try clear c9b0
              try clear c10
              try clear c10b0
              try clear c11
              try clear c12
              try clear c12b0
              try clear c12b1
              try clear c13
              try clear c13b0
              try clear c13b1
              try clear c17
              try clear hcv18
              try clear c23
              try clear c28
              try clear c28b0
              try clear c28b1
              try clear c28b2
              try clear c29
              try clear hcz20_0
              try clear hcz20_1
              try clear hcz20_2
              try clear hcz20_3
              try clear hcz20_4
              try clear hcz20_5
              try clear hcz20_6
              try clear hcz20_7
              try clear hfz20_0
              try clear hfz20_1
              try clear hfz20_2
              try clear hfz20_3
              try clear hfz20_4
              try clear hfz20_5
              try clear hfz20_6
              try clear hfz20_7
              try clear hx442_0
              try clear p2
              try clear p4
              try clear p442
              try clear q4
              try clear q442
              obtain ⟨kq, x61_26, rfl, HA, HJ26, HO_21, BK446, HB⟩ := hcut
              cases kq with
              | zero => exact absurd HA.out (by simp [lapwinglaw06_FrameKinds.j3])
              | succ kj26 =>
               have H := HA.out
               clear HA
               simp only [lapwinglaw06_FrameKinds.j3] at H
               by_cases c30 : x61_26 = true
               ·subst c30
                have H1 : (some false) = some r := by rw [if_pos rfl] at H; exact H
                clear H
                have H := H1
                clear H1
                obtain rfl := Option.some.inj H
                go_wp2
                go_ret
                exact ⟨by first | rfl | (simp [errW_none, errW_some] <;> rfl) | (simp only [← hji3, ← hji11]; first | rfl | (simp [errW_none, errW_some] <;> rfl)) | (simp [*, errW_none, errW_some] <;> rfl), by repeat (first | (with_reducible first | exact HB.out | apply below_alloc | apply pw_below_drewN | apply below_drew1 | refine below_set ?_ GE446.out) | exact HB.out)⟩
               ·replace c30 := Bool.eq_false_iff.mpr c30
                subst c30
                have H1 : ((frame_Get.f kj26 t447 a1).bind fun bt451 => (if x11_14 = true then (if bt451.2.2.2.2.2.2.2.2 = 0 then (if ((!(bt451.1 == 0) || (!(bt451.2.1 == 64))) || (!(bt451.2.2.1 == (rdOf false y439 x23_2)) || (!(bt451.2.2.2.1 == x5_1) || (!(bt451.2.2.2.2.1 == false) || (!(bt451.2.2.2.2.2.1 == 0) || (!(bt451.2.2.2.2.2.2.1 == 0) || (!(bt451.2.2.2.2.2.2.2.1.toList == (strOfNums y443).toList)))))))) = true then (some false) else (lapwinglaw06_FrameKinds.l1 kj26 (((ji3) % 300)) a1 x5_1 y439 (y439.length : Int) (wrap64 (x23_2 + 1)))) else (some false)) else (lapwinglaw06_FrameKinds.l1 kj26 (((ji3) % 300)) a1 x5_1 y439 (y439.length : Int) (wrap64 (x23_2 + 1))))) = some r := by rw [if_neg (show ¬ (false = true) by decide)] at H; exact H
                clear H
                have H := H1
                clear H1
                replace H := Option.bind_eq_some_iff.mp H
                obtain ⟨⟨t451, t452, t453, t454, t455, t456, t457, t458, t459⟩, A310, H⟩ := H
                replace H : (if x11_14 = true then (if t459 = 0 then (if ((!(t451 == 0) || (!(t452 == 64))) || (!(t453 == (rdOf false y439 x23_2)) || (!(t454 == x5_1) || (!(t455 == false) || (!(t456 == 0) || (!(t457 == 0) || (!(t458.toList == (strOfNums y443).toList)))))))) = true then (some false) else (lapwinglaw06_FrameKinds.l1 kj26 (((ji3) % 300)) a1 x5_1 y439 (y439.length : Int) (wrap64 (x23_2 + 1)))) else (some false)) else (lapwinglaw06_FrameKinds.l1 kj26 (((ji3) % 300)) a1 x5_1 y439 (y439.length : Int) (wrap64 (x23_2 + 1)))) = some r := H
                have A31 := Aside0.mk A310
                clear A310
                by_cases c32 : x11_14 = true
                ·subst c32
                 have H1 : (if t459 = 0 then (if ((!(t451 == 0) || (!(t452 == 64))) || (!(t453 == (rdOf false y439 x23_2)) || (!(t454 == x5_1) || (!(t455 == false) || (!(t456 == 0) || (!(t457 == 0) || (!(t458.toList == (strOfNums y443).toList)))))))) = true then (some false) else (lapwinglaw06_FrameKinds.l1 kj26 (((ji3) % 300)) a1 x5_1 y439 (y439.length : Int) (wrap64 (x23_2 + 1)))) else (some false)) = some r := by rw [if_pos rfl] at H; exact H
                 clear H
                 have H := H1
                 clear H1
                 by_cases c33 : t459 = 0
                 ·rw [if_pos c33] at H
                  have c33b0 : (t459 == 0) = true := beq_iff_eq.mpr c33
                  have c33b1 : (t459 != 0) = false := bne_eq_false_iff_eq.mpr c33
                  clear c33
                  by_cases c34 : ((!(t451 == 0) || (!(t452 == 64))) || (!(t453 == (rdOf false y439 x23_2)) || (!(t454 == x5_1) || (!(t455 == false) || (!(t456 == 0) || (!(t457 == 0) || (!(t458.toList == (strOfNums y443).toList)))))))) = true
                  ·rw [if_pos c34] at H
                   have c34b0 : ((!(t451 == 0) || (!(t452 == 64))) || (!(t453 == (rdOf false y439 x23_2)) || (!(t454 == x5_1) || (!(t455 == false) || (!(t456 == 0) || (!(t457 == 0) || (!(t458.toList == (strOfNums y443).toList)))))))) = true := c34
                   have c34x : ((!(t451 == 0) || (!(t452 == 64))) || (!(t453 == (rdOf false y439 x23_2)) || (!(t454 == x5_1) || (t455 || (!(t456 == 0) || (!(t457 == 0) || (!(t458.toList == (strOfNums y443).toList)))))))) = true := (by have h_ := c34b0; rw [show (!(t455 == false)) = t455 from by (cases t455 <;> rfl)] at h_; exact h_)
                   clear c34
                   obtain rfl := Option.some.inj H
                   go_wp2_with (first | ((with_reducible refine gate_callee (f := 20) rfl ?_); refine goesL_ (some 65) rfl rfl Tryd.func20 (by kernel_rfl) rfl #[.string t447, .bool a1] rfl (by (try simp only [List.map_toArray, List.map_cons, List.map_nil]); first | done | rfl) ?_; (with_reducible refine (frame_Get.calls kj26 t447 a1 t451 t452 t453 t454 t455 t456 t457 t458 t459 _ ?side1 A31.out).mono ?_); (case side1 => first | (with_reducible exact HL.out) | (with_reducible exact YtdpgdnbknmncfaaDoorX.Laid_drewN HL.out _) | exact YtdpgdnbknmncfaaDoorX.Laid_below HL.out (by repeat (first | (with_reducible first | exact HB.out | apply below_alloc | apply pw_below_drewN | apply below_drew1 | refine below_set ?_ GE446.out) | exact HB.out))); rintro e w35 ⟨rfl, hb⟩; refine ⟨_, rfl, ?_⟩; have n0_ := Aside0.mk (Kd.R_below (by (with_reducible repeat (first | apply Kd.R_alloc | apply Kd.R_drewN | apply Kd.R_drew)); exact HO_21.out) hb); have n1_ := Aside0.mk (blk_below (g := gb446) (o := .cells #[.int .i64 0, .int .i64 64, .bool (rdOf false y439 x23_2), .int .i64 x5_1, .bool false, .int .i64 0, .int .i64 0, .string (strOfNums y443)] 33 (0, 0)) (by (with_reducible repeat (first | apply blk_drewN | apply blk_drew | apply blk_alloc)); exact BK446.out) hb); have n2_ := Aside0.mk (below_step (by repeat (first | (with_reducible first | exact HB.out | apply below_alloc | apply pw_below_drewN | apply below_drew1 | refine below_set ?_ GE446.out) | exact HB.out)) hb); clear HO_21; clear BK446; clear HB; have HO_21 := n0_; have BK446 := n1_; have HB := n2_; clear n0_ n1_ n2_; have hr4_0 := blk_frozen BK446.out 0; have hq4_0 : World.cell? _ ⟨gb446, 0, none⟩ = some (.int .i64 0) := (blk_cell BK446.out 0).trans rfl; have hr4_1 := blk_frozen BK446.out 1; have hq4_1 : World.cell? _ ⟨gb446, 1, none⟩ = some (.int .i64 64) := (blk_cell BK446.out 1).trans rfl; have hr4_2 := blk_frozen BK446.out 2; have hq4_2 : World.cell? _ ⟨gb446, 2, none⟩ = some (.bool (rdOf false y439 x23_2)) := (blk_cell BK446.out 2).trans rfl; have hr4_3 := blk_frozen BK446.out 3; have hq4_3 : World.cell? _ ⟨gb446, 3, none⟩ = some (.int .i64 x5_1) := (blk_cell BK446.out 3).trans rfl; have hr4_4 := blk_frozen BK446.out 4; have hq4_4 : World.cell? _ ⟨gb446, 4, none⟩ = some (.bool false) := (blk_cell BK446.out 4).trans rfl; have hr4_5 := blk_frozen BK446.out 5; have hq4_5 : World.cell? _ ⟨gb446, 5, none⟩ = some (.int .i64 0) := (blk_cell BK446.out 5).trans rfl; have hr4_6 := blk_frozen BK446.out 6; have hq4_6 : World.cell? _ ⟨gb446, 6, none⟩ = some (.int .i64 0) := (blk_cell BK446.out 6).trans rfl; have hr4_7 := blk_frozen BK446.out 7; have hq4_7 : World.cell? _ ⟨gb446, 7, none⟩ = some (.string (strOfNums y443)) := (blk_cell BK446.out 7).trans rfl; (try clear hb); (try clear hb2); (try clear hk); (try clear hi)) | ((with_reducible refine gate_dst (N := 12) rfl ?_); (try (refine gate_guard (by rfl) ?_; dsimp only)); refine box_event ?hg (N := 12) ?hd (cs := #[.int .i64 0, .int .i64 0, .bool false, .int .i64 0, .bool false, .int .i64 0, .int .i64 0, .string (⟨#[]⟩ : ByteArray)]) (t := 33) ?hr ?_; (case hd => rfl); (case hg => rfl); (case hr => first | (go_simp; done) | (go_simp; rfl)); intro gb460 hg w36 hbox hb; have n0_ := Aside0.mk (Kd.R_below (by (with_reducible repeat (first | apply Kd.R_alloc | apply Kd.R_drewN | apply Kd.R_drew)); exact HO_21.out) hb); have n1_ := Aside0.mk (blk_below (g := gb446) (o := .cells #[.int .i64 0, .int .i64 64, .bool (rdOf false y439 x23_2), .int .i64 x5_1, .bool false, .int .i64 0, .int .i64 0, .string (strOfNums y443)] 33 (0, 0)) (by (with_reducible repeat (first | apply blk_drewN | apply blk_drew | apply blk_alloc)); exact BK446.out) hb); have n2_ := Aside0.mk (below_step (by repeat (first | (with_reducible first | exact HB.out | apply below_alloc | apply pw_below_drewN | apply below_drew1 | refine below_set ?_ GE446.out) | exact HB.out)) hb); have n3_ := Aside0.mk (hbox); have n4_ := Aside0.mk ((by rw [hg]; exact (below_size (by repeat (first | (with_reducible first | exact HB.out | apply below_alloc | apply pw_below_drewN | apply below_drew1 | refine below_set ?_ GE446.out) | exact HB.out))) : w.heap.size ≤ gb460)); have n5_ := n4_; have n6_ := Aside0.mk ((by rw [hg]; exact Nat.ne_of_lt (blk_lt (g := gb446) (o := .cells #[.int .i64 0, .int .i64 64, .bool (rdOf false y439 x23_2), .int .i64 x5_1, .bool false, .int .i64 0, .int .i64 0, .string (strOfNums y443)] 33 (0, 0)) (by (with_reducible repeat (first | apply blk_drewN | apply blk_drew | apply blk_alloc)); exact BK446.out)) : gb446 ≠ gb460)); have n7_ := Aside0.mk (Ne.symm n6_.out); clear HO_21; clear BK446; clear HB; have HO_21 := n0_; have BK446 := n1_; have HB := n2_; have BK460 := n3_; have GW460 := n4_; have GE460 := n5_; have NB446_460 := n6_; have NB460_446 := n7_; clear n0_ n1_ n2_ n3_ n4_ n5_ n6_ n7_; have hr5_0 := blk_frozen BK446.out 0; have hq5_0 : World.cell? _ ⟨gb446, 0, none⟩ = some (.int .i64 0) := (blk_cell BK446.out 0).trans rfl; have hr5_1 := blk_frozen BK446.out 1; have hq5_1 : World.cell? _ ⟨gb446, 1, none⟩ = some (.int .i64 64) := (blk_cell BK446.out 1).trans rfl; have hr5_2 := blk_frozen BK446.out 2; have hq5_2 : World.cell? _ ⟨gb446, 2, none⟩ = some (.bool (rdOf false y439 x23_2)) := (blk_cell BK446.out 2).trans rfl; have hr5_3 := blk_frozen BK446.out 3; have hq5_3 : World.cell? _ ⟨gb446, 3, none⟩ = some (.int .i64 x5_1) := (blk_cell BK446.out 3).trans rfl; have hr5_4 := blk_frozen BK446.out 4; have hq5_4 : World.cell? _ ⟨gb446, 4, none⟩ = some (.bool false) := (blk_cell BK446.out 4).trans rfl; have hr5_5 := blk_frozen BK446.out 5; have hq5_5 : World.cell? _ ⟨gb446, 5, none⟩ = some (.int .i64 0) := (blk_cell BK446.out 5).trans rfl; have hr5_6 := blk_frozen BK446.out 6; have hq5_6 : World.cell? _ ⟨gb446, 6, none⟩ = some (.int .i64 0) := (blk_cell BK446.out 6).trans rfl; have hr5_7 := blk_frozen BK446.out 7; have hq5_7 : World.cell? _ ⟨gb446, 7, none⟩ = some (.string (strOfNums y443)) := (blk_cell BK446.out 7).trans rfl; clear hb hbox hg; have hnb37 := NB460_446.out; have hnc37 := NB446_460.out; have hcz38_0 : w36.cell? ⟨gb460, 0, none⟩ = some (.int .i64 0) := (blk_cell BK460.out 0).trans rfl; have hcz38_1 : w36.cell? ⟨gb460, 1, none⟩ = some (.int .i64 0) := (blk_cell BK460.out 1).trans rfl; have hcz38_2 : w36.cell? ⟨gb460, 2, none⟩ = some (.bool false) := (blk_cell BK460.out 2).trans rfl; have hcz38_3 : w36.cell? ⟨gb460, 3, none⟩ = some (.int .i64 0) := (blk_cell BK460.out 3).trans rfl; have hcz38_4 : w36.cell? ⟨gb460, 4, none⟩ = some (.bool false) := (blk_cell BK460.out 4).trans rfl; have hcz38_5 : w36.cell? ⟨gb460, 5, none⟩ = some (.int .i64 0) := (blk_cell BK460.out 5).trans rfl; have hcz38_6 : w36.cell? ⟨gb460, 6, none⟩ = some (.int .i64 0) := (blk_cell BK460.out 6).trans rfl; have hcz38_7 : w36.cell? ⟨gb460, 7, none⟩ = some (.string (⟨#[]⟩ : ByteArray)) := (blk_cell BK460.out 7).trans rfl; have hfz38_0 := blk_frozen BK460.out 0; have hfz38_1 := blk_frozen BK460.out 1; have hfz38_2 := blk_frozen BK460.out 2; have hfz38_3 := blk_frozen BK460.out 3; have hfz38_4 := blk_frozen BK460.out 4; have hfz38_5 := blk_frozen BK460.out 5; have hfz38_6 := blk_frozen BK460.out 6; have hfz38_7 := blk_frozen BK460.out 7; have hcz39_0 : w36.cell? ⟨gb446, 0, none⟩ = some (.int .i64 0) := (blk_cell BK446.out 0).trans rfl; have hcz39_1 : w36.cell? ⟨gb446, 1, none⟩ = some (.int .i64 64) := (blk_cell BK446.out 1).trans rfl; have hcz39_2 : w36.cell? ⟨gb446, 2, none⟩ = some (.bool (rdOf false y439 x23_2)) := (blk_cell BK446.out 2).trans rfl; have hcz39_3 : w36.cell? ⟨gb446, 3, none⟩ = some (.int .i64 x5_1) := (blk_cell BK446.out 3).trans rfl; have hcz39_4 : w36.cell? ⟨gb446, 4, none⟩ = some (.bool false) := (blk_cell BK446.out 4).trans rfl; have hcz39_5 : w36.cell? ⟨gb446, 5, none⟩ = some (.int .i64 0) := (blk_cell BK446.out 5).trans rfl; have hcz39_6 : w36.cell? ⟨gb446, 6, none⟩ = some (.int .i64 0) := (blk_cell BK446.out 6).trans rfl; have hcz39_7 : w36.cell? ⟨gb446, 7, none⟩ = some (.string (strOfNums y443)) := (blk_cell BK446.out 7).trans rfl; have hfz39_0 := blk_frozen BK446.out 0; have hfz39_1 := blk_frozen BK446.out 1; have hfz39_2 := blk_frozen BK446.out 2; have hfz39_3 := blk_frozen BK446.out 3; have hfz39_4 := blk_frozen BK446.out 4; have hfz39_5 := blk_frozen BK446.out 5; have hfz39_6 := blk_frozen BK446.out 6; have hfz39_7 := blk_frozen BK446.out 7))
                   go_ret
                   exact ⟨by first | rfl | (simp [errW_none, errW_some] <;> rfl) | (simp only [← hji3, ← hji11]; first | rfl | (simp [errW_none, errW_some] <;> rfl)) | (simp [*, errW_none, errW_some] <;> rfl), by repeat (first | (with_reducible first | exact HB.out | apply below_alloc | apply pw_below_drewN | apply below_drew1 | refine below_set ?_ GE446.out | refine below_set ?_ GE460.out) | exact HB.out)⟩
                  ·rw [if_neg c34] at H
                   have c34b0 : ((!(t451 == 0) || (!(t452 == 64))) || (!(t453 == (rdOf false y439 x23_2)) || (!(t454 == x5_1) || (!(t455 == false) || (!(t456 == 0) || (!(t457 == 0) || (!(t458.toList == (strOfNums y443).toList)))))))) = false := by simpa using c34
                   have c34x : ((!(t451 == 0) || (!(t452 == 64))) || (!(t453 == (rdOf false y439 x23_2)) || (!(t454 == x5_1) || (t455 || (!(t456 == 0) || (!(t457 == 0) || (!(t458.toList == (strOfNums y443).toList)))))))) = false := (by have h_ := c34b0; rw [show (!(t455 == false)) = t455 from by (cases t455 <;> rfl)] at h_; exact h_)
                   clear c34
                   have H' := Aside0.mk H
                   clear H
                   go_wp2_with (first | ((with_reducible refine gate_callee (f := 20) rfl ?_); refine goesL_ (some 65) rfl rfl Tryd.func20 (by kernel_rfl) rfl #[.string t447, .bool a1] rfl (by (try simp only [List.map_toArray, List.map_cons, List.map_nil]); first | done | rfl) ?_; (with_reducible refine (frame_Get.calls kj26 t447 a1 t451 t452 t453 t454 t455 t456 t457 t458 t459 _ ?side1 A31.out).mono ?_); (case side1 => first | (with_reducible exact HL.out) | (with_reducible exact YtdpgdnbknmncfaaDoorX.Laid_drewN HL.out _) | exact YtdpgdnbknmncfaaDoorX.Laid_below HL.out (by repeat (first | (with_reducible first | exact HB.out | apply below_alloc | apply pw_below_drewN | apply below_drew1 | refine below_set ?_ GE446.out) | exact HB.out))); rintro e w40 ⟨rfl, hb⟩; refine ⟨_, rfl, ?_⟩; have n0_ := Aside0.mk (Kd.R_below (by (with_reducible repeat (first | apply Kd.R_alloc | apply Kd.R_drewN | apply Kd.R_drew)); exact HO_21.out) hb); have n1_ := Aside0.mk (blk_below (g := gb446) (o := .cells #[.int .i64 0, .int .i64 64, .bool (rdOf false y439 x23_2), .int .i64 x5_1, .bool false, .int .i64 0, .int .i64 0, .string (strOfNums y443)] 33 (0, 0)) (by (with_reducible repeat (first | apply blk_drewN | apply blk_drew | apply blk_alloc)); exact BK446.out) hb); have n2_ := Aside0.mk (below_step (by repeat (first | (with_reducible first | exact HB.out | apply below_alloc | apply pw_below_drewN | apply below_drew1 | refine below_set ?_ GE446.out) | exact HB.out)) hb); clear HO_21; clear BK446; clear HB; have HO_21 := n0_; have BK446 := n1_; have HB := n2_; clear n0_ n1_ n2_; have hr6_0 := blk_frozen BK446.out 0; have hq6_0 : World.cell? _ ⟨gb446, 0, none⟩ = some (.int .i64 0) := (blk_cell BK446.out 0).trans rfl; have hr6_1 := blk_frozen BK446.out 1; have hq6_1 : World.cell? _ ⟨gb446, 1, none⟩ = some (.int .i64 64) := (blk_cell BK446.out 1).trans rfl; have hr6_2 := blk_frozen BK446.out 2; have hq6_2 : World.cell? _ ⟨gb446, 2, none⟩ = some (.bool (rdOf false y439 x23_2)) := (blk_cell BK446.out 2).trans rfl; have hr6_3 := blk_frozen BK446.out 3; have hq6_3 : World.cell? _ ⟨gb446, 3, none⟩ = some (.int .i64 x5_1) := (blk_cell BK446.out 3).trans rfl; have hr6_4 := blk_frozen BK446.out 4; have hq6_4 : World.cell? _ ⟨gb446, 4, none⟩ = some (.bool false) := (blk_cell BK446.out 4).trans rfl; have hr6_5 := blk_frozen BK446.out 5; have hq6_5 : World.cell? _ ⟨gb446, 5, none⟩ = some (.int .i64 0) := (blk_cell BK446.out 5).trans rfl; have hr6_6 := blk_frozen BK446.out 6; have hq6_6 : World.cell? _ ⟨gb446, 6, none⟩ = some (.int .i64 0) := (blk_cell BK446.out 6).trans rfl; have hr6_7 := blk_frozen BK446.out 7; have hq6_7 : World.cell? _ ⟨gb446, 7, none⟩ = some (.string (strOfNums y443)) := (blk_cell BK446.out 7).trans rfl; (try clear hb); (try clear hb2); (try clear hk); (try clear hi)) | ((with_reducible refine gate_dst (N := 12) rfl ?_); (try (refine gate_guard (by rfl) ?_; dsimp only)); refine box_event ?hg (N := 12) ?hd (cs := #[.int .i64 0, .int .i64 0, .bool false, .int .i64 0, .bool false, .int .i64 0, .int .i64 0, .string (⟨#[]⟩ : ByteArray)]) (t := 33) ?hr ?_; (case hd => rfl); (case hg => rfl); (case hr => first | (go_simp; done) | (go_simp; rfl)); intro gb460 hg w41 hbox hb; have n0_ := Aside0.mk (Kd.R_below (by (with_reducible repeat (first | apply Kd.R_alloc | apply Kd.R_drewN | apply Kd.R_drew)); exact HO_21.out) hb); have n1_ := Aside0.mk (blk_below (g := gb446) (o := .cells #[.int .i64 0, .int .i64 64, .bool (rdOf false y439 x23_2), .int .i64 x5_1, .bool false, .int .i64 0, .int .i64 0, .string (strOfNums y443)] 33 (0, 0)) (by (with_reducible repeat (first | apply blk_drewN | apply blk_drew | apply blk_alloc)); exact BK446.out) hb); have n2_ := Aside0.mk (below_step (by repeat (first | (with_reducible first | exact HB.out | apply below_alloc | apply pw_below_drewN | apply below_drew1 | refine below_set ?_ GE446.out) | exact HB.out)) hb); have n3_ := Aside0.mk (hbox); have n4_ := Aside0.mk ((by rw [hg]; exact (below_size (by repeat (first | (with_reducible first | exact HB.out | apply below_alloc | apply pw_below_drewN | apply below_drew1 | refine below_set ?_ GE446.out) | exact HB.out))) : w.heap.size ≤ gb460)); have n5_ := n4_; have n6_ := Aside0.mk ((by rw [hg]; exact Nat.ne_of_lt (blk_lt (g := gb446) (o := .cells #[.int .i64 0, .int .i64 64, .bool (rdOf false y439 x23_2), .int .i64 x5_1, .bool false, .int .i64 0, .int .i64 0, .string (strOfNums y443)] 33 (0, 0)) (by (with_reducible repeat (first | apply blk_drewN | apply blk_drew | apply blk_alloc)); exact BK446.out)) : gb446 ≠ gb460)); have n7_ := Aside0.mk (Ne.symm n6_.out); clear HO_21; clear BK446; clear HB; have HO_21 := n0_; have BK446 := n1_; have HB := n2_; have BK460 := n3_; have GW460 := n4_; have GE460 := n5_; have NB446_460 := n6_; have NB460_446 := n7_; clear n0_ n1_ n2_ n3_ n4_ n5_ n6_ n7_; have hr7_0 := blk_frozen BK446.out 0; have hq7_0 : World.cell? _ ⟨gb446, 0, none⟩ = some (.int .i64 0) := (blk_cell BK446.out 0).trans rfl; have hr7_1 := blk_frozen BK446.out 1; have hq7_1 : World.cell? _ ⟨gb446, 1, none⟩ = some (.int .i64 64) := (blk_cell BK446.out 1).trans rfl; have hr7_2 := blk_frozen BK446.out 2; have hq7_2 : World.cell? _ ⟨gb446, 2, none⟩ = some (.bool (rdOf false y439 x23_2)) := (blk_cell BK446.out 2).trans rfl; have hr7_3 := blk_frozen BK446.out 3; have hq7_3 : World.cell? _ ⟨gb446, 3, none⟩ = some (.int .i64 x5_1) := (blk_cell BK446.out 3).trans rfl; have hr7_4 := blk_frozen BK446.out 4; have hq7_4 : World.cell? _ ⟨gb446, 4, none⟩ = some (.bool false) := (blk_cell BK446.out 4).trans rfl; have hr7_5 := blk_frozen BK446.out 5; have hq7_5 : World.cell? _ ⟨gb446, 5, none⟩ = some (.int .i64 0) := (blk_cell BK446.out 5).trans rfl; have hr7_6 := blk_frozen BK446.out 6; have hq7_6 : World.cell? _ ⟨gb446, 6, none⟩ = some (.int .i64 0) := (blk_cell BK446.out 6).trans rfl; have hr7_7 := blk_frozen BK446.out 7; have hq7_7 : World.cell? _ ⟨gb446, 7, none⟩ = some (.string (strOfNums y443)) := (blk_cell BK446.out 7).trans rfl; clear hb hbox hg; have hnb42 := NB460_446.out; have hnc42 := NB446_460.out; have hcz43_0 : w41.cell? ⟨gb460, 0, none⟩ = some (.int .i64 0) := (blk_cell BK460.out 0).trans rfl; have hcz43_1 : w41.cell? ⟨gb460, 1, none⟩ = some (.int .i64 0) := (blk_cell BK460.out 1).trans rfl; have hcz43_2 : w41.cell? ⟨gb460, 2, none⟩ = some (.bool false) := (blk_cell BK460.out 2).trans rfl; have hcz43_3 : w41.cell? ⟨gb460, 3, none⟩ = some (.int .i64 0) := (blk_cell BK460.out 3).trans rfl; have hcz43_4 : w41.cell? ⟨gb460, 4, none⟩ = some (.bool false) := (blk_cell BK460.out 4).trans rfl; have hcz43_5 : w41.cell? ⟨gb460, 5, none⟩ = some (.int .i64 0) := (blk_cell BK460.out 5).trans rfl; have hcz43_6 : w41.cell? ⟨gb460, 6, none⟩ = some (.int .i64 0) := (blk_cell BK460.out 6).trans rfl; have hcz43_7 : w41.cell? ⟨gb460, 7, none⟩ = some (.string (⟨#[]⟩ : ByteArray)) := (blk_cell BK460.out 7).trans rfl; have hfz43_0 := blk_frozen BK460.out 0; have hfz43_1 := blk_frozen BK460.out 1; have hfz43_2 := blk_frozen BK460.out 2; have hfz43_3 := blk_frozen BK460.out 3; have hfz43_4 := blk_frozen BK460.out 4; have hfz43_5 := blk_frozen BK460.out 5; have hfz43_6 := blk_frozen BK460.out 6; have hfz43_7 := blk_frozen BK460.out 7; have hcz44_0 : w41.cell? ⟨gb446, 0, none⟩ = some (.int .i64 0) := (blk_cell BK446.out 0).trans rfl; have hcz44_1 : w41.cell? ⟨gb446, 1, none⟩ = some (.int .i64 64) := (blk_cell BK446.out 1).trans rfl; have hcz44_2 : w41.cell? ⟨gb446, 2, none⟩ = some (.bool (rdOf false y439 x23_2)) := (blk_cell BK446.out 2).trans rfl; have hcz44_3 : w41.cell? ⟨gb446, 3, none⟩ = some (.int .i64 x5_1) := (blk_cell BK446.out 3).trans rfl; have hcz44_4 : w41.cell? ⟨gb446, 4, none⟩ = some (.bool false) := (blk_cell BK446.out 4).trans rfl; have hcz44_5 : w41.cell? ⟨gb446, 5, none⟩ = some (.int .i64 0) := (blk_cell BK446.out 5).trans rfl; have hcz44_6 : w41.cell? ⟨gb446, 6, none⟩ = some (.int .i64 0) := (blk_cell BK446.out 6).trans rfl; have hcz44_7 : w41.cell? ⟨gb446, 7, none⟩ = some (.string (strOfNums y443)) := (blk_cell BK446.out 7).trans rfl; have hfz44_0 := blk_frozen BK446.out 0; have hfz44_1 := blk_frozen BK446.out 1; have hfz44_2 := blk_frozen BK446.out 2; have hfz44_3 := blk_frozen BK446.out 3; have hfz44_4 := blk_frozen BK446.out 4; have hfz44_5 := blk_frozen BK446.out 5; have hfz44_6 := blk_frozen BK446.out 6; have hfz44_7 := blk_frozen BK446.out 7))
                   go_roundg kj26
                   case measure => have := HK1.out; have := HK2.out; have := HJ14.out; have := HJ26.out; omega
                   case rel => exact ⟨(wrap64 (x23_2 + 1)), (by first | rfl | (simp; done) | (simp [*]; done)), H', ⟨by have := HK1.out; have := HK2.out; have := HJ14.out; have := HJ26.out; omega⟩, ⟨by (with_reducible repeat (first | apply Kd.R_alloc | apply Kd.R_drewN | apply Kd.R_drew)); exact Kd.R_mono (Kd.R_far (p := ⟨gb460, 7, none⟩) (Kd.R_far (p := ⟨gb460, 6, none⟩) (Kd.R_far (p := ⟨gb460, 5, none⟩) (Kd.R_far (p := ⟨gb460, 4, none⟩) (Kd.R_far (p := ⟨gb460, 3, none⟩) (Kd.R_far (p := ⟨gb460, 2, none⟩) (Kd.R_far (p := ⟨gb460, 1, none⟩) (Kd.R_far (p := ⟨gb460, 0, none⟩) (Kd.R_types HO_21.out BK460.out (by decide)) (fun _ hk => hk.2) (.int .i64 t451)) (fun _ hk => hk.2) (.int .i64 t452)) (fun _ hk => hk.2) (.bool t453)) (fun _ hk => hk.2) (.int .i64 t454)) (fun _ hk => hk.2) (.bool t455)) (fun _ hk => hk.2) (.int .i64 t456)) (fun _ hk => hk.2) (.int .i64 t457)) (fun _ hk => hk.2) (.string t458)) (fun _ hk => trivial)⟩, ⟨by repeat (first | (with_reducible first | exact HB.out | apply below_alloc | apply pw_below_drewN | apply below_drew1 | refine below_set ?_ GE446.out | refine below_set ?_ GE460.out) | exact HB.out)⟩⟩
                 ·rw [if_neg c33] at H
                  have c33b0 : (t459 == 0) = false := beq_eq_false_iff_ne.mpr c33
                  have c33b1 : (t459 != 0) = true := bne_iff_ne.mpr c33
                  obtain rfl := Option.some.inj H
                  go_wp2_with (first | ((with_reducible refine gate_callee (f := 20) rfl ?_); refine goesL_ (some 65) rfl rfl Tryd.func20 (by kernel_rfl) rfl #[.string t447, .bool a1] rfl (by (try simp only [List.map_toArray, List.map_cons, List.map_nil]); first | done | rfl) ?_; (with_reducible refine (frame_Get.calls kj26 t447 a1 t451 t452 t453 t454 t455 t456 t457 t458 t459 _ ?side1 A31.out).mono ?_); (case side1 => first | (with_reducible exact HL.out) | (with_reducible exact YtdpgdnbknmncfaaDoorX.Laid_drewN HL.out _) | exact YtdpgdnbknmncfaaDoorX.Laid_below HL.out (by repeat (first | (with_reducible first | exact HB.out | apply below_alloc | apply pw_below_drewN | apply below_drew1 | refine below_set ?_ GE446.out) | exact HB.out))); rintro e w45 ⟨rfl, hb⟩; refine ⟨_, rfl, ?_⟩; have n0_ := Aside0.mk (Kd.R_below (by (with_reducible repeat (first | apply Kd.R_alloc | apply Kd.R_drewN | apply Kd.R_drew)); exact HO_21.out) hb); have n1_ := Aside0.mk (blk_below (g := gb446) (o := .cells #[.int .i64 0, .int .i64 64, .bool (rdOf false y439 x23_2), .int .i64 x5_1, .bool false, .int .i64 0, .int .i64 0, .string (strOfNums y443)] 33 (0, 0)) (by (with_reducible repeat (first | apply blk_drewN | apply blk_drew | apply blk_alloc)); exact BK446.out) hb); have n2_ := Aside0.mk (below_step (by repeat (first | (with_reducible first | exact HB.out | apply below_alloc | apply pw_below_drewN | apply below_drew1 | refine below_set ?_ GE446.out) | exact HB.out)) hb); clear HO_21; clear BK446; clear HB; have HO_21 := n0_; have BK446 := n1_; have HB := n2_; clear n0_ n1_ n2_; have hr8_0 := blk_frozen BK446.out 0; have hq8_0 : World.cell? _ ⟨gb446, 0, none⟩ = some (.int .i64 0) := (blk_cell BK446.out 0).trans rfl; have hr8_1 := blk_frozen BK446.out 1; have hq8_1 : World.cell? _ ⟨gb446, 1, none⟩ = some (.int .i64 64) := (blk_cell BK446.out 1).trans rfl; have hr8_2 := blk_frozen BK446.out 2; have hq8_2 : World.cell? _ ⟨gb446, 2, none⟩ = some (.bool (rdOf false y439 x23_2)) := (blk_cell BK446.out 2).trans rfl; have hr8_3 := blk_frozen BK446.out 3; have hq8_3 : World.cell? _ ⟨gb446, 3, none⟩ = some (.int .i64 x5_1) := (blk_cell BK446.out 3).trans rfl; have hr8_4 := blk_frozen BK446.out 4; have hq8_4 : World.cell? _ ⟨gb446, 4, none⟩ = some (.bool false) := (blk_cell BK446.out 4).trans rfl; have hr8_5 := blk_frozen BK446.out 5; have hq8_5 : World.cell? _ ⟨gb446, 5, none⟩ = some (.int .i64 0) := (blk_cell BK446.out 5).trans rfl; have hr8_6 := blk_frozen BK446.out 6; have hq8_6 : World.cell? _ ⟨gb446, 6, none⟩ = some (.int .i64 0) := (blk_cell BK446.out 6).trans rfl; have hr8_7 := blk_frozen BK446.out 7; have hq8_7 : World.cell? _ ⟨gb446, 7, none⟩ = some (.string (strOfNums y443)) := (blk_cell BK446.out 7).trans rfl; (try clear hb); (try clear hb2); (try clear hk); (try clear hi)) | ((with_reducible refine gate_dst (N := 12) rfl ?_); (try (refine gate_guard (by rfl) ?_; dsimp only)); refine box_event ?hg (N := 12) ?hd (cs := #[.int .i64 0, .int .i64 0, .bool false, .int .i64 0, .bool false, .int .i64 0, .int .i64 0, .string (⟨#[]⟩ : ByteArray)]) (t := 33) ?hr ?_; (case hd => rfl); (case hg => rfl); (case hr => first | (go_simp; done) | (go_simp; rfl)); intro gb460 hg w46 hbox hb; have n0_ := Aside0.mk (Kd.R_below (by (with_reducible repeat (first | apply Kd.R_alloc | apply Kd.R_drewN | apply Kd.R_drew)); exact HO_21.out) hb); have n1_ := Aside0.mk (blk_below (g := gb446) (o := .cells #[.int .i64 0, .int .i64 64, .bool (rdOf false y439 x23_2), .int .i64 x5_1, .bool false, .int .i64 0, .int .i64 0, .string (strOfNums y443)] 33 (0, 0)) (by (with_reducible repeat (first | apply blk_drewN | apply blk_drew | apply blk_alloc)); exact BK446.out) hb); have n2_ := Aside0.mk (below_step (by repeat (first | (with_reducible first | exact HB.out | apply below_alloc | apply pw_below_drewN | apply below_drew1 | refine below_set ?_ GE446.out) | exact HB.out)) hb); have n3_ := Aside0.mk (hbox); have n4_ := Aside0.mk ((by rw [hg]; exact (below_size (by repeat (first | (with_reducible first | exact HB.out | apply below_alloc | apply pw_below_drewN | apply below_drew1 | refine below_set ?_ GE446.out) | exact HB.out))) : w.heap.size ≤ gb460)); have n5_ := n4_; have n6_ := Aside0.mk ((by rw [hg]; exact Nat.ne_of_lt (blk_lt (g := gb446) (o := .cells #[.int .i64 0, .int .i64 64, .bool (rdOf false y439 x23_2), .int .i64 x5_1, .bool false, .int .i64 0, .int .i64 0, .string (strOfNums y443)] 33 (0, 0)) (by (with_reducible repeat (first | apply blk_drewN | apply blk_drew | apply blk_alloc)); exact BK446.out)) : gb446 ≠ gb460)); have n7_ := Aside0.mk (Ne.symm n6_.out); clear HO_21; clear BK446; clear HB; have HO_21 := n0_; have BK446 := n1_; have HB := n2_; have BK460 := n3_; have GW460 := n4_; have GE460 := n5_; have NB446_460 := n6_; have NB460_446 := n7_; clear n0_ n1_ n2_ n3_ n4_ n5_ n6_ n7_; have hr9_0 := blk_frozen BK446.out 0; have hq9_0 : World.cell? _ ⟨gb446, 0, none⟩ = some (.int .i64 0) := (blk_cell BK446.out 0).trans rfl; have hr9_1 := blk_frozen BK446.out 1; have hq9_1 : World.cell? _ ⟨gb446, 1, none⟩ = some (.int .i64 64) := (blk_cell BK446.out 1).trans rfl; have hr9_2 := blk_frozen BK446.out 2; have hq9_2 : World.cell? _ ⟨gb446, 2, none⟩ = some (.bool (rdOf false y439 x23_2)) := (blk_cell BK446.out 2).trans rfl; have hr9_3 := blk_frozen BK446.out 3; have hq9_3 : World.cell? _ ⟨gb446, 3, none⟩ = some (.int .i64 x5_1) := (blk_cell BK446.out 3).trans rfl; have hr9_4 := blk_frozen BK446.out 4; have hq9_4 : World.cell? _ ⟨gb446, 4, none⟩ = some (.bool false) := (blk_cell BK446.out 4).trans rfl; have hr9_5 := blk_frozen BK446.out 5; have hq9_5 : World.cell? _ ⟨gb446, 5, none⟩ = some (.int .i64 0) := (blk_cell BK446.out 5).trans rfl; have hr9_6 := blk_frozen BK446.out 6; have hq9_6 : World.cell? _ ⟨gb446, 6, none⟩ = some (.int .i64 0) := (blk_cell BK446.out 6).trans rfl; have hr9_7 := blk_frozen BK446.out 7; have hq9_7 : World.cell? _ ⟨gb446, 7, none⟩ = some (.string (strOfNums y443)) := (blk_cell BK446.out 7).trans rfl; clear hb hbox hg; have hnb47 := NB460_446.out; have hnc47 := NB446_460.out; have hcz48_0 : w46.cell? ⟨gb460, 0, none⟩ = some (.int .i64 0) := (blk_cell BK460.out 0).trans rfl; have hcz48_1 : w46.cell? ⟨gb460, 1, none⟩ = some (.int .i64 0) := (blk_cell BK460.out 1).trans rfl; have hcz48_2 : w46.cell? ⟨gb460, 2, none⟩ = some (.bool false) := (blk_cell BK460.out 2).trans rfl; have hcz48_3 : w46.cell? ⟨gb460, 3, none⟩ = some (.int .i64 0) := (blk_cell BK460.out 3).trans rfl; have hcz48_4 : w46.cell? ⟨gb460, 4, none⟩ = some (.bool false) := (blk_cell BK460.out 4).trans rfl; have hcz48_5 : w46.cell? ⟨gb460, 5, none⟩ = some (.int .i64 0) := (blk_cell BK460.out 5).trans rfl; have hcz48_6 : w46.cell? ⟨gb460, 6, none⟩ = some (.int .i64 0) := (blk_cell BK460.out 6).trans rfl; have hcz48_7 : w46.cell? ⟨gb460, 7, none⟩ = some (.string (⟨#[]⟩ : ByteArray)) := (blk_cell BK460.out 7).trans rfl; have hfz48_0 := blk_frozen BK460.out 0; have hfz48_1 := blk_frozen BK460.out 1; have hfz48_2 := blk_frozen BK460.out 2; have hfz48_3 := blk_frozen BK460.out 3; have hfz48_4 := blk_frozen BK460.out 4; have hfz48_5 := blk_frozen BK460.out 5; have hfz48_6 := blk_frozen BK460.out 6; have hfz48_7 := blk_frozen BK460.out 7))
                  go_ret
                  exact ⟨by first | rfl | (simp [errW_none, errW_some] <;> rfl) | (simp only [← hji3, ← hji11]; first | rfl | (simp [errW_none, errW_some] <;> rfl)) | (simp [*, errW_none, errW_some] <;> rfl), by repeat (first | (with_reducible first | exact HB.out | apply below_alloc | apply pw_below_drewN | apply below_drew1 | refine below_set ?_ GE446.out | refine below_set ?_ GE460.out) | exact HB.out)⟩
                ·replace c32 := Bool.eq_false_iff.mpr c32
                 subst c32
                 have H1 : (lapwinglaw06_FrameKinds.l1 kj26 (((ji3) % 300)) a1 x5_1 y439 (y439.length : Int) (wrap64 (x23_2 + 1))) = some r := by rw [if_neg (show ¬ (false = true) by decide)] at H; exact H
                 clear H
                 have H := H1
                 clear H1
                 have H' := Aside0.mk H
                 clear H
                 go_wp2_with (first | ((with_reducible refine gate_callee (f := 20) rfl ?_); refine goesL_ (some 65) rfl rfl Tryd.func20 (by kernel_rfl) rfl #[.string t447, .bool a1] rfl (by (try simp only [List.map_toArray, List.map_cons, List.map_nil]); first | done | rfl) ?_; (with_reducible refine (frame_Get.calls kj26 t447 a1 t451 t452 t453 t454 t455 t456 t457 t458 t459 _ ?side1 A31.out).mono ?_); (case side1 => first | (with_reducible exact HL.out) | (with_reducible exact YtdpgdnbknmncfaaDoorX.Laid_drewN HL.out _) | exact YtdpgdnbknmncfaaDoorX.Laid_below HL.out (by repeat (first | (with_reducible first | exact HB.out | apply below_alloc | apply pw_below_drewN | apply below_drew1 | refine below_set ?_ GE446.out) | exact HB.out))); rintro e w49 ⟨rfl, hb⟩; refine ⟨_, rfl, ?_⟩; have n0_ := Aside0.mk (Kd.R_below (by (with_reducible repeat (first | apply Kd.R_alloc | apply Kd.R_drewN | apply Kd.R_drew)); exact HO_21.out) hb); have n1_ := Aside0.mk (blk_below (g := gb446) (o := .cells #[.int .i64 0, .int .i64 64, .bool (rdOf false y439 x23_2), .int .i64 x5_1, .bool false, .int .i64 0, .int .i64 0, .string (strOfNums y443)] 33 (0, 0)) (by (with_reducible repeat (first | apply blk_drewN | apply blk_drew | apply blk_alloc)); exact BK446.out) hb); have n2_ := Aside0.mk (below_step (by repeat (first | (with_reducible first | exact HB.out | apply below_alloc | apply pw_below_drewN | apply below_drew1 | refine below_set ?_ GE446.out) | exact HB.out)) hb); clear HO_21; clear BK446; clear HB; have HO_21 := n0_; have BK446 := n1_; have HB := n2_; clear n0_ n1_ n2_; have hr10_0 := blk_frozen BK446.out 0; have hq10_0 : World.cell? _ ⟨gb446, 0, none⟩ = some (.int .i64 0) := (blk_cell BK446.out 0).trans rfl; have hr10_1 := blk_frozen BK446.out 1; have hq10_1 : World.cell? _ ⟨gb446, 1, none⟩ = some (.int .i64 64) := (blk_cell BK446.out 1).trans rfl; have hr10_2 := blk_frozen BK446.out 2; have hq10_2 : World.cell? _ ⟨gb446, 2, none⟩ = some (.bool (rdOf false y439 x23_2)) := (blk_cell BK446.out 2).trans rfl; have hr10_3 := blk_frozen BK446.out 3; have hq10_3 : World.cell? _ ⟨gb446, 3, none⟩ = some (.int .i64 x5_1) := (blk_cell BK446.out 3).trans rfl; have hr10_4 := blk_frozen BK446.out 4; have hq10_4 : World.cell? _ ⟨gb446, 4, none⟩ = some (.bool false) := (blk_cell BK446.out 4).trans rfl; have hr10_5 := blk_frozen BK446.out 5; have hq10_5 : World.cell? _ ⟨gb446, 5, none⟩ = some (.int .i64 0) := (blk_cell BK446.out 5).trans rfl; have hr10_6 := blk_frozen BK446.out 6; have hq10_6 : World.cell? _ ⟨gb446, 6, none⟩ = some (.int .i64 0) := (blk_cell BK446.out 6).trans rfl; have hr10_7 := blk_frozen BK446.out 7; have hq10_7 : World.cell? _ ⟨gb446, 7, none⟩ = some (.string (strOfNums y443)) := (blk_cell BK446.out 7).trans rfl; (try clear hb); (try clear hb2); (try clear hk); (try clear hi)) | ((with_reducible refine gate_dst (N := 12) rfl ?_); (try (refine gate_guard (by rfl) ?_; dsimp only)); refine box_event ?hg (N := 12) ?hd (cs := #[.int .i64 0, .int .i64 0, .bool false, .int .i64 0, .bool false, .int .i64 0, .int .i64 0, .string (⟨#[]⟩ : ByteArray)]) (t := 33) ?hr ?_; (case hd => rfl); (case hg => rfl); (case hr => first | (go_simp; done) | (go_simp; rfl)); intro gb460 hg w50 hbox hb; have n0_ := Aside0.mk (Kd.R_below (by (with_reducible repeat (first | apply Kd.R_alloc | apply Kd.R_drewN | apply Kd.R_drew)); exact HO_21.out) hb); have n1_ := Aside0.mk (blk_below (g := gb446) (o := .cells #[.int .i64 0, .int .i64 64, .bool (rdOf false y439 x23_2), .int .i64 x5_1, .bool false, .int .i64 0, .int .i64 0, .string (strOfNums y443)] 33 (0, 0)) (by (with_reducible repeat (first | apply blk_drewN | apply blk_drew | apply blk_alloc)); exact BK446.out) hb); have n2_ := Aside0.mk (below_step (by repeat (first | (with_reducible first | exact HB.out | apply below_alloc | apply pw_below_drewN | apply below_drew1 | refine below_set ?_ GE446.out) | exact HB.out)) hb); have n3_ := Aside0.mk (hbox); have n4_ := Aside0.mk ((by rw [hg]; exact (below_size (by repeat (first | (with_reducible first | exact HB.out | apply below_alloc | apply pw_below_drewN | apply below_drew1 | refine below_set ?_ GE446.out) | exact HB.out))) : w.heap.size ≤ gb460)); have n5_ := n4_; have n6_ := Aside0.mk ((by rw [hg]; exact Nat.ne_of_lt (blk_lt (g := gb446) (o := .cells #[.int .i64 0, .int .i64 64, .bool (rdOf false y439 x23_2), .int .i64 x5_1, .bool false, .int .i64 0, .int .i64 0, .string (strOfNums y443)] 33 (0, 0)) (by (with_reducible repeat (first | apply blk_drewN | apply blk_drew | apply blk_alloc)); exact BK446.out)) : gb446 ≠ gb460)); have n7_ := Aside0.mk (Ne.symm n6_.out); clear HO_21; clear BK446; clear HB; have HO_21 := n0_; have BK446 := n1_; have HB := n2_; have BK460 := n3_; have GW460 := n4_; have GE460 := n5_; have NB446_460 := n6_; have NB460_446 := n7_; clear n0_ n1_ n2_ n3_ n4_ n5_ n6_ n7_; have hr11_0 := blk_frozen BK446.out 0; have hq11_0 : World.cell? _ ⟨gb446, 0, none⟩ = some (.int .i64 0) := (blk_cell BK446.out 0).trans rfl; have hr11_1 := blk_frozen BK446.out 1; have hq11_1 : World.cell? _ ⟨gb446, 1, none⟩ = some (.int .i64 64) := (blk_cell BK446.out 1).trans rfl; have hr11_2 := blk_frozen BK446.out 2; have hq11_2 : World.cell? _ ⟨gb446, 2, none⟩ = some (.bool (rdOf false y439 x23_2)) := (blk_cell BK446.out 2).trans rfl; have hr11_3 := blk_frozen BK446.out 3; have hq11_3 : World.cell? _ ⟨gb446, 3, none⟩ = some (.int .i64 x5_1) := (blk_cell BK446.out 3).trans rfl; have hr11_4 := blk_frozen BK446.out 4; have hq11_4 : World.cell? _ ⟨gb446, 4, none⟩ = some (.bool false) := (blk_cell BK446.out 4).trans rfl; have hr11_5 := blk_frozen BK446.out 5; have hq11_5 : World.cell? _ ⟨gb446, 5, none⟩ = some (.int .i64 0) := (blk_cell BK446.out 5).trans rfl; have hr11_6 := blk_frozen BK446.out 6; have hq11_6 : World.cell? _ ⟨gb446, 6, none⟩ = some (.int .i64 0) := (blk_cell BK446.out 6).trans rfl; have hr11_7 := blk_frozen BK446.out 7; have hq11_7 : World.cell? _ ⟨gb446, 7, none⟩ = some (.string (strOfNums y443)) := (blk_cell BK446.out 7).trans rfl; clear hb hbox hg; have hnb51 := NB460_446.out; have hnc51 := NB446_460.out; have hcz52_0 : w50.cell? ⟨gb460, 0, none⟩ = some (.int .i64 0) := (blk_cell BK460.out 0).trans rfl; have hcz52_1 : w50.cell? ⟨gb460, 1, none⟩ = some (.int .i64 0) := (blk_cell BK460.out 1).trans rfl; have hcz52_2 : w50.cell? ⟨gb460, 2, none⟩ = some (.bool false) := (blk_cell BK460.out 2).trans rfl; have hcz52_3 : w50.cell? ⟨gb460, 3, none⟩ = some (.int .i64 0) := (blk_cell BK460.out 3).trans rfl; have hcz52_4 : w50.cell? ⟨gb460, 4, none⟩ = some (.bool false) := (blk_cell BK460.out 4).trans rfl; have hcz52_5 : w50.cell? ⟨gb460, 5, none⟩ = some (.int .i64 0) := (blk_cell BK460.out 5).trans rfl; have hcz52_6 : w50.cell? ⟨gb460, 6, none⟩ = some (.int .i64 0) := (blk_cell BK460.out 6).trans rfl; have hcz52_7 : w50.cell? ⟨gb460, 7, none⟩ = some (.string (⟨#[]⟩ : ByteArray)) := (blk_cell BK460.out 7).trans rfl; have hfz52_0 := blk_frozen BK460.out 0; have hfz52_1 := blk_frozen BK460.out 1; have hfz52_2 := blk_frozen BK460.out 2; have hfz52_3 := blk_frozen BK460.out 3; have hfz52_4 := blk_frozen BK460.out 4; have hfz52_5 := blk_frozen BK460.out 5; have hfz52_6 := blk_frozen BK460.out 6; have hfz52_7 := blk_frozen BK460.out 7))
                 go_roundg kj26
                 case measure => have := HK1.out; have := HK2.out; have := HJ14.out; have := HJ26.out; omega
                 case rel => exact ⟨(wrap64 (x23_2 + 1)), (by first | rfl | (simp; done) | (simp [*]; done)), H', ⟨by have := HK1.out; have := HK2.out; have := HJ14.out; have := HJ26.out; omega⟩, ⟨by (with_reducible repeat (first | apply Kd.R_alloc | apply Kd.R_drewN | apply Kd.R_drew)); exact Kd.R_mono (Kd.R_far (p := ⟨gb460, 7, none⟩) (Kd.R_far (p := ⟨gb460, 6, none⟩) (Kd.R_far (p := ⟨gb460, 5, none⟩) (Kd.R_far (p := ⟨gb460, 4, none⟩) (Kd.R_far (p := ⟨gb460, 3, none⟩) (Kd.R_far (p := ⟨gb460, 2, none⟩) (Kd.R_far (p := ⟨gb460, 1, none⟩) (Kd.R_far (p := ⟨gb460, 0, none⟩) (Kd.R_types HO_21.out BK460.out (by decide)) (fun _ hk => hk.2) (.int .i64 t451)) (fun _ hk => hk.2) (.int .i64 t452)) (fun _ hk => hk.2) (.bool t453)) (fun _ hk => hk.2) (.int .i64 t454)) (fun _ hk => hk.2) (.bool t455)) (fun _ hk => hk.2) (.int .i64 t456)) (fun _ hk => hk.2) (.int .i64 t457)) (fun _ hk => hk.2) (.string t458)) (fun _ hk => trivial)⟩, ⟨by repeat (first | (with_reducible first | exact HB.out | apply below_alloc | apply pw_below_drewN | apply below_drew1 | refine below_set ?_ GE446.out | refine below_set ?_ GE460.out) | exact HB.out)⟩⟩
          ·rw [if_neg c13] at H
           exact absurd H (by simp)
         ·rw [if_neg c12] at H
          exact absurd H (by simp)
        ·rw [if_neg c10] at H
         exact absurd H (by simp)
       ·rw [if_neg c9] at H
        exact absurd H (by simp)
      ·rw [if_neg c8] at H
       have c8b0 : decide (x23_2 < (y439.length : Int)) = false := decide_eq_false c8
       clear c8
       have H' := Aside0.mk H
       clear H
       go_wp2
       go_roundg k2
       case measure => have := HK1.out; have := HK2.out; omega
       case rel => exact ⟨(wrap64 (x5_1 + 1)), (by first | rfl | (simp; done) | (simp [*]; done)), H', ⟨by have := HK1.out; have := HK2.out; omega⟩, ⟨by repeat (first | (with_reducible first | exact HB.out | apply below_alloc | apply pw_below_drewN | apply below_drew1) | exact HB.out)⟩⟩
   ·rw [if_neg c4] at H
    have c4b0 : decide (x5_1 < 10) = false := decide_eq_false c4
    clear c4
    replace H := Option.bind_eq_some_iff.mp H
    obtain ⟨t438, A530, H⟩ := H
    replace H : (some t438) = some r := H
    have A53 := Aside0.mk A530
    clear A530
    obtain rfl := Option.some.inj H
    go_wp2_with (first | ((with_reducible refine gate_callee (f := 15) rfl ?_); refine goesL_ (some 79) rfl rfl Tryd.func15 (by kernel_rfl) rfl #[] rfl (by (try simp only [List.map_toArray, List.map_cons, List.map_nil]); first | done | rfl) ?_; (with_reducible refine (lapwinglaw06_wakes.calls k1  t438 _ ?side1 A53.out).mono ?_); (case side1 => first | (with_reducible exact HL.out) | (with_reducible exact YtdpgdnbknmncfaaDoorX.Laid_drewN HL.out _) | exact YtdpgdnbknmncfaaDoorX.Laid_below HL.out (by repeat (first | (with_reducible first | exact HB.out | apply below_alloc | apply pw_below_drewN | apply below_drew1) | exact HB.out))); rintro e w54 ⟨rfl, hb⟩; refine ⟨_, rfl, ?_⟩; have n0_ := Aside0.mk (below_step (by repeat (first | (with_reducible first | exact HB.out | apply below_alloc | apply pw_below_drewN | apply below_drew1) | exact HB.out)) hb); clear HB; have HB := n0_; clear n0_; (try clear hb); (try clear hb2); (try clear hk); (try clear hi)))
    go_ret
    exact ⟨by first | rfl | (simp [errW_none, errW_some] <;> rfl) | (simp only [← hji3]; first | rfl | (simp [errW_none, errW_some] <;> rfl)) | (simp [*, errW_none, errW_some] <;> rfl), by repeat (first | (with_reducible first | exact HB.out | apply below_alloc | apply pw_below_drewN | apply below_drew1) | exact HB.out)⟩

/-- THE ONE PURE STATEMENT of lapwinglaw06_FrameKinds: yours. -/
def lapwinglaw06_FrameKinds.Pure : Prop := ∀ (a0 : Int) (a1 : Bool), (Lit.int .i64 a0).wf = true → ∃ k, lapwinglaw06_FrameKinds.f k a0 a1 = some true
theorem lapwinglaw06_FrameKinds.walk (P : lapwinglaw06_FrameKinds.Pure) (a0 : Int) (a1 : Bool) (w : World) (hL : YtdpgdnbknmncfaaDoorX.Laid w) (w0 : (Lit.int .i64 a0).wf = true) :
  Calls Tryd.prog 8 #[.int .i64 a0, .bool a1] w fun e w' => e = .returned (.bool true) ∧ Below w.heap.size w w' := by
 obtain ⟨k, h⟩ := P a0 a1 w0
 refine (lapwinglaw06_FrameKinds.calls k a0 a1 true w hL h).mono ?_
 rintro e w' ⟨rfl, hd⟩
 exact ⟨rfl, hd⟩

end Go.Proofs.YtdpgdnbknmncfaaDoor.Print
