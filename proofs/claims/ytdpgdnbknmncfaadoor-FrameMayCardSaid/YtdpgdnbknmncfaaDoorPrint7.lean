-- Written by a program of this session's, over the kit's printer turned by wip/tools/mkprint.py. Lean checks it.
import Derived.Test.YtdpgdnbknmncfaaDoorPrint0
import Derived.Test.YtdpgdnbknmncfaaDoorPrint2
import Derived.Test.YtdpgdnbknmncfaaDoorPrint5
import Derived.Test.YtdpgdnbknmncfaaDoorPrint6
namespace Go.Proofs.YtdpgdnbknmncfaaDoor.Print
open Go.RowKit Go.Proofs.YtdpgdnbknmncfaaDoorW.PrintWords Go.Proofs.YtdpgdnbknmncfaaDoorW.PrintLast Go.Proofs.YtdpgdnbknmncfaaDoorW.PrintMore
attribute [local go_sem] max2_int min2_int max_two min_two max_three min_three max_four min_four   -- for this text's walks alone
set_option linter.unusedVariables false
set_option linter.unusedSimpArgs false
attribute [local go_sem high] YtdpgdnbknmncfaaDoorX.unary_xor_u16 YtdpgdnbknmncfaaDoorX.unary_xor_u8

/-! ### lapwinglaw06_FrameMay: function 3 -/
def lapwinglaw06_FrameMay.l0 : Nat → Int → Int → Int → Option (Bool)
 | 0, _, _, _ => none
 | k + 1, x0, x1, x6 => if x6 < 12 then ((frame_May.f x6 true).bind fun t181 => ((lapwingref06_May.f k x6 true).bind fun t182 => (if (t181 != t182) = true then (some false) else ((frame_May.f x6 false).bind fun t183 => ((lapwingref06_May.f k x6 false).bind fun t184 => (if (t183 != t184) = true then (some false) else ((frame_Carries.f k x6 x1).bind fun t185 => ((lapwingref06_Carries.f k x6 x1).bind fun t186 => (if (t185 != t186) = true then (some false) else (lapwinglaw06_FrameMay.l0 k x0 x1 (wrap64 (x6 + 1)))))))))))) else ((lapwinglaw06_wakes.f k).bind fun t187 => (if t187 = true then ((frame_May.f x0 true).bind fun t188 => ((lapwingref06_May.f k x0 true).bind fun t189 => (if (t188 == t189) = true then ((frame_Carries.f k x0 x1).bind fun t190 => ((lapwingref06_Carries.f k x0 x1).bind fun t191 => (some (t190 == t191)))) else (some false)))) else (some false)))
def lapwinglaw06_FrameMay.f (k : Nat) (a0 : Int) (a1 : Int) : Option (Bool) := lapwinglaw06_FrameMay.l0 k a0 a1 0
theorem lapwinglaw06_FrameMay.mono_l : ∀ k, (∀ y0 y1 y2, LeO (lapwinglaw06_FrameMay.l0 k y0 y1 y2) (lapwinglaw06_FrameMay.l0 (k + 1) y0 y1 y2))
 | 0 => fun _ _ _ r h => by simp [lapwinglaw06_FrameMay.l0] at h
 | k + 1 => by
  have ih0 := lapwinglaw06_FrameMay.mono_l k
  ·intro y0 y1 y2
   unfold lapwinglaw06_FrameMay.l0
   repeat' first
   | (with_reducible exact ih0 _ _ _)
   | (with_reducible exact frame_Carries.mono _ _ _)
   | (with_reducible exact lapwinglaw06_wakes.mono _)
   | (with_reducible exact lapwingref06_Carries.mono _ _ _)
   | (with_reducible exact lapwingref06_May.mono _ _ _)
   | (with_reducible exact LeO.refl _)
   | (with_reducible exact LeO.none _)
   | (with_reducible refine LeO.ite ?_ ?_)
   | (with_reducible refine LeO.bind ?_ (fun _ => ?_))
   | exact ih0 _ _ _
   | exact frame_Carries.mono _ _ _
   | exact lapwinglaw06_wakes.mono _
   | exact lapwingref06_Carries.mono _ _ _
   | exact lapwingref06_May.mono _ _ _
   | exact LeO.none _
   | refine LeO.ite ?_ ?_
   | refine LeO.bind ?_ (fun _ => ?_)
theorem lapwinglaw06_FrameMay.mono : ∀ a0 a1 k, LeO (lapwinglaw06_FrameMay.f k a0 a1) (lapwinglaw06_FrameMay.f (k + 1) a0 a1) := by
 intro a0 a1 k
 have ih0 := lapwinglaw06_FrameMay.mono_l k
 unfold lapwinglaw06_FrameMay.f
 repeat' first
   | (with_reducible exact ih0 _ _ _)
   | (with_reducible exact frame_Carries.mono _ _ _)
   | (with_reducible exact lapwinglaw06_wakes.mono _)
   | (with_reducible exact lapwingref06_Carries.mono _ _ _)
   | (with_reducible exact lapwingref06_May.mono _ _ _)
   | (with_reducible exact LeO.refl _)
   | (with_reducible exact LeO.none _)
   | (with_reducible refine LeO.ite ?_ ?_)
   | (with_reducible refine LeO.bind ?_ (fun _ => ?_))
   | exact ih0 _ _ _
   | exact frame_Carries.mono _ _ _
   | exact lapwinglaw06_wakes.mono _
   | exact lapwingref06_Carries.mono _ _ _
   | exact lapwingref06_May.mono _ _ _
   | exact LeO.none _
   | refine LeO.ite ?_ ?_
   | refine LeO.bind ?_ (fun _ => ?_)
set_option maxHeartbeats 8000000 in
set_option maxRecDepth 100000 in
theorem lapwinglaw06_FrameMay.calls (k : Nat) (a0 : Int) (a1 : Int) (r : Bool) (w : World) (hL : YtdpgdnbknmncfaaDoorX.Laid w) (h : lapwinglaw06_FrameMay.f k a0 a1 = some r) :
  Calls Tryd.prog 3 #[.int .i64 a0, .int .i64 a1] w fun e w' => e = .returned (.bool r) ∧ Below w.heap.size w w' := by
 have HL := Aside0.mk hL
 have HGfirst := Aside0.mk (YtdpgdnbknmncfaaDoorX.Laid_HGfirst hL)
 have HGfirst1 := Aside0.mk (YtdpgdnbknmncfaaDoorX.Laid_HGfirst1 hL)
 have HGnames := Aside0.mk (YtdpgdnbknmncfaaDoorX.Laid_HGnames hL)
 have HCfirst := Aside0.mk (show YtdpgdnbknmncfaaDoorX.glFirst.length ≤ 10 by decide)
 have HCfirst1 := Aside0.mk (show YtdpgdnbknmncfaaDoorX.glFirst1.length ≤ 9 by decide)
 have HCnames := Aside0.mk (show YtdpgdnbknmncfaaDoorX.glNames.length ≤ 10 by decide)
 clear hL
 have HB := Aside0.mk (Below.refl w.heap.size w)
 have H : (lapwinglaw06_FrameMay.l0 k a0 a1 0) = some r := h
 clear h
 have H' := Aside0.mk H
 clear H
 go_enter Tryd.func3, Tryd.ntmps3
 go_wp2
 go_loopg [6] k (fun kq v6 w' => ∃ (x6_1 : Int), v6 = .int .i64 x6_1 ∧ Aside0 (lapwinglaw06_FrameMay.l0 kq a0 a1 x6_1 = some r) ∧ Aside0 (kq ≤ k) ∧ Aside0 (Below w.heap.size w w'))
 case atStart => exact ⟨(0), (by first | rfl | (simp; done) | (simp [*]; done)), H', ⟨Nat.le_refl _⟩, ⟨by repeat (first | (with_reducible first | exact HB.out | apply below_alloc | apply pw_below_drewN | apply below_drew1) | exact HB.out)⟩⟩
 case round =>
  clear H'
  try clear p2
  obtain ⟨x6_1, rfl, HA, HK1, HB⟩ := hrel
  cases gk with
  | zero => exact absurd HA.out (by simp [lapwinglaw06_FrameMay.l0])
  | succ k1 =>
   have H := HA.out
   clear HA
   simp only [lapwinglaw06_FrameMay.l0] at H
   by_cases c3 : x6_1 < 12
   ·rw [if_pos c3] at H
    have c3b0 : decide (x6_1 < 12) = true := decide_eq_true c3
    clear c3
    replace H := Option.bind_eq_some_iff.mp H
    obtain ⟨t181, A40, H⟩ := H
    replace H : ((lapwingref06_May.f k1 x6_1 true).bind fun t182 => (if (t181 != t182) = true then (some false) else ((frame_May.f x6_1 false).bind fun t183 => ((lapwingref06_May.f k1 x6_1 false).bind fun t184 => (if (t183 != t184) = true then (some false) else ((frame_Carries.f k1 x6_1 a1).bind fun t185 => ((lapwingref06_Carries.f k1 x6_1 a1).bind fun t186 => (if (t185 != t186) = true then (some false) else (lapwinglaw06_FrameMay.l0 k1 a0 a1 (wrap64 (x6_1 + 1))))))))))) = some r := H
    have A4 := Aside0.mk A40
    clear A40
    replace H := Option.bind_eq_some_iff.mp H
    obtain ⟨t182, A50, H⟩ := H
    replace H : (if (t181 != t182) = true then (some false) else ((frame_May.f x6_1 false).bind fun t183 => ((lapwingref06_May.f k1 x6_1 false).bind fun t184 => (if (t183 != t184) = true then (some false) else ((frame_Carries.f k1 x6_1 a1).bind fun t185 => ((lapwingref06_Carries.f k1 x6_1 a1).bind fun t186 => (if (t185 != t186) = true then (some false) else (lapwinglaw06_FrameMay.l0 k1 a0 a1 (wrap64 (x6_1 + 1)))))))))) = some r := H
    have A5 := Aside0.mk A50
    clear A50
    by_cases c6 : (t181 != t182) = true
    ·rw [if_pos c6] at H
     have c6b0 : (t181 != t182) = true := c6
     (try (have c6b1 : decide (t181 = t182) = false := by simpa using c6))
     (try (have c6b2 : (t181 == t182) = false := by simpa using c6))
     (try (have c6b3 : ¬ (t181 = t182) := by simpa using c6))
     clear c6
     obtain rfl := Option.some.inj H
     go_wp2_with (first | ((with_reducible refine gate_callee (f := 11) rfl ?_); refine goesL_ (some 10) rfl rfl Tryd.func11 (by kernel_rfl) rfl #[.int .i64 x6_1, .bool true] rfl (by (try simp only [List.map_toArray, List.map_cons, List.map_nil]); first | done | rfl) ?_; (with_reducible refine (frame_May.calls x6_1 true t181 _ A4.out).mono ?_); rintro e w7 ⟨rfl, hb⟩; refine ⟨_, rfl, ?_⟩; have n0_ := Aside0.mk (below_step (by repeat (first | (with_reducible first | exact HB.out | apply below_alloc | apply pw_below_drewN | apply below_drew1) | exact HB.out)) hb); clear HB; have HB := n0_; clear n0_; (try clear hb); (try clear hb2); (try clear hk); (try clear hi)) | ((with_reducible refine gate_callee (f := 12) rfl ?_); refine goesL_ (some 12) rfl rfl Tryd.func12 (by kernel_rfl) rfl #[.int .i64 x6_1, .bool true] rfl (by (try simp only [List.map_toArray, List.map_cons, List.map_nil]); first | done | rfl) ?_; (with_reducible refine (lapwingref06_May.calls k1 x6_1 true t182 _ A5.out).mono ?_); rintro e w8 ⟨rfl, hb⟩; refine ⟨_, rfl, ?_⟩; have n0_ := Aside0.mk (below_step (by repeat (first | (with_reducible first | exact HB.out | apply below_alloc | apply pw_below_drewN | apply below_drew1) | exact HB.out)) hb); clear HB; have HB := n0_; clear n0_; (try clear hb); (try clear hb2); (try clear hk); (try clear hi)))
     go_ret
     exact ⟨by first | rfl | (simp [errW_none, errW_some] <;> rfl) | (simp [*, errW_none, errW_some] <;> rfl), by repeat (first | (with_reducible first | exact HB.out | apply below_alloc | apply pw_below_drewN | apply below_drew1) | exact HB.out)⟩
    ·rw [if_neg c6] at H
     have c6b0 : (t181 != t182) = false := by simpa using c6
     (try (have c6b1 : decide (t181 = t182) = true := by simpa using c6))
     (try (have c6b2 : (t181 == t182) = true := by simpa using c6))
     clear c6
     replace H := Option.bind_eq_some_iff.mp H
     obtain ⟨t183, A90, H⟩ := H
     replace H : ((lapwingref06_May.f k1 x6_1 false).bind fun t184 => (if (t183 != t184) = true then (some false) else ((frame_Carries.f k1 x6_1 a1).bind fun t185 => ((lapwingref06_Carries.f k1 x6_1 a1).bind fun t186 => (if (t185 != t186) = true then (some false) else (lapwinglaw06_FrameMay.l0 k1 a0 a1 (wrap64 (x6_1 + 1)))))))) = some r := H
     have A9 := Aside0.mk A90
     clear A90
     replace H := Option.bind_eq_some_iff.mp H
     obtain ⟨t184, A100, H⟩ := H
     replace H : (if (t183 != t184) = true then (some false) else ((frame_Carries.f k1 x6_1 a1).bind fun t185 => ((lapwingref06_Carries.f k1 x6_1 a1).bind fun t186 => (if (t185 != t186) = true then (some false) else (lapwinglaw06_FrameMay.l0 k1 a0 a1 (wrap64 (x6_1 + 1))))))) = some r := H
     have A10 := Aside0.mk A100
     clear A100
     by_cases c11 : (t183 != t184) = true
     ·rw [if_pos c11] at H
      have c11b0 : (t183 != t184) = true := c11
      (try (have c11b1 : decide (t183 = t184) = false := by simpa using c11))
      (try (have c11b2 : (t183 == t184) = false := by simpa using c11))
      (try (have c11b3 : ¬ (t183 = t184) := by simpa using c11))
      clear c11
      obtain rfl := Option.some.inj H
      go_wp2_with (first | ((with_reducible refine gate_callee (f := 11) rfl ?_); refine goesL_ (some 10) rfl rfl Tryd.func11 (by kernel_rfl) rfl #[.int .i64 x6_1, .bool true] rfl (by (try simp only [List.map_toArray, List.map_cons, List.map_nil]); first | done | rfl) ?_; (with_reducible refine (frame_May.calls x6_1 true t181 _ A4.out).mono ?_); rintro e w12 ⟨rfl, hb⟩; refine ⟨_, rfl, ?_⟩; have n0_ := Aside0.mk (below_step (by repeat (first | (with_reducible first | exact HB.out | apply below_alloc | apply pw_below_drewN | apply below_drew1) | exact HB.out)) hb); clear HB; have HB := n0_; clear n0_; (try clear hb); (try clear hb2); (try clear hk); (try clear hi)) | ((with_reducible refine gate_callee (f := 12) rfl ?_); refine goesL_ (some 12) rfl rfl Tryd.func12 (by kernel_rfl) rfl #[.int .i64 x6_1, .bool true] rfl (by (try simp only [List.map_toArray, List.map_cons, List.map_nil]); first | done | rfl) ?_; (with_reducible refine (lapwingref06_May.calls k1 x6_1 true t182 _ A5.out).mono ?_); rintro e w13 ⟨rfl, hb⟩; refine ⟨_, rfl, ?_⟩; have n0_ := Aside0.mk (below_step (by repeat (first | (with_reducible first | exact HB.out | apply below_alloc | apply pw_below_drewN | apply below_drew1) | exact HB.out)) hb); clear HB; have HB := n0_; clear n0_; (try clear hb); (try clear hb2); (try clear hk); (try clear hi)) | (go_at_call 11; (with_reducible refine (frame_May.calls x6_1 false t183 _ A9.out).mono ?_); rintro e w14 ⟨rfl, hb⟩; have n0_ := Aside0.mk (below_step (by repeat (first | (with_reducible first | exact HB.out | apply below_alloc | apply pw_below_drewN | apply below_drew1) | exact HB.out)) hb); clear HB; have HB := n0_; clear n0_; (try clear hb); (try clear hb2); (try clear hk); (try clear hi)) | (go_at_call 12; (with_reducible refine (lapwingref06_May.calls k1 x6_1 false t184 _ A10.out).mono ?_); rintro e w15 ⟨rfl, hb⟩; have n0_ := Aside0.mk (below_step (by repeat (first | (with_reducible first | exact HB.out | apply below_alloc | apply pw_below_drewN | apply below_drew1) | exact HB.out)) hb); clear HB; have HB := n0_; clear n0_; (try clear hb); (try clear hb2); (try clear hk); (try clear hi)))
      go_ret
      exact ⟨by first | rfl | (simp [errW_none, errW_some] <;> rfl) | (simp [*, errW_none, errW_some] <;> rfl), by repeat (first | (with_reducible first | exact HB.out | apply below_alloc | apply pw_below_drewN | apply below_drew1) | exact HB.out)⟩
     ·rw [if_neg c11] at H
      have c11b0 : (t183 != t184) = false := by simpa using c11
      (try (have c11b1 : decide (t183 = t184) = true := by simpa using c11))
      (try (have c11b2 : (t183 == t184) = true := by simpa using c11))
      clear c11
      replace H := Option.bind_eq_some_iff.mp H
      obtain ⟨t185, A160, H⟩ := H
      replace H : ((lapwingref06_Carries.f k1 x6_1 a1).bind fun t186 => (if (t185 != t186) = true then (some false) else (lapwinglaw06_FrameMay.l0 k1 a0 a1 (wrap64 (x6_1 + 1))))) = some r := H
      have A16 := Aside0.mk A160
      clear A160
      replace H := Option.bind_eq_some_iff.mp H
      obtain ⟨t186, A170, H⟩ := H
      replace H : (if (t185 != t186) = true then (some false) else (lapwinglaw06_FrameMay.l0 k1 a0 a1 (wrap64 (x6_1 + 1)))) = some r := H
      have A17 := Aside0.mk A170
      clear A170
      by_cases c18 : (t185 != t186) = true
      ·rw [if_pos c18] at H
       have c18b0 : (t185 != t186) = true := c18
       (try (have c18b1 : decide (t185 = t186) = false := by simpa using c18))
       (try (have c18b2 : (t185 == t186) = false := by simpa using c18))
       (try (have c18b3 : ¬ (t185 = t186) := by simpa using c18))
       clear c18
       obtain rfl := Option.some.inj H
       go_wp2_with (first | ((with_reducible refine gate_callee (f := 11) rfl ?_); refine goesL_ (some 10) rfl rfl Tryd.func11 (by kernel_rfl) rfl #[.int .i64 x6_1, .bool true] rfl (by (try simp only [List.map_toArray, List.map_cons, List.map_nil]); first | done | rfl) ?_; (with_reducible refine (frame_May.calls x6_1 true t181 _ A4.out).mono ?_); rintro e w19 ⟨rfl, hb⟩; refine ⟨_, rfl, ?_⟩; have n0_ := Aside0.mk (below_step (by repeat (first | (with_reducible first | exact HB.out | apply below_alloc | apply pw_below_drewN | apply below_drew1) | exact HB.out)) hb); clear HB; have HB := n0_; clear n0_; (try clear hb); (try clear hb2); (try clear hk); (try clear hi)) | ((with_reducible refine gate_callee (f := 12) rfl ?_); refine goesL_ (some 12) rfl rfl Tryd.func12 (by kernel_rfl) rfl #[.int .i64 x6_1, .bool true] rfl (by (try simp only [List.map_toArray, List.map_cons, List.map_nil]); first | done | rfl) ?_; (with_reducible refine (lapwingref06_May.calls k1 x6_1 true t182 _ A5.out).mono ?_); rintro e w20 ⟨rfl, hb⟩; refine ⟨_, rfl, ?_⟩; have n0_ := Aside0.mk (below_step (by repeat (first | (with_reducible first | exact HB.out | apply below_alloc | apply pw_below_drewN | apply below_drew1) | exact HB.out)) hb); clear HB; have HB := n0_; clear n0_; (try clear hb); (try clear hb2); (try clear hk); (try clear hi)) | (go_at_call 11; (with_reducible refine (frame_May.calls x6_1 false t183 _ A9.out).mono ?_); rintro e w21 ⟨rfl, hb⟩; have n0_ := Aside0.mk (below_step (by repeat (first | (with_reducible first | exact HB.out | apply below_alloc | apply pw_below_drewN | apply below_drew1) | exact HB.out)) hb); clear HB; have HB := n0_; clear n0_; (try clear hb); (try clear hb2); (try clear hk); (try clear hi)) | (go_at_call 12; (with_reducible refine (lapwingref06_May.calls k1 x6_1 false t184 _ A10.out).mono ?_); rintro e w22 ⟨rfl, hb⟩; have n0_ := Aside0.mk (below_step (by repeat (first | (with_reducible first | exact HB.out | apply below_alloc | apply pw_below_drewN | apply below_drew1) | exact HB.out)) hb); clear HB; have HB := n0_; clear n0_; (try clear hb); (try clear hb2); (try clear hk); (try clear hi)) | (go_at_call 13; (with_reducible refine (frame_Carries.calls k1 x6_1 a1 t185 _ ?side1 A16.out).mono ?_); (case side1 => first | (with_reducible exact HL.out) | (with_reducible exact YtdpgdnbknmncfaaDoorX.Laid_drewN HL.out _) | exact YtdpgdnbknmncfaaDoorX.Laid_below HL.out (by repeat (first | (with_reducible first | exact HB.out | apply below_alloc | apply pw_below_drewN | apply below_drew1) | exact HB.out))); rintro e w' ⟨rfl, ⟨nd, rfl⟩⟩) | (go_at_call 14; (with_reducible refine (lapwingref06_Carries.calls k1 x6_1 a1 t186 _ A17.out).mono ?_); rintro e w' ⟨rfl, ⟨nd, rfl⟩⟩))
       go_ret
       exact ⟨by first | rfl | (simp [errW_none, errW_some] <;> rfl) | (simp [*, errW_none, errW_some] <;> rfl), by repeat (first | (with_reducible first | exact HB.out | apply below_alloc | apply pw_below_drewN | apply below_drew1) | exact HB.out)⟩
      ·rw [if_neg c18] at H
       have c18b0 : (t185 != t186) = false := by simpa using c18
       (try (have c18b1 : decide (t185 = t186) = true := by simpa using c18))
       (try (have c18b2 : (t185 == t186) = true := by simpa using c18))
       clear c18
       have H' := Aside0.mk H
       clear H
       go_wp2_with (first | ((with_reducible refine gate_callee (f := 11) rfl ?_); refine goesL_ (some 10) rfl rfl Tryd.func11 (by kernel_rfl) rfl #[.int .i64 x6_1, .bool true] rfl (by (try simp only [List.map_toArray, List.map_cons, List.map_nil]); first | done | rfl) ?_; (with_reducible refine (frame_May.calls x6_1 true t181 _ A4.out).mono ?_); rintro e w23 ⟨rfl, hb⟩; refine ⟨_, rfl, ?_⟩; have n0_ := Aside0.mk (below_step (by repeat (first | (with_reducible first | exact HB.out | apply below_alloc | apply pw_below_drewN | apply below_drew1) | exact HB.out)) hb); clear HB; have HB := n0_; clear n0_; (try clear hb); (try clear hb2); (try clear hk); (try clear hi)) | ((with_reducible refine gate_callee (f := 12) rfl ?_); refine goesL_ (some 12) rfl rfl Tryd.func12 (by kernel_rfl) rfl #[.int .i64 x6_1, .bool true] rfl (by (try simp only [List.map_toArray, List.map_cons, List.map_nil]); first | done | rfl) ?_; (with_reducible refine (lapwingref06_May.calls k1 x6_1 true t182 _ A5.out).mono ?_); rintro e w24 ⟨rfl, hb⟩; refine ⟨_, rfl, ?_⟩; have n0_ := Aside0.mk (below_step (by repeat (first | (with_reducible first | exact HB.out | apply below_alloc | apply pw_below_drewN | apply below_drew1) | exact HB.out)) hb); clear HB; have HB := n0_; clear n0_; (try clear hb); (try clear hb2); (try clear hk); (try clear hi)) | (go_at_call 11; (with_reducible refine (frame_May.calls x6_1 false t183 _ A9.out).mono ?_); rintro e w25 ⟨rfl, hb⟩; have n0_ := Aside0.mk (below_step (by repeat (first | (with_reducible first | exact HB.out | apply below_alloc | apply pw_below_drewN | apply below_drew1) | exact HB.out)) hb); clear HB; have HB := n0_; clear n0_; (try clear hb); (try clear hb2); (try clear hk); (try clear hi)) | (go_at_call 12; (with_reducible refine (lapwingref06_May.calls k1 x6_1 false t184 _ A10.out).mono ?_); rintro e w26 ⟨rfl, hb⟩; have n0_ := Aside0.mk (below_step (by repeat (first | (with_reducible first | exact HB.out | apply below_alloc | apply pw_below_drewN | apply below_drew1) | exact HB.out)) hb); clear HB; have HB := n0_; clear n0_; (try clear hb); (try clear hb2); (try clear hk); (try clear hi)) | (go_at_call 13; (with_reducible refine (frame_Carries.calls k1 x6_1 a1 t185 _ ?side1 A16.out).mono ?_); (case side1 => first | (with_reducible exact HL.out) | (with_reducible exact YtdpgdnbknmncfaaDoorX.Laid_drewN HL.out _) | exact YtdpgdnbknmncfaaDoorX.Laid_below HL.out (by repeat (first | (with_reducible first | exact HB.out | apply below_alloc | apply pw_below_drewN | apply below_drew1) | exact HB.out))); rintro e w' ⟨rfl, ⟨nd, rfl⟩⟩) | (go_at_call 14; (with_reducible refine (lapwingref06_Carries.calls k1 x6_1 a1 t186 _ A17.out).mono ?_); rintro e w' ⟨rfl, ⟨nd, rfl⟩⟩))
       go_roundg k1
       case measure => have := HK1.out; omega
       case rel => exact ⟨(wrap64 (x6_1 + 1)), (by first | rfl | (simp; done) | (simp [*]; done)), H', ⟨by have := HK1.out; omega⟩, ⟨by repeat (first | (with_reducible first | exact HB.out | apply below_alloc | apply pw_below_drewN | apply below_drew1) | exact HB.out)⟩⟩
   ·rw [if_neg c3] at H
    have c3b0 : decide (x6_1 < 12) = false := decide_eq_false c3
    clear c3
    replace H := Option.bind_eq_some_iff.mp H
    obtain ⟨t187, A270, H⟩ := H
    replace H : (if t187 = true then ((frame_May.f a0 true).bind fun t188 => ((lapwingref06_May.f k1 a0 true).bind fun t189 => (if (t188 == t189) = true then ((frame_Carries.f k1 a0 a1).bind fun t190 => ((lapwingref06_Carries.f k1 a0 a1).bind fun t191 => (some (t190 == t191)))) else (some false)))) else (some false)) = some r := H
    have A27 := Aside0.mk A270
    clear A270
    by_cases c28 : t187 = true
    ·subst c28
     have H1 : ((frame_May.f a0 true).bind fun t188 => ((lapwingref06_May.f k1 a0 true).bind fun t189 => (if (t188 == t189) = true then ((frame_Carries.f k1 a0 a1).bind fun t190 => ((lapwingref06_Carries.f k1 a0 a1).bind fun t191 => (some (t190 == t191)))) else (some false)))) = some r := by rw [if_pos rfl] at H; exact H
     clear H
     have H := H1
     clear H1
     replace H := Option.bind_eq_some_iff.mp H
     obtain ⟨t188, A290, H⟩ := H
     replace H : ((lapwingref06_May.f k1 a0 true).bind fun t189 => (if (t188 == t189) = true then ((frame_Carries.f k1 a0 a1).bind fun t190 => ((lapwingref06_Carries.f k1 a0 a1).bind fun t191 => (some (t190 == t191)))) else (some false))) = some r := H
     have A29 := Aside0.mk A290
     clear A290
     replace H := Option.bind_eq_some_iff.mp H
     obtain ⟨t189, A300, H⟩ := H
     replace H : (if (t188 == t189) = true then ((frame_Carries.f k1 a0 a1).bind fun t190 => ((lapwingref06_Carries.f k1 a0 a1).bind fun t191 => (some (t190 == t191)))) else (some false)) = some r := H
     have A30 := Aside0.mk A300
     clear A300
     by_cases c31 : (t188 == t189) = true
     ·rw [if_pos c31] at H
      have c31b0 : (t188 == t189) = true := c31
      (try (have c31b1 : decide (t188 = t189) = true := by simpa using c31))
      (try (have c31b2 : (t188 == t189) = true := by simpa using c31))
      clear c31
      replace H := Option.bind_eq_some_iff.mp H
      obtain ⟨t190, A320, H⟩ := H
      replace H : ((lapwingref06_Carries.f k1 a0 a1).bind fun t191 => (some (t190 == t191))) = some r := H
      have A32 := Aside0.mk A320
      clear A320
      replace H := Option.bind_eq_some_iff.mp H
      obtain ⟨t191, A330, H⟩ := H
      replace H : (some (t190 == t191)) = some r := H
      have A33 := Aside0.mk A330
      clear A330
      obtain rfl := Option.some.inj H
      go_wp2_with (first | ((with_reducible refine gate_callee (f := 15) rfl ?_); refine goesL_ (some 31) rfl rfl Tryd.func15 (by kernel_rfl) rfl #[] rfl (by (try simp only [List.map_toArray, List.map_cons, List.map_nil]); first | done | rfl) ?_; (with_reducible refine (lapwinglaw06_wakes.calls k1  true _ ?side1 A27.out).mono ?_); (case side1 => first | (with_reducible exact HL.out) | (with_reducible exact YtdpgdnbknmncfaaDoorX.Laid_drewN HL.out _) | exact YtdpgdnbknmncfaaDoorX.Laid_below HL.out (by repeat (first | (with_reducible first | exact HB.out | apply below_alloc | apply pw_below_drewN | apply below_drew1) | exact HB.out))); rintro e w34 ⟨rfl, hb⟩; refine ⟨_, rfl, ?_⟩; have n0_ := Aside0.mk (below_step (by repeat (first | (with_reducible first | exact HB.out | apply below_alloc | apply pw_below_drewN | apply below_drew1) | exact HB.out)) hb); clear HB; have HB := n0_; clear n0_; (try clear hb); (try clear hb2); (try clear hk); (try clear hi)) | (go_at_call 11; (with_reducible refine (frame_May.calls a0 true t188 _ A29.out).mono ?_); rintro e w35 ⟨rfl, hb⟩; have n0_ := Aside0.mk (below_step (by repeat (first | (with_reducible first | exact HB.out | apply below_alloc | apply pw_below_drewN | apply below_drew1) | exact HB.out)) hb); clear HB; have HB := n0_; clear n0_; (try clear hb); (try clear hb2); (try clear hk); (try clear hi)) | (go_at_call 12; (with_reducible refine (lapwingref06_May.calls k1 a0 true t189 _ A30.out).mono ?_); rintro e w36 ⟨rfl, hb⟩; have n0_ := Aside0.mk (below_step (by repeat (first | (with_reducible first | exact HB.out | apply below_alloc | apply pw_below_drewN | apply below_drew1) | exact HB.out)) hb); clear HB; have HB := n0_; clear n0_; (try clear hb); (try clear hb2); (try clear hk); (try clear hi)) | (go_at_call 13; (with_reducible refine (frame_Carries.calls k1 a0 a1 t190 _ ?side1 A32.out).mono ?_); (case side1 => first | (with_reducible exact HL.out) | (with_reducible exact YtdpgdnbknmncfaaDoorX.Laid_drewN HL.out _) | exact YtdpgdnbknmncfaaDoorX.Laid_below HL.out (by repeat (first | (with_reducible first | exact HB.out | apply below_alloc | apply pw_below_drewN | apply below_drew1) | exact HB.out))); rintro e w' ⟨rfl, ⟨nd, rfl⟩⟩) | (go_at_call 14; (with_reducible refine (lapwingref06_Carries.calls k1 a0 a1 t191 _ A33.out).mono ?_); rintro e w' ⟨rfl, ⟨nd, rfl⟩⟩))
      go_ret
      exact ⟨by first | rfl | (simp [errW_none, errW_some] <;> rfl) | (simp [*, errW_none, errW_some] <;> rfl), by repeat (first | (with_reducible first | exact HB.out | apply below_alloc | apply pw_below_drewN | apply below_drew1) | exact HB.out)⟩
     ·rw [if_neg c31] at H
      have c31b0 : (t188 == t189) = false := by simpa using c31
      (try (have c31b1 : decide (t188 = t189) = false := by simpa using c31))
      (try (have c31b2 : (t188 == t189) = false := by simpa using c31))
      (try (have c31b3 : ¬ (t188 = t189) := by simpa using c31))
      clear c31
      obtain rfl := Option.some.inj H
      go_wp2_with (first | ((with_reducible refine gate_callee (f := 15) rfl ?_); refine goesL_ (some 31) rfl rfl Tryd.func15 (by kernel_rfl) rfl #[] rfl (by (try simp only [List.map_toArray, List.map_cons, List.map_nil]); first | done | rfl) ?_; (with_reducible refine (lapwinglaw06_wakes.calls k1  true _ ?side1 A27.out).mono ?_); (case side1 => first | (with_reducible exact HL.out) | (with_reducible exact YtdpgdnbknmncfaaDoorX.Laid_drewN HL.out _) | exact YtdpgdnbknmncfaaDoorX.Laid_below HL.out (by repeat (first | (with_reducible first | exact HB.out | apply below_alloc | apply pw_below_drewN | apply below_drew1) | exact HB.out))); rintro e w37 ⟨rfl, hb⟩; refine ⟨_, rfl, ?_⟩; have n0_ := Aside0.mk (below_step (by repeat (first | (with_reducible first | exact HB.out | apply below_alloc | apply pw_below_drewN | apply below_drew1) | exact HB.out)) hb); clear HB; have HB := n0_; clear n0_; (try clear hb); (try clear hb2); (try clear hk); (try clear hi)) | (go_at_call 11; (with_reducible refine (frame_May.calls a0 true t188 _ A29.out).mono ?_); rintro e w38 ⟨rfl, hb⟩; have n0_ := Aside0.mk (below_step (by repeat (first | (with_reducible first | exact HB.out | apply below_alloc | apply pw_below_drewN | apply below_drew1) | exact HB.out)) hb); clear HB; have HB := n0_; clear n0_; (try clear hb); (try clear hb2); (try clear hk); (try clear hi)) | (go_at_call 12; (with_reducible refine (lapwingref06_May.calls k1 a0 true t189 _ A30.out).mono ?_); rintro e w39 ⟨rfl, hb⟩; have n0_ := Aside0.mk (below_step (by repeat (first | (with_reducible first | exact HB.out | apply below_alloc | apply pw_below_drewN | apply below_drew1) | exact HB.out)) hb); clear HB; have HB := n0_; clear n0_; (try clear hb); (try clear hb2); (try clear hk); (try clear hi)))
      go_ret
      exact ⟨by first | rfl | (simp [errW_none, errW_some] <;> rfl) | (simp [*, errW_none, errW_some] <;> rfl), by repeat (first | (with_reducible first | exact HB.out | apply below_alloc | apply pw_below_drewN | apply below_drew1) | exact HB.out)⟩
    ·replace c28 := Bool.eq_false_iff.mpr c28
     subst c28
     have H1 : (some false) = some r := by rw [if_neg (show ¬ (false = true) by decide)] at H; exact H
     clear H
     have H := H1
     clear H1
     obtain rfl := Option.some.inj H
     go_wp2_with (first | ((with_reducible refine gate_callee (f := 15) rfl ?_); refine goesL_ (some 31) rfl rfl Tryd.func15 (by kernel_rfl) rfl #[] rfl (by (try simp only [List.map_toArray, List.map_cons, List.map_nil]); first | done | rfl) ?_; (with_reducible refine (lapwinglaw06_wakes.calls k1  false _ ?side1 A27.out).mono ?_); (case side1 => first | (with_reducible exact HL.out) | (with_reducible exact YtdpgdnbknmncfaaDoorX.Laid_drewN HL.out _) | exact YtdpgdnbknmncfaaDoorX.Laid_below HL.out (by repeat (first | (with_reducible first | exact HB.out | apply below_alloc | apply pw_below_drewN | apply below_drew1) | exact HB.out))); rintro e w40 ⟨rfl, hb⟩; refine ⟨_, rfl, ?_⟩; have n0_ := Aside0.mk (below_step (by repeat (first | (with_reducible first | exact HB.out | apply below_alloc | apply pw_below_drewN | apply below_drew1) | exact HB.out)) hb); clear HB; have HB := n0_; clear n0_; (try clear hb); (try clear hb2); (try clear hk); (try clear hi)))
     go_ret
     exact ⟨by first | rfl | (simp [errW_none, errW_some] <;> rfl) | (simp [*, errW_none, errW_some] <;> rfl), by repeat (first | (with_reducible first | exact HB.out | apply below_alloc | apply pw_below_drewN | apply below_drew1) | exact HB.out)⟩

/-- THE ONE PURE STATEMENT of lapwinglaw06_FrameMay: yours. -/
def lapwinglaw06_FrameMay.Pure : Prop := ∀ (a0 : Int) (a1 : Int), (Lit.int .i64 a0).wf = true → (Lit.int .i64 a1).wf = true → ∃ k, lapwinglaw06_FrameMay.f k a0 a1 = some true
theorem lapwinglaw06_FrameMay.walk (P : lapwinglaw06_FrameMay.Pure) (a0 : Int) (a1 : Int) (w : World) (hL : YtdpgdnbknmncfaaDoorX.Laid w) (w0 : (Lit.int .i64 a0).wf = true) (w1 : (Lit.int .i64 a1).wf = true) :
  Calls Tryd.prog 3 #[.int .i64 a0, .int .i64 a1] w fun e w' => e = .returned (.bool true) ∧ Below w.heap.size w w' := by
 obtain ⟨k, h⟩ := P a0 a1 w0 w1
 refine (lapwinglaw06_FrameMay.calls k a0 a1 true w hL h).mono ?_
 rintro e w' ⟨rfl, hd⟩
 exact ⟨rfl, hd⟩

end Go.Proofs.YtdpgdnbknmncfaaDoor.Print
