-- Written by a program of this session's, over the kit's printer turned by wip/tools/mkprint.py. Lean checks it.
import Derived.Test.YtmgiolpooamkkaaDoorPuts0
import Derived.Test.YtmgiolpooamkkaaDoorPuts1
import Derived.Test.YtmgiolpooamkkaaDoorPuts2
namespace Go.Proofs.YtmgiolpooamkkaaDoor.Puts
open Go.RowKit Go.Proofs.YtmgiolpooamkkaaDoorW.PrintWords Go.Proofs.YtmgiolpooamkkaaDoorW.PrintLast Go.Proofs.YtmgiolpooamkkaaDoorW.PrintMore
abbrev tT : Bool := true
abbrev tF : Bool := false
attribute [local go_sem] max2_int min2_int max_two min_two max_three min_three max_four min_four   -- for this text's walks alone
set_option linter.unusedVariables false
set_option linter.unusedSimpArgs false
attribute [local go_sem high] Go.Proofs.YtmgiolpooamkkaaDoorX.unary_xor_u16 Go.Proofs.YtmgiolpooamkkaaDoorX.unary_xor_u8

/-! ### lapwinglaw07_TeimsgPuts: function 3 -/
def lapwinglaw07_TeimsgPuts.f (k : Nat) (a0_0 : Int) (a0_1 : Int) (a0_2 : Int) : Option (Bool) := (lapwinglaw07_made.f a0_0 a0_1 a0_2).bind fun bt134 => ((teimsg_Put.f k bt134.1 bt134.2.1 bt134.2.2).bind fun bt137 => ((lapwingref07_Put.f k a0_0 a0_1 a0_2).bind fun bt139 => ((lapwinglaw07_made.f a0_0 a0_1 a0_2).bind fun bt141 => ((teimsg_Frame.f k bt141.1 bt141.2.1 bt141.2.2).bind fun bt144 => ((lapwingref07_Frame.f k a0_0 a0_1 a0_2).bind fun bt154 => ((lapwinglaw07_wakes.f k).bind fun t164 => (if t164 = true then (if bt137.1.toList = bt139.1.toList then (if bt137.2 = bt139.2 then (if bt144.2.2.2.2.2.2.2.2 = bt154.2.2.2.2.2.2.2.2 then ((lapwinglaw07_sameFrame.f bt144.1 bt144.2.1 bt144.2.2.1 bt144.2.2.2.1 bt144.2.2.2.2.1 bt144.2.2.2.2.2.1 bt144.2.2.2.2.2.2.1 bt144.2.2.2.2.2.2.2.1 bt154.1 bt154.2.1 bt154.2.2.1 bt154.2.2.2.1 bt154.2.2.2.2.1 bt154.2.2.2.2.2.1 bt154.2.2.2.2.2.2.1 bt154.2.2.2.2.2.2.2.1).bind fun t165 => (if t165 = true then ((teimsg_Type_FromNetwork.f a0_0).bind fun t166 => ((lapwingref07_FromNetwork.f a0_0).bind fun t167 => (some (t166 == t167)))) else (some false))) else (some false)) else (some false)) else (some false)) else (some false))))))))
theorem lapwinglaw07_TeimsgPuts.mono : ∀ a0 a1 a2 k, LeO (lapwinglaw07_TeimsgPuts.f k a0 a1 a2) (lapwinglaw07_TeimsgPuts.f (k + 1) a0 a1 a2) := by
 intro a0 a1 a2 k
 unfold lapwinglaw07_TeimsgPuts.f
 repeat' first
   | (with_reducible exact lapwinglaw07_wakes.mono _)
   | (with_reducible exact lapwingref07_Frame.mono _ _ _ _)
   | (with_reducible exact lapwingref07_Put.mono _ _ _ _)
   | (with_reducible exact teimsg_Frame.mono _ _ _ _)
   | (with_reducible exact teimsg_Put.mono _ _ _ _)
   | (with_reducible exact LeO.refl _)
   | (with_reducible exact LeO.none _)
   | (with_reducible refine LeO.ite ?_ ?_)
   | (with_reducible refine LeO.bind ?_ (fun _ => ?_))
   | exact lapwinglaw07_wakes.mono _
   | exact lapwingref07_Frame.mono _ _ _ _
   | exact lapwingref07_Put.mono _ _ _ _
   | exact teimsg_Frame.mono _ _ _ _
   | exact teimsg_Put.mono _ _ _ _
   | exact LeO.none _
   | refine LeO.ite ?_ ?_
   | refine LeO.bind ?_ (fun _ => ?_)
def lapwinglaw07_TeimsgPuts.T5 : Bool × List (List Nat × List Nat) := (true, [([], []), ([0, 0], [0]), ([1], [1]), ([1], [1]), ([2, 3, 1], [1, 2, 3]), ([1, 4], [1, 4]), ([5, 1], [5]), ([6], [6]), ([6], [6]), ([7, 8, 6], [6, 7, 8]), ([6, 9], [6, 9]), ([10, 6], [10]), ([11], [11]), ([11], [11]), ([12, 13, 11], [11, 12, 13]), ([11, 14], [11, 14]), ([15, 11], [15]), ([16], [16]), ([16], [16]), ([17, 18, 16, 16], [16, 17, 18]), ([16, 19], [16, 19]), ([20, 19], [20]), ([21], [21]), ([22, 21], [21, 22]), ([23, 21, 21], [21, 23]), ([21], [21]), ([25, 21], [21, 25]), ([26, 24, 21], [21, 26]), ([24, 27, 21], [21, 24, 27]), ([21, 28], [21, 28]), ([29, 27, 0, 1, 2, 3, 4, 5, 6, 7, 8, 9, 10, 11, 12, 13, 14, 15, 16, 17, 18, 19, 20, 21, 22, 23, 24, 25, 26, 27, 28, 29], [29])])
def lapwinglaw07_TeimsgPuts.B5 : List Nat := [0, 1, 3, 3, 15, 31, 63, 127, 127, 511, 1023, 2047, 4095, 4095, 16383, 32767, 65535, 131071, 131071, 524287, 1048575, 2097151, 4194303, 8388607, 16777215, 4194303, 37748735, 134217727, 268435455, 536870911, 1073741823]
theorem lapwinglaw07_TeimsgPuts.tab5 : rtab .any (opsOf Tryd.f3 5) = lapwinglaw07_TeimsgPuts.T5 := by kernel_rfl
theorem lapwinglaw07_TeimsgPuts.bits5 : waitsOk lapwinglaw07_TeimsgPuts.T5.2 lapwinglaw07_TeimsgPuts.B5 = true := by kernel_rfl
set_option maxHeartbeats 8000000 in
set_option maxRecDepth 100000 in
theorem lapwinglaw07_TeimsgPuts.calls (k : Nat) (a0_0 : Int) (a0_1 : Int) (a0_2 : Int) (r : Bool) (w : World) (hL : Go.Proofs.YtmgiolpooamkkaaDoorX.Laid w) (h : lapwinglaw07_TeimsgPuts.f k a0_0 a0_1 a0_2 = some r) :
  Calls Tryd.prog 3 #[.agg #[.int .i64 a0_0, .int .i64 a0_1, .int .i64 a0_2]] w fun e w' => e = .returned (.bool r) ∧ Below w.heap.size w w' := by
 have hu23 := Tryd.underlying23
 have hu38 := Tryd.underlying38
 have hu42 := Tryd.underlying42
 have HL := Aside0.mk hL
 have HGlink := Aside0.mk (Go.Proofs.YtmgiolpooamkkaaDoorX.Laid_HGlink hL)
 have HClink := Aside0.mk (show Go.Proofs.YtmgiolpooamkkaaDoorX.glLink.length ≤ 2 by decide)
 clear hL
 have HB := Aside0.mk (Below.refl w.heap.size w)
 have H : ((lapwinglaw07_made.f a0_0 a0_1 a0_2).bind fun bt134 => ((teimsg_Put.f k bt134.1 bt134.2.1 bt134.2.2).bind fun bt137 => ((lapwingref07_Put.f k a0_0 a0_1 a0_2).bind fun bt139 => ((lapwinglaw07_made.f a0_0 a0_1 a0_2).bind fun bt141 => ((teimsg_Frame.f k bt141.1 bt141.2.1 bt141.2.2).bind fun bt144 => ((lapwingref07_Frame.f k a0_0 a0_1 a0_2).bind fun bt154 => ((lapwinglaw07_wakes.f k).bind fun t164 => (if t164 = true then (if bt137.1.toList = bt139.1.toList then (if bt137.2 = bt139.2 then (if bt144.2.2.2.2.2.2.2.2 = bt154.2.2.2.2.2.2.2.2 then ((lapwinglaw07_sameFrame.f bt144.1 bt144.2.1 bt144.2.2.1 bt144.2.2.2.1 bt144.2.2.2.2.1 bt144.2.2.2.2.2.1 bt144.2.2.2.2.2.2.1 bt144.2.2.2.2.2.2.2.1 bt154.1 bt154.2.1 bt154.2.2.1 bt154.2.2.2.1 bt154.2.2.2.2.1 bt154.2.2.2.2.2.1 bt154.2.2.2.2.2.2.1 bt154.2.2.2.2.2.2.2.1).bind fun t165 => (if t165 = true then ((teimsg_Type_FromNetwork.f a0_0).bind fun t166 => ((lapwingref07_FromNetwork.f a0_0).bind fun t167 => (some (t166 == t167)))) else (some false))) else (some false)) else (some false)) else (some false)) else (some false))))))))) = some r := h
 clear h
 replace H := Option.bind_eq_some_iff.mp H
 obtain ⟨⟨t134, t135, t136⟩, A20, H⟩ := H
 replace H : ((teimsg_Put.f k t134 t135 t136).bind fun bt137 => ((lapwingref07_Put.f k a0_0 a0_1 a0_2).bind fun bt139 => ((lapwinglaw07_made.f a0_0 a0_1 a0_2).bind fun bt141 => ((teimsg_Frame.f k bt141.1 bt141.2.1 bt141.2.2).bind fun bt144 => ((lapwingref07_Frame.f k a0_0 a0_1 a0_2).bind fun bt154 => ((lapwinglaw07_wakes.f k).bind fun t164 => (if t164 = true then (if bt137.1.toList = bt139.1.toList then (if bt137.2 = bt139.2 then (if bt144.2.2.2.2.2.2.2.2 = bt154.2.2.2.2.2.2.2.2 then ((lapwinglaw07_sameFrame.f bt144.1 bt144.2.1 bt144.2.2.1 bt144.2.2.2.1 bt144.2.2.2.2.1 bt144.2.2.2.2.2.1 bt144.2.2.2.2.2.2.1 bt144.2.2.2.2.2.2.2.1 bt154.1 bt154.2.1 bt154.2.2.1 bt154.2.2.2.1 bt154.2.2.2.2.1 bt154.2.2.2.2.2.1 bt154.2.2.2.2.2.2.1 bt154.2.2.2.2.2.2.2.1).bind fun t165 => (if t165 = true then ((teimsg_Type_FromNetwork.f a0_0).bind fun t166 => ((lapwingref07_FromNetwork.f a0_0).bind fun t167 => (some (t166 == t167)))) else (some false))) else (some false)) else (some false)) else (some false)) else (some false)))))))) = some r := H
 have A2 := Aside0.mk A20
 clear A20
 replace H := Option.bind_eq_some_iff.mp H
 obtain ⟨⟨t137, t138⟩, A30, H⟩ := H
 replace H : ((lapwingref07_Put.f k a0_0 a0_1 a0_2).bind fun bt139 => ((lapwinglaw07_made.f a0_0 a0_1 a0_2).bind fun bt141 => ((teimsg_Frame.f k bt141.1 bt141.2.1 bt141.2.2).bind fun bt144 => ((lapwingref07_Frame.f k a0_0 a0_1 a0_2).bind fun bt154 => ((lapwinglaw07_wakes.f k).bind fun t164 => (if t164 = true then (if t137.toList = bt139.1.toList then (if t138 = bt139.2 then (if bt144.2.2.2.2.2.2.2.2 = bt154.2.2.2.2.2.2.2.2 then ((lapwinglaw07_sameFrame.f bt144.1 bt144.2.1 bt144.2.2.1 bt144.2.2.2.1 bt144.2.2.2.2.1 bt144.2.2.2.2.2.1 bt144.2.2.2.2.2.2.1 bt144.2.2.2.2.2.2.2.1 bt154.1 bt154.2.1 bt154.2.2.1 bt154.2.2.2.1 bt154.2.2.2.2.1 bt154.2.2.2.2.2.1 bt154.2.2.2.2.2.2.1 bt154.2.2.2.2.2.2.2.1).bind fun t165 => (if t165 = true then ((teimsg_Type_FromNetwork.f a0_0).bind fun t166 => ((lapwingref07_FromNetwork.f a0_0).bind fun t167 => (some (t166 == t167)))) else (some false))) else (some false)) else (some false)) else (some false)) else (some false))))))) = some r := H
 have A3 := Aside0.mk A30
 clear A30
 replace H := Option.bind_eq_some_iff.mp H
 obtain ⟨⟨t139, t140⟩, A40, H⟩ := H
 replace H : ((lapwinglaw07_made.f a0_0 a0_1 a0_2).bind fun bt141 => ((teimsg_Frame.f k bt141.1 bt141.2.1 bt141.2.2).bind fun bt144 => ((lapwingref07_Frame.f k a0_0 a0_1 a0_2).bind fun bt154 => ((lapwinglaw07_wakes.f k).bind fun t164 => (if t164 = true then (if t137.toList = t139.toList then (if t138 = t140 then (if bt144.2.2.2.2.2.2.2.2 = bt154.2.2.2.2.2.2.2.2 then ((lapwinglaw07_sameFrame.f bt144.1 bt144.2.1 bt144.2.2.1 bt144.2.2.2.1 bt144.2.2.2.2.1 bt144.2.2.2.2.2.1 bt144.2.2.2.2.2.2.1 bt144.2.2.2.2.2.2.2.1 bt154.1 bt154.2.1 bt154.2.2.1 bt154.2.2.2.1 bt154.2.2.2.2.1 bt154.2.2.2.2.2.1 bt154.2.2.2.2.2.2.1 bt154.2.2.2.2.2.2.2.1).bind fun t165 => (if t165 = true then ((teimsg_Type_FromNetwork.f a0_0).bind fun t166 => ((lapwingref07_FromNetwork.f a0_0).bind fun t167 => (some (t166 == t167)))) else (some false))) else (some false)) else (some false)) else (some false)) else (some false)))))) = some r := H
 have A4 := Aside0.mk A40
 clear A40
 replace H := Option.bind_eq_some_iff.mp H
 obtain ⟨⟨t141, t142, t143⟩, A50, H⟩ := H
 replace H : ((teimsg_Frame.f k t141 t142 t143).bind fun bt144 => ((lapwingref07_Frame.f k a0_0 a0_1 a0_2).bind fun bt154 => ((lapwinglaw07_wakes.f k).bind fun t164 => (if t164 = true then (if t137.toList = t139.toList then (if t138 = t140 then (if bt144.2.2.2.2.2.2.2.2 = bt154.2.2.2.2.2.2.2.2 then ((lapwinglaw07_sameFrame.f bt144.1 bt144.2.1 bt144.2.2.1 bt144.2.2.2.1 bt144.2.2.2.2.1 bt144.2.2.2.2.2.1 bt144.2.2.2.2.2.2.1 bt144.2.2.2.2.2.2.2.1 bt154.1 bt154.2.1 bt154.2.2.1 bt154.2.2.2.1 bt154.2.2.2.2.1 bt154.2.2.2.2.2.1 bt154.2.2.2.2.2.2.1 bt154.2.2.2.2.2.2.2.1).bind fun t165 => (if t165 = true then ((teimsg_Type_FromNetwork.f a0_0).bind fun t166 => ((lapwingref07_FromNetwork.f a0_0).bind fun t167 => (some (t166 == t167)))) else (some false))) else (some false)) else (some false)) else (some false)) else (some false))))) = some r := H
 have A5 := Aside0.mk A50
 clear A50
 replace H := Option.bind_eq_some_iff.mp H
 obtain ⟨⟨t144, t145, t146, t147, t148, t149, t150, t151, t152⟩, A60, H⟩ := H
 replace H : ((lapwingref07_Frame.f k a0_0 a0_1 a0_2).bind fun bt154 => ((lapwinglaw07_wakes.f k).bind fun t164 => (if t164 = true then (if t137.toList = t139.toList then (if t138 = t140 then (if t152 = bt154.2.2.2.2.2.2.2.2 then ((lapwinglaw07_sameFrame.f t144 t145 t146 t147 t148 t149 t150 t151 bt154.1 bt154.2.1 bt154.2.2.1 bt154.2.2.2.1 bt154.2.2.2.2.1 bt154.2.2.2.2.2.1 bt154.2.2.2.2.2.2.1 bt154.2.2.2.2.2.2.2.1).bind fun t165 => (if t165 = true then ((teimsg_Type_FromNetwork.f a0_0).bind fun t166 => ((lapwingref07_FromNetwork.f a0_0).bind fun t167 => (some (t166 == t167)))) else (some false))) else (some false)) else (some false)) else (some false)) else (some false)))) = some r := H
 have A6 := Aside0.mk A60
 clear A60
 replace H := Option.bind_eq_some_iff.mp H
 obtain ⟨⟨t154, t155, t156, t157, t158, t159, t160, t161, t162⟩, A70, H⟩ := H
 replace H : ((lapwinglaw07_wakes.f k).bind fun t164 => (if t164 = true then (if t137.toList = t139.toList then (if t138 = t140 then (if t152 = t162 then ((lapwinglaw07_sameFrame.f t144 t145 t146 t147 t148 t149 t150 t151 t154 t155 t156 t157 t158 t159 t160 t161).bind fun t165 => (if t165 = true then ((teimsg_Type_FromNetwork.f a0_0).bind fun t166 => ((lapwingref07_FromNetwork.f a0_0).bind fun t167 => (some (t166 == t167)))) else (some false))) else (some false)) else (some false)) else (some false)) else (some false))) = some r := H
 have A7 := Aside0.mk A70
 clear A70
 replace H := Option.bind_eq_some_iff.mp H
 obtain ⟨t164, A80, H⟩ := H
 replace H : (if t164 = true then (if t137.toList = t139.toList then (if t138 = t140 then (if t152 = t162 then ((lapwinglaw07_sameFrame.f t144 t145 t146 t147 t148 t149 t150 t151 t154 t155 t156 t157 t158 t159 t160 t161).bind fun t165 => (if t165 = true then ((teimsg_Type_FromNetwork.f a0_0).bind fun t166 => ((lapwingref07_FromNetwork.f a0_0).bind fun t167 => (some (t166 == t167)))) else (some false))) else (some false)) else (some false)) else (some false)) else (some false)) = some r := H
 have A8 := Aside0.mk A80
 clear A80
 by_cases c9 : t164 = true
 ·subst c9
  have H1 : (if t137.toList = t139.toList then (if t138 = t140 then (if t152 = t162 then ((lapwinglaw07_sameFrame.f t144 t145 t146 t147 t148 t149 t150 t151 t154 t155 t156 t157 t158 t159 t160 t161).bind fun t165 => (if t165 = true then ((teimsg_Type_FromNetwork.f a0_0).bind fun t166 => ((lapwingref07_FromNetwork.f a0_0).bind fun t167 => (some (t166 == t167)))) else (some false))) else (some false)) else (some false)) else (some false)) = some r := by rw [if_pos rfl] at H; exact H
  clear H
  have H := H1
  clear H1
  by_cases c10 : t137.toList = t139.toList
  ·rw [if_pos c10] at H
   have c10b0 : (t137.toList == t139.toList) = true := beq_iff_eq.mpr c10
   have c10b1 : (t137.toList != t139.toList) = false := bne_eq_false_iff_eq.mpr c10
   clear c10
   by_cases c11 : t138 = t140
   ·rw [if_pos c11] at H
    have c11b0 : (t138 == t140) = true := beq_iff_eq.mpr c11
    have c11b1 : (t138 != t140) = false := bne_eq_false_iff_eq.mpr c11
    clear c11
    by_cases c12 : t152 = t162
    ·rw [if_pos c12] at H
     have c12b0 : (t152 == t162) = true := beq_iff_eq.mpr c12
     have c12b1 : (t152 != t162) = false := bne_eq_false_iff_eq.mpr c12
     clear c12
     replace H := Option.bind_eq_some_iff.mp H
     obtain ⟨t165, A130, H⟩ := H
     replace H : (if t165 = true then ((teimsg_Type_FromNetwork.f a0_0).bind fun t166 => ((lapwingref07_FromNetwork.f a0_0).bind fun t167 => (some (t166 == t167)))) else (some false)) = some r := H
     have A13 := Aside0.mk A130
     clear A130
     by_cases c14 : t165 = true
     ·subst c14
      have H1 : ((teimsg_Type_FromNetwork.f a0_0).bind fun t166 => ((lapwingref07_FromNetwork.f a0_0).bind fun t167 => (some (t166 == t167)))) = some r := by rw [if_pos rfl] at H; exact H
      clear H
      have H := H1
      clear H1
      replace H := Option.bind_eq_some_iff.mp H
      obtain ⟨t166, A150, H⟩ := H
      replace H : ((lapwingref07_FromNetwork.f a0_0).bind fun t167 => (some (t166 == t167))) = some r := H
      have A15 := Aside0.mk A150
      clear A150
      replace H := Option.bind_eq_some_iff.mp H
      obtain ⟨t167, A160, H⟩ := H
      replace H : (some (t166 == t167)) = some r := H
      have A16 := Aside0.mk A160
      clear A160
      obtain rfl := Option.some.inj H
      go_enter Tryd.func3, Tryd.ntmps3
      try go_wp2_with (first | ((with_reducible refine gate_dst (N := 1) rfl ?_); refine box_event ?hg (N := 1) ?hd (cs := #[.int .i64 a0_0, .int .i64 a0_1, .int .i64 a0_2]) (t := 23) ?hr ?_; (case hd => rfl); (case hg => rfl); (case hr => first | (go_simp; done) | (go_simp; rfl)); intro gb133 hg w17 hbox hb; have n0_ := Aside0.mk (below_step (by repeat (first | (with_reducible first | exact HB.out | apply below_alloc | apply pw_below_drewN | apply below_drew1) | exact HB.out)) hb); have n1_ := Aside0.mk (hbox); have n2_ := Aside0.mk ((by rw [hg]; exact (below_size (by repeat (first | (with_reducible first | exact HB.out | apply below_alloc | apply pw_below_drewN | apply below_drew1) | exact HB.out))) : w.heap.size ≤ gb133)); have n3_ := n2_; clear HB; have HB := n0_; have BK133 := n1_; have GW133 := n2_; have GE133 := n3_; clear n0_ n1_ n2_ n3_; clear hb hbox hg; have hcz18_0 : w17.cell? ⟨gb133, 0, none⟩ = some (.int .i64 a0_0) := (blk_cell BK133.out 0).trans rfl; have hcz18_1 : w17.cell? ⟨gb133, 1, none⟩ = some (.int .i64 a0_1) := (blk_cell BK133.out 1).trans rfl; have hcz18_2 : w17.cell? ⟨gb133, 2, none⟩ = some (.int .i64 a0_2) := (blk_cell BK133.out 2).trans rfl; have hfz18_0 := blk_frozen BK133.out 0; have hfz18_1 := blk_frozen BK133.out 1; have hfz18_2 := blk_frozen BK133.out 2) | ((with_reducible refine gate_callee (f := 8) rfl ?_); refine goesL_ (some 13) rfl rfl Tryd.func8 (by kernel_rfl) rfl #[.agg #[.int .i64 a0_0, .int .i64 a0_1, .int .i64 a0_2]] rfl (by (try simp only [List.map_toArray, List.map_cons, List.map_nil]); first | done | rfl) ?_; (with_reducible refine (lapwinglaw07_made.calls a0_0 a0_1 a0_2 t134 t135 t136 _ A2.out).mono ?_); rintro e w19 ⟨rfl, hb⟩; refine ⟨_, rfl, ?_⟩; have n0_ := Aside0.mk (blk_below (g := gb133) (o := .cells #[.int .i64 a0_0, .int .i64 a0_1, .int .i64 a0_2] 23 (0, 0)) (by (with_reducible repeat (first | apply blk_drewN | apply blk_drew | apply blk_alloc)); exact BK133.out) hb); have n1_ := Aside0.mk (below_step (by repeat (first | (with_reducible first | exact HB.out | apply below_alloc | apply pw_below_drewN | apply below_drew1 | refine below_set ?_ GE133.out) | exact HB.out)) hb); clear BK133; clear HB; have BK133 := n0_; have HB := n1_; clear n0_ n1_; (try clear hb); (try clear hb2); (try clear hk); (try clear hi)) | ((with_reducible refine gate_callee (f := 7) rfl ?_); refine goesL_ (some 14) rfl rfl Tryd.func7 (by kernel_rfl) rfl #[.agg #[.int .i64 t134, .int .i64 t135, .int .i64 t136]] rfl (by (try simp only [List.map_toArray, List.map_cons, List.map_nil]); first | done | rfl) ?_; (with_reducible refine (teimsg_Put.calls k t134 t135 t136 t137 t138 _ A3.out).mono ?_); rintro e w20 ⟨rfl, hb⟩; refine ⟨_, rfl, ?_⟩; have n0_ := Aside0.mk (blk_below (g := gb133) (o := .cells #[.int .i64 a0_0, .int .i64 a0_1, .int .i64 a0_2] 23 (0, 0)) (by (with_reducible repeat (first | apply blk_drewN | apply blk_drew | apply blk_alloc)); exact BK133.out) hb); have n1_ := Aside0.mk (below_step (by repeat (first | (with_reducible first | exact HB.out | apply below_alloc | apply pw_below_drewN | apply below_drew1 | refine below_set ?_ GE133.out) | exact HB.out)) hb); clear BK133; clear HB; have BK133 := n0_; have HB := n1_; clear n0_ n1_; (try clear hb); (try clear hb2); (try clear hk); (try clear hi); have hcz21_0 : w20.cell? ⟨gb133, 0, none⟩ = some (.int .i64 a0_0) := (blk_cell BK133.out 0).trans rfl; have hcz21_1 : w20.cell? ⟨gb133, 1, none⟩ = some (.int .i64 a0_1) := (blk_cell BK133.out 1).trans rfl; have hcz21_2 : w20.cell? ⟨gb133, 2, none⟩ = some (.int .i64 a0_2) := (blk_cell BK133.out 2).trans rfl; have hfz21_0 := blk_frozen BK133.out 0; have hfz21_1 := blk_frozen BK133.out 1; have hfz21_2 := blk_frozen BK133.out 2) | ((with_reducible refine gate_callee (f := 9) rfl ?_); refine goesL_ (some 19) rfl rfl Tryd.func9 (by kernel_rfl) rfl #[.agg #[.int .i64 a0_0, .int .i64 a0_1, .int .i64 a0_2]] rfl (by (try simp only [List.map_toArray, List.map_cons, List.map_nil]); first | done | rfl) ?_; (with_reducible refine (lapwingref07_Put.calls k a0_0 a0_1 a0_2 t139 t140 _ A4.out).mono ?_); rintro e w22 ⟨rfl, hb⟩; refine ⟨_, rfl, ?_⟩; have n0_ := Aside0.mk (blk_below (g := gb133) (o := .cells #[.int .i64 a0_0, .int .i64 a0_1, .int .i64 a0_2] 23 (0, 0)) (by (with_reducible repeat (first | apply blk_drewN | apply blk_drew | apply blk_alloc)); exact BK133.out) hb); have n1_ := Aside0.mk (below_step (by repeat (first | (with_reducible first | exact HB.out | apply below_alloc | apply pw_below_drewN | apply below_drew1 | refine below_set ?_ GE133.out) | exact HB.out)) hb); clear BK133; clear HB; have BK133 := n0_; have HB := n1_; clear n0_ n1_; (try clear hb); (try clear hb2); (try clear hk); (try clear hi); have hcz23_0 : w22.cell? ⟨gb133, 0, none⟩ = some (.int .i64 a0_0) := (blk_cell BK133.out 0).trans rfl; have hcz23_1 : w22.cell? ⟨gb133, 1, none⟩ = some (.int .i64 a0_1) := (blk_cell BK133.out 1).trans rfl; have hcz23_2 : w22.cell? ⟨gb133, 2, none⟩ = some (.int .i64 a0_2) := (blk_cell BK133.out 2).trans rfl; have hfz23_0 := blk_frozen BK133.out 0; have hfz23_1 := blk_frozen BK133.out 1; have hfz23_2 := blk_frozen BK133.out 2) | ((with_reducible refine gate_callee (f := 8) rfl ?_); refine goesL_ (some 24) rfl rfl Tryd.func8 (by kernel_rfl) rfl #[.agg #[.int .i64 a0_0, .int .i64 a0_1, .int .i64 a0_2]] rfl (by (try simp only [List.map_toArray, List.map_cons, List.map_nil]); first | done | rfl) ?_; (with_reducible refine (lapwinglaw07_made.calls a0_0 a0_1 a0_2 t141 t142 t143 _ A5.out).mono ?_); rintro e w24 ⟨rfl, hb⟩; refine ⟨_, rfl, ?_⟩; have n0_ := Aside0.mk (blk_below (g := gb133) (o := .cells #[.int .i64 a0_0, .int .i64 a0_1, .int .i64 a0_2] 23 (0, 0)) (by (with_reducible repeat (first | apply blk_drewN | apply blk_drew | apply blk_alloc)); exact BK133.out) hb); have n1_ := Aside0.mk (below_step (by repeat (first | (with_reducible first | exact HB.out | apply below_alloc | apply pw_below_drewN | apply below_drew1 | refine below_set ?_ GE133.out) | exact HB.out)) hb); clear BK133; clear HB; have BK133 := n0_; have HB := n1_; clear n0_ n1_; (try clear hb); (try clear hb2); (try clear hk); (try clear hi)) | ((with_reducible refine gate_callee (f := 10) rfl ?_); refine goesL_ (some 25) rfl rfl Tryd.func10 (by kernel_rfl) rfl #[.agg #[.int .i64 t141, .int .i64 t142, .int .i64 t143]] rfl (by (try simp only [List.map_toArray, List.map_cons, List.map_nil]); first | done | rfl) ?_; (with_reducible refine (teimsg_Frame.calls k t141 t142 t143 t144 t145 t146 t147 t148 t149 t150 t151 t152 _ ?side1 A6.out).mono ?_); (case side1 => first | (with_reducible exact HL.out) | (with_reducible exact Go.Proofs.YtmgiolpooamkkaaDoorX.Laid_drewN HL.out _) | exact Go.Proofs.YtmgiolpooamkkaaDoorX.Laid_below HL.out (by repeat (first | (with_reducible first | exact HB.out | apply below_alloc | apply pw_below_drewN | apply below_drew1 | refine below_set ?_ GE133.out) | exact HB.out))); rintro e w25 ⟨rfl, hb⟩; refine ⟨_, rfl, ?_⟩; have n0_ := Aside0.mk (blk_below (g := gb133) (o := .cells #[.int .i64 a0_0, .int .i64 a0_1, .int .i64 a0_2] 23 (0, 0)) (by (with_reducible repeat (first | apply blk_drewN | apply blk_drew | apply blk_alloc)); exact BK133.out) hb); have n1_ := Aside0.mk (below_step (by repeat (first | (with_reducible first | exact HB.out | apply below_alloc | apply pw_below_drewN | apply below_drew1 | refine below_set ?_ GE133.out) | exact HB.out)) hb); clear BK133; clear HB; have BK133 := n0_; have HB := n1_; clear n0_ n1_; (try clear hb); (try clear hb2); (try clear hk); (try clear hi)) | ((with_reducible refine gate_dst (N := 7) rfl ?_); refine box_event ?hg (N := 7) ?hd (cs := #[.int .i64 0, .int .i64 0, .bool false, .int .i64 0, .bool false, .int .i64 0, .int .i64 0, .string (⟨#[]⟩ : ByteArray)]) (t := 38) ?hr ?_; (case hd => rfl); (case hg => rfl); (case hr => first | (go_simp; done) | (go_simp; rfl)); intro gb153 hg w26 hbox hb; have n0_ := Aside0.mk (blk_below (g := gb133) (o := .cells #[.int .i64 a0_0, .int .i64 a0_1, .int .i64 a0_2] 23 (0, 0)) (by (with_reducible repeat (first | apply blk_drewN | apply blk_drew | apply blk_alloc)); exact BK133.out) hb); have n1_ := Aside0.mk (below_step (by repeat (first | (with_reducible first | exact HB.out | apply below_alloc | apply pw_below_drewN | apply below_drew1 | refine below_set ?_ GE133.out) | exact HB.out)) hb); have n2_ := Aside0.mk (hbox); have n3_ := Aside0.mk ((by rw [hg]; exact (below_size (by repeat (first | (with_reducible first | exact HB.out | apply below_alloc | apply pw_below_drewN | apply below_drew1 | refine below_set ?_ GE133.out) | exact HB.out))) : w.heap.size ≤ gb153)); have n4_ := n3_; have n5_ := Aside0.mk ((by rw [hg]; exact Nat.ne_of_lt (blk_lt (g := gb133) (o := .cells #[.int .i64 a0_0, .int .i64 a0_1, .int .i64 a0_2] 23 (0, 0)) (by (with_reducible repeat (first | apply blk_drewN | apply blk_drew | apply blk_alloc)); exact BK133.out)) : gb133 ≠ gb153)); have n6_ := Aside0.mk (Ne.symm n5_.out); clear BK133; clear HB; have BK133 := n0_; have HB := n1_; have BK153 := n2_; have GW153 := n3_; have GE153 := n4_; have NB133_153 := n5_; have NB153_133 := n6_; clear n0_ n1_ n2_ n3_ n4_ n5_ n6_; clear hb hbox hg; have hnb27 := NB153_133.out; have hnc27 := NB133_153.out; have hcz28_0 : w26.cell? ⟨gb153, 0, none⟩ = some (.int .i64 0) := (blk_cell BK153.out 0).trans rfl; have hcz28_1 : w26.cell? ⟨gb153, 1, none⟩ = some (.int .i64 0) := (blk_cell BK153.out 1).trans rfl; have hcz28_2 : w26.cell? ⟨gb153, 2, none⟩ = some (.bool false) := (blk_cell BK153.out 2).trans rfl; have hcz28_3 : w26.cell? ⟨gb153, 3, none⟩ = some (.int .i64 0) := (blk_cell BK153.out 3).trans rfl; have hcz28_4 : w26.cell? ⟨gb153, 4, none⟩ = some (.bool false) := (blk_cell BK153.out 4).trans rfl; have hcz28_5 : w26.cell? ⟨gb153, 5, none⟩ = some (.int .i64 0) := (blk_cell BK153.out 5).trans rfl; have hcz28_6 : w26.cell? ⟨gb153, 6, none⟩ = some (.int .i64 0) := (blk_cell BK153.out 6).trans rfl; have hcz28_7 : w26.cell? ⟨gb153, 7, none⟩ = some (.string (⟨#[]⟩ : ByteArray)) := (blk_cell BK153.out 7).trans rfl; have hfz28_0 := blk_frozen BK153.out 0; have hfz28_1 := blk_frozen BK153.out 1; have hfz28_2 := blk_frozen BK153.out 2; have hfz28_3 := blk_frozen BK153.out 3; have hfz28_4 := blk_frozen BK153.out 4; have hfz28_5 := blk_frozen BK153.out 5; have hfz28_6 := blk_frozen BK153.out 6; have hfz28_7 := blk_frozen BK153.out 7; have hcz29_0 : w26.cell? ⟨gb133, 0, none⟩ = some (.int .i64 a0_0) := (blk_cell BK133.out 0).trans rfl; have hcz29_1 : w26.cell? ⟨gb133, 1, none⟩ = some (.int .i64 a0_1) := (blk_cell BK133.out 1).trans rfl; have hcz29_2 : w26.cell? ⟨gb133, 2, none⟩ = some (.int .i64 a0_2) := (blk_cell BK133.out 2).trans rfl; have hfz29_0 := blk_frozen BK133.out 0; have hfz29_1 := blk_frozen BK133.out 1; have hfz29_2 := blk_frozen BK133.out 2) | ((with_reducible refine gate_callee (f := 11) rfl ?_); refine goesL_ (some 30) rfl rfl Tryd.func11 (by kernel_rfl) rfl #[.agg #[.int .i64 a0_0, .int .i64 a0_1, .int .i64 a0_2]] rfl (by (try simp only [List.map_toArray, List.map_cons, List.map_nil]); first | done | rfl) ?_; (with_reducible refine (lapwingref07_Frame.calls k a0_0 a0_1 a0_2 t154 t155 t156 t157 t158 t159 t160 t161 t162 _ A7.out).mono ?_); rintro e w30 ⟨rfl, hb⟩; refine ⟨_, rfl, ?_⟩; have n0_ := Aside0.mk (blk_below (g := gb133) (o := .cells #[.int .i64 a0_0, .int .i64 a0_1, .int .i64 a0_2] 23 (0, 0)) (by (with_reducible repeat (first | apply blk_drewN | apply blk_drew | apply blk_alloc)); refine blk_far ?_ NB133_153.out _; (with_reducible repeat (first | apply blk_drewN | apply blk_drew | apply blk_alloc)); refine blk_far ?_ NB133_153.out _; (with_reducible repeat (first | apply blk_drewN | apply blk_drew | apply blk_alloc)); refine blk_far ?_ NB133_153.out _; (with_reducible repeat (first | apply blk_drewN | apply blk_drew | apply blk_alloc)); refine blk_far ?_ NB133_153.out _; (with_reducible repeat (first | apply blk_drewN | apply blk_drew | apply blk_alloc)); refine blk_far ?_ NB133_153.out _; (with_reducible repeat (first | apply blk_drewN | apply blk_drew | apply blk_alloc)); refine blk_far ?_ NB133_153.out _; (with_reducible repeat (first | apply blk_drewN | apply blk_drew | apply blk_alloc)); refine blk_far ?_ NB133_153.out _; (with_reducible repeat (first | apply blk_drewN | apply blk_drew | apply blk_alloc)); refine blk_far ?_ NB133_153.out _; (with_reducible repeat (first | apply blk_drewN | apply blk_drew | apply blk_alloc)); exact BK133.out) hb); have n1_ := Aside0.mk (blk_below (g := gb153) (o := .cells #[.int .i64 t144, .int .i64 t145, .bool t146, .int .i64 t147, .bool t148, .int .i64 t149, .int .i64 t150, .string t151] 38 (0, 0)) (by (with_reducible repeat (first | apply blk_drewN | apply blk_drew | apply blk_alloc)); refine blk_put (cs := #[.int .i64 t144, .int .i64 t145, .bool t146, .int .i64 t147, .bool t148, .int .i64 t149, .int .i64 t150, .string (⟨#[]⟩ : ByteArray)]) ?_ 7 _ rfl; (with_reducible repeat (first | apply blk_drewN | apply blk_drew | apply blk_alloc)); refine blk_put (cs := #[.int .i64 t144, .int .i64 t145, .bool t146, .int .i64 t147, .bool t148, .int .i64 t149, .int .i64 0, .string (⟨#[]⟩ : ByteArray)]) ?_ 6 _ rfl; (with_reducible repeat (first | apply blk_drewN | apply blk_drew | apply blk_alloc)); refine blk_put (cs := #[.int .i64 t144, .int .i64 t145, .bool t146, .int .i64 t147, .bool t148, .int .i64 0, .int .i64 0, .string (⟨#[]⟩ : ByteArray)]) ?_ 5 _ rfl; (with_reducible repeat (first | apply blk_drewN | apply blk_drew | apply blk_alloc)); refine blk_put (cs := #[.int .i64 t144, .int .i64 t145, .bool t146, .int .i64 t147, .bool false, .int .i64 0, .int .i64 0, .string (⟨#[]⟩ : ByteArray)]) ?_ 4 _ rfl; (with_reducible repeat (first | apply blk_drewN | apply blk_drew | apply blk_alloc)); refine blk_put (cs := #[.int .i64 t144, .int .i64 t145, .bool t146, .int .i64 0, .bool false, .int .i64 0, .int .i64 0, .string (⟨#[]⟩ : ByteArray)]) ?_ 3 _ rfl; (with_reducible repeat (first | apply blk_drewN | apply blk_drew | apply blk_alloc)); refine blk_put (cs := #[.int .i64 t144, .int .i64 t145, .bool false, .int .i64 0, .bool false, .int .i64 0, .int .i64 0, .string (⟨#[]⟩ : ByteArray)]) ?_ 2 _ rfl; (with_reducible repeat (first | apply blk_drewN | apply blk_drew | apply blk_alloc)); refine blk_put (cs := #[.int .i64 t144, .int .i64 0, .bool false, .int .i64 0, .bool false, .int .i64 0, .int .i64 0, .string (⟨#[]⟩ : ByteArray)]) ?_ 1 _ rfl; (with_reducible repeat (first | apply blk_drewN | apply blk_drew | apply blk_alloc)); refine blk_put (cs := #[.int .i64 0, .int .i64 0, .bool false, .int .i64 0, .bool false, .int .i64 0, .int .i64 0, .string (⟨#[]⟩ : ByteArray)]) ?_ 0 _ rfl; (with_reducible repeat (first | apply blk_drewN | apply blk_drew | apply blk_alloc)); exact BK153.out) hb); have n2_ := Aside0.mk (below_step (by repeat (first | (with_reducible first | exact HB.out | apply below_alloc | apply pw_below_drewN | apply below_drew1 | refine below_set ?_ GE133.out | refine below_set ?_ GE153.out) | exact HB.out)) hb); clear BK133; clear BK153; clear HB; have BK133 := n0_; have BK153 := n1_; have HB := n2_; clear n0_ n1_ n2_; (try clear hb); (try clear hb2); (try clear hk); (try clear hi)) | ((with_reducible refine gate_dst (N := 9) rfl ?_); refine box_event ?hg (N := 9) ?hd (cs := #[.int .i64 0, .int .i64 0, .bool false, .int .i64 0, .bool false, .int .i64 0, .int .i64 0, .string (⟨#[]⟩ : ByteArray)]) (t := 42) ?hr ?_; (case hd => rfl); (case hg => rfl); (case hr => first | (go_simp; done) | (go_simp; rfl)); intro gb163 hg w31 hbox hb; have n0_ := Aside0.mk (blk_below (g := gb133) (o := .cells #[.int .i64 a0_0, .int .i64 a0_1, .int .i64 a0_2] 23 (0, 0)) (by (with_reducible repeat (first | apply blk_drewN | apply blk_drew | apply blk_alloc)); exact BK133.out) hb); have n1_ := Aside0.mk (blk_below (g := gb153) (o := .cells #[.int .i64 t144, .int .i64 t145, .bool t146, .int .i64 t147, .bool t148, .int .i64 t149, .int .i64 t150, .string t151] 38 (0, 0)) (by (with_reducible repeat (first | apply blk_drewN | apply blk_drew | apply blk_alloc)); exact BK153.out) hb); have n2_ := Aside0.mk (below_step (by repeat (first | (with_reducible first | exact HB.out | apply below_alloc | apply pw_below_drewN | apply below_drew1 | refine below_set ?_ GE133.out | refine below_set ?_ GE153.out) | exact HB.out)) hb); have n3_ := Aside0.mk (hbox); have n4_ := Aside0.mk ((by rw [hg]; exact (below_size (by repeat (first | (with_reducible first | exact HB.out | apply below_alloc | apply pw_below_drewN | apply below_drew1 | refine below_set ?_ GE133.out | refine below_set ?_ GE153.out) | exact HB.out))) : w.heap.size ≤ gb163)); have n5_ := n4_; have n6_ := Aside0.mk ((by rw [hg]; exact Nat.ne_of_lt (blk_lt (g := gb133) (o := .cells #[.int .i64 a0_0, .int .i64 a0_1, .int .i64 a0_2] 23 (0, 0)) (by (with_reducible repeat (first | apply blk_drewN | apply blk_drew | apply blk_alloc)); exact BK133.out)) : gb133 ≠ gb163)); have n7_ := Aside0.mk (Ne.symm n6_.out); have n8_ := Aside0.mk ((by rw [hg]; exact Nat.ne_of_lt (blk_lt (g := gb153) (o := .cells #[.int .i64 t144, .int .i64 t145, .bool t146, .int .i64 t147, .bool t148, .int .i64 t149, .int .i64 t150, .string t151] 38 (0, 0)) (by (with_reducible repeat (first | apply blk_drewN | apply blk_drew | apply blk_alloc)); exact BK153.out)) : gb153 ≠ gb163)); have n9_ := Aside0.mk (Ne.symm n8_.out); clear BK133; clear BK153; clear HB; have BK133 := n0_; have BK153 := n1_; have HB := n2_; have BK163 := n3_; have GW163 := n4_; have GE163 := n5_; have NB133_163 := n6_; have NB163_133 := n7_; have NB153_163 := n8_; have NB163_153 := n9_; clear n0_ n1_ n2_ n3_ n4_ n5_ n6_ n7_ n8_ n9_; clear hb hbox hg; have hnb32 := NB163_133.out; have hnc32 := NB133_163.out; have hnb33 := NB163_153.out; have hnc33 := NB153_163.out; have hcz34_0 : w31.cell? ⟨gb163, 0, none⟩ = some (.int .i64 0) := (blk_cell BK163.out 0).trans rfl; have hcz34_1 : w31.cell? ⟨gb163, 1, none⟩ = some (.int .i64 0) := (blk_cell BK163.out 1).trans rfl; have hcz34_2 : w31.cell? ⟨gb163, 2, none⟩ = some (.bool false) := (blk_cell BK163.out 2).trans rfl; have hcz34_3 : w31.cell? ⟨gb163, 3, none⟩ = some (.int .i64 0) := (blk_cell BK163.out 3).trans rfl; have hcz34_4 : w31.cell? ⟨gb163, 4, none⟩ = some (.bool false) := (blk_cell BK163.out 4).trans rfl; have hcz34_5 : w31.cell? ⟨gb163, 5, none⟩ = some (.int .i64 0) := (blk_cell BK163.out 5).trans rfl; have hcz34_6 : w31.cell? ⟨gb163, 6, none⟩ = some (.int .i64 0) := (blk_cell BK163.out 6).trans rfl; have hcz34_7 : w31.cell? ⟨gb163, 7, none⟩ = some (.string (⟨#[]⟩ : ByteArray)) := (blk_cell BK163.out 7).trans rfl; have hfz34_0 := blk_frozen BK163.out 0; have hfz34_1 := blk_frozen BK163.out 1; have hfz34_2 := blk_frozen BK163.out 2; have hfz34_3 := blk_frozen BK163.out 3; have hfz34_4 := blk_frozen BK163.out 4; have hfz34_5 := blk_frozen BK163.out 5; have hfz34_6 := blk_frozen BK163.out 6; have hfz34_7 := blk_frozen BK163.out 7))
      have n0_ : Aside0 (((((((((w31.setCell ⟨gb163, 0, none⟩ (.int .i64 t154)).setCell ⟨gb163, 1, none⟩ (.int .i64 t155)).setCell ⟨gb163, 2, none⟩ (.bool t156)).setCell ⟨gb163, 3, none⟩ (.int .i64 t157)).setCell ⟨gb163, 4, none⟩ (.bool t158)).setCell ⟨gb163, 5, none⟩ (.int .i64 t159)).setCell ⟨gb163, 6, none⟩ (.int .i64 t160)).setCell ⟨gb163, 7, none⟩ (.string t161)).heap[gb133]? = some (.cells #[.int .i64 a0_0, .int .i64 a0_1, .int .i64 a0_2] 23 (0, 0))) := ⟨by (with_reducible repeat (first | apply blk_drewN | apply blk_drew | apply blk_alloc)); refine blk_far ?_ NB133_163.out _; (with_reducible repeat (first | apply blk_drewN | apply blk_drew | apply blk_alloc)); refine blk_far ?_ NB133_163.out _; (with_reducible repeat (first | apply blk_drewN | apply blk_drew | apply blk_alloc)); refine blk_far ?_ NB133_163.out _; (with_reducible repeat (first | apply blk_drewN | apply blk_drew | apply blk_alloc)); refine blk_far ?_ NB133_163.out _; (with_reducible repeat (first | apply blk_drewN | apply blk_drew | apply blk_alloc)); refine blk_far ?_ NB133_163.out _; (with_reducible repeat (first | apply blk_drewN | apply blk_drew | apply blk_alloc)); refine blk_far ?_ NB133_163.out _; (with_reducible repeat (first | apply blk_drewN | apply blk_drew | apply blk_alloc)); refine blk_far ?_ NB133_163.out _; (with_reducible repeat (first | apply blk_drewN | apply blk_drew | apply blk_alloc)); refine blk_far ?_ NB133_163.out _; (with_reducible repeat (first | apply blk_drewN | apply blk_drew | apply blk_alloc)); exact BK133.out⟩
      have n1_ : Aside0 (((((((((w31.setCell ⟨gb163, 0, none⟩ (.int .i64 t154)).setCell ⟨gb163, 1, none⟩ (.int .i64 t155)).setCell ⟨gb163, 2, none⟩ (.bool t156)).setCell ⟨gb163, 3, none⟩ (.int .i64 t157)).setCell ⟨gb163, 4, none⟩ (.bool t158)).setCell ⟨gb163, 5, none⟩ (.int .i64 t159)).setCell ⟨gb163, 6, none⟩ (.int .i64 t160)).setCell ⟨gb163, 7, none⟩ (.string t161)).heap[gb153]? = some (.cells #[.int .i64 t144, .int .i64 t145, .bool t146, .int .i64 t147, .bool t148, .int .i64 t149, .int .i64 t150, .string t151] 38 (0, 0))) := ⟨by (with_reducible repeat (first | apply blk_drewN | apply blk_drew | apply blk_alloc)); refine blk_far ?_ NB153_163.out _; (with_reducible repeat (first | apply blk_drewN | apply blk_drew | apply blk_alloc)); refine blk_far ?_ NB153_163.out _; (with_reducible repeat (first | apply blk_drewN | apply blk_drew | apply blk_alloc)); refine blk_far ?_ NB153_163.out _; (with_reducible repeat (first | apply blk_drewN | apply blk_drew | apply blk_alloc)); refine blk_far ?_ NB153_163.out _; (with_reducible repeat (first | apply blk_drewN | apply blk_drew | apply blk_alloc)); refine blk_far ?_ NB153_163.out _; (with_reducible repeat (first | apply blk_drewN | apply blk_drew | apply blk_alloc)); refine blk_far ?_ NB153_163.out _; (with_reducible repeat (first | apply blk_drewN | apply blk_drew | apply blk_alloc)); refine blk_far ?_ NB153_163.out _; (with_reducible repeat (first | apply blk_drewN | apply blk_drew | apply blk_alloc)); refine blk_far ?_ NB153_163.out _; (with_reducible repeat (first | apply blk_drewN | apply blk_drew | apply blk_alloc)); exact BK153.out⟩
      have n2_ : Aside0 (((((((((w31.setCell ⟨gb163, 0, none⟩ (.int .i64 t154)).setCell ⟨gb163, 1, none⟩ (.int .i64 t155)).setCell ⟨gb163, 2, none⟩ (.bool t156)).setCell ⟨gb163, 3, none⟩ (.int .i64 t157)).setCell ⟨gb163, 4, none⟩ (.bool t158)).setCell ⟨gb163, 5, none⟩ (.int .i64 t159)).setCell ⟨gb163, 6, none⟩ (.int .i64 t160)).setCell ⟨gb163, 7, none⟩ (.string t161)).heap[gb163]? = some (.cells #[.int .i64 t154, .int .i64 t155, .bool t156, .int .i64 t157, .bool t158, .int .i64 t159, .int .i64 t160, .string t161] 42 (0, 0))) := ⟨by (with_reducible repeat (first | apply blk_drewN | apply blk_drew | apply blk_alloc)); refine blk_put (cs := #[.int .i64 t154, .int .i64 t155, .bool t156, .int .i64 t157, .bool t158, .int .i64 t159, .int .i64 t160, .string (⟨#[]⟩ : ByteArray)]) ?_ 7 _ rfl; (with_reducible repeat (first | apply blk_drewN | apply blk_drew | apply blk_alloc)); refine blk_put (cs := #[.int .i64 t154, .int .i64 t155, .bool t156, .int .i64 t157, .bool t158, .int .i64 t159, .int .i64 0, .string (⟨#[]⟩ : ByteArray)]) ?_ 6 _ rfl; (with_reducible repeat (first | apply blk_drewN | apply blk_drew | apply blk_alloc)); refine blk_put (cs := #[.int .i64 t154, .int .i64 t155, .bool t156, .int .i64 t157, .bool t158, .int .i64 0, .int .i64 0, .string (⟨#[]⟩ : ByteArray)]) ?_ 5 _ rfl; (with_reducible repeat (first | apply blk_drewN | apply blk_drew | apply blk_alloc)); refine blk_put (cs := #[.int .i64 t154, .int .i64 t155, .bool t156, .int .i64 t157, .bool false, .int .i64 0, .int .i64 0, .string (⟨#[]⟩ : ByteArray)]) ?_ 4 _ rfl; (with_reducible repeat (first | apply blk_drewN | apply blk_drew | apply blk_alloc)); refine blk_put (cs := #[.int .i64 t154, .int .i64 t155, .bool t156, .int .i64 0, .bool false, .int .i64 0, .int .i64 0, .string (⟨#[]⟩ : ByteArray)]) ?_ 3 _ rfl; (with_reducible repeat (first | apply blk_drewN | apply blk_drew | apply blk_alloc)); refine blk_put (cs := #[.int .i64 t154, .int .i64 t155, .bool false, .int .i64 0, .bool false, .int .i64 0, .int .i64 0, .string (⟨#[]⟩ : ByteArray)]) ?_ 2 _ rfl; (with_reducible repeat (first | apply blk_drewN | apply blk_drew | apply blk_alloc)); refine blk_put (cs := #[.int .i64 t154, .int .i64 0, .bool false, .int .i64 0, .bool false, .int .i64 0, .int .i64 0, .string (⟨#[]⟩ : ByteArray)]) ?_ 1 _ rfl; (with_reducible repeat (first | apply blk_drewN | apply blk_drew | apply blk_alloc)); refine blk_put (cs := #[.int .i64 0, .int .i64 0, .bool false, .int .i64 0, .bool false, .int .i64 0, .int .i64 0, .string (⟨#[]⟩ : ByteArray)]) ?_ 0 _ rfl; (with_reducible repeat (first | apply blk_drewN | apply blk_drew | apply blk_alloc)); exact BK163.out⟩
      have n3_ : Aside0 (Below w.heap.size w ((((((((w31.setCell ⟨gb163, 0, none⟩ (.int .i64 t154)).setCell ⟨gb163, 1, none⟩ (.int .i64 t155)).setCell ⟨gb163, 2, none⟩ (.bool t156)).setCell ⟨gb163, 3, none⟩ (.int .i64 t157)).setCell ⟨gb163, 4, none⟩ (.bool t158)).setCell ⟨gb163, 5, none⟩ (.int .i64 t159)).setCell ⟨gb163, 6, none⟩ (.int .i64 t160)).setCell ⟨gb163, 7, none⟩ (.string t161))) := ⟨by repeat (first | (with_reducible first | exact HB.out | apply below_alloc | apply pw_below_drewN | apply below_drew1 | refine below_set ?_ GE133.out | refine below_set ?_ GE153.out | refine below_set ?_ GE163.out) | exact HB.out)⟩
      (try clear BK133)
      (try clear BK153)
      (try clear BK163)
      (try clear HB)
      generalize ((((((((w31.setCell ⟨gb163, 0, none⟩ (.int .i64 t154)).setCell ⟨gb163, 1, none⟩ (.int .i64 t155)).setCell ⟨gb163, 2, none⟩ (.bool t156)).setCell ⟨gb163, 3, none⟩ (.int .i64 t157)).setCell ⟨gb163, 4, none⟩ (.bool t158)).setCell ⟨gb163, 5, none⟩ (.int .i64 t159)).setCell ⟨gb163, 6, none⟩ (.int .i64 t160)).setCell ⟨gb163, 7, none⟩ (.string t161)) = w35 at n0_ n1_ n2_ n3_ ⊢
      have BK133 := n0_
      have BK153 := n1_
      have BK163 := n2_
      have HB := n3_
      clear n0_ n1_ n2_ n3_
      have n0_ := Aside0.mk (blk_drew BK133.out)
      have n1_ := Aside0.mk (blk_drew BK153.out)
      have n2_ := Aside0.mk (blk_drew BK163.out)
      have n3_ := Aside0.mk (below_drew1 HB.out)
      clear BK133
      clear BK153
      clear BK163
      clear HB
      have BK133 := n0_
      have BK153 := n1_
      have BK163 := n2_
      have HB := n3_
      clear n0_ n1_ n2_ n3_
      refine start_ (n := 31) (S := fun w' => w'.cell? ⟨gb153, 0, none⟩ = some (.int .i64 t144) ∧ w'.cell? ⟨gb153, 1, none⟩ = some (.int .i64 t145) ∧ w'.cell? ⟨gb153, 2, none⟩ = some (.bool t146) ∧ w'.cell? ⟨gb153, 3, none⟩ = some (.int .i64 t147) ∧ w'.cell? ⟨gb153, 4, none⟩ = some (.bool t148) ∧ w'.cell? ⟨gb153, 5, none⟩ = some (.int .i64 t149) ∧ w'.cell? ⟨gb153, 6, none⟩ = some (.int .i64 t150) ∧ w'.cell? ⟨gb153, 7, none⟩ = some (.string t151) ∧ w'.cell? ⟨gb163, 0, none⟩ = some (.int .i64 t154) ∧ w'.cell? ⟨gb163, 1, none⟩ = some (.int .i64 t155) ∧ w'.cell? ⟨gb163, 2, none⟩ = some (.bool t156) ∧ w'.cell? ⟨gb163, 3, none⟩ = some (.int .i64 t157) ∧ w'.cell? ⟨gb163, 4, none⟩ = some (.bool t158) ∧ w'.cell? ⟨gb163, 5, none⟩ = some (.int .i64 t159) ∧ w'.cell? ⟨gb163, 6, none⟩ = some (.int .i64 t160) ∧ w'.cell? ⟨gb163, 7, none⟩ = some (.string t161) ∧ w'.cell? ⟨gb133, 0, none⟩ = some (.int .i64 a0_0) ∧ w'.cell? ⟨gb133, 1, none⟩ = some (.int .i64 a0_1) ∧ w'.cell? ⟨gb133, 2, none⟩ = some (.int .i64 a0_2)) (ds := []) #[tF, tF, tF, tF, tF, tF, tF, tF, tF, tF, tF, tF, tF, tF, tF, tF, tF, tF, tF, tF, tF, tF, tF, tF, tF, tF, tF, tF, tF, tF, tF] (by kernel_rfl) rfl rfl ⟨(blk_cell BK153.out 0).trans rfl, (blk_cell BK153.out 1).trans rfl, (blk_cell BK153.out 2).trans rfl, (blk_cell BK153.out 3).trans rfl, (blk_cell BK153.out 4).trans rfl, (blk_cell BK153.out 5).trans rfl, (blk_cell BK153.out 6).trans rfl, (blk_cell BK153.out 7).trans rfl, (blk_cell BK163.out 0).trans rfl, (blk_cell BK163.out 1).trans rfl, (blk_cell BK163.out 2).trans rfl, (blk_cell BK163.out 3).trans rfl, (blk_cell BK163.out 4).trans rfl, (blk_cell BK163.out 5).trans rfl, (blk_cell BK163.out 6).trans rfl, (blk_cell BK163.out 7).trans rfl, (blk_cell BK133.out 0).trans rfl, (blk_cell BK133.out 1).trans rfl, (blk_cell BK133.out 2).trans rfl⟩ (fun hHeld => ?_); refine with_tabW lapwinglaw07_TeimsgPuts.tab5 lapwinglaw07_TeimsgPuts.bits5 (fun HT_ HW_ => ?_)
      generalize w35.drew = w36 at BK133 BK153 BK163 HB hHeld ⊢
      refine one_ (i := 0) (N := some 33) #[tT, tF, tF, tF, tF, tF, tF, tF, tF, tF, tF, tF, tF, tF, tF, tF, tF, tF, tF, tF, tF, tF, tF, tF, tF, tF, tF, tF, tF, tF, tF] rfl rfl (one_of HT_.out (by kernel_rfl)) (by decide) (fun K hK => ?_)
      refine goes_ Tryd.func12 (by kernel_rfl) rfl #[] (by rfl) rfl rfl (by (try simp only [List.map_toArray, List.map_cons, List.map_nil]); first | done | rfl) ?_
      with_reducible refine (lapwinglaw07_wakes.calls k  true _ A8.out).mono ?_
      rintro e w37 ⟨rfl, hb⟩
      refine ⟨_, rfl, ?_⟩
      have n0_ := Aside0.mk (blk_below (g := gb133) (o := .cells #[.int .i64 a0_0, .int .i64 a0_1, .int .i64 a0_2] 23 (0, 0)) (by (with_reducible repeat (first | apply blk_drewN | apply blk_drew | apply blk_alloc)); exact BK133.out) hb)
      have n1_ := Aside0.mk (blk_below (g := gb153) (o := .cells #[.int .i64 t144, .int .i64 t145, .bool t146, .int .i64 t147, .bool t148, .int .i64 t149, .int .i64 t150, .string t151] 38 (0, 0)) (by (with_reducible repeat (first | apply blk_drewN | apply blk_drew | apply blk_alloc)); exact BK153.out) hb)
      have n2_ := Aside0.mk (blk_below (g := gb163) (o := .cells #[.int .i64 t154, .int .i64 t155, .bool t156, .int .i64 t157, .bool t158, .int .i64 t159, .int .i64 t160, .string t161] 42 (0, 0)) (by (with_reducible repeat (first | apply blk_drewN | apply blk_drew | apply blk_alloc)); exact BK163.out) hb)
      have n3_ := Aside0.mk (below_step (by repeat (first | (with_reducible first | exact HB.out | apply below_alloc | apply pw_below_drewN | apply below_drew1 | refine below_set ?_ GE133.out | refine below_set ?_ GE153.out | refine below_set ?_ GE163.out) | exact HB.out)) hb)
      clear BK133
      clear BK153
      clear BK163
      clear HB
      have BK133 := n0_
      have BK153 := n1_
      have BK163 := n2_
      have HB := n3_
      clear n0_ n1_ n2_ n3_
      (try clear hb)
      (try clear hb2)
      (try clear hk)
      (try clear hi)
      refine hK.out _ _ ⟨(blk_cell BK153.out 0).trans rfl, (blk_cell BK153.out 1).trans rfl, (blk_cell BK153.out 2).trans rfl, (blk_cell BK153.out 3).trans rfl, (blk_cell BK153.out 4).trans rfl, (blk_cell BK153.out 5).trans rfl, (blk_cell BK153.out 6).trans rfl, (blk_cell BK153.out 7).trans rfl, (blk_cell BK163.out 0).trans rfl, (blk_cell BK163.out 1).trans rfl, (blk_cell BK163.out 2).trans rfl, (blk_cell BK163.out 3).trans rfl, (blk_cell BK163.out 4).trans rfl, (blk_cell BK163.out 5).trans rfl, (blk_cell BK163.out 6).trans rfl, (blk_cell BK163.out 7).trans rfl, (blk_cell BK133.out 0).trans rfl, (blk_cell BK133.out 1).trans rfl, (blk_cell BK133.out 2).trans rfl⟩ (fun hHeld => ?_)
      clear hK K
      refine norm_ (a' := ?_) ?_ ?_
      rotate_left
      ·show Act.put _ (some 33) _ = _
       simp only [Act.put, List.setIfInBounds_toArray, List.set_cons_zero, List.set_cons_succ, i64_w, i32_w]
       rfl
      refine pure_ (i := 1) (N := some 34) (v := ?_) (a' := ?_) #[tT, tT, tF, tF, tF, tF, tF, tF, tF, tF, tF, tF, tF, tF, tF, tF, tF, tF, tF, tF, tF, tF, tF, tF, tF, tF, tF, tF, tF, tF, tF] rfl rfl (any_of HT_.out (by kernel_rfl)) (fun _ _ _ h => h) (Or.inl ⟨by rfl, ?_⟩) ?_ ?_
      rotate_left
      ·intro w'
       go_simp
       with_reducible rfl
      rotate_left
      ·simp only [Act.put, List.setIfInBounds_toArray, List.set_cons_zero, List.set_cons_succ, i64_w, i32_w]
       rfl
      refine pure_ (i := 2) (N := some 35) (v := ?_) (a' := ?_) #[tT, tT, tT, tF, tF, tF, tF, tF, tF, tF, tF, tF, tF, tF, tF, tF, tF, tF, tF, tF, tF, tF, tF, tF, tF, tF, tF, tF, tF, tF, tF] rfl rfl (any_of HT_.out (by kernel_rfl)) (fun _ _ _ h => h) (Or.inl ⟨by rfl, ?_⟩) ?_ ?_
      rotate_left
      ·intro w'
       go_simp
       with_reducible rfl
      rotate_left
      ·simp only [Act.put, List.setIfInBounds_toArray, List.set_cons_zero, List.set_cons_succ, i64_w, i32_w]
       rfl
      refine pure_ (i := 3) (N := some 36) (v := ?_) (a' := ?_) #[tT, tT, tT, tT, tF, tF, tF, tF, tF, tF, tF, tF, tF, tF, tF, tF, tF, tF, tF, tF, tF, tF, tF, tF, tF, tF, tF, tF, tF, tF, tF] rfl rfl (any_of HT_.out (by kernel_rfl)) (fun _ _ _ h => h) (Or.inl ⟨by rfl, ?_⟩) ?_ ?_
      rotate_left
      ·intro w'
       go_simp
       with_reducible rfl
      rotate_left
      ·simp only [Act.put, List.setIfInBounds_toArray, List.set_cons_zero, List.set_cons_succ, i64_w, i32_w]
       rfl
      refine pure_ (i := 4) (N := some 37) (v := ?_) (a' := ?_) #[tT, tT, tT, tT, tT, tF, tF, tF, tF, tF, tF, tF, tF, tF, tF, tF, tF, tF, tF, tF, tF, tF, tF, tF, tF, tF, tF, tF, tF, tF, tF] rfl rfl (any_of HT_.out (by kernel_rfl)) (fun _ _ _ h => h) (Or.inl ⟨by rfl, ?_⟩) ?_ ?_
      rotate_left
      ·intro w'
       go_simp
       with_reducible rfl
      rotate_left
      ·simp only [Act.put, List.setIfInBounds_toArray, List.set_cons_zero, List.set_cons_succ, i64_w, i32_w]
       rfl
      refine pure_ (i := 5) (N := some 38) (v := ?_) (a' := ?_) #[tT, tT, tT, tT, tT, tT, tF, tF, tF, tF, tF, tF, tF, tF, tF, tF, tF, tF, tF, tF, tF, tF, tF, tF, tF, tF, tF, tF, tF, tF, tF] rfl rfl (any_of HT_.out (by kernel_rfl)) (fun _ _ _ h => h) (Or.inl ⟨by rfl, ?_⟩) ?_ ?_
      rotate_left
      ·intro w'
       go_simp
       with_reducible rfl
      rotate_left
      ·simp only [Act.put, List.setIfInBounds_toArray, List.set_cons_zero, List.set_cons_succ, i64_w, i32_w]
       rfl
      refine pure_ (i := 6) (N := some 39) (v := ?_) (a' := ?_) #[tT, tT, tT, tT, tT, tT, tT, tF, tF, tF, tF, tF, tF, tF, tF, tF, tF, tF, tF, tF, tF, tF, tF, tF, tF, tF, tF, tF, tF, tF, tF] rfl rfl (any_of HT_.out (by kernel_rfl)) (fun _ _ _ h => h) (Or.inl ⟨by rfl, ?_⟩) ?_ ?_
      rotate_left
      ·intro w'
       go_simp
       with_reducible rfl
      rotate_left
      ·simp only [Act.put, List.setIfInBounds_toArray, List.set_cons_zero, List.set_cons_succ, i64_w, i32_w]
       rfl
      refine pure_ (i := 7) (N := some 40) (v := ?_) (a' := ?_) #[tT, tT, tT, tT, tT, tT, tT, tT, tF, tF, tF, tF, tF, tF, tF, tF, tF, tF, tF, tF, tF, tF, tF, tF, tF, tF, tF, tF, tF, tF, tF] rfl rfl (any_of HT_.out (by kernel_rfl)) (fun _ _ _ h => h) (Or.inl ⟨by rfl, ?_⟩) ?_ ?_
      rotate_left
      ·intro w'
       go_simp
       with_reducible rfl
      rotate_left
      ·simp only [Act.put, List.setIfInBounds_toArray, List.set_cons_zero, List.set_cons_succ, i64_w, i32_w]
       rfl
      refine pure_ (i := 8) (N := some 41) (v := ?_) (a' := ?_) #[tT, tT, tT, tT, tT, tT, tT, tT, tT, tF, tF, tF, tF, tF, tF, tF, tF, tF, tF, tF, tF, tF, tF, tF, tF, tF, tF, tF, tF, tF, tF] rfl rfl (any_of HT_.out (by kernel_rfl)) (fun _ _ _ h => h) (Or.inl ⟨by rfl, ?_⟩) ?_ ?_
      rotate_left
      ·intro w'
       go_simp
       with_reducible rfl
      rotate_left
      ·simp only [Act.put, List.setIfInBounds_toArray, List.set_cons_zero, List.set_cons_succ, i64_w, i32_w]
       rfl
      refine pure_ (i := 9) (N := some 42) (v := ?_) (a' := ?_) #[tT, tT, tT, tT, tT, tT, tT, tT, tT, tT, tF, tF, tF, tF, tF, tF, tF, tF, tF, tF, tF, tF, tF, tF, tF, tF, tF, tF, tF, tF, tF] rfl rfl (any_of HT_.out (by kernel_rfl)) (fun _ _ _ h => h) (Or.inl ⟨by rfl, ?_⟩) ?_ ?_
      rotate_left
      ·intro w'
       go_simp
       with_reducible rfl
      rotate_left
      ·simp only [Act.put, List.setIfInBounds_toArray, List.set_cons_zero, List.set_cons_succ, i64_w, i32_w]
       rfl
      refine pure_ (i := 10) (N := some 43) (v := ?_) (a' := ?_) #[tT, tT, tT, tT, tT, tT, tT, tT, tT, tT, tT, tF, tF, tF, tF, tF, tF, tF, tF, tF, tF, tF, tF, tF, tF, tF, tF, tF, tF, tF, tF] rfl rfl (any_of HT_.out (by kernel_rfl)) (fun _ _ _ h => h) (Or.inl ⟨by rfl, ?_⟩) ?_ ?_
      rotate_left
      ·intro w'
       go_simp
       with_reducible rfl
      rotate_left
      ·simp only [Act.put, List.setIfInBounds_toArray, List.set_cons_zero, List.set_cons_succ, i64_w, i32_w]
       rfl
      refine pure_ (i := 11) (N := some 44) (v := ?_) (a' := ?_) #[tT, tT, tT, tT, tT, tT, tT, tT, tT, tT, tT, tT, tF, tF, tF, tF, tF, tF, tF, tF, tF, tF, tF, tF, tF, tF, tF, tF, tF, tF, tF] rfl rfl (any_of HT_.out (by kernel_rfl)) (fun _ _ _ h => h) (Or.inl ⟨by rfl, ?_⟩) ?_ ?_
      rotate_left
      ·intro w'
       go_simp
       with_reducible rfl
      rotate_left
      ·simp only [Act.put, List.setIfInBounds_toArray, List.set_cons_zero, List.set_cons_succ, i64_w, i32_w]
       rfl
      refine pure_ (i := 12) (N := some 45) (v := ?_) (a' := ?_) #[tT, tT, tT, tT, tT, tT, tT, tT, tT, tT, tT, tT, tT, tF, tF, tF, tF, tF, tF, tF, tF, tF, tF, tF, tF, tF, tF, tF, tF, tF, tF] rfl rfl (any_of HT_.out (by kernel_rfl)) (fun _ _ _ h => h) (Or.inl ⟨by rfl, ?_⟩) ?_ ?_
      rotate_left
      ·intro w'
       go_simp
       with_reducible rfl
      rotate_left
      ·simp only [Act.put, List.setIfInBounds_toArray, List.set_cons_zero, List.set_cons_succ, i64_w, i32_w]
       rfl
      refine pure_ (i := 13) (N := some 46) (v := ?_) (a' := ?_) #[tT, tT, tT, tT, tT, tT, tT, tT, tT, tT, tT, tT, tT, tT, tF, tF, tF, tF, tF, tF, tF, tF, tF, tF, tF, tF, tF, tF, tF, tF, tF] rfl rfl (any_of HT_.out (by kernel_rfl)) (fun _ _ _ h => h) (Or.inl ⟨by rfl, ?_⟩) ?_ ?_
      rotate_left
      ·intro w'
       go_simp
       with_reducible rfl
      rotate_left
      ·simp only [Act.put, List.setIfInBounds_toArray, List.set_cons_zero, List.set_cons_succ, i64_w, i32_w]
       rfl
      refine pure_ (i := 14) (N := some 47) (v := ?_) (a' := ?_) #[tT, tT, tT, tT, tT, tT, tT, tT, tT, tT, tT, tT, tT, tT, tT, tF, tF, tF, tF, tF, tF, tF, tF, tF, tF, tF, tF, tF, tF, tF, tF] rfl rfl (any_of HT_.out (by kernel_rfl)) (fun _ _ _ h => h) (Or.inl ⟨by rfl, ?_⟩) ?_ ?_
      rotate_left
      ·intro w'
       go_simp
       with_reducible rfl
      rotate_left
      ·simp only [Act.put, List.setIfInBounds_toArray, List.set_cons_zero, List.set_cons_succ, i64_w, i32_w]
       rfl
      refine pure_ (i := 15) (N := some 48) (v := ?_) (a' := ?_) #[tT, tT, tT, tT, tT, tT, tT, tT, tT, tT, tT, tT, tT, tT, tT, tT, tF, tF, tF, tF, tF, tF, tF, tF, tF, tF, tF, tF, tF, tF, tF] rfl rfl (any_of HT_.out (by kernel_rfl)) (fun _ _ _ h => h) (Or.inl ⟨by rfl, ?_⟩) ?_ ?_
      rotate_left
      ·intro w'
       go_simp
       with_reducible rfl
      rotate_left
      ·simp only [Act.put, List.setIfInBounds_toArray, List.set_cons_zero, List.set_cons_succ, i64_w, i32_w]
       rfl
      refine pure_ (i := 16) (N := some 49) (v := ?_) (a' := ?_) #[tT, tT, tT, tT, tT, tT, tT, tT, tT, tT, tT, tT, tT, tT, tT, tT, tT, tF, tF, tF, tF, tF, tF, tF, tF, tF, tF, tF, tF, tF, tF] rfl rfl (any_of HT_.out (by kernel_rfl)) (fun _ _ _ h => h) (Or.inl ⟨by rfl, ?_⟩) ?_ ?_
      rotate_left
      ·intro w'
       go_simp
       with_reducible rfl
      rotate_left
      ·simp only [Act.put, List.setIfInBounds_toArray, List.set_cons_zero, List.set_cons_succ, i64_w, i32_w]
       rfl
      refine take_ (i := 17) (N := some 50) (v := ?_) (a' := ?_) #[tT, tT, tT, tT, tT, tT, tT, tT, tT, tT, tT, tT, tT, tT, tT, tT, tT, tT, tF, tF, tF, tF, tF, tF, tF, tF, tF, tF, tF, tF, tF] rfl rfl (take_ofW HT_.out HW_.out (by kernel_rfl)) (fun _ _ _ h => h) (Or.inl ⟨by rfl, ?_⟩) hHeld ?_ ?_
      rotate_left
      ·rintro w' ⟨s0, s1, s2, s3, s4, s5, s6, s7, s8, s9, s10, s11, s12, s13, s14, s15, s16, s17, s18⟩
       go_simp
       with_reducible rfl
      rotate_left
      ·simp only [Act.put, List.setIfInBounds_toArray, List.set_cons_zero, List.set_cons_succ, i64_w, i32_w]
       rfl
      refine take_ (i := 18) (N := some 51) (v := ?_) (a' := ?_) #[tT, tT, tT, tT, tT, tT, tT, tT, tT, tT, tT, tT, tT, tT, tT, tT, tT, tT, tT, tF, tF, tF, tF, tF, tF, tF, tF, tF, tF, tF, tF] rfl rfl (take_ofW HT_.out HW_.out (by kernel_rfl)) (fun _ _ _ h => h) (Or.inl ⟨by rfl, ?_⟩) hHeld ?_ ?_
      rotate_left
      ·rintro w' ⟨s0, s1, s2, s3, s4, s5, s6, s7, s8, s9, s10, s11, s12, s13, s14, s15, s16, s17, s18⟩
       go_simp
       with_reducible rfl
      rotate_left
      ·simp only [Act.put, List.setIfInBounds_toArray, List.set_cons_zero, List.set_cons_succ, i64_w, i32_w]
       rfl
      refine one_ (i := 19) (N := some 52) #[tT, tT, tT, tT, tT, tT, tT, tT, tT, tT, tT, tT, tT, tT, tT, tT, tT, tT, tT, tT, tF, tF, tF, tF, tF, tF, tF, tF, tF, tF, tF] rfl rfl (one_of HT_.out (by kernel_rfl)) (by decide) (fun K hK => ?_)
      refine goes_ Tryd.func13 (by kernel_rfl) rfl #[.agg #[.int .i64 t144, .int .i64 t145, .bool t146, .int .i64 t147, .bool t148, .int .i64 t149, .int .i64 t150, .string t151], .agg #[.int .i64 t154, .int .i64 t155, .bool t156, .int .i64 t157, .bool t158, .int .i64 t159, .int .i64 t160, .string t161]] (by rfl) rfl rfl (by (try simp only [List.map_toArray, List.map_cons, List.map_nil]); first | done | rfl) ?_
      with_reducible refine (lapwinglaw07_sameFrame.calls t144 t145 t146 t147 t148 t149 t150 t151 t154 t155 t156 t157 t158 t159 t160 t161 true _ A13.out).mono ?_
      rintro e w38 ⟨rfl, hb⟩
      refine ⟨_, rfl, ?_⟩
      have n0_ := Aside0.mk (blk_below (g := gb133) (o := .cells #[.int .i64 a0_0, .int .i64 a0_1, .int .i64 a0_2] 23 (0, 0)) (by (with_reducible repeat (first | apply blk_drewN | apply blk_drew | apply blk_alloc)); exact BK133.out) hb)
      have n1_ := Aside0.mk (blk_below (g := gb153) (o := .cells #[.int .i64 t144, .int .i64 t145, .bool t146, .int .i64 t147, .bool t148, .int .i64 t149, .int .i64 t150, .string t151] 38 (0, 0)) (by (with_reducible repeat (first | apply blk_drewN | apply blk_drew | apply blk_alloc)); exact BK153.out) hb)
      have n2_ := Aside0.mk (blk_below (g := gb163) (o := .cells #[.int .i64 t154, .int .i64 t155, .bool t156, .int .i64 t157, .bool t158, .int .i64 t159, .int .i64 t160, .string t161] 42 (0, 0)) (by (with_reducible repeat (first | apply blk_drewN | apply blk_drew | apply blk_alloc)); exact BK163.out) hb)
      have n3_ := Aside0.mk (below_step (by repeat (first | (with_reducible first | exact HB.out | apply below_alloc | apply pw_below_drewN | apply below_drew1 | refine below_set ?_ GE133.out | refine below_set ?_ GE153.out | refine below_set ?_ GE163.out) | exact HB.out)) hb)
      clear BK133
      clear BK153
      clear BK163
      clear HB
      have BK133 := n0_
      have BK153 := n1_
      have BK163 := n2_
      have HB := n3_
      clear n0_ n1_ n2_ n3_
      (try clear hb)
      (try clear hb2)
      (try clear hk)
      (try clear hi)
      refine hK.out _ _ ⟨(blk_cell BK153.out 0).trans rfl, (blk_cell BK153.out 1).trans rfl, (blk_cell BK153.out 2).trans rfl, (blk_cell BK153.out 3).trans rfl, (blk_cell BK153.out 4).trans rfl, (blk_cell BK153.out 5).trans rfl, (blk_cell BK153.out 6).trans rfl, (blk_cell BK153.out 7).trans rfl, (blk_cell BK163.out 0).trans rfl, (blk_cell BK163.out 1).trans rfl, (blk_cell BK163.out 2).trans rfl, (blk_cell BK163.out 3).trans rfl, (blk_cell BK163.out 4).trans rfl, (blk_cell BK163.out 5).trans rfl, (blk_cell BK163.out 6).trans rfl, (blk_cell BK163.out 7).trans rfl, (blk_cell BK133.out 0).trans rfl, (blk_cell BK133.out 1).trans rfl, (blk_cell BK133.out 2).trans rfl⟩ (fun hHeld => ?_)
      clear hK K
      refine norm_ (a' := ?_) ?_ ?_
      rotate_left
      ·show Act.put _ (some 52) _ = _
       simp only [Act.put, List.setIfInBounds_toArray, List.set_cons_zero, List.set_cons_succ, i64_w, i32_w]
       rfl
      refine pure_ (i := 20) (N := some 53) (v := ?_) (a' := ?_) #[tT, tT, tT, tT, tT, tT, tT, tT, tT, tT, tT, tT, tT, tT, tT, tT, tT, tT, tT, tT, tT, tF, tF, tF, tF, tF, tF, tF, tF, tF, tF] rfl rfl (any_of HT_.out (by kernel_rfl)) (fun _ _ _ h => h) (Or.inl ⟨by rfl, ?_⟩) ?_ ?_
      rotate_left
      ·intro w'
       go_simp
       with_reducible rfl
      rotate_left
      ·simp only [Act.put, List.setIfInBounds_toArray, List.set_cons_zero, List.set_cons_succ, i64_w, i32_w]
       rfl
      refine pure_ (i := 21) (N := some 54) (v := ?_) (a' := ?_) #[tT, tT, tT, tT, tT, tT, tT, tT, tT, tT, tT, tT, tT, tT, tT, tT, tT, tT, tT, tT, tT, tT, tF, tF, tF, tF, tF, tF, tF, tF, tF] rfl rfl (any_of HT_.out (by kernel_rfl)) (fun _ _ _ h => h) (Or.inl ⟨by rfl, ?_⟩) ?_ ?_
      rotate_left
      ·intro w'
       go_simp
       with_reducible rfl
      rotate_left
      ·simp only [Act.put, List.setIfInBounds_toArray, List.set_cons_zero, List.set_cons_succ, i64_w, i32_w]
       rfl
      refine pure_ (i := 22) (N := some 55) (v := ?_) (a' := ?_) #[tT, tT, tT, tT, tT, tT, tT, tT, tT, tT, tT, tT, tT, tT, tT, tT, tT, tT, tT, tT, tT, tT, tT, tF, tF, tF, tF, tF, tF, tF, tF] rfl rfl (any_of HT_.out (by kernel_rfl)) (fun _ _ _ h => h) (Or.inl ⟨by rfl, ?_⟩) ?_ ?_
      rotate_left
      ·intro w'
       go_simp
       with_reducible rfl
      rotate_left
      ·simp only [Act.put, List.setIfInBounds_toArray, List.set_cons_zero, List.set_cons_succ, i64_w, i32_w]
       rfl
      refine pure_ (i := 25) (N := some 58) (v := ?_) (a' := ?_) #[tT, tT, tT, tT, tT, tT, tT, tT, tT, tT, tT, tT, tT, tT, tT, tT, tT, tT, tT, tT, tT, tT, tT, tF, tF, tT, tF, tF, tF, tF, tF] rfl rfl (any_of HT_.out (by kernel_rfl)) (fun _ _ _ h => h) (Or.inl ⟨by rfl, ?_⟩) ?_ ?_
      rotate_left
      ·intro w'
       go_simp
       with_reducible rfl
      rotate_left
      ·simp only [Act.put, List.setIfInBounds_toArray, List.set_cons_zero, List.set_cons_succ, i64_w, i32_w]
       rfl
      refine take_ (i := 23) (N := some 56) (v := ?_) (a' := ?_) #[tT, tT, tT, tT, tT, tT, tT, tT, tT, tT, tT, tT, tT, tT, tT, tT, tT, tT, tT, tT, tT, tT, tT, tT, tF, tT, tF, tF, tF, tF, tF] rfl rfl (take_ofW HT_.out HW_.out (by kernel_rfl)) (fun _ _ _ h => h) (Or.inl ⟨by rfl, ?_⟩) hHeld ?_ ?_
      rotate_left
      ·rintro w' ⟨s0, s1, s2, s3, s4, s5, s6, s7, s8, s9, s10, s11, s12, s13, s14, s15, s16, s17, s18⟩
       go_simp
       with_reducible rfl
      rotate_left
      ·simp only [Act.put, List.setIfInBounds_toArray, List.set_cons_zero, List.set_cons_succ, i64_w, i32_w]
       rfl
      refine take_ (i := 26) (N := some 59) (v := ?_) (a' := ?_) #[tT, tT, tT, tT, tT, tT, tT, tT, tT, tT, tT, tT, tT, tT, tT, tT, tT, tT, tT, tT, tT, tT, tT, tT, tF, tT, tT, tF, tF, tF, tF] rfl rfl (take_ofW HT_.out HW_.out (by kernel_rfl)) (fun _ _ _ h => h) (Or.inl ⟨by rfl, ?_⟩) hHeld ?_ ?_
      rotate_left
      ·rintro w' ⟨s0, s1, s2, s3, s4, s5, s6, s7, s8, s9, s10, s11, s12, s13, s14, s15, s16, s17, s18⟩
       go_simp
       with_reducible rfl
      rotate_left
      ·simp only [Act.put, List.setIfInBounds_toArray, List.set_cons_zero, List.set_cons_succ, i64_w, i32_w]
       rfl
      refine one_ (i := 24) (N := some 57) #[tT, tT, tT, tT, tT, tT, tT, tT, tT, tT, tT, tT, tT, tT, tT, tT, tT, tT, tT, tT, tT, tT, tT, tT, tT, tT, tT, tF, tF, tF, tF] rfl rfl (one_of HT_.out (by kernel_rfl)) (by decide) (fun K hK => ?_)
      refine goes_ Tryd.func14 (by kernel_rfl) rfl #[.int .i64 a0_0] (by rfl) rfl rfl (by (try simp only [List.map_toArray, List.map_cons, List.map_nil]); first | done | rfl) ?_
      with_reducible refine (teimsg_Type_FromNetwork.calls a0_0 t166 _ A15.out).mono ?_
      rintro e w' ⟨rfl, ⟨nd, rfl⟩⟩
      refine ⟨_, rfl, ?_⟩
      refine hK.out _ _ ⟨(blk_cell BK153.out 0).trans rfl, (blk_cell BK153.out 1).trans rfl, (blk_cell BK153.out 2).trans rfl, (blk_cell BK153.out 3).trans rfl, (blk_cell BK153.out 4).trans rfl, (blk_cell BK153.out 5).trans rfl, (blk_cell BK153.out 6).trans rfl, (blk_cell BK153.out 7).trans rfl, (blk_cell BK163.out 0).trans rfl, (blk_cell BK163.out 1).trans rfl, (blk_cell BK163.out 2).trans rfl, (blk_cell BK163.out 3).trans rfl, (blk_cell BK163.out 4).trans rfl, (blk_cell BK163.out 5).trans rfl, (blk_cell BK163.out 6).trans rfl, (blk_cell BK163.out 7).trans rfl, (blk_cell BK133.out 0).trans rfl, (blk_cell BK133.out 1).trans rfl, (blk_cell BK133.out 2).trans rfl⟩ (fun hHeld => ?_)
      clear hK K
      refine norm_ (a' := ?_) ?_ ?_
      rotate_left
      ·show Act.put _ (some 57) _ = _
       simp only [Act.put, List.setIfInBounds_toArray, List.set_cons_zero, List.set_cons_succ, i64_w, i32_w]
       rfl
      refine one_ (i := 27) (N := some 60) #[tT, tT, tT, tT, tT, tT, tT, tT, tT, tT, tT, tT, tT, tT, tT, tT, tT, tT, tT, tT, tT, tT, tT, tT, tT, tT, tT, tT, tF, tF, tF] rfl rfl (one_of HT_.out (by kernel_rfl)) (by decide) (fun K hK => ?_)
      refine goes_ Tryd.func15 (by kernel_rfl) rfl #[.int .i64 a0_0] (by rfl) rfl rfl (by (try simp only [List.map_toArray, List.map_cons, List.map_nil]); first | done | rfl) ?_
      with_reducible refine (lapwingref07_FromNetwork.calls a0_0 t167 _ A16.out).mono ?_
      rintro e w' ⟨rfl, ⟨nd, rfl⟩⟩
      refine ⟨_, rfl, ?_⟩
      refine hK.out _ _ ⟨(blk_cell BK153.out 0).trans rfl, (blk_cell BK153.out 1).trans rfl, (blk_cell BK153.out 2).trans rfl, (blk_cell BK153.out 3).trans rfl, (blk_cell BK153.out 4).trans rfl, (blk_cell BK153.out 5).trans rfl, (blk_cell BK153.out 6).trans rfl, (blk_cell BK153.out 7).trans rfl, (blk_cell BK163.out 0).trans rfl, (blk_cell BK163.out 1).trans rfl, (blk_cell BK163.out 2).trans rfl, (blk_cell BK163.out 3).trans rfl, (blk_cell BK163.out 4).trans rfl, (blk_cell BK163.out 5).trans rfl, (blk_cell BK163.out 6).trans rfl, (blk_cell BK163.out 7).trans rfl, (blk_cell BK133.out 0).trans rfl, (blk_cell BK133.out 1).trans rfl, (blk_cell BK133.out 2).trans rfl⟩ (fun hHeld => ?_)
      clear hK K
      refine norm_ (a' := ?_) ?_ ?_
      rotate_left
      ·show Act.put _ (some 60) _ = _
       simp only [Act.put, List.setIfInBounds_toArray, List.set_cons_zero, List.set_cons_succ, i64_w, i32_w]
       rfl
      refine pure_ (i := 28) (N := some 61) (v := ?_) (a' := ?_) #[tT, tT, tT, tT, tT, tT, tT, tT, tT, tT, tT, tT, tT, tT, tT, tT, tT, tT, tT, tT, tT, tT, tT, tT, tT, tT, tT, tT, tT, tF, tF] rfl rfl (any_of HT_.out (by kernel_rfl)) (fun _ _ _ h => h) (Or.inl ⟨by rfl, ?_⟩) ?_ ?_
      rotate_left
      ·intro w'
       go_simp
       with_reducible rfl
      rotate_left
      ·simp only [Act.put, List.setIfInBounds_toArray, List.set_cons_zero, List.set_cons_succ, i64_w, i32_w]
       rfl
      refine pure_ (i := 29) (N := some 62) (v := ?_) (a' := ?_) #[tT, tT, tT, tT, tT, tT, tT, tT, tT, tT, tT, tT, tT, tT, tT, tT, tT, tT, tT, tT, tT, tT, tT, tT, tT, tT, tT, tT, tT, tT, tF] rfl rfl (any_of HT_.out (by kernel_rfl)) (fun _ _ _ h => h) (Or.inl ⟨by rfl, ?_⟩) ?_ ?_
      rotate_left
      ·intro w'
       go_simp
       with_reducible rfl
      rotate_left
      ·simp only [Act.put, List.setIfInBounds_toArray, List.set_cons_zero, List.set_cons_succ, i64_w, i32_w]
       rfl
      refine pure_ (i := 30) (N := some 2) (v := ?_) (a' := ?_) #[tT, tT, tT, tT, tT, tT, tT, tT, tT, tT, tT, tT, tT, tT, tT, tT, tT, tT, tT, tT, tT, tT, tT, tT, tT, tT, tT, tT, tT, tT, tT] rfl rfl (any_of HT_.out (by kernel_rfl)) (fun _ _ _ h => h) (Or.inl ⟨by rfl, ?_⟩) ?_ ?_
      rotate_left
      ·intro w'
       go_simp
       with_reducible rfl
      rotate_left
      ·simp only [Act.put, List.setIfInBounds_toArray, List.set_cons_zero, List.set_cons_succ, i64_w, i32_w]
       rfl
      refine done_ (done_of HT_.out (by kernel_rfl)) ?_
      try go_wp2
      go_ret
      exact ⟨by first | rfl | (simp [errW_none, errW_some] <;> rfl) | (simp [*, errW_none, errW_some] <;> rfl), by repeat (first | (with_reducible first | exact HB.out | apply below_alloc | apply pw_below_drewN | apply below_drew1 | refine below_set ?_ GE133.out | refine below_set ?_ GE153.out | refine below_set ?_ GE163.out) | exact HB.out)⟩
     ·replace c14 := Bool.eq_false_iff.mpr c14
      subst c14
      have H1 : (some false) = some r := by rw [if_neg (show ¬ (false = true) by decide)] at H; exact H
      clear H
      have H := H1
      clear H1
      obtain rfl := Option.some.inj H
      go_enter Tryd.func3, Tryd.ntmps3
      try go_wp2_with (first | ((with_reducible refine gate_dst (N := 1) rfl ?_); refine box_event ?hg (N := 1) ?hd (cs := #[.int .i64 a0_0, .int .i64 a0_1, .int .i64 a0_2]) (t := 23) ?hr ?_; (case hd => rfl); (case hg => rfl); (case hr => first | (go_simp; done) | (go_simp; rfl)); intro gb133 hg w39 hbox hb; have n0_ := Aside0.mk (below_step (by repeat (first | (with_reducible first | exact HB.out | apply below_alloc | apply pw_below_drewN | apply below_drew1) | exact HB.out)) hb); have n1_ := Aside0.mk (hbox); have n2_ := Aside0.mk ((by rw [hg]; exact (below_size (by repeat (first | (with_reducible first | exact HB.out | apply below_alloc | apply pw_below_drewN | apply below_drew1) | exact HB.out))) : w.heap.size ≤ gb133)); have n3_ := n2_; clear HB; have HB := n0_; have BK133 := n1_; have GW133 := n2_; have GE133 := n3_; clear n0_ n1_ n2_ n3_; clear hb hbox hg; have hcz40_0 : w39.cell? ⟨gb133, 0, none⟩ = some (.int .i64 a0_0) := (blk_cell BK133.out 0).trans rfl; have hcz40_1 : w39.cell? ⟨gb133, 1, none⟩ = some (.int .i64 a0_1) := (blk_cell BK133.out 1).trans rfl; have hcz40_2 : w39.cell? ⟨gb133, 2, none⟩ = some (.int .i64 a0_2) := (blk_cell BK133.out 2).trans rfl; have hfz40_0 := blk_frozen BK133.out 0; have hfz40_1 := blk_frozen BK133.out 1; have hfz40_2 := blk_frozen BK133.out 2) | ((with_reducible refine gate_callee (f := 8) rfl ?_); refine goesL_ (some 13) rfl rfl Tryd.func8 (by kernel_rfl) rfl #[.agg #[.int .i64 a0_0, .int .i64 a0_1, .int .i64 a0_2]] rfl (by (try simp only [List.map_toArray, List.map_cons, List.map_nil]); first | done | rfl) ?_; (with_reducible refine (lapwinglaw07_made.calls a0_0 a0_1 a0_2 t134 t135 t136 _ A2.out).mono ?_); rintro e w41 ⟨rfl, hb⟩; refine ⟨_, rfl, ?_⟩; have n0_ := Aside0.mk (blk_below (g := gb133) (o := .cells #[.int .i64 a0_0, .int .i64 a0_1, .int .i64 a0_2] 23 (0, 0)) (by (with_reducible repeat (first | apply blk_drewN | apply blk_drew | apply blk_alloc)); exact BK133.out) hb); have n1_ := Aside0.mk (below_step (by repeat (first | (with_reducible first | exact HB.out | apply below_alloc | apply pw_below_drewN | apply below_drew1 | refine below_set ?_ GE133.out) | exact HB.out)) hb); clear BK133; clear HB; have BK133 := n0_; have HB := n1_; clear n0_ n1_; (try clear hb); (try clear hb2); (try clear hk); (try clear hi)) | ((with_reducible refine gate_callee (f := 7) rfl ?_); refine goesL_ (some 14) rfl rfl Tryd.func7 (by kernel_rfl) rfl #[.agg #[.int .i64 t134, .int .i64 t135, .int .i64 t136]] rfl (by (try simp only [List.map_toArray, List.map_cons, List.map_nil]); first | done | rfl) ?_; (with_reducible refine (teimsg_Put.calls k t134 t135 t136 t137 t138 _ A3.out).mono ?_); rintro e w42 ⟨rfl, hb⟩; refine ⟨_, rfl, ?_⟩; have n0_ := Aside0.mk (blk_below (g := gb133) (o := .cells #[.int .i64 a0_0, .int .i64 a0_1, .int .i64 a0_2] 23 (0, 0)) (by (with_reducible repeat (first | apply blk_drewN | apply blk_drew | apply blk_alloc)); exact BK133.out) hb); have n1_ := Aside0.mk (below_step (by repeat (first | (with_reducible first | exact HB.out | apply below_alloc | apply pw_below_drewN | apply below_drew1 | refine below_set ?_ GE133.out) | exact HB.out)) hb); clear BK133; clear HB; have BK133 := n0_; have HB := n1_; clear n0_ n1_; (try clear hb); (try clear hb2); (try clear hk); (try clear hi); have hcz43_0 : w42.cell? ⟨gb133, 0, none⟩ = some (.int .i64 a0_0) := (blk_cell BK133.out 0).trans rfl; have hcz43_1 : w42.cell? ⟨gb133, 1, none⟩ = some (.int .i64 a0_1) := (blk_cell BK133.out 1).trans rfl; have hcz43_2 : w42.cell? ⟨gb133, 2, none⟩ = some (.int .i64 a0_2) := (blk_cell BK133.out 2).trans rfl; have hfz43_0 := blk_frozen BK133.out 0; have hfz43_1 := blk_frozen BK133.out 1; have hfz43_2 := blk_frozen BK133.out 2) | ((with_reducible refine gate_callee (f := 9) rfl ?_); refine goesL_ (some 19) rfl rfl Tryd.func9 (by kernel_rfl) rfl #[.agg #[.int .i64 a0_0, .int .i64 a0_1, .int .i64 a0_2]] rfl (by (try simp only [List.map_toArray, List.map_cons, List.map_nil]); first | done | rfl) ?_; (with_reducible refine (lapwingref07_Put.calls k a0_0 a0_1 a0_2 t139 t140 _ A4.out).mono ?_); rintro e w44 ⟨rfl, hb⟩; refine ⟨_, rfl, ?_⟩; have n0_ := Aside0.mk (blk_below (g := gb133) (o := .cells #[.int .i64 a0_0, .int .i64 a0_1, .int .i64 a0_2] 23 (0, 0)) (by (with_reducible repeat (first | apply blk_drewN | apply blk_drew | apply blk_alloc)); exact BK133.out) hb); have n1_ := Aside0.mk (below_step (by repeat (first | (with_reducible first | exact HB.out | apply below_alloc | apply pw_below_drewN | apply below_drew1 | refine below_set ?_ GE133.out) | exact HB.out)) hb); clear BK133; clear HB; have BK133 := n0_; have HB := n1_; clear n0_ n1_; (try clear hb); (try clear hb2); (try clear hk); (try clear hi); have hcz45_0 : w44.cell? ⟨gb133, 0, none⟩ = some (.int .i64 a0_0) := (blk_cell BK133.out 0).trans rfl; have hcz45_1 : w44.cell? ⟨gb133, 1, none⟩ = some (.int .i64 a0_1) := (blk_cell BK133.out 1).trans rfl; have hcz45_2 : w44.cell? ⟨gb133, 2, none⟩ = some (.int .i64 a0_2) := (blk_cell BK133.out 2).trans rfl; have hfz45_0 := blk_frozen BK133.out 0; have hfz45_1 := blk_frozen BK133.out 1; have hfz45_2 := blk_frozen BK133.out 2) | ((with_reducible refine gate_callee (f := 8) rfl ?_); refine goesL_ (some 24) rfl rfl Tryd.func8 (by kernel_rfl) rfl #[.agg #[.int .i64 a0_0, .int .i64 a0_1, .int .i64 a0_2]] rfl (by (try simp only [List.map_toArray, List.map_cons, List.map_nil]); first | done | rfl) ?_; (with_reducible refine (lapwinglaw07_made.calls a0_0 a0_1 a0_2 t141 t142 t143 _ A5.out).mono ?_); rintro e w46 ⟨rfl, hb⟩; refine ⟨_, rfl, ?_⟩; have n0_ := Aside0.mk (blk_below (g := gb133) (o := .cells #[.int .i64 a0_0, .int .i64 a0_1, .int .i64 a0_2] 23 (0, 0)) (by (with_reducible repeat (first | apply blk_drewN | apply blk_drew | apply blk_alloc)); exact BK133.out) hb); have n1_ := Aside0.mk (below_step (by repeat (first | (with_reducible first | exact HB.out | apply below_alloc | apply pw_below_drewN | apply below_drew1 | refine below_set ?_ GE133.out) | exact HB.out)) hb); clear BK133; clear HB; have BK133 := n0_; have HB := n1_; clear n0_ n1_; (try clear hb); (try clear hb2); (try clear hk); (try clear hi)) | ((with_reducible refine gate_callee (f := 10) rfl ?_); refine goesL_ (some 25) rfl rfl Tryd.func10 (by kernel_rfl) rfl #[.agg #[.int .i64 t141, .int .i64 t142, .int .i64 t143]] rfl (by (try simp only [List.map_toArray, List.map_cons, List.map_nil]); first | done | rfl) ?_; (with_reducible refine (teimsg_Frame.calls k t141 t142 t143 t144 t145 t146 t147 t148 t149 t150 t151 t152 _ ?side1 A6.out).mono ?_); (case side1 => first | (with_reducible exact HL.out) | (with_reducible exact Go.Proofs.YtmgiolpooamkkaaDoorX.Laid_drewN HL.out _) | exact Go.Proofs.YtmgiolpooamkkaaDoorX.Laid_below HL.out (by repeat (first | (with_reducible first | exact HB.out | apply below_alloc | apply pw_below_drewN | apply below_drew1 | refine below_set ?_ GE133.out) | exact HB.out))); rintro e w47 ⟨rfl, hb⟩; refine ⟨_, rfl, ?_⟩; have n0_ := Aside0.mk (blk_below (g := gb133) (o := .cells #[.int .i64 a0_0, .int .i64 a0_1, .int .i64 a0_2] 23 (0, 0)) (by (with_reducible repeat (first | apply blk_drewN | apply blk_drew | apply blk_alloc)); exact BK133.out) hb); have n1_ := Aside0.mk (below_step (by repeat (first | (with_reducible first | exact HB.out | apply below_alloc | apply pw_below_drewN | apply below_drew1 | refine below_set ?_ GE133.out) | exact HB.out)) hb); clear BK133; clear HB; have BK133 := n0_; have HB := n1_; clear n0_ n1_; (try clear hb); (try clear hb2); (try clear hk); (try clear hi)) | ((with_reducible refine gate_dst (N := 7) rfl ?_); refine box_event ?hg (N := 7) ?hd (cs := #[.int .i64 0, .int .i64 0, .bool false, .int .i64 0, .bool false, .int .i64 0, .int .i64 0, .string (⟨#[]⟩ : ByteArray)]) (t := 38) ?hr ?_; (case hd => rfl); (case hg => rfl); (case hr => first | (go_simp; done) | (go_simp; rfl)); intro gb153 hg w48 hbox hb; have n0_ := Aside0.mk (blk_below (g := gb133) (o := .cells #[.int .i64 a0_0, .int .i64 a0_1, .int .i64 a0_2] 23 (0, 0)) (by (with_reducible repeat (first | apply blk_drewN | apply blk_drew | apply blk_alloc)); exact BK133.out) hb); have n1_ := Aside0.mk (below_step (by repeat (first | (with_reducible first | exact HB.out | apply below_alloc | apply pw_below_drewN | apply below_drew1 | refine below_set ?_ GE133.out) | exact HB.out)) hb); have n2_ := Aside0.mk (hbox); have n3_ := Aside0.mk ((by rw [hg]; exact (below_size (by repeat (first | (with_reducible first | exact HB.out | apply below_alloc | apply pw_below_drewN | apply below_drew1 | refine below_set ?_ GE133.out) | exact HB.out))) : w.heap.size ≤ gb153)); have n4_ := n3_; have n5_ := Aside0.mk ((by rw [hg]; exact Nat.ne_of_lt (blk_lt (g := gb133) (o := .cells #[.int .i64 a0_0, .int .i64 a0_1, .int .i64 a0_2] 23 (0, 0)) (by (with_reducible repeat (first | apply blk_drewN | apply blk_drew | apply blk_alloc)); exact BK133.out)) : gb133 ≠ gb153)); have n6_ := Aside0.mk (Ne.symm n5_.out); clear BK133; clear HB; have BK133 := n0_; have HB := n1_; have BK153 := n2_; have GW153 := n3_; have GE153 := n4_; have NB133_153 := n5_; have NB153_133 := n6_; clear n0_ n1_ n2_ n3_ n4_ n5_ n6_; clear hb hbox hg; have hnb49 := NB153_133.out; have hnc49 := NB133_153.out; have hcz50_0 : w48.cell? ⟨gb153, 0, none⟩ = some (.int .i64 0) := (blk_cell BK153.out 0).trans rfl; have hcz50_1 : w48.cell? ⟨gb153, 1, none⟩ = some (.int .i64 0) := (blk_cell BK153.out 1).trans rfl; have hcz50_2 : w48.cell? ⟨gb153, 2, none⟩ = some (.bool false) := (blk_cell BK153.out 2).trans rfl; have hcz50_3 : w48.cell? ⟨gb153, 3, none⟩ = some (.int .i64 0) := (blk_cell BK153.out 3).trans rfl; have hcz50_4 : w48.cell? ⟨gb153, 4, none⟩ = some (.bool false) := (blk_cell BK153.out 4).trans rfl; have hcz50_5 : w48.cell? ⟨gb153, 5, none⟩ = some (.int .i64 0) := (blk_cell BK153.out 5).trans rfl; have hcz50_6 : w48.cell? ⟨gb153, 6, none⟩ = some (.int .i64 0) := (blk_cell BK153.out 6).trans rfl; have hcz50_7 : w48.cell? ⟨gb153, 7, none⟩ = some (.string (⟨#[]⟩ : ByteArray)) := (blk_cell BK153.out 7).trans rfl; have hfz50_0 := blk_frozen BK153.out 0; have hfz50_1 := blk_frozen BK153.out 1; have hfz50_2 := blk_frozen BK153.out 2; have hfz50_3 := blk_frozen BK153.out 3; have hfz50_4 := blk_frozen BK153.out 4; have hfz50_5 := blk_frozen BK153.out 5; have hfz50_6 := blk_frozen BK153.out 6; have hfz50_7 := blk_frozen BK153.out 7; have hcz51_0 : w48.cell? ⟨gb133, 0, none⟩ = some (.int .i64 a0_0) := (blk_cell BK133.out 0).trans rfl; have hcz51_1 : w48.cell? ⟨gb133, 1, none⟩ = some (.int .i64 a0_1) := (blk_cell BK133.out 1).trans rfl; have hcz51_2 : w48.cell? ⟨gb133, 2, none⟩ = some (.int .i64 a0_2) := (blk_cell BK133.out 2).trans rfl; have hfz51_0 := blk_frozen BK133.out 0; have hfz51_1 := blk_frozen BK133.out 1; have hfz51_2 := blk_frozen BK133.out 2) | ((with_reducible refine gate_callee (f := 11) rfl ?_); refine goesL_ (some 30) rfl rfl Tryd.func11 (by kernel_rfl) rfl #[.agg #[.int .i64 a0_0, .int .i64 a0_1, .int .i64 a0_2]] rfl (by (try simp only [List.map_toArray, List.map_cons, List.map_nil]); first | done | rfl) ?_; (with_reducible refine (lapwingref07_Frame.calls k a0_0 a0_1 a0_2 t154 t155 t156 t157 t158 t159 t160 t161 t162 _ A7.out).mono ?_); rintro e w52 ⟨rfl, hb⟩; refine ⟨_, rfl, ?_⟩; have n0_ := Aside0.mk (blk_below (g := gb133) (o := .cells #[.int .i64 a0_0, .int .i64 a0_1, .int .i64 a0_2] 23 (0, 0)) (by (with_reducible repeat (first | apply blk_drewN | apply blk_drew | apply blk_alloc)); refine blk_far ?_ NB133_153.out _; (with_reducible repeat (first | apply blk_drewN | apply blk_drew | apply blk_alloc)); refine blk_far ?_ NB133_153.out _; (with_reducible repeat (first | apply blk_drewN | apply blk_drew | apply blk_alloc)); refine blk_far ?_ NB133_153.out _; (with_reducible repeat (first | apply blk_drewN | apply blk_drew | apply blk_alloc)); refine blk_far ?_ NB133_153.out _; (with_reducible repeat (first | apply blk_drewN | apply blk_drew | apply blk_alloc)); refine blk_far ?_ NB133_153.out _; (with_reducible repeat (first | apply blk_drewN | apply blk_drew | apply blk_alloc)); refine blk_far ?_ NB133_153.out _; (with_reducible repeat (first | apply blk_drewN | apply blk_drew | apply blk_alloc)); refine blk_far ?_ NB133_153.out _; (with_reducible repeat (first | apply blk_drewN | apply blk_drew | apply blk_alloc)); refine blk_far ?_ NB133_153.out _; (with_reducible repeat (first | apply blk_drewN | apply blk_drew | apply blk_alloc)); exact BK133.out) hb); have n1_ := Aside0.mk (blk_below (g := gb153) (o := .cells #[.int .i64 t144, .int .i64 t145, .bool t146, .int .i64 t147, .bool t148, .int .i64 t149, .int .i64 t150, .string t151] 38 (0, 0)) (by (with_reducible repeat (first | apply blk_drewN | apply blk_drew | apply blk_alloc)); refine blk_put (cs := #[.int .i64 t144, .int .i64 t145, .bool t146, .int .i64 t147, .bool t148, .int .i64 t149, .int .i64 t150, .string (⟨#[]⟩ : ByteArray)]) ?_ 7 _ rfl; (with_reducible repeat (first | apply blk_drewN | apply blk_drew | apply blk_alloc)); refine blk_put (cs := #[.int .i64 t144, .int .i64 t145, .bool t146, .int .i64 t147, .bool t148, .int .i64 t149, .int .i64 0, .string (⟨#[]⟩ : ByteArray)]) ?_ 6 _ rfl; (with_reducible repeat (first | apply blk_drewN | apply blk_drew | apply blk_alloc)); refine blk_put (cs := #[.int .i64 t144, .int .i64 t145, .bool t146, .int .i64 t147, .bool t148, .int .i64 0, .int .i64 0, .string (⟨#[]⟩ : ByteArray)]) ?_ 5 _ rfl; (with_reducible repeat (first | apply blk_drewN | apply blk_drew | apply blk_alloc)); refine blk_put (cs := #[.int .i64 t144, .int .i64 t145, .bool t146, .int .i64 t147, .bool false, .int .i64 0, .int .i64 0, .string (⟨#[]⟩ : ByteArray)]) ?_ 4 _ rfl; (with_reducible repeat (first | apply blk_drewN | apply blk_drew | apply blk_alloc)); refine blk_put (cs := #[.int .i64 t144, .int .i64 t145, .bool t146, .int .i64 0, .bool false, .int .i64 0, .int .i64 0, .string (⟨#[]⟩ : ByteArray)]) ?_ 3 _ rfl; (with_reducible repeat (first | apply blk_drewN | apply blk_drew | apply blk_alloc)); refine blk_put (cs := #[.int .i64 t144, .int .i64 t145, .bool false, .int .i64 0, .bool false, .int .i64 0, .int .i64 0, .string (⟨#[]⟩ : ByteArray)]) ?_ 2 _ rfl; (with_reducible repeat (first | apply blk_drewN | apply blk_drew | apply blk_alloc)); refine blk_put (cs := #[.int .i64 t144, .int .i64 0, .bool false, .int .i64 0, .bool false, .int .i64 0, .int .i64 0, .string (⟨#[]⟩ : ByteArray)]) ?_ 1 _ rfl; (with_reducible repeat (first | apply blk_drewN | apply blk_drew | apply blk_alloc)); refine blk_put (cs := #[.int .i64 0, .int .i64 0, .bool false, .int .i64 0, .bool false, .int .i64 0, .int .i64 0, .string (⟨#[]⟩ : ByteArray)]) ?_ 0 _ rfl; (with_reducible repeat (first | apply blk_drewN | apply blk_drew | apply blk_alloc)); exact BK153.out) hb); have n2_ := Aside0.mk (below_step (by repeat (first | (with_reducible first | exact HB.out | apply below_alloc | apply pw_below_drewN | apply below_drew1 | refine below_set ?_ GE133.out | refine below_set ?_ GE153.out) | exact HB.out)) hb); clear BK133; clear BK153; clear HB; have BK133 := n0_; have BK153 := n1_; have HB := n2_; clear n0_ n1_ n2_; (try clear hb); (try clear hb2); (try clear hk); (try clear hi)) | ((with_reducible refine gate_dst (N := 9) rfl ?_); refine box_event ?hg (N := 9) ?hd (cs := #[.int .i64 0, .int .i64 0, .bool false, .int .i64 0, .bool false, .int .i64 0, .int .i64 0, .string (⟨#[]⟩ : ByteArray)]) (t := 42) ?hr ?_; (case hd => rfl); (case hg => rfl); (case hr => first | (go_simp; done) | (go_simp; rfl)); intro gb163 hg w53 hbox hb; have n0_ := Aside0.mk (blk_below (g := gb133) (o := .cells #[.int .i64 a0_0, .int .i64 a0_1, .int .i64 a0_2] 23 (0, 0)) (by (with_reducible repeat (first | apply blk_drewN | apply blk_drew | apply blk_alloc)); exact BK133.out) hb); have n1_ := Aside0.mk (blk_below (g := gb153) (o := .cells #[.int .i64 t144, .int .i64 t145, .bool t146, .int .i64 t147, .bool t148, .int .i64 t149, .int .i64 t150, .string t151] 38 (0, 0)) (by (with_reducible repeat (first | apply blk_drewN | apply blk_drew | apply blk_alloc)); exact BK153.out) hb); have n2_ := Aside0.mk (below_step (by repeat (first | (with_reducible first | exact HB.out | apply below_alloc | apply pw_below_drewN | apply below_drew1 | refine below_set ?_ GE133.out | refine below_set ?_ GE153.out) | exact HB.out)) hb); have n3_ := Aside0.mk (hbox); have n4_ := Aside0.mk ((by rw [hg]; exact (below_size (by repeat (first | (with_reducible first | exact HB.out | apply below_alloc | apply pw_below_drewN | apply below_drew1 | refine below_set ?_ GE133.out | refine below_set ?_ GE153.out) | exact HB.out))) : w.heap.size ≤ gb163)); have n5_ := n4_; have n6_ := Aside0.mk ((by rw [hg]; exact Nat.ne_of_lt (blk_lt (g := gb133) (o := .cells #[.int .i64 a0_0, .int .i64 a0_1, .int .i64 a0_2] 23 (0, 0)) (by (with_reducible repeat (first | apply blk_drewN | apply blk_drew | apply blk_alloc)); exact BK133.out)) : gb133 ≠ gb163)); have n7_ := Aside0.mk (Ne.symm n6_.out); have n8_ := Aside0.mk ((by rw [hg]; exact Nat.ne_of_lt (blk_lt (g := gb153) (o := .cells #[.int .i64 t144, .int .i64 t145, .bool t146, .int .i64 t147, .bool t148, .int .i64 t149, .int .i64 t150, .string t151] 38 (0, 0)) (by (with_reducible repeat (first | apply blk_drewN | apply blk_drew | apply blk_alloc)); exact BK153.out)) : gb153 ≠ gb163)); have n9_ := Aside0.mk (Ne.symm n8_.out); clear BK133; clear BK153; clear HB; have BK133 := n0_; have BK153 := n1_; have HB := n2_; have BK163 := n3_; have GW163 := n4_; have GE163 := n5_; have NB133_163 := n6_; have NB163_133 := n7_; have NB153_163 := n8_; have NB163_153 := n9_; clear n0_ n1_ n2_ n3_ n4_ n5_ n6_ n7_ n8_ n9_; clear hb hbox hg; have hnb54 := NB163_133.out; have hnc54 := NB133_163.out; have hnb55 := NB163_153.out; have hnc55 := NB153_163.out; have hcz56_0 : w53.cell? ⟨gb163, 0, none⟩ = some (.int .i64 0) := (blk_cell BK163.out 0).trans rfl; have hcz56_1 : w53.cell? ⟨gb163, 1, none⟩ = some (.int .i64 0) := (blk_cell BK163.out 1).trans rfl; have hcz56_2 : w53.cell? ⟨gb163, 2, none⟩ = some (.bool false) := (blk_cell BK163.out 2).trans rfl; have hcz56_3 : w53.cell? ⟨gb163, 3, none⟩ = some (.int .i64 0) := (blk_cell BK163.out 3).trans rfl; have hcz56_4 : w53.cell? ⟨gb163, 4, none⟩ = some (.bool false) := (blk_cell BK163.out 4).trans rfl; have hcz56_5 : w53.cell? ⟨gb163, 5, none⟩ = some (.int .i64 0) := (blk_cell BK163.out 5).trans rfl; have hcz56_6 : w53.cell? ⟨gb163, 6, none⟩ = some (.int .i64 0) := (blk_cell BK163.out 6).trans rfl; have hcz56_7 : w53.cell? ⟨gb163, 7, none⟩ = some (.string (⟨#[]⟩ : ByteArray)) := (blk_cell BK163.out 7).trans rfl; have hfz56_0 := blk_frozen BK163.out 0; have hfz56_1 := blk_frozen BK163.out 1; have hfz56_2 := blk_frozen BK163.out 2; have hfz56_3 := blk_frozen BK163.out 3; have hfz56_4 := blk_frozen BK163.out 4; have hfz56_5 := blk_frozen BK163.out 5; have hfz56_6 := blk_frozen BK163.out 6; have hfz56_7 := blk_frozen BK163.out 7))
      have n0_ : Aside0 (((((((((w53.setCell ⟨gb163, 0, none⟩ (.int .i64 t154)).setCell ⟨gb163, 1, none⟩ (.int .i64 t155)).setCell ⟨gb163, 2, none⟩ (.bool t156)).setCell ⟨gb163, 3, none⟩ (.int .i64 t157)).setCell ⟨gb163, 4, none⟩ (.bool t158)).setCell ⟨gb163, 5, none⟩ (.int .i64 t159)).setCell ⟨gb163, 6, none⟩ (.int .i64 t160)).setCell ⟨gb163, 7, none⟩ (.string t161)).heap[gb133]? = some (.cells #[.int .i64 a0_0, .int .i64 a0_1, .int .i64 a0_2] 23 (0, 0))) := ⟨by (with_reducible repeat (first | apply blk_drewN | apply blk_drew | apply blk_alloc)); refine blk_far ?_ NB133_163.out _; (with_reducible repeat (first | apply blk_drewN | apply blk_drew | apply blk_alloc)); refine blk_far ?_ NB133_163.out _; (with_reducible repeat (first | apply blk_drewN | apply blk_drew | apply blk_alloc)); refine blk_far ?_ NB133_163.out _; (with_reducible repeat (first | apply blk_drewN | apply blk_drew | apply blk_alloc)); refine blk_far ?_ NB133_163.out _; (with_reducible repeat (first | apply blk_drewN | apply blk_drew | apply blk_alloc)); refine blk_far ?_ NB133_163.out _; (with_reducible repeat (first | apply blk_drewN | apply blk_drew | apply blk_alloc)); refine blk_far ?_ NB133_163.out _; (with_reducible repeat (first | apply blk_drewN | apply blk_drew | apply blk_alloc)); refine blk_far ?_ NB133_163.out _; (with_reducible repeat (first | apply blk_drewN | apply blk_drew | apply blk_alloc)); refine blk_far ?_ NB133_163.out _; (with_reducible repeat (first | apply blk_drewN | apply blk_drew | apply blk_alloc)); exact BK133.out⟩
      have n1_ : Aside0 (((((((((w53.setCell ⟨gb163, 0, none⟩ (.int .i64 t154)).setCell ⟨gb163, 1, none⟩ (.int .i64 t155)).setCell ⟨gb163, 2, none⟩ (.bool t156)).setCell ⟨gb163, 3, none⟩ (.int .i64 t157)).setCell ⟨gb163, 4, none⟩ (.bool t158)).setCell ⟨gb163, 5, none⟩ (.int .i64 t159)).setCell ⟨gb163, 6, none⟩ (.int .i64 t160)).setCell ⟨gb163, 7, none⟩ (.string t161)).heap[gb153]? = some (.cells #[.int .i64 t144, .int .i64 t145, .bool t146, .int .i64 t147, .bool t148, .int .i64 t149, .int .i64 t150, .string t151] 38 (0, 0))) := ⟨by (with_reducible repeat (first | apply blk_drewN | apply blk_drew | apply blk_alloc)); refine blk_far ?_ NB153_163.out _; (with_reducible repeat (first | apply blk_drewN | apply blk_drew | apply blk_alloc)); refine blk_far ?_ NB153_163.out _; (with_reducible repeat (first | apply blk_drewN | apply blk_drew | apply blk_alloc)); refine blk_far ?_ NB153_163.out _; (with_reducible repeat (first | apply blk_drewN | apply blk_drew | apply blk_alloc)); refine blk_far ?_ NB153_163.out _; (with_reducible repeat (first | apply blk_drewN | apply blk_drew | apply blk_alloc)); refine blk_far ?_ NB153_163.out _; (with_reducible repeat (first | apply blk_drewN | apply blk_drew | apply blk_alloc)); refine blk_far ?_ NB153_163.out _; (with_reducible repeat (first | apply blk_drewN | apply blk_drew | apply blk_alloc)); refine blk_far ?_ NB153_163.out _; (with_reducible repeat (first | apply blk_drewN | apply blk_drew | apply blk_alloc)); refine blk_far ?_ NB153_163.out _; (with_reducible repeat (first | apply blk_drewN | apply blk_drew | apply blk_alloc)); exact BK153.out⟩
      have n2_ : Aside0 (((((((((w53.setCell ⟨gb163, 0, none⟩ (.int .i64 t154)).setCell ⟨gb163, 1, none⟩ (.int .i64 t155)).setCell ⟨gb163, 2, none⟩ (.bool t156)).setCell ⟨gb163, 3, none⟩ (.int .i64 t157)).setCell ⟨gb163, 4, none⟩ (.bool t158)).setCell ⟨gb163, 5, none⟩ (.int .i64 t159)).setCell ⟨gb163, 6, none⟩ (.int .i64 t160)).setCell ⟨gb163, 7, none⟩ (.string t161)).heap[gb163]? = some (.cells #[.int .i64 t154, .int .i64 t155, .bool t156, .int .i64 t157, .bool t158, .int .i64 t159, .int .i64 t160, .string t161] 42 (0, 0))) := ⟨by (with_reducible repeat (first | apply blk_drewN | apply blk_drew | apply blk_alloc)); refine blk_put (cs := #[.int .i64 t154, .int .i64 t155, .bool t156, .int .i64 t157, .bool t158, .int .i64 t159, .int .i64 t160, .string (⟨#[]⟩ : ByteArray)]) ?_ 7 _ rfl; (with_reducible repeat (first | apply blk_drewN | apply blk_drew | apply blk_alloc)); refine blk_put (cs := #[.int .i64 t154, .int .i64 t155, .bool t156, .int .i64 t157, .bool t158, .int .i64 t159, .int .i64 0, .string (⟨#[]⟩ : ByteArray)]) ?_ 6 _ rfl; (with_reducible repeat (first | apply blk_drewN | apply blk_drew | apply blk_alloc)); refine blk_put (cs := #[.int .i64 t154, .int .i64 t155, .bool t156, .int .i64 t157, .bool t158, .int .i64 0, .int .i64 0, .string (⟨#[]⟩ : ByteArray)]) ?_ 5 _ rfl; (with_reducible repeat (first | apply blk_drewN | apply blk_drew | apply blk_alloc)); refine blk_put (cs := #[.int .i64 t154, .int .i64 t155, .bool t156, .int .i64 t157, .bool false, .int .i64 0, .int .i64 0, .string (⟨#[]⟩ : ByteArray)]) ?_ 4 _ rfl; (with_reducible repeat (first | apply blk_drewN | apply blk_drew | apply blk_alloc)); refine blk_put (cs := #[.int .i64 t154, .int .i64 t155, .bool t156, .int .i64 0, .bool false, .int .i64 0, .int .i64 0, .string (⟨#[]⟩ : ByteArray)]) ?_ 3 _ rfl; (with_reducible repeat (first | apply blk_drewN | apply blk_drew | apply blk_alloc)); refine blk_put (cs := #[.int .i64 t154, .int .i64 t155, .bool false, .int .i64 0, .bool false, .int .i64 0, .int .i64 0, .string (⟨#[]⟩ : ByteArray)]) ?_ 2 _ rfl; (with_reducible repeat (first | apply blk_drewN | apply blk_drew | apply blk_alloc)); refine blk_put (cs := #[.int .i64 t154, .int .i64 0, .bool false, .int .i64 0, .bool false, .int .i64 0, .int .i64 0, .string (⟨#[]⟩ : ByteArray)]) ?_ 1 _ rfl; (with_reducible repeat (first | apply blk_drewN | apply blk_drew | apply blk_alloc)); refine blk_put (cs := #[.int .i64 0, .int .i64 0, .bool false, .int .i64 0, .bool false, .int .i64 0, .int .i64 0, .string (⟨#[]⟩ : ByteArray)]) ?_ 0 _ rfl; (with_reducible repeat (first | apply blk_drewN | apply blk_drew | apply blk_alloc)); exact BK163.out⟩
      have n3_ : Aside0 (Below w.heap.size w ((((((((w53.setCell ⟨gb163, 0, none⟩ (.int .i64 t154)).setCell ⟨gb163, 1, none⟩ (.int .i64 t155)).setCell ⟨gb163, 2, none⟩ (.bool t156)).setCell ⟨gb163, 3, none⟩ (.int .i64 t157)).setCell ⟨gb163, 4, none⟩ (.bool t158)).setCell ⟨gb163, 5, none⟩ (.int .i64 t159)).setCell ⟨gb163, 6, none⟩ (.int .i64 t160)).setCell ⟨gb163, 7, none⟩ (.string t161))) := ⟨by repeat (first | (with_reducible first | exact HB.out | apply below_alloc | apply pw_below_drewN | apply below_drew1 | refine below_set ?_ GE133.out | refine below_set ?_ GE153.out | refine below_set ?_ GE163.out) | exact HB.out)⟩
      (try clear BK133)
      (try clear BK153)
      (try clear BK163)
      (try clear HB)
      generalize ((((((((w53.setCell ⟨gb163, 0, none⟩ (.int .i64 t154)).setCell ⟨gb163, 1, none⟩ (.int .i64 t155)).setCell ⟨gb163, 2, none⟩ (.bool t156)).setCell ⟨gb163, 3, none⟩ (.int .i64 t157)).setCell ⟨gb163, 4, none⟩ (.bool t158)).setCell ⟨gb163, 5, none⟩ (.int .i64 t159)).setCell ⟨gb163, 6, none⟩ (.int .i64 t160)).setCell ⟨gb163, 7, none⟩ (.string t161)) = w57 at n0_ n1_ n2_ n3_ ⊢
      have BK133 := n0_
      have BK153 := n1_
      have BK163 := n2_
      have HB := n3_
      clear n0_ n1_ n2_ n3_
      have n0_ := Aside0.mk (blk_drew BK133.out)
      have n1_ := Aside0.mk (blk_drew BK153.out)
      have n2_ := Aside0.mk (blk_drew BK163.out)
      have n3_ := Aside0.mk (below_drew1 HB.out)
      clear BK133
      clear BK153
      clear BK163
      clear HB
      have BK133 := n0_
      have BK153 := n1_
      have BK163 := n2_
      have HB := n3_
      clear n0_ n1_ n2_ n3_
      refine start_ (n := 31) (S := fun w' => w'.cell? ⟨gb153, 0, none⟩ = some (.int .i64 t144) ∧ w'.cell? ⟨gb153, 1, none⟩ = some (.int .i64 t145) ∧ w'.cell? ⟨gb153, 2, none⟩ = some (.bool t146) ∧ w'.cell? ⟨gb153, 3, none⟩ = some (.int .i64 t147) ∧ w'.cell? ⟨gb153, 4, none⟩ = some (.bool t148) ∧ w'.cell? ⟨gb153, 5, none⟩ = some (.int .i64 t149) ∧ w'.cell? ⟨gb153, 6, none⟩ = some (.int .i64 t150) ∧ w'.cell? ⟨gb153, 7, none⟩ = some (.string t151) ∧ w'.cell? ⟨gb163, 0, none⟩ = some (.int .i64 t154) ∧ w'.cell? ⟨gb163, 1, none⟩ = some (.int .i64 t155) ∧ w'.cell? ⟨gb163, 2, none⟩ = some (.bool t156) ∧ w'.cell? ⟨gb163, 3, none⟩ = some (.int .i64 t157) ∧ w'.cell? ⟨gb163, 4, none⟩ = some (.bool t158) ∧ w'.cell? ⟨gb163, 5, none⟩ = some (.int .i64 t159) ∧ w'.cell? ⟨gb163, 6, none⟩ = some (.int .i64 t160) ∧ w'.cell? ⟨gb163, 7, none⟩ = some (.string t161)) (ds := []) #[tF, tF, tF, tF, tF, tF, tF, tF, tF, tF, tF, tF, tF, tF, tF, tF, tF, tF, tF, tF, tF, tF, tF, tF, tF, tF, tF, tF, tF, tF, tF] (by kernel_rfl) rfl rfl ⟨(blk_cell BK153.out 0).trans rfl, (blk_cell BK153.out 1).trans rfl, (blk_cell BK153.out 2).trans rfl, (blk_cell BK153.out 3).trans rfl, (blk_cell BK153.out 4).trans rfl, (blk_cell BK153.out 5).trans rfl, (blk_cell BK153.out 6).trans rfl, (blk_cell BK153.out 7).trans rfl, (blk_cell BK163.out 0).trans rfl, (blk_cell BK163.out 1).trans rfl, (blk_cell BK163.out 2).trans rfl, (blk_cell BK163.out 3).trans rfl, (blk_cell BK163.out 4).trans rfl, (blk_cell BK163.out 5).trans rfl, (blk_cell BK163.out 6).trans rfl, (blk_cell BK163.out 7).trans rfl⟩ (fun hHeld => ?_); refine with_tabW lapwinglaw07_TeimsgPuts.tab5 lapwinglaw07_TeimsgPuts.bits5 (fun HT_ HW_ => ?_)
      generalize w57.drew = w58 at BK133 BK153 BK163 HB hHeld ⊢
      refine one_ (i := 0) (N := some 33) #[tT, tF, tF, tF, tF, tF, tF, tF, tF, tF, tF, tF, tF, tF, tF, tF, tF, tF, tF, tF, tF, tF, tF, tF, tF, tF, tF, tF, tF, tF, tF] rfl rfl (one_of HT_.out (by kernel_rfl)) (by decide) (fun K hK => ?_)
      refine goes_ Tryd.func12 (by kernel_rfl) rfl #[] (by rfl) rfl rfl (by (try simp only [List.map_toArray, List.map_cons, List.map_nil]); first | done | rfl) ?_
      with_reducible refine (lapwinglaw07_wakes.calls k  true _ A8.out).mono ?_
      rintro e w59 ⟨rfl, hb⟩
      refine ⟨_, rfl, ?_⟩
      have n0_ := Aside0.mk (blk_below (g := gb133) (o := .cells #[.int .i64 a0_0, .int .i64 a0_1, .int .i64 a0_2] 23 (0, 0)) (by (with_reducible repeat (first | apply blk_drewN | apply blk_drew | apply blk_alloc)); exact BK133.out) hb)
      have n1_ := Aside0.mk (blk_below (g := gb153) (o := .cells #[.int .i64 t144, .int .i64 t145, .bool t146, .int .i64 t147, .bool t148, .int .i64 t149, .int .i64 t150, .string t151] 38 (0, 0)) (by (with_reducible repeat (first | apply blk_drewN | apply blk_drew | apply blk_alloc)); exact BK153.out) hb)
      have n2_ := Aside0.mk (blk_below (g := gb163) (o := .cells #[.int .i64 t154, .int .i64 t155, .bool t156, .int .i64 t157, .bool t158, .int .i64 t159, .int .i64 t160, .string t161] 42 (0, 0)) (by (with_reducible repeat (first | apply blk_drewN | apply blk_drew | apply blk_alloc)); exact BK163.out) hb)
      have n3_ := Aside0.mk (below_step (by repeat (first | (with_reducible first | exact HB.out | apply below_alloc | apply pw_below_drewN | apply below_drew1 | refine below_set ?_ GE133.out | refine below_set ?_ GE153.out | refine below_set ?_ GE163.out) | exact HB.out)) hb)
      clear BK133
      clear BK153
      clear BK163
      clear HB
      have BK133 := n0_
      have BK153 := n1_
      have BK163 := n2_
      have HB := n3_
      clear n0_ n1_ n2_ n3_
      (try clear hb)
      (try clear hb2)
      (try clear hk)
      (try clear hi)
      refine hK.out _ _ ⟨(blk_cell BK153.out 0).trans rfl, (blk_cell BK153.out 1).trans rfl, (blk_cell BK153.out 2).trans rfl, (blk_cell BK153.out 3).trans rfl, (blk_cell BK153.out 4).trans rfl, (blk_cell BK153.out 5).trans rfl, (blk_cell BK153.out 6).trans rfl, (blk_cell BK153.out 7).trans rfl, (blk_cell BK163.out 0).trans rfl, (blk_cell BK163.out 1).trans rfl, (blk_cell BK163.out 2).trans rfl, (blk_cell BK163.out 3).trans rfl, (blk_cell BK163.out 4).trans rfl, (blk_cell BK163.out 5).trans rfl, (blk_cell BK163.out 6).trans rfl, (blk_cell BK163.out 7).trans rfl⟩ (fun hHeld => ?_)
      clear hK K
      refine norm_ (a' := ?_) ?_ ?_
      rotate_left
      ·show Act.put _ (some 33) _ = _
       simp only [Act.put, List.setIfInBounds_toArray, List.set_cons_zero, List.set_cons_succ, i64_w, i32_w]
       rfl
      refine pure_ (i := 1) (N := some 34) (v := ?_) (a' := ?_) #[tT, tT, tF, tF, tF, tF, tF, tF, tF, tF, tF, tF, tF, tF, tF, tF, tF, tF, tF, tF, tF, tF, tF, tF, tF, tF, tF, tF, tF, tF, tF] rfl rfl (any_of HT_.out (by kernel_rfl)) (fun _ _ _ h => h) (Or.inl ⟨by rfl, ?_⟩) ?_ ?_
      rotate_left
      ·intro w'
       go_simp
       with_reducible rfl
      rotate_left
      ·simp only [Act.put, List.setIfInBounds_toArray, List.set_cons_zero, List.set_cons_succ, i64_w, i32_w]
       rfl
      refine pure_ (i := 2) (N := some 35) (v := ?_) (a' := ?_) #[tT, tT, tT, tF, tF, tF, tF, tF, tF, tF, tF, tF, tF, tF, tF, tF, tF, tF, tF, tF, tF, tF, tF, tF, tF, tF, tF, tF, tF, tF, tF] rfl rfl (any_of HT_.out (by kernel_rfl)) (fun _ _ _ h => h) (Or.inl ⟨by rfl, ?_⟩) ?_ ?_
      rotate_left
      ·intro w'
       go_simp
       with_reducible rfl
      rotate_left
      ·simp only [Act.put, List.setIfInBounds_toArray, List.set_cons_zero, List.set_cons_succ, i64_w, i32_w]
       rfl
      refine pure_ (i := 3) (N := some 36) (v := ?_) (a' := ?_) #[tT, tT, tT, tT, tF, tF, tF, tF, tF, tF, tF, tF, tF, tF, tF, tF, tF, tF, tF, tF, tF, tF, tF, tF, tF, tF, tF, tF, tF, tF, tF] rfl rfl (any_of HT_.out (by kernel_rfl)) (fun _ _ _ h => h) (Or.inl ⟨by rfl, ?_⟩) ?_ ?_
      rotate_left
      ·intro w'
       go_simp
       with_reducible rfl
      rotate_left
      ·simp only [Act.put, List.setIfInBounds_toArray, List.set_cons_zero, List.set_cons_succ, i64_w, i32_w]
       rfl
      refine pure_ (i := 4) (N := some 37) (v := ?_) (a' := ?_) #[tT, tT, tT, tT, tT, tF, tF, tF, tF, tF, tF, tF, tF, tF, tF, tF, tF, tF, tF, tF, tF, tF, tF, tF, tF, tF, tF, tF, tF, tF, tF] rfl rfl (any_of HT_.out (by kernel_rfl)) (fun _ _ _ h => h) (Or.inl ⟨by rfl, ?_⟩) ?_ ?_
      rotate_left
      ·intro w'
       go_simp
       with_reducible rfl
      rotate_left
      ·simp only [Act.put, List.setIfInBounds_toArray, List.set_cons_zero, List.set_cons_succ, i64_w, i32_w]
       rfl
      refine pure_ (i := 5) (N := some 38) (v := ?_) (a' := ?_) #[tT, tT, tT, tT, tT, tT, tF, tF, tF, tF, tF, tF, tF, tF, tF, tF, tF, tF, tF, tF, tF, tF, tF, tF, tF, tF, tF, tF, tF, tF, tF] rfl rfl (any_of HT_.out (by kernel_rfl)) (fun _ _ _ h => h) (Or.inl ⟨by rfl, ?_⟩) ?_ ?_
      rotate_left
      ·intro w'
       go_simp
       with_reducible rfl
      rotate_left
      ·simp only [Act.put, List.setIfInBounds_toArray, List.set_cons_zero, List.set_cons_succ, i64_w, i32_w]
       rfl
      refine pure_ (i := 6) (N := some 39) (v := ?_) (a' := ?_) #[tT, tT, tT, tT, tT, tT, tT, tF, tF, tF, tF, tF, tF, tF, tF, tF, tF, tF, tF, tF, tF, tF, tF, tF, tF, tF, tF, tF, tF, tF, tF] rfl rfl (any_of HT_.out (by kernel_rfl)) (fun _ _ _ h => h) (Or.inl ⟨by rfl, ?_⟩) ?_ ?_
      rotate_left
      ·intro w'
       go_simp
       with_reducible rfl
      rotate_left
      ·simp only [Act.put, List.setIfInBounds_toArray, List.set_cons_zero, List.set_cons_succ, i64_w, i32_w]
       rfl
      refine pure_ (i := 7) (N := some 40) (v := ?_) (a' := ?_) #[tT, tT, tT, tT, tT, tT, tT, tT, tF, tF, tF, tF, tF, tF, tF, tF, tF, tF, tF, tF, tF, tF, tF, tF, tF, tF, tF, tF, tF, tF, tF] rfl rfl (any_of HT_.out (by kernel_rfl)) (fun _ _ _ h => h) (Or.inl ⟨by rfl, ?_⟩) ?_ ?_
      rotate_left
      ·intro w'
       go_simp
       with_reducible rfl
      rotate_left
      ·simp only [Act.put, List.setIfInBounds_toArray, List.set_cons_zero, List.set_cons_succ, i64_w, i32_w]
       rfl
      refine pure_ (i := 8) (N := some 41) (v := ?_) (a' := ?_) #[tT, tT, tT, tT, tT, tT, tT, tT, tT, tF, tF, tF, tF, tF, tF, tF, tF, tF, tF, tF, tF, tF, tF, tF, tF, tF, tF, tF, tF, tF, tF] rfl rfl (any_of HT_.out (by kernel_rfl)) (fun _ _ _ h => h) (Or.inl ⟨by rfl, ?_⟩) ?_ ?_
      rotate_left
      ·intro w'
       go_simp
       with_reducible rfl
      rotate_left
      ·simp only [Act.put, List.setIfInBounds_toArray, List.set_cons_zero, List.set_cons_succ, i64_w, i32_w]
       rfl
      refine pure_ (i := 9) (N := some 42) (v := ?_) (a' := ?_) #[tT, tT, tT, tT, tT, tT, tT, tT, tT, tT, tF, tF, tF, tF, tF, tF, tF, tF, tF, tF, tF, tF, tF, tF, tF, tF, tF, tF, tF, tF, tF] rfl rfl (any_of HT_.out (by kernel_rfl)) (fun _ _ _ h => h) (Or.inl ⟨by rfl, ?_⟩) ?_ ?_
      rotate_left
      ·intro w'
       go_simp
       with_reducible rfl
      rotate_left
      ·simp only [Act.put, List.setIfInBounds_toArray, List.set_cons_zero, List.set_cons_succ, i64_w, i32_w]
       rfl
      refine pure_ (i := 10) (N := some 43) (v := ?_) (a' := ?_) #[tT, tT, tT, tT, tT, tT, tT, tT, tT, tT, tT, tF, tF, tF, tF, tF, tF, tF, tF, tF, tF, tF, tF, tF, tF, tF, tF, tF, tF, tF, tF] rfl rfl (any_of HT_.out (by kernel_rfl)) (fun _ _ _ h => h) (Or.inl ⟨by rfl, ?_⟩) ?_ ?_
      rotate_left
      ·intro w'
       go_simp
       with_reducible rfl
      rotate_left
      ·simp only [Act.put, List.setIfInBounds_toArray, List.set_cons_zero, List.set_cons_succ, i64_w, i32_w]
       rfl
      refine pure_ (i := 11) (N := some 44) (v := ?_) (a' := ?_) #[tT, tT, tT, tT, tT, tT, tT, tT, tT, tT, tT, tT, tF, tF, tF, tF, tF, tF, tF, tF, tF, tF, tF, tF, tF, tF, tF, tF, tF, tF, tF] rfl rfl (any_of HT_.out (by kernel_rfl)) (fun _ _ _ h => h) (Or.inl ⟨by rfl, ?_⟩) ?_ ?_
      rotate_left
      ·intro w'
       go_simp
       with_reducible rfl
      rotate_left
      ·simp only [Act.put, List.setIfInBounds_toArray, List.set_cons_zero, List.set_cons_succ, i64_w, i32_w]
       rfl
      refine pure_ (i := 12) (N := some 45) (v := ?_) (a' := ?_) #[tT, tT, tT, tT, tT, tT, tT, tT, tT, tT, tT, tT, tT, tF, tF, tF, tF, tF, tF, tF, tF, tF, tF, tF, tF, tF, tF, tF, tF, tF, tF] rfl rfl (any_of HT_.out (by kernel_rfl)) (fun _ _ _ h => h) (Or.inl ⟨by rfl, ?_⟩) ?_ ?_
      rotate_left
      ·intro w'
       go_simp
       with_reducible rfl
      rotate_left
      ·simp only [Act.put, List.setIfInBounds_toArray, List.set_cons_zero, List.set_cons_succ, i64_w, i32_w]
       rfl
      refine pure_ (i := 13) (N := some 46) (v := ?_) (a' := ?_) #[tT, tT, tT, tT, tT, tT, tT, tT, tT, tT, tT, tT, tT, tT, tF, tF, tF, tF, tF, tF, tF, tF, tF, tF, tF, tF, tF, tF, tF, tF, tF] rfl rfl (any_of HT_.out (by kernel_rfl)) (fun _ _ _ h => h) (Or.inl ⟨by rfl, ?_⟩) ?_ ?_
      rotate_left
      ·intro w'
       go_simp
       with_reducible rfl
      rotate_left
      ·simp only [Act.put, List.setIfInBounds_toArray, List.set_cons_zero, List.set_cons_succ, i64_w, i32_w]
       rfl
      refine pure_ (i := 14) (N := some 47) (v := ?_) (a' := ?_) #[tT, tT, tT, tT, tT, tT, tT, tT, tT, tT, tT, tT, tT, tT, tT, tF, tF, tF, tF, tF, tF, tF, tF, tF, tF, tF, tF, tF, tF, tF, tF] rfl rfl (any_of HT_.out (by kernel_rfl)) (fun _ _ _ h => h) (Or.inl ⟨by rfl, ?_⟩) ?_ ?_
      rotate_left
      ·intro w'
       go_simp
       with_reducible rfl
      rotate_left
      ·simp only [Act.put, List.setIfInBounds_toArray, List.set_cons_zero, List.set_cons_succ, i64_w, i32_w]
       rfl
      refine pure_ (i := 15) (N := some 48) (v := ?_) (a' := ?_) #[tT, tT, tT, tT, tT, tT, tT, tT, tT, tT, tT, tT, tT, tT, tT, tT, tF, tF, tF, tF, tF, tF, tF, tF, tF, tF, tF, tF, tF, tF, tF] rfl rfl (any_of HT_.out (by kernel_rfl)) (fun _ _ _ h => h) (Or.inl ⟨by rfl, ?_⟩) ?_ ?_
      rotate_left
      ·intro w'
       go_simp
       with_reducible rfl
      rotate_left
      ·simp only [Act.put, List.setIfInBounds_toArray, List.set_cons_zero, List.set_cons_succ, i64_w, i32_w]
       rfl
      refine pure_ (i := 16) (N := some 49) (v := ?_) (a' := ?_) #[tT, tT, tT, tT, tT, tT, tT, tT, tT, tT, tT, tT, tT, tT, tT, tT, tT, tF, tF, tF, tF, tF, tF, tF, tF, tF, tF, tF, tF, tF, tF] rfl rfl (any_of HT_.out (by kernel_rfl)) (fun _ _ _ h => h) (Or.inl ⟨by rfl, ?_⟩) ?_ ?_
      rotate_left
      ·intro w'
       go_simp
       with_reducible rfl
      rotate_left
      ·simp only [Act.put, List.setIfInBounds_toArray, List.set_cons_zero, List.set_cons_succ, i64_w, i32_w]
       rfl
      refine take_ (i := 17) (N := some 50) (v := ?_) (a' := ?_) #[tT, tT, tT, tT, tT, tT, tT, tT, tT, tT, tT, tT, tT, tT, tT, tT, tT, tT, tF, tF, tF, tF, tF, tF, tF, tF, tF, tF, tF, tF, tF] rfl rfl (take_ofW HT_.out HW_.out (by kernel_rfl)) (fun _ _ _ h => h) (Or.inl ⟨by rfl, ?_⟩) hHeld ?_ ?_
      rotate_left
      ·rintro w' ⟨s0, s1, s2, s3, s4, s5, s6, s7, s8, s9, s10, s11, s12, s13, s14, s15⟩
       go_simp
       with_reducible rfl
      rotate_left
      ·simp only [Act.put, List.setIfInBounds_toArray, List.set_cons_zero, List.set_cons_succ, i64_w, i32_w]
       rfl
      refine take_ (i := 18) (N := some 51) (v := ?_) (a' := ?_) #[tT, tT, tT, tT, tT, tT, tT, tT, tT, tT, tT, tT, tT, tT, tT, tT, tT, tT, tT, tF, tF, tF, tF, tF, tF, tF, tF, tF, tF, tF, tF] rfl rfl (take_ofW HT_.out HW_.out (by kernel_rfl)) (fun _ _ _ h => h) (Or.inl ⟨by rfl, ?_⟩) hHeld ?_ ?_
      rotate_left
      ·rintro w' ⟨s0, s1, s2, s3, s4, s5, s6, s7, s8, s9, s10, s11, s12, s13, s14, s15⟩
       go_simp
       with_reducible rfl
      rotate_left
      ·simp only [Act.put, List.setIfInBounds_toArray, List.set_cons_zero, List.set_cons_succ, i64_w, i32_w]
       rfl
      refine one_ (i := 19) (N := some 52) #[tT, tT, tT, tT, tT, tT, tT, tT, tT, tT, tT, tT, tT, tT, tT, tT, tT, tT, tT, tT, tF, tF, tF, tF, tF, tF, tF, tF, tF, tF, tF] rfl rfl (one_of HT_.out (by kernel_rfl)) (by decide) (fun K hK => ?_)
      refine goes_ Tryd.func13 (by kernel_rfl) rfl #[.agg #[.int .i64 t144, .int .i64 t145, .bool t146, .int .i64 t147, .bool t148, .int .i64 t149, .int .i64 t150, .string t151], .agg #[.int .i64 t154, .int .i64 t155, .bool t156, .int .i64 t157, .bool t158, .int .i64 t159, .int .i64 t160, .string t161]] (by rfl) rfl rfl (by (try simp only [List.map_toArray, List.map_cons, List.map_nil]); first | done | rfl) ?_
      with_reducible refine (lapwinglaw07_sameFrame.calls t144 t145 t146 t147 t148 t149 t150 t151 t154 t155 t156 t157 t158 t159 t160 t161 false _ A13.out).mono ?_
      rintro e w60 ⟨rfl, hb⟩
      refine ⟨_, rfl, ?_⟩
      have n0_ := Aside0.mk (blk_below (g := gb133) (o := .cells #[.int .i64 a0_0, .int .i64 a0_1, .int .i64 a0_2] 23 (0, 0)) (by (with_reducible repeat (first | apply blk_drewN | apply blk_drew | apply blk_alloc)); exact BK133.out) hb)
      have n1_ := Aside0.mk (blk_below (g := gb153) (o := .cells #[.int .i64 t144, .int .i64 t145, .bool t146, .int .i64 t147, .bool t148, .int .i64 t149, .int .i64 t150, .string t151] 38 (0, 0)) (by (with_reducible repeat (first | apply blk_drewN | apply blk_drew | apply blk_alloc)); exact BK153.out) hb)
      have n2_ := Aside0.mk (blk_below (g := gb163) (o := .cells #[.int .i64 t154, .int .i64 t155, .bool t156, .int .i64 t157, .bool t158, .int .i64 t159, .int .i64 t160, .string t161] 42 (0, 0)) (by (with_reducible repeat (first | apply blk_drewN | apply blk_drew | apply blk_alloc)); exact BK163.out) hb)
      have n3_ := Aside0.mk (below_step (by repeat (first | (with_reducible first | exact HB.out | apply below_alloc | apply pw_below_drewN | apply below_drew1 | refine below_set ?_ GE133.out | refine below_set ?_ GE153.out | refine below_set ?_ GE163.out) | exact HB.out)) hb)
      clear BK133
      clear BK153
      clear BK163
      clear HB
      have BK133 := n0_
      have BK153 := n1_
      have BK163 := n2_
      have HB := n3_
      clear n0_ n1_ n2_ n3_
      (try clear hb)
      (try clear hb2)
      (try clear hk)
      (try clear hi)
      refine hK.out _ _ ⟨(blk_cell BK153.out 0).trans rfl, (blk_cell BK153.out 1).trans rfl, (blk_cell BK153.out 2).trans rfl, (blk_cell BK153.out 3).trans rfl, (blk_cell BK153.out 4).trans rfl, (blk_cell BK153.out 5).trans rfl, (blk_cell BK153.out 6).trans rfl, (blk_cell BK153.out 7).trans rfl, (blk_cell BK163.out 0).trans rfl, (blk_cell BK163.out 1).trans rfl, (blk_cell BK163.out 2).trans rfl, (blk_cell BK163.out 3).trans rfl, (blk_cell BK163.out 4).trans rfl, (blk_cell BK163.out 5).trans rfl, (blk_cell BK163.out 6).trans rfl, (blk_cell BK163.out 7).trans rfl⟩ (fun hHeld => ?_)
      clear hK K
      refine norm_ (a' := ?_) ?_ ?_
      rotate_left
      ·show Act.put _ (some 52) _ = _
       simp only [Act.put, List.setIfInBounds_toArray, List.set_cons_zero, List.set_cons_succ, i64_w, i32_w]
       rfl
      refine pure_ (i := 20) (N := some 53) (v := ?_) (a' := ?_) #[tT, tT, tT, tT, tT, tT, tT, tT, tT, tT, tT, tT, tT, tT, tT, tT, tT, tT, tT, tT, tT, tF, tF, tF, tF, tF, tF, tF, tF, tF, tF] rfl rfl (any_of HT_.out (by kernel_rfl)) (fun _ _ _ h => h) (Or.inl ⟨by rfl, ?_⟩) ?_ ?_
      rotate_left
      ·intro w'
       go_simp
       with_reducible rfl
      rotate_left
      ·simp only [Act.put, List.setIfInBounds_toArray, List.set_cons_zero, List.set_cons_succ, i64_w, i32_w]
       rfl
      refine pure_ (i := 21) (N := some 54) (v := ?_) (a' := ?_) #[tT, tT, tT, tT, tT, tT, tT, tT, tT, tT, tT, tT, tT, tT, tT, tT, tT, tT, tT, tT, tT, tT, tF, tF, tF, tF, tF, tF, tF, tF, tF] rfl rfl (any_of HT_.out (by kernel_rfl)) (fun _ _ _ h => h) (Or.inl ⟨by rfl, ?_⟩) ?_ ?_
      rotate_left
      ·intro w'
       go_simp
       with_reducible rfl
      rotate_left
      ·simp only [Act.put, List.setIfInBounds_toArray, List.set_cons_zero, List.set_cons_succ, i64_w, i32_w]
       rfl
      refine pure_ (i := 22) (N := some 55) (v := undef) (a' := ?_) #[tT, tT, tT, tT, tT, tT, tT, tT, tT, tT, tT, tT, tT, tT, tT, tT, tT, tT, tT, tT, tT, tT, tT, tF, tF, tF, tF, tF, tF, tF, tF] rfl rfl (any_of HT_.out (by kernel_rfl)) (fun _ _ _ h => h) (Or.inr ⟨by rfl, rfl⟩) ?_ ?_
      rotate_left
      ·simp only [Act.put, List.setIfInBounds_toArray, List.set_cons_zero, List.set_cons_succ, i64_w, i32_w]
       rfl
      refine pure_ (i := 23) (N := some 56) (v := undef) (a' := ?_) #[tT, tT, tT, tT, tT, tT, tT, tT, tT, tT, tT, tT, tT, tT, tT, tT, tT, tT, tT, tT, tT, tT, tT, tT, tF, tF, tF, tF, tF, tF, tF] rfl rfl (any_of HT_.out (by kernel_rfl)) (fun _ _ _ h => h) (Or.inr ⟨by rfl, rfl⟩) ?_ ?_
      rotate_left
      ·simp only [Act.put, List.setIfInBounds_toArray, List.set_cons_zero, List.set_cons_succ, i64_w, i32_w]
       rfl
      refine pure_ (i := 24) (N := some 57) (v := undef) (a' := ?_) #[tT, tT, tT, tT, tT, tT, tT, tT, tT, tT, tT, tT, tT, tT, tT, tT, tT, tT, tT, tT, tT, tT, tT, tT, tT, tF, tF, tF, tF, tF, tF] rfl rfl (any_of HT_.out (by kernel_rfl)) (fun _ _ _ h => h) (Or.inr ⟨by rfl, rfl⟩) ?_ ?_
      rotate_left
      ·simp only [Act.put, List.setIfInBounds_toArray, List.set_cons_zero, List.set_cons_succ, i64_w, i32_w]
       rfl
      refine pure_ (i := 25) (N := some 58) (v := undef) (a' := ?_) #[tT, tT, tT, tT, tT, tT, tT, tT, tT, tT, tT, tT, tT, tT, tT, tT, tT, tT, tT, tT, tT, tT, tT, tT, tT, tT, tF, tF, tF, tF, tF] rfl rfl (any_of HT_.out (by kernel_rfl)) (fun _ _ _ h => h) (Or.inr ⟨by rfl, rfl⟩) ?_ ?_
      rotate_left
      ·simp only [Act.put, List.setIfInBounds_toArray, List.set_cons_zero, List.set_cons_succ, i64_w, i32_w]
       rfl
      refine pure_ (i := 26) (N := some 59) (v := undef) (a' := ?_) #[tT, tT, tT, tT, tT, tT, tT, tT, tT, tT, tT, tT, tT, tT, tT, tT, tT, tT, tT, tT, tT, tT, tT, tT, tT, tT, tT, tF, tF, tF, tF] rfl rfl (any_of HT_.out (by kernel_rfl)) (fun _ _ _ h => h) (Or.inr ⟨by rfl, rfl⟩) ?_ ?_
      rotate_left
      ·simp only [Act.put, List.setIfInBounds_toArray, List.set_cons_zero, List.set_cons_succ, i64_w, i32_w]
       rfl
      refine pure_ (i := 27) (N := some 60) (v := undef) (a' := ?_) #[tT, tT, tT, tT, tT, tT, tT, tT, tT, tT, tT, tT, tT, tT, tT, tT, tT, tT, tT, tT, tT, tT, tT, tT, tT, tT, tT, tT, tF, tF, tF] rfl rfl (any_of HT_.out (by kernel_rfl)) (fun _ _ _ h => h) (Or.inr ⟨by rfl, rfl⟩) ?_ ?_
      rotate_left
      ·simp only [Act.put, List.setIfInBounds_toArray, List.set_cons_zero, List.set_cons_succ, i64_w, i32_w]
       rfl
      refine pure_ (i := 28) (N := some 61) (v := undef) (a' := ?_) #[tT, tT, tT, tT, tT, tT, tT, tT, tT, tT, tT, tT, tT, tT, tT, tT, tT, tT, tT, tT, tT, tT, tT, tT, tT, tT, tT, tT, tT, tF, tF] rfl rfl (any_of HT_.out (by kernel_rfl)) (fun _ _ _ h => h) (Or.inr ⟨by rfl, rfl⟩) ?_ ?_
      rotate_left
      ·simp only [Act.put, List.setIfInBounds_toArray, List.set_cons_zero, List.set_cons_succ, i64_w, i32_w]
       rfl
      refine pure_ (i := 29) (N := some 62) (v := ?_) (a' := ?_) #[tT, tT, tT, tT, tT, tT, tT, tT, tT, tT, tT, tT, tT, tT, tT, tT, tT, tT, tT, tT, tT, tT, tT, tT, tT, tT, tT, tT, tT, tT, tF] rfl rfl (any_of HT_.out (by kernel_rfl)) (fun _ _ _ h => h) (Or.inl ⟨by rfl, ?_⟩) ?_ ?_
      rotate_left
      ·intro w'
       go_simp
       with_reducible rfl
      rotate_left
      ·simp only [Act.put, List.setIfInBounds_toArray, List.set_cons_zero, List.set_cons_succ, i64_w, i32_w]
       rfl
      refine pure_ (i := 30) (N := some 2) (v := ?_) (a' := ?_) #[tT, tT, tT, tT, tT, tT, tT, tT, tT, tT, tT, tT, tT, tT, tT, tT, tT, tT, tT, tT, tT, tT, tT, tT, tT, tT, tT, tT, tT, tT, tT] rfl rfl (any_of HT_.out (by kernel_rfl)) (fun _ _ _ h => h) (Or.inl ⟨by rfl, ?_⟩) ?_ ?_
      rotate_left
      ·intro w'
       go_simp
       with_reducible rfl
      rotate_left
      ·simp only [Act.put, List.setIfInBounds_toArray, List.set_cons_zero, List.set_cons_succ, i64_w, i32_w]
       rfl
      refine done_ (done_of HT_.out (by kernel_rfl)) ?_
      try go_wp2
      go_ret
      exact ⟨by first | rfl | (simp [errW_none, errW_some] <;> rfl) | (simp [*, errW_none, errW_some] <;> rfl), by repeat (first | (with_reducible first | exact HB.out | apply below_alloc | apply pw_below_drewN | apply below_drew1 | refine below_set ?_ GE133.out | refine below_set ?_ GE153.out | refine below_set ?_ GE163.out) | exact HB.out)⟩
    ·rw [if_neg c12] at H
     have c12b0 : (t152 == t162) = false := beq_eq_false_iff_ne.mpr c12
     have c12b1 : (t152 != t162) = true := bne_iff_ne.mpr c12
     obtain rfl := Option.some.inj H
     go_enter Tryd.func3, Tryd.ntmps3
     try go_wp2_with (first | ((with_reducible refine gate_dst (N := 1) rfl ?_); refine box_event ?hg (N := 1) ?hd (cs := #[.int .i64 a0_0, .int .i64 a0_1, .int .i64 a0_2]) (t := 23) ?hr ?_; (case hd => rfl); (case hg => rfl); (case hr => first | (go_simp; done) | (go_simp; rfl)); intro gb133 hg w61 hbox hb; have n0_ := Aside0.mk (below_step (by repeat (first | (with_reducible first | exact HB.out | apply below_alloc | apply pw_below_drewN | apply below_drew1) | exact HB.out)) hb); have n1_ := Aside0.mk (hbox); have n2_ := Aside0.mk ((by rw [hg]; exact (below_size (by repeat (first | (with_reducible first | exact HB.out | apply below_alloc | apply pw_below_drewN | apply below_drew1) | exact HB.out))) : w.heap.size ≤ gb133)); have n3_ := n2_; clear HB; have HB := n0_; have BK133 := n1_; have GW133 := n2_; have GE133 := n3_; clear n0_ n1_ n2_ n3_; clear hb hbox hg; have hcz62_0 : w61.cell? ⟨gb133, 0, none⟩ = some (.int .i64 a0_0) := (blk_cell BK133.out 0).trans rfl; have hcz62_1 : w61.cell? ⟨gb133, 1, none⟩ = some (.int .i64 a0_1) := (blk_cell BK133.out 1).trans rfl; have hcz62_2 : w61.cell? ⟨gb133, 2, none⟩ = some (.int .i64 a0_2) := (blk_cell BK133.out 2).trans rfl; have hfz62_0 := blk_frozen BK133.out 0; have hfz62_1 := blk_frozen BK133.out 1; have hfz62_2 := blk_frozen BK133.out 2) | ((with_reducible refine gate_callee (f := 8) rfl ?_); refine goesL_ (some 13) rfl rfl Tryd.func8 (by kernel_rfl) rfl #[.agg #[.int .i64 a0_0, .int .i64 a0_1, .int .i64 a0_2]] rfl (by (try simp only [List.map_toArray, List.map_cons, List.map_nil]); first | done | rfl) ?_; (with_reducible refine (lapwinglaw07_made.calls a0_0 a0_1 a0_2 t134 t135 t136 _ A2.out).mono ?_); rintro e w63 ⟨rfl, hb⟩; refine ⟨_, rfl, ?_⟩; have n0_ := Aside0.mk (blk_below (g := gb133) (o := .cells #[.int .i64 a0_0, .int .i64 a0_1, .int .i64 a0_2] 23 (0, 0)) (by (with_reducible repeat (first | apply blk_drewN | apply blk_drew | apply blk_alloc)); exact BK133.out) hb); have n1_ := Aside0.mk (below_step (by repeat (first | (with_reducible first | exact HB.out | apply below_alloc | apply pw_below_drewN | apply below_drew1 | refine below_set ?_ GE133.out) | exact HB.out)) hb); clear BK133; clear HB; have BK133 := n0_; have HB := n1_; clear n0_ n1_; (try clear hb); (try clear hb2); (try clear hk); (try clear hi)) | ((with_reducible refine gate_callee (f := 7) rfl ?_); refine goesL_ (some 14) rfl rfl Tryd.func7 (by kernel_rfl) rfl #[.agg #[.int .i64 t134, .int .i64 t135, .int .i64 t136]] rfl (by (try simp only [List.map_toArray, List.map_cons, List.map_nil]); first | done | rfl) ?_; (with_reducible refine (teimsg_Put.calls k t134 t135 t136 t137 t138 _ A3.out).mono ?_); rintro e w64 ⟨rfl, hb⟩; refine ⟨_, rfl, ?_⟩; have n0_ := Aside0.mk (blk_below (g := gb133) (o := .cells #[.int .i64 a0_0, .int .i64 a0_1, .int .i64 a0_2] 23 (0, 0)) (by (with_reducible repeat (first | apply blk_drewN | apply blk_drew | apply blk_alloc)); exact BK133.out) hb); have n1_ := Aside0.mk (below_step (by repeat (first | (with_reducible first | exact HB.out | apply below_alloc | apply pw_below_drewN | apply below_drew1 | refine below_set ?_ GE133.out) | exact HB.out)) hb); clear BK133; clear HB; have BK133 := n0_; have HB := n1_; clear n0_ n1_; (try clear hb); (try clear hb2); (try clear hk); (try clear hi); have hcz65_0 : w64.cell? ⟨gb133, 0, none⟩ = some (.int .i64 a0_0) := (blk_cell BK133.out 0).trans rfl; have hcz65_1 : w64.cell? ⟨gb133, 1, none⟩ = some (.int .i64 a0_1) := (blk_cell BK133.out 1).trans rfl; have hcz65_2 : w64.cell? ⟨gb133, 2, none⟩ = some (.int .i64 a0_2) := (blk_cell BK133.out 2).trans rfl; have hfz65_0 := blk_frozen BK133.out 0; have hfz65_1 := blk_frozen BK133.out 1; have hfz65_2 := blk_frozen BK133.out 2) | ((with_reducible refine gate_callee (f := 9) rfl ?_); refine goesL_ (some 19) rfl rfl Tryd.func9 (by kernel_rfl) rfl #[.agg #[.int .i64 a0_0, .int .i64 a0_1, .int .i64 a0_2]] rfl (by (try simp only [List.map_toArray, List.map_cons, List.map_nil]); first | done | rfl) ?_; (with_reducible refine (lapwingref07_Put.calls k a0_0 a0_1 a0_2 t139 t140 _ A4.out).mono ?_); rintro e w66 ⟨rfl, hb⟩; refine ⟨_, rfl, ?_⟩; have n0_ := Aside0.mk (blk_below (g := gb133) (o := .cells #[.int .i64 a0_0, .int .i64 a0_1, .int .i64 a0_2] 23 (0, 0)) (by (with_reducible repeat (first | apply blk_drewN | apply blk_drew | apply blk_alloc)); exact BK133.out) hb); have n1_ := Aside0.mk (below_step (by repeat (first | (with_reducible first | exact HB.out | apply below_alloc | apply pw_below_drewN | apply below_drew1 | refine below_set ?_ GE133.out) | exact HB.out)) hb); clear BK133; clear HB; have BK133 := n0_; have HB := n1_; clear n0_ n1_; (try clear hb); (try clear hb2); (try clear hk); (try clear hi); have hcz67_0 : w66.cell? ⟨gb133, 0, none⟩ = some (.int .i64 a0_0) := (blk_cell BK133.out 0).trans rfl; have hcz67_1 : w66.cell? ⟨gb133, 1, none⟩ = some (.int .i64 a0_1) := (blk_cell BK133.out 1).trans rfl; have hcz67_2 : w66.cell? ⟨gb133, 2, none⟩ = some (.int .i64 a0_2) := (blk_cell BK133.out 2).trans rfl; have hfz67_0 := blk_frozen BK133.out 0; have hfz67_1 := blk_frozen BK133.out 1; have hfz67_2 := blk_frozen BK133.out 2) | ((with_reducible refine gate_callee (f := 8) rfl ?_); refine goesL_ (some 24) rfl rfl Tryd.func8 (by kernel_rfl) rfl #[.agg #[.int .i64 a0_0, .int .i64 a0_1, .int .i64 a0_2]] rfl (by (try simp only [List.map_toArray, List.map_cons, List.map_nil]); first | done | rfl) ?_; (with_reducible refine (lapwinglaw07_made.calls a0_0 a0_1 a0_2 t141 t142 t143 _ A5.out).mono ?_); rintro e w68 ⟨rfl, hb⟩; refine ⟨_, rfl, ?_⟩; have n0_ := Aside0.mk (blk_below (g := gb133) (o := .cells #[.int .i64 a0_0, .int .i64 a0_1, .int .i64 a0_2] 23 (0, 0)) (by (with_reducible repeat (first | apply blk_drewN | apply blk_drew | apply blk_alloc)); exact BK133.out) hb); have n1_ := Aside0.mk (below_step (by repeat (first | (with_reducible first | exact HB.out | apply below_alloc | apply pw_below_drewN | apply below_drew1 | refine below_set ?_ GE133.out) | exact HB.out)) hb); clear BK133; clear HB; have BK133 := n0_; have HB := n1_; clear n0_ n1_; (try clear hb); (try clear hb2); (try clear hk); (try clear hi)) | ((with_reducible refine gate_callee (f := 10) rfl ?_); refine goesL_ (some 25) rfl rfl Tryd.func10 (by kernel_rfl) rfl #[.agg #[.int .i64 t141, .int .i64 t142, .int .i64 t143]] rfl (by (try simp only [List.map_toArray, List.map_cons, List.map_nil]); first | done | rfl) ?_; (with_reducible refine (teimsg_Frame.calls k t141 t142 t143 t144 t145 t146 t147 t148 t149 t150 t151 t152 _ ?side1 A6.out).mono ?_); (case side1 => first | (with_reducible exact HL.out) | (with_reducible exact Go.Proofs.YtmgiolpooamkkaaDoorX.Laid_drewN HL.out _) | exact Go.Proofs.YtmgiolpooamkkaaDoorX.Laid_below HL.out (by repeat (first | (with_reducible first | exact HB.out | apply below_alloc | apply pw_below_drewN | apply below_drew1 | refine below_set ?_ GE133.out) | exact HB.out))); rintro e w69 ⟨rfl, hb⟩; refine ⟨_, rfl, ?_⟩; have n0_ := Aside0.mk (blk_below (g := gb133) (o := .cells #[.int .i64 a0_0, .int .i64 a0_1, .int .i64 a0_2] 23 (0, 0)) (by (with_reducible repeat (first | apply blk_drewN | apply blk_drew | apply blk_alloc)); exact BK133.out) hb); have n1_ := Aside0.mk (below_step (by repeat (first | (with_reducible first | exact HB.out | apply below_alloc | apply pw_below_drewN | apply below_drew1 | refine below_set ?_ GE133.out) | exact HB.out)) hb); clear BK133; clear HB; have BK133 := n0_; have HB := n1_; clear n0_ n1_; (try clear hb); (try clear hb2); (try clear hk); (try clear hi)) | ((with_reducible refine gate_dst (N := 7) rfl ?_); refine box_event ?hg (N := 7) ?hd (cs := #[.int .i64 0, .int .i64 0, .bool false, .int .i64 0, .bool false, .int .i64 0, .int .i64 0, .string (⟨#[]⟩ : ByteArray)]) (t := 38) ?hr ?_; (case hd => rfl); (case hg => rfl); (case hr => first | (go_simp; done) | (go_simp; rfl)); intro gb153 hg w70 hbox hb; have n0_ := Aside0.mk (blk_below (g := gb133) (o := .cells #[.int .i64 a0_0, .int .i64 a0_1, .int .i64 a0_2] 23 (0, 0)) (by (with_reducible repeat (first | apply blk_drewN | apply blk_drew | apply blk_alloc)); exact BK133.out) hb); have n1_ := Aside0.mk (below_step (by repeat (first | (with_reducible first | exact HB.out | apply below_alloc | apply pw_below_drewN | apply below_drew1 | refine below_set ?_ GE133.out) | exact HB.out)) hb); have n2_ := Aside0.mk (hbox); have n3_ := Aside0.mk ((by rw [hg]; exact (below_size (by repeat (first | (with_reducible first | exact HB.out | apply below_alloc | apply pw_below_drewN | apply below_drew1 | refine below_set ?_ GE133.out) | exact HB.out))) : w.heap.size ≤ gb153)); have n4_ := n3_; have n5_ := Aside0.mk ((by rw [hg]; exact Nat.ne_of_lt (blk_lt (g := gb133) (o := .cells #[.int .i64 a0_0, .int .i64 a0_1, .int .i64 a0_2] 23 (0, 0)) (by (with_reducible repeat (first | apply blk_drewN | apply blk_drew | apply blk_alloc)); exact BK133.out)) : gb133 ≠ gb153)); have n6_ := Aside0.mk (Ne.symm n5_.out); clear BK133; clear HB; have BK133 := n0_; have HB := n1_; have BK153 := n2_; have GW153 := n3_; have GE153 := n4_; have NB133_153 := n5_; have NB153_133 := n6_; clear n0_ n1_ n2_ n3_ n4_ n5_ n6_; clear hb hbox hg; have hnb71 := NB153_133.out; have hnc71 := NB133_153.out; have hcz72_0 : w70.cell? ⟨gb153, 0, none⟩ = some (.int .i64 0) := (blk_cell BK153.out 0).trans rfl; have hcz72_1 : w70.cell? ⟨gb153, 1, none⟩ = some (.int .i64 0) := (blk_cell BK153.out 1).trans rfl; have hcz72_2 : w70.cell? ⟨gb153, 2, none⟩ = some (.bool false) := (blk_cell BK153.out 2).trans rfl; have hcz72_3 : w70.cell? ⟨gb153, 3, none⟩ = some (.int .i64 0) := (blk_cell BK153.out 3).trans rfl; have hcz72_4 : w70.cell? ⟨gb153, 4, none⟩ = some (.bool false) := (blk_cell BK153.out 4).trans rfl; have hcz72_5 : w70.cell? ⟨gb153, 5, none⟩ = some (.int .i64 0) := (blk_cell BK153.out 5).trans rfl; have hcz72_6 : w70.cell? ⟨gb153, 6, none⟩ = some (.int .i64 0) := (blk_cell BK153.out 6).trans rfl; have hcz72_7 : w70.cell? ⟨gb153, 7, none⟩ = some (.string (⟨#[]⟩ : ByteArray)) := (blk_cell BK153.out 7).trans rfl; have hfz72_0 := blk_frozen BK153.out 0; have hfz72_1 := blk_frozen BK153.out 1; have hfz72_2 := blk_frozen BK153.out 2; have hfz72_3 := blk_frozen BK153.out 3; have hfz72_4 := blk_frozen BK153.out 4; have hfz72_5 := blk_frozen BK153.out 5; have hfz72_6 := blk_frozen BK153.out 6; have hfz72_7 := blk_frozen BK153.out 7; have hcz73_0 : w70.cell? ⟨gb133, 0, none⟩ = some (.int .i64 a0_0) := (blk_cell BK133.out 0).trans rfl; have hcz73_1 : w70.cell? ⟨gb133, 1, none⟩ = some (.int .i64 a0_1) := (blk_cell BK133.out 1).trans rfl; have hcz73_2 : w70.cell? ⟨gb133, 2, none⟩ = some (.int .i64 a0_2) := (blk_cell BK133.out 2).trans rfl; have hfz73_0 := blk_frozen BK133.out 0; have hfz73_1 := blk_frozen BK133.out 1; have hfz73_2 := blk_frozen BK133.out 2) | ((with_reducible refine gate_callee (f := 11) rfl ?_); refine goesL_ (some 30) rfl rfl Tryd.func11 (by kernel_rfl) rfl #[.agg #[.int .i64 a0_0, .int .i64 a0_1, .int .i64 a0_2]] rfl (by (try simp only [List.map_toArray, List.map_cons, List.map_nil]); first | done | rfl) ?_; (with_reducible refine (lapwingref07_Frame.calls k a0_0 a0_1 a0_2 t154 t155 t156 t157 t158 t159 t160 t161 t162 _ A7.out).mono ?_); rintro e w74 ⟨rfl, hb⟩; refine ⟨_, rfl, ?_⟩; have n0_ := Aside0.mk (blk_below (g := gb133) (o := .cells #[.int .i64 a0_0, .int .i64 a0_1, .int .i64 a0_2] 23 (0, 0)) (by (with_reducible repeat (first | apply blk_drewN | apply blk_drew | apply blk_alloc)); refine blk_far ?_ NB133_153.out _; (with_reducible repeat (first | apply blk_drewN | apply blk_drew | apply blk_alloc)); refine blk_far ?_ NB133_153.out _; (with_reducible repeat (first | apply blk_drewN | apply blk_drew | apply blk_alloc)); refine blk_far ?_ NB133_153.out _; (with_reducible repeat (first | apply blk_drewN | apply blk_drew | apply blk_alloc)); refine blk_far ?_ NB133_153.out _; (with_reducible repeat (first | apply blk_drewN | apply blk_drew | apply blk_alloc)); refine blk_far ?_ NB133_153.out _; (with_reducible repeat (first | apply blk_drewN | apply blk_drew | apply blk_alloc)); refine blk_far ?_ NB133_153.out _; (with_reducible repeat (first | apply blk_drewN | apply blk_drew | apply blk_alloc)); refine blk_far ?_ NB133_153.out _; (with_reducible repeat (first | apply blk_drewN | apply blk_drew | apply blk_alloc)); refine blk_far ?_ NB133_153.out _; (with_reducible repeat (first | apply blk_drewN | apply blk_drew | apply blk_alloc)); exact BK133.out) hb); have n1_ := Aside0.mk (blk_below (g := gb153) (o := .cells #[.int .i64 t144, .int .i64 t145, .bool t146, .int .i64 t147, .bool t148, .int .i64 t149, .int .i64 t150, .string t151] 38 (0, 0)) (by (with_reducible repeat (first | apply blk_drewN | apply blk_drew | apply blk_alloc)); refine blk_put (cs := #[.int .i64 t144, .int .i64 t145, .bool t146, .int .i64 t147, .bool t148, .int .i64 t149, .int .i64 t150, .string (⟨#[]⟩ : ByteArray)]) ?_ 7 _ rfl; (with_reducible repeat (first | apply blk_drewN | apply blk_drew | apply blk_alloc)); refine blk_put (cs := #[.int .i64 t144, .int .i64 t145, .bool t146, .int .i64 t147, .bool t148, .int .i64 t149, .int .i64 0, .string (⟨#[]⟩ : ByteArray)]) ?_ 6 _ rfl; (with_reducible repeat (first | apply blk_drewN | apply blk_drew | apply blk_alloc)); refine blk_put (cs := #[.int .i64 t144, .int .i64 t145, .bool t146, .int .i64 t147, .bool t148, .int .i64 0, .int .i64 0, .string (⟨#[]⟩ : ByteArray)]) ?_ 5 _ rfl; (with_reducible repeat (first | apply blk_drewN | apply blk_drew | apply blk_alloc)); refine blk_put (cs := #[.int .i64 t144, .int .i64 t145, .bool t146, .int .i64 t147, .bool false, .int .i64 0, .int .i64 0, .string (⟨#[]⟩ : ByteArray)]) ?_ 4 _ rfl; (with_reducible repeat (first | apply blk_drewN | apply blk_drew | apply blk_alloc)); refine blk_put (cs := #[.int .i64 t144, .int .i64 t145, .bool t146, .int .i64 0, .bool false, .int .i64 0, .int .i64 0, .string (⟨#[]⟩ : ByteArray)]) ?_ 3 _ rfl; (with_reducible repeat (first | apply blk_drewN | apply blk_drew | apply blk_alloc)); refine blk_put (cs := #[.int .i64 t144, .int .i64 t145, .bool false, .int .i64 0, .bool false, .int .i64 0, .int .i64 0, .string (⟨#[]⟩ : ByteArray)]) ?_ 2 _ rfl; (with_reducible repeat (first | apply blk_drewN | apply blk_drew | apply blk_alloc)); refine blk_put (cs := #[.int .i64 t144, .int .i64 0, .bool false, .int .i64 0, .bool false, .int .i64 0, .int .i64 0, .string (⟨#[]⟩ : ByteArray)]) ?_ 1 _ rfl; (with_reducible repeat (first | apply blk_drewN | apply blk_drew | apply blk_alloc)); refine blk_put (cs := #[.int .i64 0, .int .i64 0, .bool false, .int .i64 0, .bool false, .int .i64 0, .int .i64 0, .string (⟨#[]⟩ : ByteArray)]) ?_ 0 _ rfl; (with_reducible repeat (first | apply blk_drewN | apply blk_drew | apply blk_alloc)); exact BK153.out) hb); have n2_ := Aside0.mk (below_step (by repeat (first | (with_reducible first | exact HB.out | apply below_alloc | apply pw_below_drewN | apply below_drew1 | refine below_set ?_ GE133.out | refine below_set ?_ GE153.out) | exact HB.out)) hb); clear BK133; clear BK153; clear HB; have BK133 := n0_; have BK153 := n1_; have HB := n2_; clear n0_ n1_ n2_; (try clear hb); (try clear hb2); (try clear hk); (try clear hi)) | ((with_reducible refine gate_dst (N := 9) rfl ?_); refine box_event ?hg (N := 9) ?hd (cs := #[.int .i64 0, .int .i64 0, .bool false, .int .i64 0, .bool false, .int .i64 0, .int .i64 0, .string (⟨#[]⟩ : ByteArray)]) (t := 42) ?hr ?_; (case hd => rfl); (case hg => rfl); (case hr => first | (go_simp; done) | (go_simp; rfl)); intro gb163 hg w75 hbox hb; have n0_ := Aside0.mk (blk_below (g := gb133) (o := .cells #[.int .i64 a0_0, .int .i64 a0_1, .int .i64 a0_2] 23 (0, 0)) (by (with_reducible repeat (first | apply blk_drewN | apply blk_drew | apply blk_alloc)); exact BK133.out) hb); have n1_ := Aside0.mk (blk_below (g := gb153) (o := .cells #[.int .i64 t144, .int .i64 t145, .bool t146, .int .i64 t147, .bool t148, .int .i64 t149, .int .i64 t150, .string t151] 38 (0, 0)) (by (with_reducible repeat (first | apply blk_drewN | apply blk_drew | apply blk_alloc)); exact BK153.out) hb); have n2_ := Aside0.mk (below_step (by repeat (first | (with_reducible first | exact HB.out | apply below_alloc | apply pw_below_drewN | apply below_drew1 | refine below_set ?_ GE133.out | refine below_set ?_ GE153.out) | exact HB.out)) hb); have n3_ := Aside0.mk (hbox); have n4_ := Aside0.mk ((by rw [hg]; exact (below_size (by repeat (first | (with_reducible first | exact HB.out | apply below_alloc | apply pw_below_drewN | apply below_drew1 | refine below_set ?_ GE133.out | refine below_set ?_ GE153.out) | exact HB.out))) : w.heap.size ≤ gb163)); have n5_ := n4_; have n6_ := Aside0.mk ((by rw [hg]; exact Nat.ne_of_lt (blk_lt (g := gb133) (o := .cells #[.int .i64 a0_0, .int .i64 a0_1, .int .i64 a0_2] 23 (0, 0)) (by (with_reducible repeat (first | apply blk_drewN | apply blk_drew | apply blk_alloc)); exact BK133.out)) : gb133 ≠ gb163)); have n7_ := Aside0.mk (Ne.symm n6_.out); have n8_ := Aside0.mk ((by rw [hg]; exact Nat.ne_of_lt (blk_lt (g := gb153) (o := .cells #[.int .i64 t144, .int .i64 t145, .bool t146, .int .i64 t147, .bool t148, .int .i64 t149, .int .i64 t150, .string t151] 38 (0, 0)) (by (with_reducible repeat (first | apply blk_drewN | apply blk_drew | apply blk_alloc)); exact BK153.out)) : gb153 ≠ gb163)); have n9_ := Aside0.mk (Ne.symm n8_.out); clear BK133; clear BK153; clear HB; have BK133 := n0_; have BK153 := n1_; have HB := n2_; have BK163 := n3_; have GW163 := n4_; have GE163 := n5_; have NB133_163 := n6_; have NB163_133 := n7_; have NB153_163 := n8_; have NB163_153 := n9_; clear n0_ n1_ n2_ n3_ n4_ n5_ n6_ n7_ n8_ n9_; clear hb hbox hg; have hnb76 := NB163_133.out; have hnc76 := NB133_163.out; have hnb77 := NB163_153.out; have hnc77 := NB153_163.out; have hcz78_0 : w75.cell? ⟨gb163, 0, none⟩ = some (.int .i64 0) := (blk_cell BK163.out 0).trans rfl; have hcz78_1 : w75.cell? ⟨gb163, 1, none⟩ = some (.int .i64 0) := (blk_cell BK163.out 1).trans rfl; have hcz78_2 : w75.cell? ⟨gb163, 2, none⟩ = some (.bool false) := (blk_cell BK163.out 2).trans rfl; have hcz78_3 : w75.cell? ⟨gb163, 3, none⟩ = some (.int .i64 0) := (blk_cell BK163.out 3).trans rfl; have hcz78_4 : w75.cell? ⟨gb163, 4, none⟩ = some (.bool false) := (blk_cell BK163.out 4).trans rfl; have hcz78_5 : w75.cell? ⟨gb163, 5, none⟩ = some (.int .i64 0) := (blk_cell BK163.out 5).trans rfl; have hcz78_6 : w75.cell? ⟨gb163, 6, none⟩ = some (.int .i64 0) := (blk_cell BK163.out 6).trans rfl; have hcz78_7 : w75.cell? ⟨gb163, 7, none⟩ = some (.string (⟨#[]⟩ : ByteArray)) := (blk_cell BK163.out 7).trans rfl; have hfz78_0 := blk_frozen BK163.out 0; have hfz78_1 := blk_frozen BK163.out 1; have hfz78_2 := blk_frozen BK163.out 2; have hfz78_3 := blk_frozen BK163.out 3; have hfz78_4 := blk_frozen BK163.out 4; have hfz78_5 := blk_frozen BK163.out 5; have hfz78_6 := blk_frozen BK163.out 6; have hfz78_7 := blk_frozen BK163.out 7))
     have n0_ : Aside0 (((((((((w75.setCell ⟨gb163, 0, none⟩ (.int .i64 t154)).setCell ⟨gb163, 1, none⟩ (.int .i64 t155)).setCell ⟨gb163, 2, none⟩ (.bool t156)).setCell ⟨gb163, 3, none⟩ (.int .i64 t157)).setCell ⟨gb163, 4, none⟩ (.bool t158)).setCell ⟨gb163, 5, none⟩ (.int .i64 t159)).setCell ⟨gb163, 6, none⟩ (.int .i64 t160)).setCell ⟨gb163, 7, none⟩ (.string t161)).heap[gb133]? = some (.cells #[.int .i64 a0_0, .int .i64 a0_1, .int .i64 a0_2] 23 (0, 0))) := ⟨by (with_reducible repeat (first | apply blk_drewN | apply blk_drew | apply blk_alloc)); refine blk_far ?_ NB133_163.out _; (with_reducible repeat (first | apply blk_drewN | apply blk_drew | apply blk_alloc)); refine blk_far ?_ NB133_163.out _; (with_reducible repeat (first | apply blk_drewN | apply blk_drew | apply blk_alloc)); refine blk_far ?_ NB133_163.out _; (with_reducible repeat (first | apply blk_drewN | apply blk_drew | apply blk_alloc)); refine blk_far ?_ NB133_163.out _; (with_reducible repeat (first | apply blk_drewN | apply blk_drew | apply blk_alloc)); refine blk_far ?_ NB133_163.out _; (with_reducible repeat (first | apply blk_drewN | apply blk_drew | apply blk_alloc)); refine blk_far ?_ NB133_163.out _; (with_reducible repeat (first | apply blk_drewN | apply blk_drew | apply blk_alloc)); refine blk_far ?_ NB133_163.out _; (with_reducible repeat (first | apply blk_drewN | apply blk_drew | apply blk_alloc)); refine blk_far ?_ NB133_163.out _; (with_reducible repeat (first | apply blk_drewN | apply blk_drew | apply blk_alloc)); exact BK133.out⟩
     have n1_ : Aside0 (((((((((w75.setCell ⟨gb163, 0, none⟩ (.int .i64 t154)).setCell ⟨gb163, 1, none⟩ (.int .i64 t155)).setCell ⟨gb163, 2, none⟩ (.bool t156)).setCell ⟨gb163, 3, none⟩ (.int .i64 t157)).setCell ⟨gb163, 4, none⟩ (.bool t158)).setCell ⟨gb163, 5, none⟩ (.int .i64 t159)).setCell ⟨gb163, 6, none⟩ (.int .i64 t160)).setCell ⟨gb163, 7, none⟩ (.string t161)).heap[gb153]? = some (.cells #[.int .i64 t144, .int .i64 t145, .bool t146, .int .i64 t147, .bool t148, .int .i64 t149, .int .i64 t150, .string t151] 38 (0, 0))) := ⟨by (with_reducible repeat (first | apply blk_drewN | apply blk_drew | apply blk_alloc)); refine blk_far ?_ NB153_163.out _; (with_reducible repeat (first | apply blk_drewN | apply blk_drew | apply blk_alloc)); refine blk_far ?_ NB153_163.out _; (with_reducible repeat (first | apply blk_drewN | apply blk_drew | apply blk_alloc)); refine blk_far ?_ NB153_163.out _; (with_reducible repeat (first | apply blk_drewN | apply blk_drew | apply blk_alloc)); refine blk_far ?_ NB153_163.out _; (with_reducible repeat (first | apply blk_drewN | apply blk_drew | apply blk_alloc)); refine blk_far ?_ NB153_163.out _; (with_reducible repeat (first | apply blk_drewN | apply blk_drew | apply blk_alloc)); refine blk_far ?_ NB153_163.out _; (with_reducible repeat (first | apply blk_drewN | apply blk_drew | apply blk_alloc)); refine blk_far ?_ NB153_163.out _; (with_reducible repeat (first | apply blk_drewN | apply blk_drew | apply blk_alloc)); refine blk_far ?_ NB153_163.out _; (with_reducible repeat (first | apply blk_drewN | apply blk_drew | apply blk_alloc)); exact BK153.out⟩
     have n2_ : Aside0 (((((((((w75.setCell ⟨gb163, 0, none⟩ (.int .i64 t154)).setCell ⟨gb163, 1, none⟩ (.int .i64 t155)).setCell ⟨gb163, 2, none⟩ (.bool t156)).setCell ⟨gb163, 3, none⟩ (.int .i64 t157)).setCell ⟨gb163, 4, none⟩ (.bool t158)).setCell ⟨gb163, 5, none⟩ (.int .i64 t159)).setCell ⟨gb163, 6, none⟩ (.int .i64 t160)).setCell ⟨gb163, 7, none⟩ (.string t161)).heap[gb163]? = some (.cells #[.int .i64 t154, .int .i64 t155, .bool t156, .int .i64 t157, .bool t158, .int .i64 t159, .int .i64 t160, .string t161] 42 (0, 0))) := ⟨by (with_reducible repeat (first | apply blk_drewN | apply blk_drew | apply blk_alloc)); refine blk_put (cs := #[.int .i64 t154, .int .i64 t155, .bool t156, .int .i64 t157, .bool t158, .int .i64 t159, .int .i64 t160, .string (⟨#[]⟩ : ByteArray)]) ?_ 7 _ rfl; (with_reducible repeat (first | apply blk_drewN | apply blk_drew | apply blk_alloc)); refine blk_put (cs := #[.int .i64 t154, .int .i64 t155, .bool t156, .int .i64 t157, .bool t158, .int .i64 t159, .int .i64 0, .string (⟨#[]⟩ : ByteArray)]) ?_ 6 _ rfl; (with_reducible repeat (first | apply blk_drewN | apply blk_drew | apply blk_alloc)); refine blk_put (cs := #[.int .i64 t154, .int .i64 t155, .bool t156, .int .i64 t157, .bool t158, .int .i64 0, .int .i64 0, .string (⟨#[]⟩ : ByteArray)]) ?_ 5 _ rfl; (with_reducible repeat (first | apply blk_drewN | apply blk_drew | apply blk_alloc)); refine blk_put (cs := #[.int .i64 t154, .int .i64 t155, .bool t156, .int .i64 t157, .bool false, .int .i64 0, .int .i64 0, .string (⟨#[]⟩ : ByteArray)]) ?_ 4 _ rfl; (with_reducible repeat (first | apply blk_drewN | apply blk_drew | apply blk_alloc)); refine blk_put (cs := #[.int .i64 t154, .int .i64 t155, .bool t156, .int .i64 0, .bool false, .int .i64 0, .int .i64 0, .string (⟨#[]⟩ : ByteArray)]) ?_ 3 _ rfl; (with_reducible repeat (first | apply blk_drewN | apply blk_drew | apply blk_alloc)); refine blk_put (cs := #[.int .i64 t154, .int .i64 t155, .bool false, .int .i64 0, .bool false, .int .i64 0, .int .i64 0, .string (⟨#[]⟩ : ByteArray)]) ?_ 2 _ rfl; (with_reducible repeat (first | apply blk_drewN | apply blk_drew | apply blk_alloc)); refine blk_put (cs := #[.int .i64 t154, .int .i64 0, .bool false, .int .i64 0, .bool false, .int .i64 0, .int .i64 0, .string (⟨#[]⟩ : ByteArray)]) ?_ 1 _ rfl; (with_reducible repeat (first | apply blk_drewN | apply blk_drew | apply blk_alloc)); refine blk_put (cs := #[.int .i64 0, .int .i64 0, .bool false, .int .i64 0, .bool false, .int .i64 0, .int .i64 0, .string (⟨#[]⟩ : ByteArray)]) ?_ 0 _ rfl; (with_reducible repeat (first | apply blk_drewN | apply blk_drew | apply blk_alloc)); exact BK163.out⟩
     have n3_ : Aside0 (Below w.heap.size w ((((((((w75.setCell ⟨gb163, 0, none⟩ (.int .i64 t154)).setCell ⟨gb163, 1, none⟩ (.int .i64 t155)).setCell ⟨gb163, 2, none⟩ (.bool t156)).setCell ⟨gb163, 3, none⟩ (.int .i64 t157)).setCell ⟨gb163, 4, none⟩ (.bool t158)).setCell ⟨gb163, 5, none⟩ (.int .i64 t159)).setCell ⟨gb163, 6, none⟩ (.int .i64 t160)).setCell ⟨gb163, 7, none⟩ (.string t161))) := ⟨by repeat (first | (with_reducible first | exact HB.out | apply below_alloc | apply pw_below_drewN | apply below_drew1 | refine below_set ?_ GE133.out | refine below_set ?_ GE153.out | refine below_set ?_ GE163.out) | exact HB.out)⟩
     (try clear BK133)
     (try clear BK153)
     (try clear BK163)
     (try clear HB)
     generalize ((((((((w75.setCell ⟨gb163, 0, none⟩ (.int .i64 t154)).setCell ⟨gb163, 1, none⟩ (.int .i64 t155)).setCell ⟨gb163, 2, none⟩ (.bool t156)).setCell ⟨gb163, 3, none⟩ (.int .i64 t157)).setCell ⟨gb163, 4, none⟩ (.bool t158)).setCell ⟨gb163, 5, none⟩ (.int .i64 t159)).setCell ⟨gb163, 6, none⟩ (.int .i64 t160)).setCell ⟨gb163, 7, none⟩ (.string t161)) = w79 at n0_ n1_ n2_ n3_ ⊢
     have BK133 := n0_
     have BK153 := n1_
     have BK163 := n2_
     have HB := n3_
     clear n0_ n1_ n2_ n3_
     have n0_ := Aside0.mk (blk_drew BK133.out)
     have n1_ := Aside0.mk (blk_drew BK153.out)
     have n2_ := Aside0.mk (blk_drew BK163.out)
     have n3_ := Aside0.mk (below_drew1 HB.out)
     clear BK133
     clear BK153
     clear BK163
     clear HB
     have BK133 := n0_
     have BK153 := n1_
     have BK163 := n2_
     have HB := n3_
     clear n0_ n1_ n2_ n3_
     refine start_ (n := 31) (S := fun w' => True) (ds := []) #[tF, tF, tF, tF, tF, tF, tF, tF, tF, tF, tF, tF, tF, tF, tF, tF, tF, tF, tF, tF, tF, tF, tF, tF, tF, tF, tF, tF, tF, tF, tF] (by kernel_rfl) rfl rfl trivial (fun hHeld => ?_); refine with_tabW lapwinglaw07_TeimsgPuts.tab5 lapwinglaw07_TeimsgPuts.bits5 (fun HT_ HW_ => ?_)
     generalize w79.drew = w80 at BK133 BK153 BK163 HB hHeld ⊢
     refine one_ (i := 0) (N := some 33) #[tT, tF, tF, tF, tF, tF, tF, tF, tF, tF, tF, tF, tF, tF, tF, tF, tF, tF, tF, tF, tF, tF, tF, tF, tF, tF, tF, tF, tF, tF, tF] rfl rfl (one_of HT_.out (by kernel_rfl)) (by decide) (fun K hK => ?_)
     refine goes_ Tryd.func12 (by kernel_rfl) rfl #[] (by rfl) rfl rfl (by (try simp only [List.map_toArray, List.map_cons, List.map_nil]); first | done | rfl) ?_
     with_reducible refine (lapwinglaw07_wakes.calls k  true _ A8.out).mono ?_
     rintro e w81 ⟨rfl, hb⟩
     refine ⟨_, rfl, ?_⟩
     have n0_ := Aside0.mk (blk_below (g := gb133) (o := .cells #[.int .i64 a0_0, .int .i64 a0_1, .int .i64 a0_2] 23 (0, 0)) (by (with_reducible repeat (first | apply blk_drewN | apply blk_drew | apply blk_alloc)); exact BK133.out) hb)
     have n1_ := Aside0.mk (blk_below (g := gb153) (o := .cells #[.int .i64 t144, .int .i64 t145, .bool t146, .int .i64 t147, .bool t148, .int .i64 t149, .int .i64 t150, .string t151] 38 (0, 0)) (by (with_reducible repeat (first | apply blk_drewN | apply blk_drew | apply blk_alloc)); exact BK153.out) hb)
     have n2_ := Aside0.mk (blk_below (g := gb163) (o := .cells #[.int .i64 t154, .int .i64 t155, .bool t156, .int .i64 t157, .bool t158, .int .i64 t159, .int .i64 t160, .string t161] 42 (0, 0)) (by (with_reducible repeat (first | apply blk_drewN | apply blk_drew | apply blk_alloc)); exact BK163.out) hb)
     have n3_ := Aside0.mk (below_step (by repeat (first | (with_reducible first | exact HB.out | apply below_alloc | apply pw_below_drewN | apply below_drew1 | refine below_set ?_ GE133.out | refine below_set ?_ GE153.out | refine below_set ?_ GE163.out) | exact HB.out)) hb)
     clear BK133
     clear BK153
     clear BK163
     clear HB
     have BK133 := n0_
     have BK153 := n1_
     have BK163 := n2_
     have HB := n3_
     clear n0_ n1_ n2_ n3_
     (try clear hb)
     (try clear hb2)
     (try clear hk)
     (try clear hi)
     refine hK.out _ _ trivial (fun hHeld => ?_)
     clear hK K
     refine norm_ (a' := ?_) ?_ ?_
     rotate_left
     ·show Act.put _ (some 33) _ = _
      simp only [Act.put, List.setIfInBounds_toArray, List.set_cons_zero, List.set_cons_succ, i64_w, i32_w]
      rfl
     refine pure_ (i := 1) (N := some 34) (v := ?_) (a' := ?_) #[tT, tT, tF, tF, tF, tF, tF, tF, tF, tF, tF, tF, tF, tF, tF, tF, tF, tF, tF, tF, tF, tF, tF, tF, tF, tF, tF, tF, tF, tF, tF] rfl rfl (any_of HT_.out (by kernel_rfl)) (fun _ _ _ h => h) (Or.inl ⟨by rfl, ?_⟩) ?_ ?_
     rotate_left
     ·intro w'
      go_simp
      with_reducible rfl
     rotate_left
     ·simp only [Act.put, List.setIfInBounds_toArray, List.set_cons_zero, List.set_cons_succ, i64_w, i32_w]
      rfl
     refine pure_ (i := 2) (N := some 35) (v := ?_) (a' := ?_) #[tT, tT, tT, tF, tF, tF, tF, tF, tF, tF, tF, tF, tF, tF, tF, tF, tF, tF, tF, tF, tF, tF, tF, tF, tF, tF, tF, tF, tF, tF, tF] rfl rfl (any_of HT_.out (by kernel_rfl)) (fun _ _ _ h => h) (Or.inl ⟨by rfl, ?_⟩) ?_ ?_
     rotate_left
     ·intro w'
      go_simp
      with_reducible rfl
     rotate_left
     ·simp only [Act.put, List.setIfInBounds_toArray, List.set_cons_zero, List.set_cons_succ, i64_w, i32_w]
      rfl
     refine pure_ (i := 3) (N := some 36) (v := ?_) (a' := ?_) #[tT, tT, tT, tT, tF, tF, tF, tF, tF, tF, tF, tF, tF, tF, tF, tF, tF, tF, tF, tF, tF, tF, tF, tF, tF, tF, tF, tF, tF, tF, tF] rfl rfl (any_of HT_.out (by kernel_rfl)) (fun _ _ _ h => h) (Or.inl ⟨by rfl, ?_⟩) ?_ ?_
     rotate_left
     ·intro w'
      go_simp
      with_reducible rfl
     rotate_left
     ·simp only [Act.put, List.setIfInBounds_toArray, List.set_cons_zero, List.set_cons_succ, i64_w, i32_w]
      rfl
     refine pure_ (i := 4) (N := some 37) (v := ?_) (a' := ?_) #[tT, tT, tT, tT, tT, tF, tF, tF, tF, tF, tF, tF, tF, tF, tF, tF, tF, tF, tF, tF, tF, tF, tF, tF, tF, tF, tF, tF, tF, tF, tF] rfl rfl (any_of HT_.out (by kernel_rfl)) (fun _ _ _ h => h) (Or.inl ⟨by rfl, ?_⟩) ?_ ?_
     rotate_left
     ·intro w'
      go_simp
      with_reducible rfl
     rotate_left
     ·simp only [Act.put, List.setIfInBounds_toArray, List.set_cons_zero, List.set_cons_succ, i64_w, i32_w]
      rfl
     refine pure_ (i := 5) (N := some 38) (v := ?_) (a' := ?_) #[tT, tT, tT, tT, tT, tT, tF, tF, tF, tF, tF, tF, tF, tF, tF, tF, tF, tF, tF, tF, tF, tF, tF, tF, tF, tF, tF, tF, tF, tF, tF] rfl rfl (any_of HT_.out (by kernel_rfl)) (fun _ _ _ h => h) (Or.inl ⟨by rfl, ?_⟩) ?_ ?_
     rotate_left
     ·intro w'
      go_simp
      with_reducible rfl
     rotate_left
     ·simp only [Act.put, List.setIfInBounds_toArray, List.set_cons_zero, List.set_cons_succ, i64_w, i32_w]
      rfl
     refine pure_ (i := 6) (N := some 39) (v := ?_) (a' := ?_) #[tT, tT, tT, tT, tT, tT, tT, tF, tF, tF, tF, tF, tF, tF, tF, tF, tF, tF, tF, tF, tF, tF, tF, tF, tF, tF, tF, tF, tF, tF, tF] rfl rfl (any_of HT_.out (by kernel_rfl)) (fun _ _ _ h => h) (Or.inl ⟨by rfl, ?_⟩) ?_ ?_
     rotate_left
     ·intro w'
      go_simp
      with_reducible rfl
     rotate_left
     ·simp only [Act.put, List.setIfInBounds_toArray, List.set_cons_zero, List.set_cons_succ, i64_w, i32_w]
      rfl
     refine pure_ (i := 7) (N := some 40) (v := ?_) (a' := ?_) #[tT, tT, tT, tT, tT, tT, tT, tT, tF, tF, tF, tF, tF, tF, tF, tF, tF, tF, tF, tF, tF, tF, tF, tF, tF, tF, tF, tF, tF, tF, tF] rfl rfl (any_of HT_.out (by kernel_rfl)) (fun _ _ _ h => h) (Or.inl ⟨by rfl, ?_⟩) ?_ ?_
     rotate_left
     ·intro w'
      go_simp
      with_reducible rfl
     rotate_left
     ·simp only [Act.put, List.setIfInBounds_toArray, List.set_cons_zero, List.set_cons_succ, i64_w, i32_w]
      rfl
     refine pure_ (i := 8) (N := some 41) (v := ?_) (a' := ?_) #[tT, tT, tT, tT, tT, tT, tT, tT, tT, tF, tF, tF, tF, tF, tF, tF, tF, tF, tF, tF, tF, tF, tF, tF, tF, tF, tF, tF, tF, tF, tF] rfl rfl (any_of HT_.out (by kernel_rfl)) (fun _ _ _ h => h) (Or.inl ⟨by rfl, ?_⟩) ?_ ?_
     rotate_left
     ·intro w'
      go_simp
      with_reducible rfl
     rotate_left
     ·simp only [Act.put, List.setIfInBounds_toArray, List.set_cons_zero, List.set_cons_succ, i64_w, i32_w]
      rfl
     refine pure_ (i := 9) (N := some 42) (v := ?_) (a' := ?_) #[tT, tT, tT, tT, tT, tT, tT, tT, tT, tT, tF, tF, tF, tF, tF, tF, tF, tF, tF, tF, tF, tF, tF, tF, tF, tF, tF, tF, tF, tF, tF] rfl rfl (any_of HT_.out (by kernel_rfl)) (fun _ _ _ h => h) (Or.inl ⟨by rfl, ?_⟩) ?_ ?_
     rotate_left
     ·intro w'
      go_simp
      with_reducible rfl
     rotate_left
     ·simp only [Act.put, List.setIfInBounds_toArray, List.set_cons_zero, List.set_cons_succ, i64_w, i32_w]
      rfl
     refine pure_ (i := 10) (N := some 43) (v := ?_) (a' := ?_) #[tT, tT, tT, tT, tT, tT, tT, tT, tT, tT, tT, tF, tF, tF, tF, tF, tF, tF, tF, tF, tF, tF, tF, tF, tF, tF, tF, tF, tF, tF, tF] rfl rfl (any_of HT_.out (by kernel_rfl)) (fun _ _ _ h => h) (Or.inl ⟨by rfl, ?_⟩) ?_ ?_
     rotate_left
     ·intro w'
      go_simp
      with_reducible rfl
     rotate_left
     ·simp only [Act.put, List.setIfInBounds_toArray, List.set_cons_zero, List.set_cons_succ, i64_w, i32_w]
      rfl
     refine pure_ (i := 11) (N := some 44) (v := ?_) (a' := ?_) #[tT, tT, tT, tT, tT, tT, tT, tT, tT, tT, tT, tT, tF, tF, tF, tF, tF, tF, tF, tF, tF, tF, tF, tF, tF, tF, tF, tF, tF, tF, tF] rfl rfl (any_of HT_.out (by kernel_rfl)) (fun _ _ _ h => h) (Or.inl ⟨by rfl, ?_⟩) ?_ ?_
     rotate_left
     ·intro w'
      go_simp
      with_reducible rfl
     rotate_left
     ·simp only [Act.put, List.setIfInBounds_toArray, List.set_cons_zero, List.set_cons_succ, i64_w, i32_w]
      rfl
     refine pure_ (i := 12) (N := some 45) (v := ?_) (a' := ?_) #[tT, tT, tT, tT, tT, tT, tT, tT, tT, tT, tT, tT, tT, tF, tF, tF, tF, tF, tF, tF, tF, tF, tF, tF, tF, tF, tF, tF, tF, tF, tF] rfl rfl (any_of HT_.out (by kernel_rfl)) (fun _ _ _ h => h) (Or.inl ⟨by rfl, ?_⟩) ?_ ?_
     rotate_left
     ·intro w'
      go_simp
      with_reducible rfl
     rotate_left
     ·simp only [Act.put, List.setIfInBounds_toArray, List.set_cons_zero, List.set_cons_succ, i64_w, i32_w]
      rfl
     refine pure_ (i := 13) (N := some 46) (v := ?_) (a' := ?_) #[tT, tT, tT, tT, tT, tT, tT, tT, tT, tT, tT, tT, tT, tT, tF, tF, tF, tF, tF, tF, tF, tF, tF, tF, tF, tF, tF, tF, tF, tF, tF] rfl rfl (any_of HT_.out (by kernel_rfl)) (fun _ _ _ h => h) (Or.inl ⟨by rfl, ?_⟩) ?_ ?_
     rotate_left
     ·intro w'
      go_simp
      with_reducible rfl
     rotate_left
     ·simp only [Act.put, List.setIfInBounds_toArray, List.set_cons_zero, List.set_cons_succ, i64_w, i32_w]
      rfl
     refine pure_ (i := 14) (N := some 47) (v := ?_) (a' := ?_) #[tT, tT, tT, tT, tT, tT, tT, tT, tT, tT, tT, tT, tT, tT, tT, tF, tF, tF, tF, tF, tF, tF, tF, tF, tF, tF, tF, tF, tF, tF, tF] rfl rfl (any_of HT_.out (by kernel_rfl)) (fun _ _ _ h => h) (Or.inl ⟨by rfl, ?_⟩) ?_ ?_
     rotate_left
     ·intro w'
      go_simp
      with_reducible rfl
     rotate_left
     ·simp only [Act.put, List.setIfInBounds_toArray, List.set_cons_zero, List.set_cons_succ, i64_w, i32_w]
      rfl
     refine pure_ (i := 15) (N := some 48) (v := ?_) (a' := ?_) #[tT, tT, tT, tT, tT, tT, tT, tT, tT, tT, tT, tT, tT, tT, tT, tT, tF, tF, tF, tF, tF, tF, tF, tF, tF, tF, tF, tF, tF, tF, tF] rfl rfl (any_of HT_.out (by kernel_rfl)) (fun _ _ _ h => h) (Or.inl ⟨by rfl, ?_⟩) ?_ ?_
     rotate_left
     ·intro w'
      go_simp
      with_reducible rfl
     rotate_left
     ·simp only [Act.put, List.setIfInBounds_toArray, List.set_cons_zero, List.set_cons_succ, i64_w, i32_w]
      rfl
     refine pure_ (i := 16) (N := some 49) (v := ?_) (a' := ?_) #[tT, tT, tT, tT, tT, tT, tT, tT, tT, tT, tT, tT, tT, tT, tT, tT, tT, tF, tF, tF, tF, tF, tF, tF, tF, tF, tF, tF, tF, tF, tF] rfl rfl (any_of HT_.out (by kernel_rfl)) (fun _ _ _ h => h) (Or.inl ⟨by rfl, ?_⟩) ?_ ?_
     rotate_left
     ·intro w'
      go_simp
      with_reducible rfl
     rotate_left
     ·simp only [Act.put, List.setIfInBounds_toArray, List.set_cons_zero, List.set_cons_succ, i64_w, i32_w]
      rfl
     refine pure_ (i := 17) (N := some 50) (v := undef) (a' := ?_) #[tT, tT, tT, tT, tT, tT, tT, tT, tT, tT, tT, tT, tT, tT, tT, tT, tT, tT, tF, tF, tF, tF, tF, tF, tF, tF, tF, tF, tF, tF, tF] rfl rfl (any_of HT_.out (by kernel_rfl)) (fun _ _ _ h => h) (Or.inr ⟨by rfl, rfl⟩) ?_ ?_
     rotate_left
     ·simp only [Act.put, List.setIfInBounds_toArray, List.set_cons_zero, List.set_cons_succ, i64_w, i32_w]
      rfl
     refine pure_ (i := 18) (N := some 51) (v := undef) (a' := ?_) #[tT, tT, tT, tT, tT, tT, tT, tT, tT, tT, tT, tT, tT, tT, tT, tT, tT, tT, tT, tF, tF, tF, tF, tF, tF, tF, tF, tF, tF, tF, tF] rfl rfl (any_of HT_.out (by kernel_rfl)) (fun _ _ _ h => h) (Or.inr ⟨by rfl, rfl⟩) ?_ ?_
     rotate_left
     ·simp only [Act.put, List.setIfInBounds_toArray, List.set_cons_zero, List.set_cons_succ, i64_w, i32_w]
      rfl
     refine pure_ (i := 19) (N := some 52) (v := undef) (a' := ?_) #[tT, tT, tT, tT, tT, tT, tT, tT, tT, tT, tT, tT, tT, tT, tT, tT, tT, tT, tT, tT, tF, tF, tF, tF, tF, tF, tF, tF, tF, tF, tF] rfl rfl (any_of HT_.out (by kernel_rfl)) (fun _ _ _ h => h) (Or.inr ⟨by rfl, rfl⟩) ?_ ?_
     rotate_left
     ·simp only [Act.put, List.setIfInBounds_toArray, List.set_cons_zero, List.set_cons_succ, i64_w, i32_w]
      rfl
     refine pure_ (i := 20) (N := some 53) (v := ?_) (a' := ?_) #[tT, tT, tT, tT, tT, tT, tT, tT, tT, tT, tT, tT, tT, tT, tT, tT, tT, tT, tT, tT, tT, tF, tF, tF, tF, tF, tF, tF, tF, tF, tF] rfl rfl (any_of HT_.out (by kernel_rfl)) (fun _ _ _ h => h) (Or.inl ⟨by rfl, ?_⟩) ?_ ?_
     rotate_left
     ·intro w'
      go_simp
      with_reducible rfl
     rotate_left
     ·simp only [Act.put, List.setIfInBounds_toArray, List.set_cons_zero, List.set_cons_succ, i64_w, i32_w]
      rfl
     refine pure_ (i := 21) (N := some 54) (v := ?_) (a' := ?_) #[tT, tT, tT, tT, tT, tT, tT, tT, tT, tT, tT, tT, tT, tT, tT, tT, tT, tT, tT, tT, tT, tT, tF, tF, tF, tF, tF, tF, tF, tF, tF] rfl rfl (any_of HT_.out (by kernel_rfl)) (fun _ _ _ h => h) (Or.inl ⟨by rfl, ?_⟩) ?_ ?_
     rotate_left
     ·intro w'
      go_simp
      with_reducible rfl
     rotate_left
     ·simp only [Act.put, List.setIfInBounds_toArray, List.set_cons_zero, List.set_cons_succ, i64_w, i32_w]
      rfl
     refine pure_ (i := 22) (N := some 55) (v := undef) (a' := ?_) #[tT, tT, tT, tT, tT, tT, tT, tT, tT, tT, tT, tT, tT, tT, tT, tT, tT, tT, tT, tT, tT, tT, tT, tF, tF, tF, tF, tF, tF, tF, tF] rfl rfl (any_of HT_.out (by kernel_rfl)) (fun _ _ _ h => h) (Or.inr ⟨by rfl, rfl⟩) ?_ ?_
     rotate_left
     ·simp only [Act.put, List.setIfInBounds_toArray, List.set_cons_zero, List.set_cons_succ, i64_w, i32_w]
      rfl
     refine pure_ (i := 23) (N := some 56) (v := undef) (a' := ?_) #[tT, tT, tT, tT, tT, tT, tT, tT, tT, tT, tT, tT, tT, tT, tT, tT, tT, tT, tT, tT, tT, tT, tT, tT, tF, tF, tF, tF, tF, tF, tF] rfl rfl (any_of HT_.out (by kernel_rfl)) (fun _ _ _ h => h) (Or.inr ⟨by rfl, rfl⟩) ?_ ?_
     rotate_left
     ·simp only [Act.put, List.setIfInBounds_toArray, List.set_cons_zero, List.set_cons_succ, i64_w, i32_w]
      rfl
     refine pure_ (i := 24) (N := some 57) (v := undef) (a' := ?_) #[tT, tT, tT, tT, tT, tT, tT, tT, tT, tT, tT, tT, tT, tT, tT, tT, tT, tT, tT, tT, tT, tT, tT, tT, tT, tF, tF, tF, tF, tF, tF] rfl rfl (any_of HT_.out (by kernel_rfl)) (fun _ _ _ h => h) (Or.inr ⟨by rfl, rfl⟩) ?_ ?_
     rotate_left
     ·simp only [Act.put, List.setIfInBounds_toArray, List.set_cons_zero, List.set_cons_succ, i64_w, i32_w]
      rfl
     refine pure_ (i := 25) (N := some 58) (v := undef) (a' := ?_) #[tT, tT, tT, tT, tT, tT, tT, tT, tT, tT, tT, tT, tT, tT, tT, tT, tT, tT, tT, tT, tT, tT, tT, tT, tT, tT, tF, tF, tF, tF, tF] rfl rfl (any_of HT_.out (by kernel_rfl)) (fun _ _ _ h => h) (Or.inr ⟨by rfl, rfl⟩) ?_ ?_
     rotate_left
     ·simp only [Act.put, List.setIfInBounds_toArray, List.set_cons_zero, List.set_cons_succ, i64_w, i32_w]
      rfl
     refine pure_ (i := 26) (N := some 59) (v := undef) (a' := ?_) #[tT, tT, tT, tT, tT, tT, tT, tT, tT, tT, tT, tT, tT, tT, tT, tT, tT, tT, tT, tT, tT, tT, tT, tT, tT, tT, tT, tF, tF, tF, tF] rfl rfl (any_of HT_.out (by kernel_rfl)) (fun _ _ _ h => h) (Or.inr ⟨by rfl, rfl⟩) ?_ ?_
     rotate_left
     ·simp only [Act.put, List.setIfInBounds_toArray, List.set_cons_zero, List.set_cons_succ, i64_w, i32_w]
      rfl
     refine pure_ (i := 27) (N := some 60) (v := undef) (a' := ?_) #[tT, tT, tT, tT, tT, tT, tT, tT, tT, tT, tT, tT, tT, tT, tT, tT, tT, tT, tT, tT, tT, tT, tT, tT, tT, tT, tT, tT, tF, tF, tF] rfl rfl (any_of HT_.out (by kernel_rfl)) (fun _ _ _ h => h) (Or.inr ⟨by rfl, rfl⟩) ?_ ?_
     rotate_left
     ·simp only [Act.put, List.setIfInBounds_toArray, List.set_cons_zero, List.set_cons_succ, i64_w, i32_w]
      rfl
     refine pure_ (i := 28) (N := some 61) (v := undef) (a' := ?_) #[tT, tT, tT, tT, tT, tT, tT, tT, tT, tT, tT, tT, tT, tT, tT, tT, tT, tT, tT, tT, tT, tT, tT, tT, tT, tT, tT, tT, tT, tF, tF] rfl rfl (any_of HT_.out (by kernel_rfl)) (fun _ _ _ h => h) (Or.inr ⟨by rfl, rfl⟩) ?_ ?_
     rotate_left
     ·simp only [Act.put, List.setIfInBounds_toArray, List.set_cons_zero, List.set_cons_succ, i64_w, i32_w]
      rfl
     refine pure_ (i := 29) (N := some 62) (v := ?_) (a' := ?_) #[tT, tT, tT, tT, tT, tT, tT, tT, tT, tT, tT, tT, tT, tT, tT, tT, tT, tT, tT, tT, tT, tT, tT, tT, tT, tT, tT, tT, tT, tT, tF] rfl rfl (any_of HT_.out (by kernel_rfl)) (fun _ _ _ h => h) (Or.inl ⟨by rfl, ?_⟩) ?_ ?_
     rotate_left
     ·intro w'
      go_simp
      with_reducible rfl
     rotate_left
     ·simp only [Act.put, List.setIfInBounds_toArray, List.set_cons_zero, List.set_cons_succ, i64_w, i32_w]
      rfl
     refine pure_ (i := 30) (N := some 2) (v := ?_) (a' := ?_) #[tT, tT, tT, tT, tT, tT, tT, tT, tT, tT, tT, tT, tT, tT, tT, tT, tT, tT, tT, tT, tT, tT, tT, tT, tT, tT, tT, tT, tT, tT, tT] rfl rfl (any_of HT_.out (by kernel_rfl)) (fun _ _ _ h => h) (Or.inl ⟨by rfl, ?_⟩) ?_ ?_
     rotate_left
     ·intro w'
      go_simp
      with_reducible rfl
     rotate_left
     ·simp only [Act.put, List.setIfInBounds_toArray, List.set_cons_zero, List.set_cons_succ, i64_w, i32_w]
      rfl
     refine done_ (done_of HT_.out (by kernel_rfl)) ?_
     try go_wp2
     go_ret
     exact ⟨by first | rfl | (simp [errW_none, errW_some] <;> rfl) | (simp [*, errW_none, errW_some] <;> rfl), by repeat (first | (with_reducible first | exact HB.out | apply below_alloc | apply pw_below_drewN | apply below_drew1 | refine below_set ?_ GE133.out | refine below_set ?_ GE153.out | refine below_set ?_ GE163.out) | exact HB.out)⟩
   ·rw [if_neg c11] at H
    have c11b0 : (t138 == t140) = false := beq_eq_false_iff_ne.mpr c11
    have c11b1 : (t138 != t140) = true := bne_iff_ne.mpr c11
    obtain rfl := Option.some.inj H
    go_enter Tryd.func3, Tryd.ntmps3
    try go_wp2_with (first | ((with_reducible refine gate_dst (N := 1) rfl ?_); refine box_event ?hg (N := 1) ?hd (cs := #[.int .i64 a0_0, .int .i64 a0_1, .int .i64 a0_2]) (t := 23) ?hr ?_; (case hd => rfl); (case hg => rfl); (case hr => first | (go_simp; done) | (go_simp; rfl)); intro gb133 hg w82 hbox hb; have n0_ := Aside0.mk (below_step (by repeat (first | (with_reducible first | exact HB.out | apply below_alloc | apply pw_below_drewN | apply below_drew1) | exact HB.out)) hb); have n1_ := Aside0.mk (hbox); have n2_ := Aside0.mk ((by rw [hg]; exact (below_size (by repeat (first | (with_reducible first | exact HB.out | apply below_alloc | apply pw_below_drewN | apply below_drew1) | exact HB.out))) : w.heap.size ≤ gb133)); have n3_ := n2_; clear HB; have HB := n0_; have BK133 := n1_; have GW133 := n2_; have GE133 := n3_; clear n0_ n1_ n2_ n3_; clear hb hbox hg; have hcz83_0 : w82.cell? ⟨gb133, 0, none⟩ = some (.int .i64 a0_0) := (blk_cell BK133.out 0).trans rfl; have hcz83_1 : w82.cell? ⟨gb133, 1, none⟩ = some (.int .i64 a0_1) := (blk_cell BK133.out 1).trans rfl; have hcz83_2 : w82.cell? ⟨gb133, 2, none⟩ = some (.int .i64 a0_2) := (blk_cell BK133.out 2).trans rfl; have hfz83_0 := blk_frozen BK133.out 0; have hfz83_1 := blk_frozen BK133.out 1; have hfz83_2 := blk_frozen BK133.out 2) | ((with_reducible refine gate_callee (f := 8) rfl ?_); refine goesL_ (some 13) rfl rfl Tryd.func8 (by kernel_rfl) rfl #[.agg #[.int .i64 a0_0, .int .i64 a0_1, .int .i64 a0_2]] rfl (by (try simp only [List.map_toArray, List.map_cons, List.map_nil]); first | done | rfl) ?_; (with_reducible refine (lapwinglaw07_made.calls a0_0 a0_1 a0_2 t134 t135 t136 _ A2.out).mono ?_); rintro e w84 ⟨rfl, hb⟩; refine ⟨_, rfl, ?_⟩; have n0_ := Aside0.mk (blk_below (g := gb133) (o := .cells #[.int .i64 a0_0, .int .i64 a0_1, .int .i64 a0_2] 23 (0, 0)) (by (with_reducible repeat (first | apply blk_drewN | apply blk_drew | apply blk_alloc)); exact BK133.out) hb); have n1_ := Aside0.mk (below_step (by repeat (first | (with_reducible first | exact HB.out | apply below_alloc | apply pw_below_drewN | apply below_drew1 | refine below_set ?_ GE133.out) | exact HB.out)) hb); clear BK133; clear HB; have BK133 := n0_; have HB := n1_; clear n0_ n1_; (try clear hb); (try clear hb2); (try clear hk); (try clear hi)) | ((with_reducible refine gate_callee (f := 7) rfl ?_); refine goesL_ (some 14) rfl rfl Tryd.func7 (by kernel_rfl) rfl #[.agg #[.int .i64 t134, .int .i64 t135, .int .i64 t136]] rfl (by (try simp only [List.map_toArray, List.map_cons, List.map_nil]); first | done | rfl) ?_; (with_reducible refine (teimsg_Put.calls k t134 t135 t136 t137 t138 _ A3.out).mono ?_); rintro e w85 ⟨rfl, hb⟩; refine ⟨_, rfl, ?_⟩; have n0_ := Aside0.mk (blk_below (g := gb133) (o := .cells #[.int .i64 a0_0, .int .i64 a0_1, .int .i64 a0_2] 23 (0, 0)) (by (with_reducible repeat (first | apply blk_drewN | apply blk_drew | apply blk_alloc)); exact BK133.out) hb); have n1_ := Aside0.mk (below_step (by repeat (first | (with_reducible first | exact HB.out | apply below_alloc | apply pw_below_drewN | apply below_drew1 | refine below_set ?_ GE133.out) | exact HB.out)) hb); clear BK133; clear HB; have BK133 := n0_; have HB := n1_; clear n0_ n1_; (try clear hb); (try clear hb2); (try clear hk); (try clear hi); have hcz86_0 : w85.cell? ⟨gb133, 0, none⟩ = some (.int .i64 a0_0) := (blk_cell BK133.out 0).trans rfl; have hcz86_1 : w85.cell? ⟨gb133, 1, none⟩ = some (.int .i64 a0_1) := (blk_cell BK133.out 1).trans rfl; have hcz86_2 : w85.cell? ⟨gb133, 2, none⟩ = some (.int .i64 a0_2) := (blk_cell BK133.out 2).trans rfl; have hfz86_0 := blk_frozen BK133.out 0; have hfz86_1 := blk_frozen BK133.out 1; have hfz86_2 := blk_frozen BK133.out 2) | ((with_reducible refine gate_callee (f := 9) rfl ?_); refine goesL_ (some 19) rfl rfl Tryd.func9 (by kernel_rfl) rfl #[.agg #[.int .i64 a0_0, .int .i64 a0_1, .int .i64 a0_2]] rfl (by (try simp only [List.map_toArray, List.map_cons, List.map_nil]); first | done | rfl) ?_; (with_reducible refine (lapwingref07_Put.calls k a0_0 a0_1 a0_2 t139 t140 _ A4.out).mono ?_); rintro e w87 ⟨rfl, hb⟩; refine ⟨_, rfl, ?_⟩; have n0_ := Aside0.mk (blk_below (g := gb133) (o := .cells #[.int .i64 a0_0, .int .i64 a0_1, .int .i64 a0_2] 23 (0, 0)) (by (with_reducible repeat (first | apply blk_drewN | apply blk_drew | apply blk_alloc)); exact BK133.out) hb); have n1_ := Aside0.mk (below_step (by repeat (first | (with_reducible first | exact HB.out | apply below_alloc | apply pw_below_drewN | apply below_drew1 | refine below_set ?_ GE133.out) | exact HB.out)) hb); clear BK133; clear HB; have BK133 := n0_; have HB := n1_; clear n0_ n1_; (try clear hb); (try clear hb2); (try clear hk); (try clear hi); have hcz88_0 : w87.cell? ⟨gb133, 0, none⟩ = some (.int .i64 a0_0) := (blk_cell BK133.out 0).trans rfl; have hcz88_1 : w87.cell? ⟨gb133, 1, none⟩ = some (.int .i64 a0_1) := (blk_cell BK133.out 1).trans rfl; have hcz88_2 : w87.cell? ⟨gb133, 2, none⟩ = some (.int .i64 a0_2) := (blk_cell BK133.out 2).trans rfl; have hfz88_0 := blk_frozen BK133.out 0; have hfz88_1 := blk_frozen BK133.out 1; have hfz88_2 := blk_frozen BK133.out 2) | ((with_reducible refine gate_callee (f := 8) rfl ?_); refine goesL_ (some 24) rfl rfl Tryd.func8 (by kernel_rfl) rfl #[.agg #[.int .i64 a0_0, .int .i64 a0_1, .int .i64 a0_2]] rfl (by (try simp only [List.map_toArray, List.map_cons, List.map_nil]); first | done | rfl) ?_; (with_reducible refine (lapwinglaw07_made.calls a0_0 a0_1 a0_2 t141 t142 t143 _ A5.out).mono ?_); rintro e w89 ⟨rfl, hb⟩; refine ⟨_, rfl, ?_⟩; have n0_ := Aside0.mk (blk_below (g := gb133) (o := .cells #[.int .i64 a0_0, .int .i64 a0_1, .int .i64 a0_2] 23 (0, 0)) (by (with_reducible repeat (first | apply blk_drewN | apply blk_drew | apply blk_alloc)); exact BK133.out) hb); have n1_ := Aside0.mk (below_step (by repeat (first | (with_reducible first | exact HB.out | apply below_alloc | apply pw_below_drewN | apply below_drew1 | refine below_set ?_ GE133.out) | exact HB.out)) hb); clear BK133; clear HB; have BK133 := n0_; have HB := n1_; clear n0_ n1_; (try clear hb); (try clear hb2); (try clear hk); (try clear hi)) | ((with_reducible refine gate_callee (f := 10) rfl ?_); refine goesL_ (some 25) rfl rfl Tryd.func10 (by kernel_rfl) rfl #[.agg #[.int .i64 t141, .int .i64 t142, .int .i64 t143]] rfl (by (try simp only [List.map_toArray, List.map_cons, List.map_nil]); first | done | rfl) ?_; (with_reducible refine (teimsg_Frame.calls k t141 t142 t143 t144 t145 t146 t147 t148 t149 t150 t151 t152 _ ?side1 A6.out).mono ?_); (case side1 => first | (with_reducible exact HL.out) | (with_reducible exact Go.Proofs.YtmgiolpooamkkaaDoorX.Laid_drewN HL.out _) | exact Go.Proofs.YtmgiolpooamkkaaDoorX.Laid_below HL.out (by repeat (first | (with_reducible first | exact HB.out | apply below_alloc | apply pw_below_drewN | apply below_drew1 | refine below_set ?_ GE133.out) | exact HB.out))); rintro e w90 ⟨rfl, hb⟩; refine ⟨_, rfl, ?_⟩; have n0_ := Aside0.mk (blk_below (g := gb133) (o := .cells #[.int .i64 a0_0, .int .i64 a0_1, .int .i64 a0_2] 23 (0, 0)) (by (with_reducible repeat (first | apply blk_drewN | apply blk_drew | apply blk_alloc)); exact BK133.out) hb); have n1_ := Aside0.mk (below_step (by repeat (first | (with_reducible first | exact HB.out | apply below_alloc | apply pw_below_drewN | apply below_drew1 | refine below_set ?_ GE133.out) | exact HB.out)) hb); clear BK133; clear HB; have BK133 := n0_; have HB := n1_; clear n0_ n1_; (try clear hb); (try clear hb2); (try clear hk); (try clear hi)) | ((with_reducible refine gate_dst (N := 7) rfl ?_); refine box_event ?hg (N := 7) ?hd (cs := #[.int .i64 0, .int .i64 0, .bool false, .int .i64 0, .bool false, .int .i64 0, .int .i64 0, .string (⟨#[]⟩ : ByteArray)]) (t := 38) ?hr ?_; (case hd => rfl); (case hg => rfl); (case hr => first | (go_simp; done) | (go_simp; rfl)); intro gb153 hg w91 hbox hb; have n0_ := Aside0.mk (blk_below (g := gb133) (o := .cells #[.int .i64 a0_0, .int .i64 a0_1, .int .i64 a0_2] 23 (0, 0)) (by (with_reducible repeat (first | apply blk_drewN | apply blk_drew | apply blk_alloc)); exact BK133.out) hb); have n1_ := Aside0.mk (below_step (by repeat (first | (with_reducible first | exact HB.out | apply below_alloc | apply pw_below_drewN | apply below_drew1 | refine below_set ?_ GE133.out) | exact HB.out)) hb); have n2_ := Aside0.mk (hbox); have n3_ := Aside0.mk ((by rw [hg]; exact (below_size (by repeat (first | (with_reducible first | exact HB.out | apply below_alloc | apply pw_below_drewN | apply below_drew1 | refine below_set ?_ GE133.out) | exact HB.out))) : w.heap.size ≤ gb153)); have n4_ := n3_; have n5_ := Aside0.mk ((by rw [hg]; exact Nat.ne_of_lt (blk_lt (g := gb133) (o := .cells #[.int .i64 a0_0, .int .i64 a0_1, .int .i64 a0_2] 23 (0, 0)) (by (with_reducible repeat (first | apply blk_drewN | apply blk_drew | apply blk_alloc)); exact BK133.out)) : gb133 ≠ gb153)); have n6_ := Aside0.mk (Ne.symm n5_.out); clear BK133; clear HB; have BK133 := n0_; have HB := n1_; have BK153 := n2_; have GW153 := n3_; have GE153 := n4_; have NB133_153 := n5_; have NB153_133 := n6_; clear n0_ n1_ n2_ n3_ n4_ n5_ n6_; clear hb hbox hg; have hnb92 := NB153_133.out; have hnc92 := NB133_153.out; have hcz93_0 : w91.cell? ⟨gb153, 0, none⟩ = some (.int .i64 0) := (blk_cell BK153.out 0).trans rfl; have hcz93_1 : w91.cell? ⟨gb153, 1, none⟩ = some (.int .i64 0) := (blk_cell BK153.out 1).trans rfl; have hcz93_2 : w91.cell? ⟨gb153, 2, none⟩ = some (.bool false) := (blk_cell BK153.out 2).trans rfl; have hcz93_3 : w91.cell? ⟨gb153, 3, none⟩ = some (.int .i64 0) := (blk_cell BK153.out 3).trans rfl; have hcz93_4 : w91.cell? ⟨gb153, 4, none⟩ = some (.bool false) := (blk_cell BK153.out 4).trans rfl; have hcz93_5 : w91.cell? ⟨gb153, 5, none⟩ = some (.int .i64 0) := (blk_cell BK153.out 5).trans rfl; have hcz93_6 : w91.cell? ⟨gb153, 6, none⟩ = some (.int .i64 0) := (blk_cell BK153.out 6).trans rfl; have hcz93_7 : w91.cell? ⟨gb153, 7, none⟩ = some (.string (⟨#[]⟩ : ByteArray)) := (blk_cell BK153.out 7).trans rfl; have hfz93_0 := blk_frozen BK153.out 0; have hfz93_1 := blk_frozen BK153.out 1; have hfz93_2 := blk_frozen BK153.out 2; have hfz93_3 := blk_frozen BK153.out 3; have hfz93_4 := blk_frozen BK153.out 4; have hfz93_5 := blk_frozen BK153.out 5; have hfz93_6 := blk_frozen BK153.out 6; have hfz93_7 := blk_frozen BK153.out 7; have hcz94_0 : w91.cell? ⟨gb133, 0, none⟩ = some (.int .i64 a0_0) := (blk_cell BK133.out 0).trans rfl; have hcz94_1 : w91.cell? ⟨gb133, 1, none⟩ = some (.int .i64 a0_1) := (blk_cell BK133.out 1).trans rfl; have hcz94_2 : w91.cell? ⟨gb133, 2, none⟩ = some (.int .i64 a0_2) := (blk_cell BK133.out 2).trans rfl; have hfz94_0 := blk_frozen BK133.out 0; have hfz94_1 := blk_frozen BK133.out 1; have hfz94_2 := blk_frozen BK133.out 2) | ((with_reducible refine gate_callee (f := 11) rfl ?_); refine goesL_ (some 30) rfl rfl Tryd.func11 (by kernel_rfl) rfl #[.agg #[.int .i64 a0_0, .int .i64 a0_1, .int .i64 a0_2]] rfl (by (try simp only [List.map_toArray, List.map_cons, List.map_nil]); first | done | rfl) ?_; (with_reducible refine (lapwingref07_Frame.calls k a0_0 a0_1 a0_2 t154 t155 t156 t157 t158 t159 t160 t161 t162 _ A7.out).mono ?_); rintro e w95 ⟨rfl, hb⟩; refine ⟨_, rfl, ?_⟩; have n0_ := Aside0.mk (blk_below (g := gb133) (o := .cells #[.int .i64 a0_0, .int .i64 a0_1, .int .i64 a0_2] 23 (0, 0)) (by (with_reducible repeat (first | apply blk_drewN | apply blk_drew | apply blk_alloc)); refine blk_far ?_ NB133_153.out _; (with_reducible repeat (first | apply blk_drewN | apply blk_drew | apply blk_alloc)); refine blk_far ?_ NB133_153.out _; (with_reducible repeat (first | apply blk_drewN | apply blk_drew | apply blk_alloc)); refine blk_far ?_ NB133_153.out _; (with_reducible repeat (first | apply blk_drewN | apply blk_drew | apply blk_alloc)); refine blk_far ?_ NB133_153.out _; (with_reducible repeat (first | apply blk_drewN | apply blk_drew | apply blk_alloc)); refine blk_far ?_ NB133_153.out _; (with_reducible repeat (first | apply blk_drewN | apply blk_drew | apply blk_alloc)); refine blk_far ?_ NB133_153.out _; (with_reducible repeat (first | apply blk_drewN | apply blk_drew | apply blk_alloc)); refine blk_far ?_ NB133_153.out _; (with_reducible repeat (first | apply blk_drewN | apply blk_drew | apply blk_alloc)); refine blk_far ?_ NB133_153.out _; (with_reducible repeat (first | apply blk_drewN | apply blk_drew | apply blk_alloc)); exact BK133.out) hb); have n1_ := Aside0.mk (blk_below (g := gb153) (o := .cells #[.int .i64 t144, .int .i64 t145, .bool t146, .int .i64 t147, .bool t148, .int .i64 t149, .int .i64 t150, .string t151] 38 (0, 0)) (by (with_reducible repeat (first | apply blk_drewN | apply blk_drew | apply blk_alloc)); refine blk_put (cs := #[.int .i64 t144, .int .i64 t145, .bool t146, .int .i64 t147, .bool t148, .int .i64 t149, .int .i64 t150, .string (⟨#[]⟩ : ByteArray)]) ?_ 7 _ rfl; (with_reducible repeat (first | apply blk_drewN | apply blk_drew | apply blk_alloc)); refine blk_put (cs := #[.int .i64 t144, .int .i64 t145, .bool t146, .int .i64 t147, .bool t148, .int .i64 t149, .int .i64 0, .string (⟨#[]⟩ : ByteArray)]) ?_ 6 _ rfl; (with_reducible repeat (first | apply blk_drewN | apply blk_drew | apply blk_alloc)); refine blk_put (cs := #[.int .i64 t144, .int .i64 t145, .bool t146, .int .i64 t147, .bool t148, .int .i64 0, .int .i64 0, .string (⟨#[]⟩ : ByteArray)]) ?_ 5 _ rfl; (with_reducible repeat (first | apply blk_drewN | apply blk_drew | apply blk_alloc)); refine blk_put (cs := #[.int .i64 t144, .int .i64 t145, .bool t146, .int .i64 t147, .bool false, .int .i64 0, .int .i64 0, .string (⟨#[]⟩ : ByteArray)]) ?_ 4 _ rfl; (with_reducible repeat (first | apply blk_drewN | apply blk_drew | apply blk_alloc)); refine blk_put (cs := #[.int .i64 t144, .int .i64 t145, .bool t146, .int .i64 0, .bool false, .int .i64 0, .int .i64 0, .string (⟨#[]⟩ : ByteArray)]) ?_ 3 _ rfl; (with_reducible repeat (first | apply blk_drewN | apply blk_drew | apply blk_alloc)); refine blk_put (cs := #[.int .i64 t144, .int .i64 t145, .bool false, .int .i64 0, .bool false, .int .i64 0, .int .i64 0, .string (⟨#[]⟩ : ByteArray)]) ?_ 2 _ rfl; (with_reducible repeat (first | apply blk_drewN | apply blk_drew | apply blk_alloc)); refine blk_put (cs := #[.int .i64 t144, .int .i64 0, .bool false, .int .i64 0, .bool false, .int .i64 0, .int .i64 0, .string (⟨#[]⟩ : ByteArray)]) ?_ 1 _ rfl; (with_reducible repeat (first | apply blk_drewN | apply blk_drew | apply blk_alloc)); refine blk_put (cs := #[.int .i64 0, .int .i64 0, .bool false, .int .i64 0, .bool false, .int .i64 0, .int .i64 0, .string (⟨#[]⟩ : ByteArray)]) ?_ 0 _ rfl; (with_reducible repeat (first | apply blk_drewN | apply blk_drew | apply blk_alloc)); exact BK153.out) hb); have n2_ := Aside0.mk (below_step (by repeat (first | (with_reducible first | exact HB.out | apply below_alloc | apply pw_below_drewN | apply below_drew1 | refine below_set ?_ GE133.out | refine below_set ?_ GE153.out) | exact HB.out)) hb); clear BK133; clear BK153; clear HB; have BK133 := n0_; have BK153 := n1_; have HB := n2_; clear n0_ n1_ n2_; (try clear hb); (try clear hb2); (try clear hk); (try clear hi)) | ((with_reducible refine gate_dst (N := 9) rfl ?_); refine box_event ?hg (N := 9) ?hd (cs := #[.int .i64 0, .int .i64 0, .bool false, .int .i64 0, .bool false, .int .i64 0, .int .i64 0, .string (⟨#[]⟩ : ByteArray)]) (t := 42) ?hr ?_; (case hd => rfl); (case hg => rfl); (case hr => first | (go_simp; done) | (go_simp; rfl)); intro gb163 hg w96 hbox hb; have n0_ := Aside0.mk (blk_below (g := gb133) (o := .cells #[.int .i64 a0_0, .int .i64 a0_1, .int .i64 a0_2] 23 (0, 0)) (by (with_reducible repeat (first | apply blk_drewN | apply blk_drew | apply blk_alloc)); exact BK133.out) hb); have n1_ := Aside0.mk (blk_below (g := gb153) (o := .cells #[.int .i64 t144, .int .i64 t145, .bool t146, .int .i64 t147, .bool t148, .int .i64 t149, .int .i64 t150, .string t151] 38 (0, 0)) (by (with_reducible repeat (first | apply blk_drewN | apply blk_drew | apply blk_alloc)); exact BK153.out) hb); have n2_ := Aside0.mk (below_step (by repeat (first | (with_reducible first | exact HB.out | apply below_alloc | apply pw_below_drewN | apply below_drew1 | refine below_set ?_ GE133.out | refine below_set ?_ GE153.out) | exact HB.out)) hb); have n3_ := Aside0.mk (hbox); have n4_ := Aside0.mk ((by rw [hg]; exact (below_size (by repeat (first | (with_reducible first | exact HB.out | apply below_alloc | apply pw_below_drewN | apply below_drew1 | refine below_set ?_ GE133.out | refine below_set ?_ GE153.out) | exact HB.out))) : w.heap.size ≤ gb163)); have n5_ := n4_; have n6_ := Aside0.mk ((by rw [hg]; exact Nat.ne_of_lt (blk_lt (g := gb133) (o := .cells #[.int .i64 a0_0, .int .i64 a0_1, .int .i64 a0_2] 23 (0, 0)) (by (with_reducible repeat (first | apply blk_drewN | apply blk_drew | apply blk_alloc)); exact BK133.out)) : gb133 ≠ gb163)); have n7_ := Aside0.mk (Ne.symm n6_.out); have n8_ := Aside0.mk ((by rw [hg]; exact Nat.ne_of_lt (blk_lt (g := gb153) (o := .cells #[.int .i64 t144, .int .i64 t145, .bool t146, .int .i64 t147, .bool t148, .int .i64 t149, .int .i64 t150, .string t151] 38 (0, 0)) (by (with_reducible repeat (first | apply blk_drewN | apply blk_drew | apply blk_alloc)); exact BK153.out)) : gb153 ≠ gb163)); have n9_ := Aside0.mk (Ne.symm n8_.out); clear BK133; clear BK153; clear HB; have BK133 := n0_; have BK153 := n1_; have HB := n2_; have BK163 := n3_; have GW163 := n4_; have GE163 := n5_; have NB133_163 := n6_; have NB163_133 := n7_; have NB153_163 := n8_; have NB163_153 := n9_; clear n0_ n1_ n2_ n3_ n4_ n5_ n6_ n7_ n8_ n9_; clear hb hbox hg; have hnb97 := NB163_133.out; have hnc97 := NB133_163.out; have hnb98 := NB163_153.out; have hnc98 := NB153_163.out; have hcz99_0 : w96.cell? ⟨gb163, 0, none⟩ = some (.int .i64 0) := (blk_cell BK163.out 0).trans rfl; have hcz99_1 : w96.cell? ⟨gb163, 1, none⟩ = some (.int .i64 0) := (blk_cell BK163.out 1).trans rfl; have hcz99_2 : w96.cell? ⟨gb163, 2, none⟩ = some (.bool false) := (blk_cell BK163.out 2).trans rfl; have hcz99_3 : w96.cell? ⟨gb163, 3, none⟩ = some (.int .i64 0) := (blk_cell BK163.out 3).trans rfl; have hcz99_4 : w96.cell? ⟨gb163, 4, none⟩ = some (.bool false) := (blk_cell BK163.out 4).trans rfl; have hcz99_5 : w96.cell? ⟨gb163, 5, none⟩ = some (.int .i64 0) := (blk_cell BK163.out 5).trans rfl; have hcz99_6 : w96.cell? ⟨gb163, 6, none⟩ = some (.int .i64 0) := (blk_cell BK163.out 6).trans rfl; have hcz99_7 : w96.cell? ⟨gb163, 7, none⟩ = some (.string (⟨#[]⟩ : ByteArray)) := (blk_cell BK163.out 7).trans rfl; have hfz99_0 := blk_frozen BK163.out 0; have hfz99_1 := blk_frozen BK163.out 1; have hfz99_2 := blk_frozen BK163.out 2; have hfz99_3 := blk_frozen BK163.out 3; have hfz99_4 := blk_frozen BK163.out 4; have hfz99_5 := blk_frozen BK163.out 5; have hfz99_6 := blk_frozen BK163.out 6; have hfz99_7 := blk_frozen BK163.out 7))
    have n0_ : Aside0 (((((((((w96.setCell ⟨gb163, 0, none⟩ (.int .i64 t154)).setCell ⟨gb163, 1, none⟩ (.int .i64 t155)).setCell ⟨gb163, 2, none⟩ (.bool t156)).setCell ⟨gb163, 3, none⟩ (.int .i64 t157)).setCell ⟨gb163, 4, none⟩ (.bool t158)).setCell ⟨gb163, 5, none⟩ (.int .i64 t159)).setCell ⟨gb163, 6, none⟩ (.int .i64 t160)).setCell ⟨gb163, 7, none⟩ (.string t161)).heap[gb133]? = some (.cells #[.int .i64 a0_0, .int .i64 a0_1, .int .i64 a0_2] 23 (0, 0))) := ⟨by (with_reducible repeat (first | apply blk_drewN | apply blk_drew | apply blk_alloc)); refine blk_far ?_ NB133_163.out _; (with_reducible repeat (first | apply blk_drewN | apply blk_drew | apply blk_alloc)); refine blk_far ?_ NB133_163.out _; (with_reducible repeat (first | apply blk_drewN | apply blk_drew | apply blk_alloc)); refine blk_far ?_ NB133_163.out _; (with_reducible repeat (first | apply blk_drewN | apply blk_drew | apply blk_alloc)); refine blk_far ?_ NB133_163.out _; (with_reducible repeat (first | apply blk_drewN | apply blk_drew | apply blk_alloc)); refine blk_far ?_ NB133_163.out _; (with_reducible repeat (first | apply blk_drewN | apply blk_drew | apply blk_alloc)); refine blk_far ?_ NB133_163.out _; (with_reducible repeat (first | apply blk_drewN | apply blk_drew | apply blk_alloc)); refine blk_far ?_ NB133_163.out _; (with_reducible repeat (first | apply blk_drewN | apply blk_drew | apply blk_alloc)); refine blk_far ?_ NB133_163.out _; (with_reducible repeat (first | apply blk_drewN | apply blk_drew | apply blk_alloc)); exact BK133.out⟩
    have n1_ : Aside0 (((((((((w96.setCell ⟨gb163, 0, none⟩ (.int .i64 t154)).setCell ⟨gb163, 1, none⟩ (.int .i64 t155)).setCell ⟨gb163, 2, none⟩ (.bool t156)).setCell ⟨gb163, 3, none⟩ (.int .i64 t157)).setCell ⟨gb163, 4, none⟩ (.bool t158)).setCell ⟨gb163, 5, none⟩ (.int .i64 t159)).setCell ⟨gb163, 6, none⟩ (.int .i64 t160)).setCell ⟨gb163, 7, none⟩ (.string t161)).heap[gb153]? = some (.cells #[.int .i64 t144, .int .i64 t145, .bool t146, .int .i64 t147, .bool t148, .int .i64 t149, .int .i64 t150, .string t151] 38 (0, 0))) := ⟨by (with_reducible repeat (first | apply blk_drewN | apply blk_drew | apply blk_alloc)); refine blk_far ?_ NB153_163.out _; (with_reducible repeat (first | apply blk_drewN | apply blk_drew | apply blk_alloc)); refine blk_far ?_ NB153_163.out _; (with_reducible repeat (first | apply blk_drewN | apply blk_drew | apply blk_alloc)); refine blk_far ?_ NB153_163.out _; (with_reducible repeat (first | apply blk_drewN | apply blk_drew | apply blk_alloc)); refine blk_far ?_ NB153_163.out _; (with_reducible repeat (first | apply blk_drewN | apply blk_drew | apply blk_alloc)); refine blk_far ?_ NB153_163.out _; (with_reducible repeat (first | apply blk_drewN | apply blk_drew | apply blk_alloc)); refine blk_far ?_ NB153_163.out _; (with_reducible repeat (first | apply blk_drewN | apply blk_drew | apply blk_alloc)); refine blk_far ?_ NB153_163.out _; (with_reducible repeat (first | apply blk_drewN | apply blk_drew | apply blk_alloc)); refine blk_far ?_ NB153_163.out _; (with_reducible repeat (first | apply blk_drewN | apply blk_drew | apply blk_alloc)); exact BK153.out⟩
    have n2_ : Aside0 (((((((((w96.setCell ⟨gb163, 0, none⟩ (.int .i64 t154)).setCell ⟨gb163, 1, none⟩ (.int .i64 t155)).setCell ⟨gb163, 2, none⟩ (.bool t156)).setCell ⟨gb163, 3, none⟩ (.int .i64 t157)).setCell ⟨gb163, 4, none⟩ (.bool t158)).setCell ⟨gb163, 5, none⟩ (.int .i64 t159)).setCell ⟨gb163, 6, none⟩ (.int .i64 t160)).setCell ⟨gb163, 7, none⟩ (.string t161)).heap[gb163]? = some (.cells #[.int .i64 t154, .int .i64 t155, .bool t156, .int .i64 t157, .bool t158, .int .i64 t159, .int .i64 t160, .string t161] 42 (0, 0))) := ⟨by (with_reducible repeat (first | apply blk_drewN | apply blk_drew | apply blk_alloc)); refine blk_put (cs := #[.int .i64 t154, .int .i64 t155, .bool t156, .int .i64 t157, .bool t158, .int .i64 t159, .int .i64 t160, .string (⟨#[]⟩ : ByteArray)]) ?_ 7 _ rfl; (with_reducible repeat (first | apply blk_drewN | apply blk_drew | apply blk_alloc)); refine blk_put (cs := #[.int .i64 t154, .int .i64 t155, .bool t156, .int .i64 t157, .bool t158, .int .i64 t159, .int .i64 0, .string (⟨#[]⟩ : ByteArray)]) ?_ 6 _ rfl; (with_reducible repeat (first | apply blk_drewN | apply blk_drew | apply blk_alloc)); refine blk_put (cs := #[.int .i64 t154, .int .i64 t155, .bool t156, .int .i64 t157, .bool t158, .int .i64 0, .int .i64 0, .string (⟨#[]⟩ : ByteArray)]) ?_ 5 _ rfl; (with_reducible repeat (first | apply blk_drewN | apply blk_drew | apply blk_alloc)); refine blk_put (cs := #[.int .i64 t154, .int .i64 t155, .bool t156, .int .i64 t157, .bool false, .int .i64 0, .int .i64 0, .string (⟨#[]⟩ : ByteArray)]) ?_ 4 _ rfl; (with_reducible repeat (first | apply blk_drewN | apply blk_drew | apply blk_alloc)); refine blk_put (cs := #[.int .i64 t154, .int .i64 t155, .bool t156, .int .i64 0, .bool false, .int .i64 0, .int .i64 0, .string (⟨#[]⟩ : ByteArray)]) ?_ 3 _ rfl; (with_reducible repeat (first | apply blk_drewN | apply blk_drew | apply blk_alloc)); refine blk_put (cs := #[.int .i64 t154, .int .i64 t155, .bool false, .int .i64 0, .bool false, .int .i64 0, .int .i64 0, .string (⟨#[]⟩ : ByteArray)]) ?_ 2 _ rfl; (with_reducible repeat (first | apply blk_drewN | apply blk_drew | apply blk_alloc)); refine blk_put (cs := #[.int .i64 t154, .int .i64 0, .bool false, .int .i64 0, .bool false, .int .i64 0, .int .i64 0, .string (⟨#[]⟩ : ByteArray)]) ?_ 1 _ rfl; (with_reducible repeat (first | apply blk_drewN | apply blk_drew | apply blk_alloc)); refine blk_put (cs := #[.int .i64 0, .int .i64 0, .bool false, .int .i64 0, .bool false, .int .i64 0, .int .i64 0, .string (⟨#[]⟩ : ByteArray)]) ?_ 0 _ rfl; (with_reducible repeat (first | apply blk_drewN | apply blk_drew | apply blk_alloc)); exact BK163.out⟩
    have n3_ : Aside0 (Below w.heap.size w ((((((((w96.setCell ⟨gb163, 0, none⟩ (.int .i64 t154)).setCell ⟨gb163, 1, none⟩ (.int .i64 t155)).setCell ⟨gb163, 2, none⟩ (.bool t156)).setCell ⟨gb163, 3, none⟩ (.int .i64 t157)).setCell ⟨gb163, 4, none⟩ (.bool t158)).setCell ⟨gb163, 5, none⟩ (.int .i64 t159)).setCell ⟨gb163, 6, none⟩ (.int .i64 t160)).setCell ⟨gb163, 7, none⟩ (.string t161))) := ⟨by repeat (first | (with_reducible first | exact HB.out | apply below_alloc | apply pw_below_drewN | apply below_drew1 | refine below_set ?_ GE133.out | refine below_set ?_ GE153.out | refine below_set ?_ GE163.out) | exact HB.out)⟩
    (try clear BK133)
    (try clear BK153)
    (try clear BK163)
    (try clear HB)
    generalize ((((((((w96.setCell ⟨gb163, 0, none⟩ (.int .i64 t154)).setCell ⟨gb163, 1, none⟩ (.int .i64 t155)).setCell ⟨gb163, 2, none⟩ (.bool t156)).setCell ⟨gb163, 3, none⟩ (.int .i64 t157)).setCell ⟨gb163, 4, none⟩ (.bool t158)).setCell ⟨gb163, 5, none⟩ (.int .i64 t159)).setCell ⟨gb163, 6, none⟩ (.int .i64 t160)).setCell ⟨gb163, 7, none⟩ (.string t161)) = w100 at n0_ n1_ n2_ n3_ ⊢
    have BK133 := n0_
    have BK153 := n1_
    have BK163 := n2_
    have HB := n3_
    clear n0_ n1_ n2_ n3_
    have n0_ := Aside0.mk (blk_drew BK133.out)
    have n1_ := Aside0.mk (blk_drew BK153.out)
    have n2_ := Aside0.mk (blk_drew BK163.out)
    have n3_ := Aside0.mk (below_drew1 HB.out)
    clear BK133
    clear BK153
    clear BK163
    clear HB
    have BK133 := n0_
    have BK153 := n1_
    have BK163 := n2_
    have HB := n3_
    clear n0_ n1_ n2_ n3_
    refine start_ (n := 31) (S := fun w' => True) (ds := []) #[tF, tF, tF, tF, tF, tF, tF, tF, tF, tF, tF, tF, tF, tF, tF, tF, tF, tF, tF, tF, tF, tF, tF, tF, tF, tF, tF, tF, tF, tF, tF] (by kernel_rfl) rfl rfl trivial (fun hHeld => ?_); refine with_tabW lapwinglaw07_TeimsgPuts.tab5 lapwinglaw07_TeimsgPuts.bits5 (fun HT_ HW_ => ?_)
    generalize w100.drew = w101 at BK133 BK153 BK163 HB hHeld ⊢
    refine one_ (i := 0) (N := some 33) #[tT, tF, tF, tF, tF, tF, tF, tF, tF, tF, tF, tF, tF, tF, tF, tF, tF, tF, tF, tF, tF, tF, tF, tF, tF, tF, tF, tF, tF, tF, tF] rfl rfl (one_of HT_.out (by kernel_rfl)) (by decide) (fun K hK => ?_)
    refine goes_ Tryd.func12 (by kernel_rfl) rfl #[] (by rfl) rfl rfl (by (try simp only [List.map_toArray, List.map_cons, List.map_nil]); first | done | rfl) ?_
    with_reducible refine (lapwinglaw07_wakes.calls k  true _ A8.out).mono ?_
    rintro e w102 ⟨rfl, hb⟩
    refine ⟨_, rfl, ?_⟩
    have n0_ := Aside0.mk (blk_below (g := gb133) (o := .cells #[.int .i64 a0_0, .int .i64 a0_1, .int .i64 a0_2] 23 (0, 0)) (by (with_reducible repeat (first | apply blk_drewN | apply blk_drew | apply blk_alloc)); exact BK133.out) hb)
    have n1_ := Aside0.mk (blk_below (g := gb153) (o := .cells #[.int .i64 t144, .int .i64 t145, .bool t146, .int .i64 t147, .bool t148, .int .i64 t149, .int .i64 t150, .string t151] 38 (0, 0)) (by (with_reducible repeat (first | apply blk_drewN | apply blk_drew | apply blk_alloc)); exact BK153.out) hb)
    have n2_ := Aside0.mk (blk_below (g := gb163) (o := .cells #[.int .i64 t154, .int .i64 t155, .bool t156, .int .i64 t157, .bool t158, .int .i64 t159, .int .i64 t160, .string t161] 42 (0, 0)) (by (with_reducible repeat (first | apply blk_drewN | apply blk_drew | apply blk_alloc)); exact BK163.out) hb)
    have n3_ := Aside0.mk (below_step (by repeat (first | (with_reducible first | exact HB.out | apply below_alloc | apply pw_below_drewN | apply below_drew1 | refine below_set ?_ GE133.out | refine below_set ?_ GE153.out | refine below_set ?_ GE163.out) | exact HB.out)) hb)
    clear BK133
    clear BK153
    clear BK163
    clear HB
    have BK133 := n0_
    have BK153 := n1_
    have BK163 := n2_
    have HB := n3_
    clear n0_ n1_ n2_ n3_
    (try clear hb)
    (try clear hb2)
    (try clear hk)
    (try clear hi)
    refine hK.out _ _ trivial (fun hHeld => ?_)
    clear hK K
    refine norm_ (a' := ?_) ?_ ?_
    rotate_left
    ·show Act.put _ (some 33) _ = _
     simp only [Act.put, List.setIfInBounds_toArray, List.set_cons_zero, List.set_cons_succ, i64_w, i32_w]
     rfl
    refine pure_ (i := 1) (N := some 34) (v := ?_) (a' := ?_) #[tT, tT, tF, tF, tF, tF, tF, tF, tF, tF, tF, tF, tF, tF, tF, tF, tF, tF, tF, tF, tF, tF, tF, tF, tF, tF, tF, tF, tF, tF, tF] rfl rfl (any_of HT_.out (by kernel_rfl)) (fun _ _ _ h => h) (Or.inl ⟨by rfl, ?_⟩) ?_ ?_
    rotate_left
    ·intro w'
     go_simp
     with_reducible rfl
    rotate_left
    ·simp only [Act.put, List.setIfInBounds_toArray, List.set_cons_zero, List.set_cons_succ, i64_w, i32_w]
     rfl
    refine pure_ (i := 2) (N := some 35) (v := ?_) (a' := ?_) #[tT, tT, tT, tF, tF, tF, tF, tF, tF, tF, tF, tF, tF, tF, tF, tF, tF, tF, tF, tF, tF, tF, tF, tF, tF, tF, tF, tF, tF, tF, tF] rfl rfl (any_of HT_.out (by kernel_rfl)) (fun _ _ _ h => h) (Or.inl ⟨by rfl, ?_⟩) ?_ ?_
    rotate_left
    ·intro w'
     go_simp
     with_reducible rfl
    rotate_left
    ·simp only [Act.put, List.setIfInBounds_toArray, List.set_cons_zero, List.set_cons_succ, i64_w, i32_w]
     rfl
    refine pure_ (i := 3) (N := some 36) (v := ?_) (a' := ?_) #[tT, tT, tT, tT, tF, tF, tF, tF, tF, tF, tF, tF, tF, tF, tF, tF, tF, tF, tF, tF, tF, tF, tF, tF, tF, tF, tF, tF, tF, tF, tF] rfl rfl (any_of HT_.out (by kernel_rfl)) (fun _ _ _ h => h) (Or.inl ⟨by rfl, ?_⟩) ?_ ?_
    rotate_left
    ·intro w'
     go_simp
     with_reducible rfl
    rotate_left
    ·simp only [Act.put, List.setIfInBounds_toArray, List.set_cons_zero, List.set_cons_succ, i64_w, i32_w]
     rfl
    refine pure_ (i := 4) (N := some 37) (v := ?_) (a' := ?_) #[tT, tT, tT, tT, tT, tF, tF, tF, tF, tF, tF, tF, tF, tF, tF, tF, tF, tF, tF, tF, tF, tF, tF, tF, tF, tF, tF, tF, tF, tF, tF] rfl rfl (any_of HT_.out (by kernel_rfl)) (fun _ _ _ h => h) (Or.inl ⟨by rfl, ?_⟩) ?_ ?_
    rotate_left
    ·intro w'
     go_simp
     with_reducible rfl
    rotate_left
    ·simp only [Act.put, List.setIfInBounds_toArray, List.set_cons_zero, List.set_cons_succ, i64_w, i32_w]
     rfl
    refine pure_ (i := 5) (N := some 38) (v := ?_) (a' := ?_) #[tT, tT, tT, tT, tT, tT, tF, tF, tF, tF, tF, tF, tF, tF, tF, tF, tF, tF, tF, tF, tF, tF, tF, tF, tF, tF, tF, tF, tF, tF, tF] rfl rfl (any_of HT_.out (by kernel_rfl)) (fun _ _ _ h => h) (Or.inl ⟨by rfl, ?_⟩) ?_ ?_
    rotate_left
    ·intro w'
     go_simp
     with_reducible rfl
    rotate_left
    ·simp only [Act.put, List.setIfInBounds_toArray, List.set_cons_zero, List.set_cons_succ, i64_w, i32_w]
     rfl
    refine pure_ (i := 6) (N := some 39) (v := ?_) (a' := ?_) #[tT, tT, tT, tT, tT, tT, tT, tF, tF, tF, tF, tF, tF, tF, tF, tF, tF, tF, tF, tF, tF, tF, tF, tF, tF, tF, tF, tF, tF, tF, tF] rfl rfl (any_of HT_.out (by kernel_rfl)) (fun _ _ _ h => h) (Or.inl ⟨by rfl, ?_⟩) ?_ ?_
    rotate_left
    ·intro w'
     go_simp
     with_reducible rfl
    rotate_left
    ·simp only [Act.put, List.setIfInBounds_toArray, List.set_cons_zero, List.set_cons_succ, i64_w, i32_w]
     rfl
    refine pure_ (i := 7) (N := some 40) (v := ?_) (a' := ?_) #[tT, tT, tT, tT, tT, tT, tT, tT, tF, tF, tF, tF, tF, tF, tF, tF, tF, tF, tF, tF, tF, tF, tF, tF, tF, tF, tF, tF, tF, tF, tF] rfl rfl (any_of HT_.out (by kernel_rfl)) (fun _ _ _ h => h) (Or.inl ⟨by rfl, ?_⟩) ?_ ?_
    rotate_left
    ·intro w'
     go_simp
     with_reducible rfl
    rotate_left
    ·simp only [Act.put, List.setIfInBounds_toArray, List.set_cons_zero, List.set_cons_succ, i64_w, i32_w]
     rfl
    refine pure_ (i := 8) (N := some 41) (v := ?_) (a' := ?_) #[tT, tT, tT, tT, tT, tT, tT, tT, tT, tF, tF, tF, tF, tF, tF, tF, tF, tF, tF, tF, tF, tF, tF, tF, tF, tF, tF, tF, tF, tF, tF] rfl rfl (any_of HT_.out (by kernel_rfl)) (fun _ _ _ h => h) (Or.inl ⟨by rfl, ?_⟩) ?_ ?_
    rotate_left
    ·intro w'
     go_simp
     with_reducible rfl
    rotate_left
    ·simp only [Act.put, List.setIfInBounds_toArray, List.set_cons_zero, List.set_cons_succ, i64_w, i32_w]
     rfl
    refine pure_ (i := 9) (N := some 42) (v := ?_) (a' := ?_) #[tT, tT, tT, tT, tT, tT, tT, tT, tT, tT, tF, tF, tF, tF, tF, tF, tF, tF, tF, tF, tF, tF, tF, tF, tF, tF, tF, tF, tF, tF, tF] rfl rfl (any_of HT_.out (by kernel_rfl)) (fun _ _ _ h => h) (Or.inl ⟨by rfl, ?_⟩) ?_ ?_
    rotate_left
    ·intro w'
     go_simp
     with_reducible rfl
    rotate_left
    ·simp only [Act.put, List.setIfInBounds_toArray, List.set_cons_zero, List.set_cons_succ, i64_w, i32_w]
     rfl
    refine pure_ (i := 10) (N := some 43) (v := ?_) (a' := ?_) #[tT, tT, tT, tT, tT, tT, tT, tT, tT, tT, tT, tF, tF, tF, tF, tF, tF, tF, tF, tF, tF, tF, tF, tF, tF, tF, tF, tF, tF, tF, tF] rfl rfl (any_of HT_.out (by kernel_rfl)) (fun _ _ _ h => h) (Or.inl ⟨by rfl, ?_⟩) ?_ ?_
    rotate_left
    ·intro w'
     go_simp
     with_reducible rfl
    rotate_left
    ·simp only [Act.put, List.setIfInBounds_toArray, List.set_cons_zero, List.set_cons_succ, i64_w, i32_w]
     rfl
    refine pure_ (i := 11) (N := some 44) (v := ?_) (a' := ?_) #[tT, tT, tT, tT, tT, tT, tT, tT, tT, tT, tT, tT, tF, tF, tF, tF, tF, tF, tF, tF, tF, tF, tF, tF, tF, tF, tF, tF, tF, tF, tF] rfl rfl (any_of HT_.out (by kernel_rfl)) (fun _ _ _ h => h) (Or.inl ⟨by rfl, ?_⟩) ?_ ?_
    rotate_left
    ·intro w'
     go_simp
     with_reducible rfl
    rotate_left
    ·simp only [Act.put, List.setIfInBounds_toArray, List.set_cons_zero, List.set_cons_succ, i64_w, i32_w]
     rfl
    refine pure_ (i := 12) (N := some 45) (v := undef) (a' := ?_) #[tT, tT, tT, tT, tT, tT, tT, tT, tT, tT, tT, tT, tT, tF, tF, tF, tF, tF, tF, tF, tF, tF, tF, tF, tF, tF, tF, tF, tF, tF, tF] rfl rfl (any_of HT_.out (by kernel_rfl)) (fun _ _ _ h => h) (Or.inr ⟨by rfl, rfl⟩) ?_ ?_
    rotate_left
    ·simp only [Act.put, List.setIfInBounds_toArray, List.set_cons_zero, List.set_cons_succ, i64_w, i32_w]
     rfl
    refine pure_ (i := 13) (N := some 46) (v := undef) (a' := ?_) #[tT, tT, tT, tT, tT, tT, tT, tT, tT, tT, tT, tT, tT, tT, tF, tF, tF, tF, tF, tF, tF, tF, tF, tF, tF, tF, tF, tF, tF, tF, tF] rfl rfl (any_of HT_.out (by kernel_rfl)) (fun _ _ _ h => h) (Or.inr ⟨by rfl, rfl⟩) ?_ ?_
    rotate_left
    ·simp only [Act.put, List.setIfInBounds_toArray, List.set_cons_zero, List.set_cons_succ, i64_w, i32_w]
     rfl
    refine pure_ (i := 14) (N := some 47) (v := undef) (a' := ?_) #[tT, tT, tT, tT, tT, tT, tT, tT, tT, tT, tT, tT, tT, tT, tT, tF, tF, tF, tF, tF, tF, tF, tF, tF, tF, tF, tF, tF, tF, tF, tF] rfl rfl (any_of HT_.out (by kernel_rfl)) (fun _ _ _ h => h) (Or.inr ⟨by rfl, rfl⟩) ?_ ?_
    rotate_left
    ·simp only [Act.put, List.setIfInBounds_toArray, List.set_cons_zero, List.set_cons_succ, i64_w, i32_w]
     rfl
    refine pure_ (i := 15) (N := some 48) (v := ?_) (a' := ?_) #[tT, tT, tT, tT, tT, tT, tT, tT, tT, tT, tT, tT, tT, tT, tT, tT, tF, tF, tF, tF, tF, tF, tF, tF, tF, tF, tF, tF, tF, tF, tF] rfl rfl (any_of HT_.out (by kernel_rfl)) (fun _ _ _ h => h) (Or.inl ⟨by rfl, ?_⟩) ?_ ?_
    rotate_left
    ·intro w'
     go_simp
     with_reducible rfl
    rotate_left
    ·simp only [Act.put, List.setIfInBounds_toArray, List.set_cons_zero, List.set_cons_succ, i64_w, i32_w]
     rfl
    refine pure_ (i := 16) (N := some 49) (v := ?_) (a' := ?_) #[tT, tT, tT, tT, tT, tT, tT, tT, tT, tT, tT, tT, tT, tT, tT, tT, tT, tF, tF, tF, tF, tF, tF, tF, tF, tF, tF, tF, tF, tF, tF] rfl rfl (any_of HT_.out (by kernel_rfl)) (fun _ _ _ h => h) (Or.inl ⟨by rfl, ?_⟩) ?_ ?_
    rotate_left
    ·intro w'
     go_simp
     with_reducible rfl
    rotate_left
    ·simp only [Act.put, List.setIfInBounds_toArray, List.set_cons_zero, List.set_cons_succ, i64_w, i32_w]
     rfl
    refine pure_ (i := 17) (N := some 50) (v := undef) (a' := ?_) #[tT, tT, tT, tT, tT, tT, tT, tT, tT, tT, tT, tT, tT, tT, tT, tT, tT, tT, tF, tF, tF, tF, tF, tF, tF, tF, tF, tF, tF, tF, tF] rfl rfl (any_of HT_.out (by kernel_rfl)) (fun _ _ _ h => h) (Or.inr ⟨by rfl, rfl⟩) ?_ ?_
    rotate_left
    ·simp only [Act.put, List.setIfInBounds_toArray, List.set_cons_zero, List.set_cons_succ, i64_w, i32_w]
     rfl
    refine pure_ (i := 18) (N := some 51) (v := undef) (a' := ?_) #[tT, tT, tT, tT, tT, tT, tT, tT, tT, tT, tT, tT, tT, tT, tT, tT, tT, tT, tT, tF, tF, tF, tF, tF, tF, tF, tF, tF, tF, tF, tF] rfl rfl (any_of HT_.out (by kernel_rfl)) (fun _ _ _ h => h) (Or.inr ⟨by rfl, rfl⟩) ?_ ?_
    rotate_left
    ·simp only [Act.put, List.setIfInBounds_toArray, List.set_cons_zero, List.set_cons_succ, i64_w, i32_w]
     rfl
    refine pure_ (i := 19) (N := some 52) (v := undef) (a' := ?_) #[tT, tT, tT, tT, tT, tT, tT, tT, tT, tT, tT, tT, tT, tT, tT, tT, tT, tT, tT, tT, tF, tF, tF, tF, tF, tF, tF, tF, tF, tF, tF] rfl rfl (any_of HT_.out (by kernel_rfl)) (fun _ _ _ h => h) (Or.inr ⟨by rfl, rfl⟩) ?_ ?_
    rotate_left
    ·simp only [Act.put, List.setIfInBounds_toArray, List.set_cons_zero, List.set_cons_succ, i64_w, i32_w]
     rfl
    refine pure_ (i := 20) (N := some 53) (v := ?_) (a' := ?_) #[tT, tT, tT, tT, tT, tT, tT, tT, tT, tT, tT, tT, tT, tT, tT, tT, tT, tT, tT, tT, tT, tF, tF, tF, tF, tF, tF, tF, tF, tF, tF] rfl rfl (any_of HT_.out (by kernel_rfl)) (fun _ _ _ h => h) (Or.inl ⟨by rfl, ?_⟩) ?_ ?_
    rotate_left
    ·intro w'
     go_simp
     with_reducible rfl
    rotate_left
    ·simp only [Act.put, List.setIfInBounds_toArray, List.set_cons_zero, List.set_cons_succ, i64_w, i32_w]
     rfl
    refine pure_ (i := 21) (N := some 54) (v := ?_) (a' := ?_) #[tT, tT, tT, tT, tT, tT, tT, tT, tT, tT, tT, tT, tT, tT, tT, tT, tT, tT, tT, tT, tT, tT, tF, tF, tF, tF, tF, tF, tF, tF, tF] rfl rfl (any_of HT_.out (by kernel_rfl)) (fun _ _ _ h => h) (Or.inl ⟨by rfl, ?_⟩) ?_ ?_
    rotate_left
    ·intro w'
     go_simp
     with_reducible rfl
    rotate_left
    ·simp only [Act.put, List.setIfInBounds_toArray, List.set_cons_zero, List.set_cons_succ, i64_w, i32_w]
     rfl
    refine pure_ (i := 22) (N := some 55) (v := undef) (a' := ?_) #[tT, tT, tT, tT, tT, tT, tT, tT, tT, tT, tT, tT, tT, tT, tT, tT, tT, tT, tT, tT, tT, tT, tT, tF, tF, tF, tF, tF, tF, tF, tF] rfl rfl (any_of HT_.out (by kernel_rfl)) (fun _ _ _ h => h) (Or.inr ⟨by rfl, rfl⟩) ?_ ?_
    rotate_left
    ·simp only [Act.put, List.setIfInBounds_toArray, List.set_cons_zero, List.set_cons_succ, i64_w, i32_w]
     rfl
    refine pure_ (i := 23) (N := some 56) (v := undef) (a' := ?_) #[tT, tT, tT, tT, tT, tT, tT, tT, tT, tT, tT, tT, tT, tT, tT, tT, tT, tT, tT, tT, tT, tT, tT, tT, tF, tF, tF, tF, tF, tF, tF] rfl rfl (any_of HT_.out (by kernel_rfl)) (fun _ _ _ h => h) (Or.inr ⟨by rfl, rfl⟩) ?_ ?_
    rotate_left
    ·simp only [Act.put, List.setIfInBounds_toArray, List.set_cons_zero, List.set_cons_succ, i64_w, i32_w]
     rfl
    refine pure_ (i := 24) (N := some 57) (v := undef) (a' := ?_) #[tT, tT, tT, tT, tT, tT, tT, tT, tT, tT, tT, tT, tT, tT, tT, tT, tT, tT, tT, tT, tT, tT, tT, tT, tT, tF, tF, tF, tF, tF, tF] rfl rfl (any_of HT_.out (by kernel_rfl)) (fun _ _ _ h => h) (Or.inr ⟨by rfl, rfl⟩) ?_ ?_
    rotate_left
    ·simp only [Act.put, List.setIfInBounds_toArray, List.set_cons_zero, List.set_cons_succ, i64_w, i32_w]
     rfl
    refine pure_ (i := 25) (N := some 58) (v := undef) (a' := ?_) #[tT, tT, tT, tT, tT, tT, tT, tT, tT, tT, tT, tT, tT, tT, tT, tT, tT, tT, tT, tT, tT, tT, tT, tT, tT, tT, tF, tF, tF, tF, tF] rfl rfl (any_of HT_.out (by kernel_rfl)) (fun _ _ _ h => h) (Or.inr ⟨by rfl, rfl⟩) ?_ ?_
    rotate_left
    ·simp only [Act.put, List.setIfInBounds_toArray, List.set_cons_zero, List.set_cons_succ, i64_w, i32_w]
     rfl
    refine pure_ (i := 26) (N := some 59) (v := undef) (a' := ?_) #[tT, tT, tT, tT, tT, tT, tT, tT, tT, tT, tT, tT, tT, tT, tT, tT, tT, tT, tT, tT, tT, tT, tT, tT, tT, tT, tT, tF, tF, tF, tF] rfl rfl (any_of HT_.out (by kernel_rfl)) (fun _ _ _ h => h) (Or.inr ⟨by rfl, rfl⟩) ?_ ?_
    rotate_left
    ·simp only [Act.put, List.setIfInBounds_toArray, List.set_cons_zero, List.set_cons_succ, i64_w, i32_w]
     rfl
    refine pure_ (i := 27) (N := some 60) (v := undef) (a' := ?_) #[tT, tT, tT, tT, tT, tT, tT, tT, tT, tT, tT, tT, tT, tT, tT, tT, tT, tT, tT, tT, tT, tT, tT, tT, tT, tT, tT, tT, tF, tF, tF] rfl rfl (any_of HT_.out (by kernel_rfl)) (fun _ _ _ h => h) (Or.inr ⟨by rfl, rfl⟩) ?_ ?_
    rotate_left
    ·simp only [Act.put, List.setIfInBounds_toArray, List.set_cons_zero, List.set_cons_succ, i64_w, i32_w]
     rfl
    refine pure_ (i := 28) (N := some 61) (v := undef) (a' := ?_) #[tT, tT, tT, tT, tT, tT, tT, tT, tT, tT, tT, tT, tT, tT, tT, tT, tT, tT, tT, tT, tT, tT, tT, tT, tT, tT, tT, tT, tT, tF, tF] rfl rfl (any_of HT_.out (by kernel_rfl)) (fun _ _ _ h => h) (Or.inr ⟨by rfl, rfl⟩) ?_ ?_
    rotate_left
    ·simp only [Act.put, List.setIfInBounds_toArray, List.set_cons_zero, List.set_cons_succ, i64_w, i32_w]
     rfl
    refine pure_ (i := 29) (N := some 62) (v := ?_) (a' := ?_) #[tT, tT, tT, tT, tT, tT, tT, tT, tT, tT, tT, tT, tT, tT, tT, tT, tT, tT, tT, tT, tT, tT, tT, tT, tT, tT, tT, tT, tT, tT, tF] rfl rfl (any_of HT_.out (by kernel_rfl)) (fun _ _ _ h => h) (Or.inl ⟨by rfl, ?_⟩) ?_ ?_
    rotate_left
    ·intro w'
     go_simp
     with_reducible rfl
    rotate_left
    ·simp only [Act.put, List.setIfInBounds_toArray, List.set_cons_zero, List.set_cons_succ, i64_w, i32_w]
     rfl
    refine pure_ (i := 30) (N := some 2) (v := ?_) (a' := ?_) #[tT, tT, tT, tT, tT, tT, tT, tT, tT, tT, tT, tT, tT, tT, tT, tT, tT, tT, tT, tT, tT, tT, tT, tT, tT, tT, tT, tT, tT, tT, tT] rfl rfl (any_of HT_.out (by kernel_rfl)) (fun _ _ _ h => h) (Or.inl ⟨by rfl, ?_⟩) ?_ ?_
    rotate_left
    ·intro w'
     go_simp
     with_reducible rfl
    rotate_left
    ·simp only [Act.put, List.setIfInBounds_toArray, List.set_cons_zero, List.set_cons_succ, i64_w, i32_w]
     rfl
    refine done_ (done_of HT_.out (by kernel_rfl)) ?_
    try go_wp2
    go_ret
    exact ⟨by first | rfl | (simp [errW_none, errW_some] <;> rfl) | (simp [*, errW_none, errW_some] <;> rfl), by repeat (first | (with_reducible first | exact HB.out | apply below_alloc | apply pw_below_drewN | apply below_drew1 | refine below_set ?_ GE133.out | refine below_set ?_ GE153.out | refine below_set ?_ GE163.out) | exact HB.out)⟩
  ·rw [if_neg c10] at H
   have c10b0 : (t137.toList == t139.toList) = false := beq_eq_false_iff_ne.mpr c10
   have c10b1 : (t137.toList != t139.toList) = true := bne_iff_ne.mpr c10
   obtain rfl := Option.some.inj H
   go_enter Tryd.func3, Tryd.ntmps3
   try go_wp2_with (first | ((with_reducible refine gate_dst (N := 1) rfl ?_); refine box_event ?hg (N := 1) ?hd (cs := #[.int .i64 a0_0, .int .i64 a0_1, .int .i64 a0_2]) (t := 23) ?hr ?_; (case hd => rfl); (case hg => rfl); (case hr => first | (go_simp; done) | (go_simp; rfl)); intro gb133 hg w103 hbox hb; have n0_ := Aside0.mk (below_step (by repeat (first | (with_reducible first | exact HB.out | apply below_alloc | apply pw_below_drewN | apply below_drew1) | exact HB.out)) hb); have n1_ := Aside0.mk (hbox); have n2_ := Aside0.mk ((by rw [hg]; exact (below_size (by repeat (first | (with_reducible first | exact HB.out | apply below_alloc | apply pw_below_drewN | apply below_drew1) | exact HB.out))) : w.heap.size ≤ gb133)); have n3_ := n2_; clear HB; have HB := n0_; have BK133 := n1_; have GW133 := n2_; have GE133 := n3_; clear n0_ n1_ n2_ n3_; clear hb hbox hg; have hcz104_0 : w103.cell? ⟨gb133, 0, none⟩ = some (.int .i64 a0_0) := (blk_cell BK133.out 0).trans rfl; have hcz104_1 : w103.cell? ⟨gb133, 1, none⟩ = some (.int .i64 a0_1) := (blk_cell BK133.out 1).trans rfl; have hcz104_2 : w103.cell? ⟨gb133, 2, none⟩ = some (.int .i64 a0_2) := (blk_cell BK133.out 2).trans rfl; have hfz104_0 := blk_frozen BK133.out 0; have hfz104_1 := blk_frozen BK133.out 1; have hfz104_2 := blk_frozen BK133.out 2) | ((with_reducible refine gate_callee (f := 8) rfl ?_); refine goesL_ (some 13) rfl rfl Tryd.func8 (by kernel_rfl) rfl #[.agg #[.int .i64 a0_0, .int .i64 a0_1, .int .i64 a0_2]] rfl (by (try simp only [List.map_toArray, List.map_cons, List.map_nil]); first | done | rfl) ?_; (with_reducible refine (lapwinglaw07_made.calls a0_0 a0_1 a0_2 t134 t135 t136 _ A2.out).mono ?_); rintro e w105 ⟨rfl, hb⟩; refine ⟨_, rfl, ?_⟩; have n0_ := Aside0.mk (blk_below (g := gb133) (o := .cells #[.int .i64 a0_0, .int .i64 a0_1, .int .i64 a0_2] 23 (0, 0)) (by (with_reducible repeat (first | apply blk_drewN | apply blk_drew | apply blk_alloc)); exact BK133.out) hb); have n1_ := Aside0.mk (below_step (by repeat (first | (with_reducible first | exact HB.out | apply below_alloc | apply pw_below_drewN | apply below_drew1 | refine below_set ?_ GE133.out) | exact HB.out)) hb); clear BK133; clear HB; have BK133 := n0_; have HB := n1_; clear n0_ n1_; (try clear hb); (try clear hb2); (try clear hk); (try clear hi)) | ((with_reducible refine gate_callee (f := 7) rfl ?_); refine goesL_ (some 14) rfl rfl Tryd.func7 (by kernel_rfl) rfl #[.agg #[.int .i64 t134, .int .i64 t135, .int .i64 t136]] rfl (by (try simp only [List.map_toArray, List.map_cons, List.map_nil]); first | done | rfl) ?_; (with_reducible refine (teimsg_Put.calls k t134 t135 t136 t137 t138 _ A3.out).mono ?_); rintro e w106 ⟨rfl, hb⟩; refine ⟨_, rfl, ?_⟩; have n0_ := Aside0.mk (blk_below (g := gb133) (o := .cells #[.int .i64 a0_0, .int .i64 a0_1, .int .i64 a0_2] 23 (0, 0)) (by (with_reducible repeat (first | apply blk_drewN | apply blk_drew | apply blk_alloc)); exact BK133.out) hb); have n1_ := Aside0.mk (below_step (by repeat (first | (with_reducible first | exact HB.out | apply below_alloc | apply pw_below_drewN | apply below_drew1 | refine below_set ?_ GE133.out) | exact HB.out)) hb); clear BK133; clear HB; have BK133 := n0_; have HB := n1_; clear n0_ n1_; (try clear hb); (try clear hb2); (try clear hk); (try clear hi); have hcz107_0 : w106.cell? ⟨gb133, 0, none⟩ = some (.int .i64 a0_0) := (blk_cell BK133.out 0).trans rfl; have hcz107_1 : w106.cell? ⟨gb133, 1, none⟩ = some (.int .i64 a0_1) := (blk_cell BK133.out 1).trans rfl; have hcz107_2 : w106.cell? ⟨gb133, 2, none⟩ = some (.int .i64 a0_2) := (blk_cell BK133.out 2).trans rfl; have hfz107_0 := blk_frozen BK133.out 0; have hfz107_1 := blk_frozen BK133.out 1; have hfz107_2 := blk_frozen BK133.out 2) | ((with_reducible refine gate_callee (f := 9) rfl ?_); refine goesL_ (some 19) rfl rfl Tryd.func9 (by kernel_rfl) rfl #[.agg #[.int .i64 a0_0, .int .i64 a0_1, .int .i64 a0_2]] rfl (by (try simp only [List.map_toArray, List.map_cons, List.map_nil]); first | done | rfl) ?_; (with_reducible refine (lapwingref07_Put.calls k a0_0 a0_1 a0_2 t139 t140 _ A4.out).mono ?_); rintro e w108 ⟨rfl, hb⟩; refine ⟨_, rfl, ?_⟩; have n0_ := Aside0.mk (blk_below (g := gb133) (o := .cells #[.int .i64 a0_0, .int .i64 a0_1, .int .i64 a0_2] 23 (0, 0)) (by (with_reducible repeat (first | apply blk_drewN | apply blk_drew | apply blk_alloc)); exact BK133.out) hb); have n1_ := Aside0.mk (below_step (by repeat (first | (with_reducible first | exact HB.out | apply below_alloc | apply pw_below_drewN | apply below_drew1 | refine below_set ?_ GE133.out) | exact HB.out)) hb); clear BK133; clear HB; have BK133 := n0_; have HB := n1_; clear n0_ n1_; (try clear hb); (try clear hb2); (try clear hk); (try clear hi); have hcz109_0 : w108.cell? ⟨gb133, 0, none⟩ = some (.int .i64 a0_0) := (blk_cell BK133.out 0).trans rfl; have hcz109_1 : w108.cell? ⟨gb133, 1, none⟩ = some (.int .i64 a0_1) := (blk_cell BK133.out 1).trans rfl; have hcz109_2 : w108.cell? ⟨gb133, 2, none⟩ = some (.int .i64 a0_2) := (blk_cell BK133.out 2).trans rfl; have hfz109_0 := blk_frozen BK133.out 0; have hfz109_1 := blk_frozen BK133.out 1; have hfz109_2 := blk_frozen BK133.out 2) | ((with_reducible refine gate_callee (f := 8) rfl ?_); refine goesL_ (some 24) rfl rfl Tryd.func8 (by kernel_rfl) rfl #[.agg #[.int .i64 a0_0, .int .i64 a0_1, .int .i64 a0_2]] rfl (by (try simp only [List.map_toArray, List.map_cons, List.map_nil]); first | done | rfl) ?_; (with_reducible refine (lapwinglaw07_made.calls a0_0 a0_1 a0_2 t141 t142 t143 _ A5.out).mono ?_); rintro e w110 ⟨rfl, hb⟩; refine ⟨_, rfl, ?_⟩; have n0_ := Aside0.mk (blk_below (g := gb133) (o := .cells #[.int .i64 a0_0, .int .i64 a0_1, .int .i64 a0_2] 23 (0, 0)) (by (with_reducible repeat (first | apply blk_drewN | apply blk_drew | apply blk_alloc)); exact BK133.out) hb); have n1_ := Aside0.mk (below_step (by repeat (first | (with_reducible first | exact HB.out | apply below_alloc | apply pw_below_drewN | apply below_drew1 | refine below_set ?_ GE133.out) | exact HB.out)) hb); clear BK133; clear HB; have BK133 := n0_; have HB := n1_; clear n0_ n1_; (try clear hb); (try clear hb2); (try clear hk); (try clear hi)) | ((with_reducible refine gate_callee (f := 10) rfl ?_); refine goesL_ (some 25) rfl rfl Tryd.func10 (by kernel_rfl) rfl #[.agg #[.int .i64 t141, .int .i64 t142, .int .i64 t143]] rfl (by (try simp only [List.map_toArray, List.map_cons, List.map_nil]); first | done | rfl) ?_; (with_reducible refine (teimsg_Frame.calls k t141 t142 t143 t144 t145 t146 t147 t148 t149 t150 t151 t152 _ ?side1 A6.out).mono ?_); (case side1 => first | (with_reducible exact HL.out) | (with_reducible exact Go.Proofs.YtmgiolpooamkkaaDoorX.Laid_drewN HL.out _) | exact Go.Proofs.YtmgiolpooamkkaaDoorX.Laid_below HL.out (by repeat (first | (with_reducible first | exact HB.out | apply below_alloc | apply pw_below_drewN | apply below_drew1 | refine below_set ?_ GE133.out) | exact HB.out))); rintro e w111 ⟨rfl, hb⟩; refine ⟨_, rfl, ?_⟩; have n0_ := Aside0.mk (blk_below (g := gb133) (o := .cells #[.int .i64 a0_0, .int .i64 a0_1, .int .i64 a0_2] 23 (0, 0)) (by (with_reducible repeat (first | apply blk_drewN | apply blk_drew | apply blk_alloc)); exact BK133.out) hb); have n1_ := Aside0.mk (below_step (by repeat (first | (with_reducible first | exact HB.out | apply below_alloc | apply pw_below_drewN | apply below_drew1 | refine below_set ?_ GE133.out) | exact HB.out)) hb); clear BK133; clear HB; have BK133 := n0_; have HB := n1_; clear n0_ n1_; (try clear hb); (try clear hb2); (try clear hk); (try clear hi)) | ((with_reducible refine gate_dst (N := 7) rfl ?_); refine box_event ?hg (N := 7) ?hd (cs := #[.int .i64 0, .int .i64 0, .bool false, .int .i64 0, .bool false, .int .i64 0, .int .i64 0, .string (⟨#[]⟩ : ByteArray)]) (t := 38) ?hr ?_; (case hd => rfl); (case hg => rfl); (case hr => first | (go_simp; done) | (go_simp; rfl)); intro gb153 hg w112 hbox hb; have n0_ := Aside0.mk (blk_below (g := gb133) (o := .cells #[.int .i64 a0_0, .int .i64 a0_1, .int .i64 a0_2] 23 (0, 0)) (by (with_reducible repeat (first | apply blk_drewN | apply blk_drew | apply blk_alloc)); exact BK133.out) hb); have n1_ := Aside0.mk (below_step (by repeat (first | (with_reducible first | exact HB.out | apply below_alloc | apply pw_below_drewN | apply below_drew1 | refine below_set ?_ GE133.out) | exact HB.out)) hb); have n2_ := Aside0.mk (hbox); have n3_ := Aside0.mk ((by rw [hg]; exact (below_size (by repeat (first | (with_reducible first | exact HB.out | apply below_alloc | apply pw_below_drewN | apply below_drew1 | refine below_set ?_ GE133.out) | exact HB.out))) : w.heap.size ≤ gb153)); have n4_ := n3_; have n5_ := Aside0.mk ((by rw [hg]; exact Nat.ne_of_lt (blk_lt (g := gb133) (o := .cells #[.int .i64 a0_0, .int .i64 a0_1, .int .i64 a0_2] 23 (0, 0)) (by (with_reducible repeat (first | apply blk_drewN | apply blk_drew | apply blk_alloc)); exact BK133.out)) : gb133 ≠ gb153)); have n6_ := Aside0.mk (Ne.symm n5_.out); clear BK133; clear HB; have BK133 := n0_; have HB := n1_; have BK153 := n2_; have GW153 := n3_; have GE153 := n4_; have NB133_153 := n5_; have NB153_133 := n6_; clear n0_ n1_ n2_ n3_ n4_ n5_ n6_; clear hb hbox hg; have hnb113 := NB153_133.out; have hnc113 := NB133_153.out; have hcz114_0 : w112.cell? ⟨gb153, 0, none⟩ = some (.int .i64 0) := (blk_cell BK153.out 0).trans rfl; have hcz114_1 : w112.cell? ⟨gb153, 1, none⟩ = some (.int .i64 0) := (blk_cell BK153.out 1).trans rfl; have hcz114_2 : w112.cell? ⟨gb153, 2, none⟩ = some (.bool false) := (blk_cell BK153.out 2).trans rfl; have hcz114_3 : w112.cell? ⟨gb153, 3, none⟩ = some (.int .i64 0) := (blk_cell BK153.out 3).trans rfl; have hcz114_4 : w112.cell? ⟨gb153, 4, none⟩ = some (.bool false) := (blk_cell BK153.out 4).trans rfl; have hcz114_5 : w112.cell? ⟨gb153, 5, none⟩ = some (.int .i64 0) := (blk_cell BK153.out 5).trans rfl; have hcz114_6 : w112.cell? ⟨gb153, 6, none⟩ = some (.int .i64 0) := (blk_cell BK153.out 6).trans rfl; have hcz114_7 : w112.cell? ⟨gb153, 7, none⟩ = some (.string (⟨#[]⟩ : ByteArray)) := (blk_cell BK153.out 7).trans rfl; have hfz114_0 := blk_frozen BK153.out 0; have hfz114_1 := blk_frozen BK153.out 1; have hfz114_2 := blk_frozen BK153.out 2; have hfz114_3 := blk_frozen BK153.out 3; have hfz114_4 := blk_frozen BK153.out 4; have hfz114_5 := blk_frozen BK153.out 5; have hfz114_6 := blk_frozen BK153.out 6; have hfz114_7 := blk_frozen BK153.out 7; have hcz115_0 : w112.cell? ⟨gb133, 0, none⟩ = some (.int .i64 a0_0) := (blk_cell BK133.out 0).trans rfl; have hcz115_1 : w112.cell? ⟨gb133, 1, none⟩ = some (.int .i64 a0_1) := (blk_cell BK133.out 1).trans rfl; have hcz115_2 : w112.cell? ⟨gb133, 2, none⟩ = some (.int .i64 a0_2) := (blk_cell BK133.out 2).trans rfl; have hfz115_0 := blk_frozen BK133.out 0; have hfz115_1 := blk_frozen BK133.out 1; have hfz115_2 := blk_frozen BK133.out 2) | ((with_reducible refine gate_callee (f := 11) rfl ?_); refine goesL_ (some 30) rfl rfl Tryd.func11 (by kernel_rfl) rfl #[.agg #[.int .i64 a0_0, .int .i64 a0_1, .int .i64 a0_2]] rfl (by (try simp only [List.map_toArray, List.map_cons, List.map_nil]); first | done | rfl) ?_; (with_reducible refine (lapwingref07_Frame.calls k a0_0 a0_1 a0_2 t154 t155 t156 t157 t158 t159 t160 t161 t162 _ A7.out).mono ?_); rintro e w116 ⟨rfl, hb⟩; refine ⟨_, rfl, ?_⟩; have n0_ := Aside0.mk (blk_below (g := gb133) (o := .cells #[.int .i64 a0_0, .int .i64 a0_1, .int .i64 a0_2] 23 (0, 0)) (by (with_reducible repeat (first | apply blk_drewN | apply blk_drew | apply blk_alloc)); refine blk_far ?_ NB133_153.out _; (with_reducible repeat (first | apply blk_drewN | apply blk_drew | apply blk_alloc)); refine blk_far ?_ NB133_153.out _; (with_reducible repeat (first | apply blk_drewN | apply blk_drew | apply blk_alloc)); refine blk_far ?_ NB133_153.out _; (with_reducible repeat (first | apply blk_drewN | apply blk_drew | apply blk_alloc)); refine blk_far ?_ NB133_153.out _; (with_reducible repeat (first | apply blk_drewN | apply blk_drew | apply blk_alloc)); refine blk_far ?_ NB133_153.out _; (with_reducible repeat (first | apply blk_drewN | apply blk_drew | apply blk_alloc)); refine blk_far ?_ NB133_153.out _; (with_reducible repeat (first | apply blk_drewN | apply blk_drew | apply blk_alloc)); refine blk_far ?_ NB133_153.out _; (with_reducible repeat (first | apply blk_drewN | apply blk_drew | apply blk_alloc)); refine blk_far ?_ NB133_153.out _; (with_reducible repeat (first | apply blk_drewN | apply blk_drew | apply blk_alloc)); exact BK133.out) hb); have n1_ := Aside0.mk (blk_below (g := gb153) (o := .cells #[.int .i64 t144, .int .i64 t145, .bool t146, .int .i64 t147, .bool t148, .int .i64 t149, .int .i64 t150, .string t151] 38 (0, 0)) (by (with_reducible repeat (first | apply blk_drewN | apply blk_drew | apply blk_alloc)); refine blk_put (cs := #[.int .i64 t144, .int .i64 t145, .bool t146, .int .i64 t147, .bool t148, .int .i64 t149, .int .i64 t150, .string (⟨#[]⟩ : ByteArray)]) ?_ 7 _ rfl; (with_reducible repeat (first | apply blk_drewN | apply blk_drew | apply blk_alloc)); refine blk_put (cs := #[.int .i64 t144, .int .i64 t145, .bool t146, .int .i64 t147, .bool t148, .int .i64 t149, .int .i64 0, .string (⟨#[]⟩ : ByteArray)]) ?_ 6 _ rfl; (with_reducible repeat (first | apply blk_drewN | apply blk_drew | apply blk_alloc)); refine blk_put (cs := #[.int .i64 t144, .int .i64 t145, .bool t146, .int .i64 t147, .bool t148, .int .i64 0, .int .i64 0, .string (⟨#[]⟩ : ByteArray)]) ?_ 5 _ rfl; (with_reducible repeat (first | apply blk_drewN | apply blk_drew | apply blk_alloc)); refine blk_put (cs := #[.int .i64 t144, .int .i64 t145, .bool t146, .int .i64 t147, .bool false, .int .i64 0, .int .i64 0, .string (⟨#[]⟩ : ByteArray)]) ?_ 4 _ rfl; (with_reducible repeat (first | apply blk_drewN | apply blk_drew | apply blk_alloc)); refine blk_put (cs := #[.int .i64 t144, .int .i64 t145, .bool t146, .int .i64 0, .bool false, .int .i64 0, .int .i64 0, .string (⟨#[]⟩ : ByteArray)]) ?_ 3 _ rfl; (with_reducible repeat (first | apply blk_drewN | apply blk_drew | apply blk_alloc)); refine blk_put (cs := #[.int .i64 t144, .int .i64 t145, .bool false, .int .i64 0, .bool false, .int .i64 0, .int .i64 0, .string (⟨#[]⟩ : ByteArray)]) ?_ 2 _ rfl; (with_reducible repeat (first | apply blk_drewN | apply blk_drew | apply blk_alloc)); refine blk_put (cs := #[.int .i64 t144, .int .i64 0, .bool false, .int .i64 0, .bool false, .int .i64 0, .int .i64 0, .string (⟨#[]⟩ : ByteArray)]) ?_ 1 _ rfl; (with_reducible repeat (first | apply blk_drewN | apply blk_drew | apply blk_alloc)); refine blk_put (cs := #[.int .i64 0, .int .i64 0, .bool false, .int .i64 0, .bool false, .int .i64 0, .int .i64 0, .string (⟨#[]⟩ : ByteArray)]) ?_ 0 _ rfl; (with_reducible repeat (first | apply blk_drewN | apply blk_drew | apply blk_alloc)); exact BK153.out) hb); have n2_ := Aside0.mk (below_step (by repeat (first | (with_reducible first | exact HB.out | apply below_alloc | apply pw_below_drewN | apply below_drew1 | refine below_set ?_ GE133.out | refine below_set ?_ GE153.out) | exact HB.out)) hb); clear BK133; clear BK153; clear HB; have BK133 := n0_; have BK153 := n1_; have HB := n2_; clear n0_ n1_ n2_; (try clear hb); (try clear hb2); (try clear hk); (try clear hi)) | ((with_reducible refine gate_dst (N := 9) rfl ?_); refine box_event ?hg (N := 9) ?hd (cs := #[.int .i64 0, .int .i64 0, .bool false, .int .i64 0, .bool false, .int .i64 0, .int .i64 0, .string (⟨#[]⟩ : ByteArray)]) (t := 42) ?hr ?_; (case hd => rfl); (case hg => rfl); (case hr => first | (go_simp; done) | (go_simp; rfl)); intro gb163 hg w117 hbox hb; have n0_ := Aside0.mk (blk_below (g := gb133) (o := .cells #[.int .i64 a0_0, .int .i64 a0_1, .int .i64 a0_2] 23 (0, 0)) (by (with_reducible repeat (first | apply blk_drewN | apply blk_drew | apply blk_alloc)); exact BK133.out) hb); have n1_ := Aside0.mk (blk_below (g := gb153) (o := .cells #[.int .i64 t144, .int .i64 t145, .bool t146, .int .i64 t147, .bool t148, .int .i64 t149, .int .i64 t150, .string t151] 38 (0, 0)) (by (with_reducible repeat (first | apply blk_drewN | apply blk_drew | apply blk_alloc)); exact BK153.out) hb); have n2_ := Aside0.mk (below_step (by repeat (first | (with_reducible first | exact HB.out | apply below_alloc | apply pw_below_drewN | apply below_drew1 | refine below_set ?_ GE133.out | refine below_set ?_ GE153.out) | exact HB.out)) hb); have n3_ := Aside0.mk (hbox); have n4_ := Aside0.mk ((by rw [hg]; exact (below_size (by repeat (first | (with_reducible first | exact HB.out | apply below_alloc | apply pw_below_drewN | apply below_drew1 | refine below_set ?_ GE133.out | refine below_set ?_ GE153.out) | exact HB.out))) : w.heap.size ≤ gb163)); have n5_ := n4_; have n6_ := Aside0.mk ((by rw [hg]; exact Nat.ne_of_lt (blk_lt (g := gb133) (o := .cells #[.int .i64 a0_0, .int .i64 a0_1, .int .i64 a0_2] 23 (0, 0)) (by (with_reducible repeat (first | apply blk_drewN | apply blk_drew | apply blk_alloc)); exact BK133.out)) : gb133 ≠ gb163)); have n7_ := Aside0.mk (Ne.symm n6_.out); have n8_ := Aside0.mk ((by rw [hg]; exact Nat.ne_of_lt (blk_lt (g := gb153) (o := .cells #[.int .i64 t144, .int .i64 t145, .bool t146, .int .i64 t147, .bool t148, .int .i64 t149, .int .i64 t150, .string t151] 38 (0, 0)) (by (with_reducible repeat (first | apply blk_drewN | apply blk_drew | apply blk_alloc)); exact BK153.out)) : gb153 ≠ gb163)); have n9_ := Aside0.mk (Ne.symm n8_.out); clear BK133; clear BK153; clear HB; have BK133 := n0_; have BK153 := n1_; have HB := n2_; have BK163 := n3_; have GW163 := n4_; have GE163 := n5_; have NB133_163 := n6_; have NB163_133 := n7_; have NB153_163 := n8_; have NB163_153 := n9_; clear n0_ n1_ n2_ n3_ n4_ n5_ n6_ n7_ n8_ n9_; clear hb hbox hg; have hnb118 := NB163_133.out; have hnc118 := NB133_163.out; have hnb119 := NB163_153.out; have hnc119 := NB153_163.out; have hcz120_0 : w117.cell? ⟨gb163, 0, none⟩ = some (.int .i64 0) := (blk_cell BK163.out 0).trans rfl; have hcz120_1 : w117.cell? ⟨gb163, 1, none⟩ = some (.int .i64 0) := (blk_cell BK163.out 1).trans rfl; have hcz120_2 : w117.cell? ⟨gb163, 2, none⟩ = some (.bool false) := (blk_cell BK163.out 2).trans rfl; have hcz120_3 : w117.cell? ⟨gb163, 3, none⟩ = some (.int .i64 0) := (blk_cell BK163.out 3).trans rfl; have hcz120_4 : w117.cell? ⟨gb163, 4, none⟩ = some (.bool false) := (blk_cell BK163.out 4).trans rfl; have hcz120_5 : w117.cell? ⟨gb163, 5, none⟩ = some (.int .i64 0) := (blk_cell BK163.out 5).trans rfl; have hcz120_6 : w117.cell? ⟨gb163, 6, none⟩ = some (.int .i64 0) := (blk_cell BK163.out 6).trans rfl; have hcz120_7 : w117.cell? ⟨gb163, 7, none⟩ = some (.string (⟨#[]⟩ : ByteArray)) := (blk_cell BK163.out 7).trans rfl; have hfz120_0 := blk_frozen BK163.out 0; have hfz120_1 := blk_frozen BK163.out 1; have hfz120_2 := blk_frozen BK163.out 2; have hfz120_3 := blk_frozen BK163.out 3; have hfz120_4 := blk_frozen BK163.out 4; have hfz120_5 := blk_frozen BK163.out 5; have hfz120_6 := blk_frozen BK163.out 6; have hfz120_7 := blk_frozen BK163.out 7))
   have n0_ : Aside0 (((((((((w117.setCell ⟨gb163, 0, none⟩ (.int .i64 t154)).setCell ⟨gb163, 1, none⟩ (.int .i64 t155)).setCell ⟨gb163, 2, none⟩ (.bool t156)).setCell ⟨gb163, 3, none⟩ (.int .i64 t157)).setCell ⟨gb163, 4, none⟩ (.bool t158)).setCell ⟨gb163, 5, none⟩ (.int .i64 t159)).setCell ⟨gb163, 6, none⟩ (.int .i64 t160)).setCell ⟨gb163, 7, none⟩ (.string t161)).heap[gb133]? = some (.cells #[.int .i64 a0_0, .int .i64 a0_1, .int .i64 a0_2] 23 (0, 0))) := ⟨by (with_reducible repeat (first | apply blk_drewN | apply blk_drew | apply blk_alloc)); refine blk_far ?_ NB133_163.out _; (with_reducible repeat (first | apply blk_drewN | apply blk_drew | apply blk_alloc)); refine blk_far ?_ NB133_163.out _; (with_reducible repeat (first | apply blk_drewN | apply blk_drew | apply blk_alloc)); refine blk_far ?_ NB133_163.out _; (with_reducible repeat (first | apply blk_drewN | apply blk_drew | apply blk_alloc)); refine blk_far ?_ NB133_163.out _; (with_reducible repeat (first | apply blk_drewN | apply blk_drew | apply blk_alloc)); refine blk_far ?_ NB133_163.out _; (with_reducible repeat (first | apply blk_drewN | apply blk_drew | apply blk_alloc)); refine blk_far ?_ NB133_163.out _; (with_reducible repeat (first | apply blk_drewN | apply blk_drew | apply blk_alloc)); refine blk_far ?_ NB133_163.out _; (with_reducible repeat (first | apply blk_drewN | apply blk_drew | apply blk_alloc)); refine blk_far ?_ NB133_163.out _; (with_reducible repeat (first | apply blk_drewN | apply blk_drew | apply blk_alloc)); exact BK133.out⟩
   have n1_ : Aside0 (((((((((w117.setCell ⟨gb163, 0, none⟩ (.int .i64 t154)).setCell ⟨gb163, 1, none⟩ (.int .i64 t155)).setCell ⟨gb163, 2, none⟩ (.bool t156)).setCell ⟨gb163, 3, none⟩ (.int .i64 t157)).setCell ⟨gb163, 4, none⟩ (.bool t158)).setCell ⟨gb163, 5, none⟩ (.int .i64 t159)).setCell ⟨gb163, 6, none⟩ (.int .i64 t160)).setCell ⟨gb163, 7, none⟩ (.string t161)).heap[gb153]? = some (.cells #[.int .i64 t144, .int .i64 t145, .bool t146, .int .i64 t147, .bool t148, .int .i64 t149, .int .i64 t150, .string t151] 38 (0, 0))) := ⟨by (with_reducible repeat (first | apply blk_drewN | apply blk_drew | apply blk_alloc)); refine blk_far ?_ NB153_163.out _; (with_reducible repeat (first | apply blk_drewN | apply blk_drew | apply blk_alloc)); refine blk_far ?_ NB153_163.out _; (with_reducible repeat (first | apply blk_drewN | apply blk_drew | apply blk_alloc)); refine blk_far ?_ NB153_163.out _; (with_reducible repeat (first | apply blk_drewN | apply blk_drew | apply blk_alloc)); refine blk_far ?_ NB153_163.out _; (with_reducible repeat (first | apply blk_drewN | apply blk_drew | apply blk_alloc)); refine blk_far ?_ NB153_163.out _; (with_reducible repeat (first | apply blk_drewN | apply blk_drew | apply blk_alloc)); refine blk_far ?_ NB153_163.out _; (with_reducible repeat (first | apply blk_drewN | apply blk_drew | apply blk_alloc)); refine blk_far ?_ NB153_163.out _; (with_reducible repeat (first | apply blk_drewN | apply blk_drew | apply blk_alloc)); refine blk_far ?_ NB153_163.out _; (with_reducible repeat (first | apply blk_drewN | apply blk_drew | apply blk_alloc)); exact BK153.out⟩
   have n2_ : Aside0 (((((((((w117.setCell ⟨gb163, 0, none⟩ (.int .i64 t154)).setCell ⟨gb163, 1, none⟩ (.int .i64 t155)).setCell ⟨gb163, 2, none⟩ (.bool t156)).setCell ⟨gb163, 3, none⟩ (.int .i64 t157)).setCell ⟨gb163, 4, none⟩ (.bool t158)).setCell ⟨gb163, 5, none⟩ (.int .i64 t159)).setCell ⟨gb163, 6, none⟩ (.int .i64 t160)).setCell ⟨gb163, 7, none⟩ (.string t161)).heap[gb163]? = some (.cells #[.int .i64 t154, .int .i64 t155, .bool t156, .int .i64 t157, .bool t158, .int .i64 t159, .int .i64 t160, .string t161] 42 (0, 0))) := ⟨by (with_reducible repeat (first | apply blk_drewN | apply blk_drew | apply blk_alloc)); refine blk_put (cs := #[.int .i64 t154, .int .i64 t155, .bool t156, .int .i64 t157, .bool t158, .int .i64 t159, .int .i64 t160, .string (⟨#[]⟩ : ByteArray)]) ?_ 7 _ rfl; (with_reducible repeat (first | apply blk_drewN | apply blk_drew | apply blk_alloc)); refine blk_put (cs := #[.int .i64 t154, .int .i64 t155, .bool t156, .int .i64 t157, .bool t158, .int .i64 t159, .int .i64 0, .string (⟨#[]⟩ : ByteArray)]) ?_ 6 _ rfl; (with_reducible repeat (first | apply blk_drewN | apply blk_drew | apply blk_alloc)); refine blk_put (cs := #[.int .i64 t154, .int .i64 t155, .bool t156, .int .i64 t157, .bool t158, .int .i64 0, .int .i64 0, .string (⟨#[]⟩ : ByteArray)]) ?_ 5 _ rfl; (with_reducible repeat (first | apply blk_drewN | apply blk_drew | apply blk_alloc)); refine blk_put (cs := #[.int .i64 t154, .int .i64 t155, .bool t156, .int .i64 t157, .bool false, .int .i64 0, .int .i64 0, .string (⟨#[]⟩ : ByteArray)]) ?_ 4 _ rfl; (with_reducible repeat (first | apply blk_drewN | apply blk_drew | apply blk_alloc)); refine blk_put (cs := #[.int .i64 t154, .int .i64 t155, .bool t156, .int .i64 0, .bool false, .int .i64 0, .int .i64 0, .string (⟨#[]⟩ : ByteArray)]) ?_ 3 _ rfl; (with_reducible repeat (first | apply blk_drewN | apply blk_drew | apply blk_alloc)); refine blk_put (cs := #[.int .i64 t154, .int .i64 t155, .bool false, .int .i64 0, .bool false, .int .i64 0, .int .i64 0, .string (⟨#[]⟩ : ByteArray)]) ?_ 2 _ rfl; (with_reducible repeat (first | apply blk_drewN | apply blk_drew | apply blk_alloc)); refine blk_put (cs := #[.int .i64 t154, .int .i64 0, .bool false, .int .i64 0, .bool false, .int .i64 0, .int .i64 0, .string (⟨#[]⟩ : ByteArray)]) ?_ 1 _ rfl; (with_reducible repeat (first | apply blk_drewN | apply blk_drew | apply blk_alloc)); refine blk_put (cs := #[.int .i64 0, .int .i64 0, .bool false, .int .i64 0, .bool false, .int .i64 0, .int .i64 0, .string (⟨#[]⟩ : ByteArray)]) ?_ 0 _ rfl; (with_reducible repeat (first | apply blk_drewN | apply blk_drew | apply blk_alloc)); exact BK163.out⟩
   have n3_ : Aside0 (Below w.heap.size w ((((((((w117.setCell ⟨gb163, 0, none⟩ (.int .i64 t154)).setCell ⟨gb163, 1, none⟩ (.int .i64 t155)).setCell ⟨gb163, 2, none⟩ (.bool t156)).setCell ⟨gb163, 3, none⟩ (.int .i64 t157)).setCell ⟨gb163, 4, none⟩ (.bool t158)).setCell ⟨gb163, 5, none⟩ (.int .i64 t159)).setCell ⟨gb163, 6, none⟩ (.int .i64 t160)).setCell ⟨gb163, 7, none⟩ (.string t161))) := ⟨by repeat (first | (with_reducible first | exact HB.out | apply below_alloc | apply pw_below_drewN | apply below_drew1 | refine below_set ?_ GE133.out | refine below_set ?_ GE153.out | refine below_set ?_ GE163.out) | exact HB.out)⟩
   (try clear BK133)
   (try clear BK153)
   (try clear BK163)
   (try clear HB)
   generalize ((((((((w117.setCell ⟨gb163, 0, none⟩ (.int .i64 t154)).setCell ⟨gb163, 1, none⟩ (.int .i64 t155)).setCell ⟨gb163, 2, none⟩ (.bool t156)).setCell ⟨gb163, 3, none⟩ (.int .i64 t157)).setCell ⟨gb163, 4, none⟩ (.bool t158)).setCell ⟨gb163, 5, none⟩ (.int .i64 t159)).setCell ⟨gb163, 6, none⟩ (.int .i64 t160)).setCell ⟨gb163, 7, none⟩ (.string t161)) = w121 at n0_ n1_ n2_ n3_ ⊢
   have BK133 := n0_
   have BK153 := n1_
   have BK163 := n2_
   have HB := n3_
   clear n0_ n1_ n2_ n3_
   have n0_ := Aside0.mk (blk_drew BK133.out)
   have n1_ := Aside0.mk (blk_drew BK153.out)
   have n2_ := Aside0.mk (blk_drew BK163.out)
   have n3_ := Aside0.mk (below_drew1 HB.out)
   clear BK133
   clear BK153
   clear BK163
   clear HB
   have BK133 := n0_
   have BK153 := n1_
   have BK163 := n2_
   have HB := n3_
   clear n0_ n1_ n2_ n3_
   refine start_ (n := 31) (S := fun w' => True) (ds := []) #[tF, tF, tF, tF, tF, tF, tF, tF, tF, tF, tF, tF, tF, tF, tF, tF, tF, tF, tF, tF, tF, tF, tF, tF, tF, tF, tF, tF, tF, tF, tF] (by kernel_rfl) rfl rfl trivial (fun hHeld => ?_); refine with_tabW lapwinglaw07_TeimsgPuts.tab5 lapwinglaw07_TeimsgPuts.bits5 (fun HT_ HW_ => ?_)
   generalize w121.drew = w122 at BK133 BK153 BK163 HB hHeld ⊢
   refine one_ (i := 0) (N := some 33) #[tT, tF, tF, tF, tF, tF, tF, tF, tF, tF, tF, tF, tF, tF, tF, tF, tF, tF, tF, tF, tF, tF, tF, tF, tF, tF, tF, tF, tF, tF, tF] rfl rfl (one_of HT_.out (by kernel_rfl)) (by decide) (fun K hK => ?_)
   refine goes_ Tryd.func12 (by kernel_rfl) rfl #[] (by rfl) rfl rfl (by (try simp only [List.map_toArray, List.map_cons, List.map_nil]); first | done | rfl) ?_
   with_reducible refine (lapwinglaw07_wakes.calls k  true _ A8.out).mono ?_
   rintro e w123 ⟨rfl, hb⟩
   refine ⟨_, rfl, ?_⟩
   have n0_ := Aside0.mk (blk_below (g := gb133) (o := .cells #[.int .i64 a0_0, .int .i64 a0_1, .int .i64 a0_2] 23 (0, 0)) (by (with_reducible repeat (first | apply blk_drewN | apply blk_drew | apply blk_alloc)); exact BK133.out) hb)
   have n1_ := Aside0.mk (blk_below (g := gb153) (o := .cells #[.int .i64 t144, .int .i64 t145, .bool t146, .int .i64 t147, .bool t148, .int .i64 t149, .int .i64 t150, .string t151] 38 (0, 0)) (by (with_reducible repeat (first | apply blk_drewN | apply blk_drew | apply blk_alloc)); exact BK153.out) hb)
   have n2_ := Aside0.mk (blk_below (g := gb163) (o := .cells #[.int .i64 t154, .int .i64 t155, .bool t156, .int .i64 t157, .bool t158, .int .i64 t159, .int .i64 t160, .string t161] 42 (0, 0)) (by (with_reducible repeat (first | apply blk_drewN | apply blk_drew | apply blk_alloc)); exact BK163.out) hb)
   have n3_ := Aside0.mk (below_step (by repeat (first | (with_reducible first | exact HB.out | apply below_alloc | apply pw_below_drewN | apply below_drew1 | refine below_set ?_ GE133.out | refine below_set ?_ GE153.out | refine below_set ?_ GE163.out) | exact HB.out)) hb)
   clear BK133
   clear BK153
   clear BK163
   clear HB
   have BK133 := n0_
   have BK153 := n1_
   have BK163 := n2_
   have HB := n3_
   clear n0_ n1_ n2_ n3_
   (try clear hb)
   (try clear hb2)
   (try clear hk)
   (try clear hi)
   refine hK.out _ _ trivial (fun hHeld => ?_)
   clear hK K
   refine norm_ (a' := ?_) ?_ ?_
   rotate_left
   ·show Act.put _ (some 33) _ = _
    simp only [Act.put, List.setIfInBounds_toArray, List.set_cons_zero, List.set_cons_succ, i64_w, i32_w]
    rfl
   refine pure_ (i := 1) (N := some 34) (v := ?_) (a' := ?_) #[tT, tT, tF, tF, tF, tF, tF, tF, tF, tF, tF, tF, tF, tF, tF, tF, tF, tF, tF, tF, tF, tF, tF, tF, tF, tF, tF, tF, tF, tF, tF] rfl rfl (any_of HT_.out (by kernel_rfl)) (fun _ _ _ h => h) (Or.inl ⟨by rfl, ?_⟩) ?_ ?_
   rotate_left
   ·intro w'
    go_simp
    with_reducible rfl
   rotate_left
   ·simp only [Act.put, List.setIfInBounds_toArray, List.set_cons_zero, List.set_cons_succ, i64_w, i32_w]
    rfl
   refine pure_ (i := 2) (N := some 35) (v := ?_) (a' := ?_) #[tT, tT, tT, tF, tF, tF, tF, tF, tF, tF, tF, tF, tF, tF, tF, tF, tF, tF, tF, tF, tF, tF, tF, tF, tF, tF, tF, tF, tF, tF, tF] rfl rfl (any_of HT_.out (by kernel_rfl)) (fun _ _ _ h => h) (Or.inl ⟨by rfl, ?_⟩) ?_ ?_
   rotate_left
   ·intro w'
    go_simp
    with_reducible rfl
   rotate_left
   ·simp only [Act.put, List.setIfInBounds_toArray, List.set_cons_zero, List.set_cons_succ, i64_w, i32_w]
    rfl
   refine pure_ (i := 3) (N := some 36) (v := ?_) (a' := ?_) #[tT, tT, tT, tT, tF, tF, tF, tF, tF, tF, tF, tF, tF, tF, tF, tF, tF, tF, tF, tF, tF, tF, tF, tF, tF, tF, tF, tF, tF, tF, tF] rfl rfl (any_of HT_.out (by kernel_rfl)) (fun _ _ _ h => h) (Or.inl ⟨by rfl, ?_⟩) ?_ ?_
   rotate_left
   ·intro w'
    go_simp
    with_reducible rfl
   rotate_left
   ·simp only [Act.put, List.setIfInBounds_toArray, List.set_cons_zero, List.set_cons_succ, i64_w, i32_w]
    rfl
   refine pure_ (i := 4) (N := some 37) (v := ?_) (a' := ?_) #[tT, tT, tT, tT, tT, tF, tF, tF, tF, tF, tF, tF, tF, tF, tF, tF, tF, tF, tF, tF, tF, tF, tF, tF, tF, tF, tF, tF, tF, tF, tF] rfl rfl (any_of HT_.out (by kernel_rfl)) (fun _ _ _ h => h) (Or.inl ⟨by rfl, ?_⟩) ?_ ?_
   rotate_left
   ·intro w'
    go_simp
    with_reducible rfl
   rotate_left
   ·simp only [Act.put, List.setIfInBounds_toArray, List.set_cons_zero, List.set_cons_succ, i64_w, i32_w]
    rfl
   refine pure_ (i := 5) (N := some 38) (v := ?_) (a' := ?_) #[tT, tT, tT, tT, tT, tT, tF, tF, tF, tF, tF, tF, tF, tF, tF, tF, tF, tF, tF, tF, tF, tF, tF, tF, tF, tF, tF, tF, tF, tF, tF] rfl rfl (any_of HT_.out (by kernel_rfl)) (fun _ _ _ h => h) (Or.inl ⟨by rfl, ?_⟩) ?_ ?_
   rotate_left
   ·intro w'
    go_simp
    with_reducible rfl
   rotate_left
   ·simp only [Act.put, List.setIfInBounds_toArray, List.set_cons_zero, List.set_cons_succ, i64_w, i32_w]
    rfl
   refine pure_ (i := 6) (N := some 39) (v := ?_) (a' := ?_) #[tT, tT, tT, tT, tT, tT, tT, tF, tF, tF, tF, tF, tF, tF, tF, tF, tF, tF, tF, tF, tF, tF, tF, tF, tF, tF, tF, tF, tF, tF, tF] rfl rfl (any_of HT_.out (by kernel_rfl)) (fun _ _ _ h => h) (Or.inl ⟨by rfl, ?_⟩) ?_ ?_
   rotate_left
   ·intro w'
    go_simp
    with_reducible rfl
   rotate_left
   ·simp only [Act.put, List.setIfInBounds_toArray, List.set_cons_zero, List.set_cons_succ, i64_w, i32_w]
    rfl
   refine pure_ (i := 7) (N := some 40) (v := undef) (a' := ?_) #[tT, tT, tT, tT, tT, tT, tT, tT, tF, tF, tF, tF, tF, tF, tF, tF, tF, tF, tF, tF, tF, tF, tF, tF, tF, tF, tF, tF, tF, tF, tF] rfl rfl (any_of HT_.out (by kernel_rfl)) (fun _ _ _ h => h) (Or.inr ⟨by rfl, rfl⟩) ?_ ?_
   rotate_left
   ·simp only [Act.put, List.setIfInBounds_toArray, List.set_cons_zero, List.set_cons_succ, i64_w, i32_w]
    rfl
   refine pure_ (i := 8) (N := some 41) (v := undef) (a' := ?_) #[tT, tT, tT, tT, tT, tT, tT, tT, tT, tF, tF, tF, tF, tF, tF, tF, tF, tF, tF, tF, tF, tF, tF, tF, tF, tF, tF, tF, tF, tF, tF] rfl rfl (any_of HT_.out (by kernel_rfl)) (fun _ _ _ h => h) (Or.inr ⟨by rfl, rfl⟩) ?_ ?_
   rotate_left
   ·simp only [Act.put, List.setIfInBounds_toArray, List.set_cons_zero, List.set_cons_succ, i64_w, i32_w]
    rfl
   refine pure_ (i := 9) (N := some 42) (v := undef) (a' := ?_) #[tT, tT, tT, tT, tT, tT, tT, tT, tT, tT, tF, tF, tF, tF, tF, tF, tF, tF, tF, tF, tF, tF, tF, tF, tF, tF, tF, tF, tF, tF, tF] rfl rfl (any_of HT_.out (by kernel_rfl)) (fun _ _ _ h => h) (Or.inr ⟨by rfl, rfl⟩) ?_ ?_
   rotate_left
   ·simp only [Act.put, List.setIfInBounds_toArray, List.set_cons_zero, List.set_cons_succ, i64_w, i32_w]
    rfl
   refine pure_ (i := 10) (N := some 43) (v := ?_) (a' := ?_) #[tT, tT, tT, tT, tT, tT, tT, tT, tT, tT, tT, tF, tF, tF, tF, tF, tF, tF, tF, tF, tF, tF, tF, tF, tF, tF, tF, tF, tF, tF, tF] rfl rfl (any_of HT_.out (by kernel_rfl)) (fun _ _ _ h => h) (Or.inl ⟨by rfl, ?_⟩) ?_ ?_
   rotate_left
   ·intro w'
    go_simp
    with_reducible rfl
   rotate_left
   ·simp only [Act.put, List.setIfInBounds_toArray, List.set_cons_zero, List.set_cons_succ, i64_w, i32_w]
    rfl
   refine pure_ (i := 11) (N := some 44) (v := ?_) (a' := ?_) #[tT, tT, tT, tT, tT, tT, tT, tT, tT, tT, tT, tT, tF, tF, tF, tF, tF, tF, tF, tF, tF, tF, tF, tF, tF, tF, tF, tF, tF, tF, tF] rfl rfl (any_of HT_.out (by kernel_rfl)) (fun _ _ _ h => h) (Or.inl ⟨by rfl, ?_⟩) ?_ ?_
   rotate_left
   ·intro w'
    go_simp
    with_reducible rfl
   rotate_left
   ·simp only [Act.put, List.setIfInBounds_toArray, List.set_cons_zero, List.set_cons_succ, i64_w, i32_w]
    rfl
   refine pure_ (i := 12) (N := some 45) (v := undef) (a' := ?_) #[tT, tT, tT, tT, tT, tT, tT, tT, tT, tT, tT, tT, tT, tF, tF, tF, tF, tF, tF, tF, tF, tF, tF, tF, tF, tF, tF, tF, tF, tF, tF] rfl rfl (any_of HT_.out (by kernel_rfl)) (fun _ _ _ h => h) (Or.inr ⟨by rfl, rfl⟩) ?_ ?_
   rotate_left
   ·simp only [Act.put, List.setIfInBounds_toArray, List.set_cons_zero, List.set_cons_succ, i64_w, i32_w]
    rfl
   refine pure_ (i := 13) (N := some 46) (v := undef) (a' := ?_) #[tT, tT, tT, tT, tT, tT, tT, tT, tT, tT, tT, tT, tT, tT, tF, tF, tF, tF, tF, tF, tF, tF, tF, tF, tF, tF, tF, tF, tF, tF, tF] rfl rfl (any_of HT_.out (by kernel_rfl)) (fun _ _ _ h => h) (Or.inr ⟨by rfl, rfl⟩) ?_ ?_
   rotate_left
   ·simp only [Act.put, List.setIfInBounds_toArray, List.set_cons_zero, List.set_cons_succ, i64_w, i32_w]
    rfl
   refine pure_ (i := 14) (N := some 47) (v := undef) (a' := ?_) #[tT, tT, tT, tT, tT, tT, tT, tT, tT, tT, tT, tT, tT, tT, tT, tF, tF, tF, tF, tF, tF, tF, tF, tF, tF, tF, tF, tF, tF, tF, tF] rfl rfl (any_of HT_.out (by kernel_rfl)) (fun _ _ _ h => h) (Or.inr ⟨by rfl, rfl⟩) ?_ ?_
   rotate_left
   ·simp only [Act.put, List.setIfInBounds_toArray, List.set_cons_zero, List.set_cons_succ, i64_w, i32_w]
    rfl
   refine pure_ (i := 15) (N := some 48) (v := ?_) (a' := ?_) #[tT, tT, tT, tT, tT, tT, tT, tT, tT, tT, tT, tT, tT, tT, tT, tT, tF, tF, tF, tF, tF, tF, tF, tF, tF, tF, tF, tF, tF, tF, tF] rfl rfl (any_of HT_.out (by kernel_rfl)) (fun _ _ _ h => h) (Or.inl ⟨by rfl, ?_⟩) ?_ ?_
   rotate_left
   ·intro w'
    go_simp
    with_reducible rfl
   rotate_left
   ·simp only [Act.put, List.setIfInBounds_toArray, List.set_cons_zero, List.set_cons_succ, i64_w, i32_w]
    rfl
   refine pure_ (i := 16) (N := some 49) (v := ?_) (a' := ?_) #[tT, tT, tT, tT, tT, tT, tT, tT, tT, tT, tT, tT, tT, tT, tT, tT, tT, tF, tF, tF, tF, tF, tF, tF, tF, tF, tF, tF, tF, tF, tF] rfl rfl (any_of HT_.out (by kernel_rfl)) (fun _ _ _ h => h) (Or.inl ⟨by rfl, ?_⟩) ?_ ?_
   rotate_left
   ·intro w'
    go_simp
    with_reducible rfl
   rotate_left
   ·simp only [Act.put, List.setIfInBounds_toArray, List.set_cons_zero, List.set_cons_succ, i64_w, i32_w]
    rfl
   refine pure_ (i := 17) (N := some 50) (v := undef) (a' := ?_) #[tT, tT, tT, tT, tT, tT, tT, tT, tT, tT, tT, tT, tT, tT, tT, tT, tT, tT, tF, tF, tF, tF, tF, tF, tF, tF, tF, tF, tF, tF, tF] rfl rfl (any_of HT_.out (by kernel_rfl)) (fun _ _ _ h => h) (Or.inr ⟨by rfl, rfl⟩) ?_ ?_
   rotate_left
   ·simp only [Act.put, List.setIfInBounds_toArray, List.set_cons_zero, List.set_cons_succ, i64_w, i32_w]
    rfl
   refine pure_ (i := 18) (N := some 51) (v := undef) (a' := ?_) #[tT, tT, tT, tT, tT, tT, tT, tT, tT, tT, tT, tT, tT, tT, tT, tT, tT, tT, tT, tF, tF, tF, tF, tF, tF, tF, tF, tF, tF, tF, tF] rfl rfl (any_of HT_.out (by kernel_rfl)) (fun _ _ _ h => h) (Or.inr ⟨by rfl, rfl⟩) ?_ ?_
   rotate_left
   ·simp only [Act.put, List.setIfInBounds_toArray, List.set_cons_zero, List.set_cons_succ, i64_w, i32_w]
    rfl
   refine pure_ (i := 19) (N := some 52) (v := undef) (a' := ?_) #[tT, tT, tT, tT, tT, tT, tT, tT, tT, tT, tT, tT, tT, tT, tT, tT, tT, tT, tT, tT, tF, tF, tF, tF, tF, tF, tF, tF, tF, tF, tF] rfl rfl (any_of HT_.out (by kernel_rfl)) (fun _ _ _ h => h) (Or.inr ⟨by rfl, rfl⟩) ?_ ?_
   rotate_left
   ·simp only [Act.put, List.setIfInBounds_toArray, List.set_cons_zero, List.set_cons_succ, i64_w, i32_w]
    rfl
   refine pure_ (i := 20) (N := some 53) (v := ?_) (a' := ?_) #[tT, tT, tT, tT, tT, tT, tT, tT, tT, tT, tT, tT, tT, tT, tT, tT, tT, tT, tT, tT, tT, tF, tF, tF, tF, tF, tF, tF, tF, tF, tF] rfl rfl (any_of HT_.out (by kernel_rfl)) (fun _ _ _ h => h) (Or.inl ⟨by rfl, ?_⟩) ?_ ?_
   rotate_left
   ·intro w'
    go_simp
    with_reducible rfl
   rotate_left
   ·simp only [Act.put, List.setIfInBounds_toArray, List.set_cons_zero, List.set_cons_succ, i64_w, i32_w]
    rfl
   refine pure_ (i := 21) (N := some 54) (v := ?_) (a' := ?_) #[tT, tT, tT, tT, tT, tT, tT, tT, tT, tT, tT, tT, tT, tT, tT, tT, tT, tT, tT, tT, tT, tT, tF, tF, tF, tF, tF, tF, tF, tF, tF] rfl rfl (any_of HT_.out (by kernel_rfl)) (fun _ _ _ h => h) (Or.inl ⟨by rfl, ?_⟩) ?_ ?_
   rotate_left
   ·intro w'
    go_simp
    with_reducible rfl
   rotate_left
   ·simp only [Act.put, List.setIfInBounds_toArray, List.set_cons_zero, List.set_cons_succ, i64_w, i32_w]
    rfl
   refine pure_ (i := 22) (N := some 55) (v := undef) (a' := ?_) #[tT, tT, tT, tT, tT, tT, tT, tT, tT, tT, tT, tT, tT, tT, tT, tT, tT, tT, tT, tT, tT, tT, tT, tF, tF, tF, tF, tF, tF, tF, tF] rfl rfl (any_of HT_.out (by kernel_rfl)) (fun _ _ _ h => h) (Or.inr ⟨by rfl, rfl⟩) ?_ ?_
   rotate_left
   ·simp only [Act.put, List.setIfInBounds_toArray, List.set_cons_zero, List.set_cons_succ, i64_w, i32_w]
    rfl
   refine pure_ (i := 23) (N := some 56) (v := undef) (a' := ?_) #[tT, tT, tT, tT, tT, tT, tT, tT, tT, tT, tT, tT, tT, tT, tT, tT, tT, tT, tT, tT, tT, tT, tT, tT, tF, tF, tF, tF, tF, tF, tF] rfl rfl (any_of HT_.out (by kernel_rfl)) (fun _ _ _ h => h) (Or.inr ⟨by rfl, rfl⟩) ?_ ?_
   rotate_left
   ·simp only [Act.put, List.setIfInBounds_toArray, List.set_cons_zero, List.set_cons_succ, i64_w, i32_w]
    rfl
   refine pure_ (i := 24) (N := some 57) (v := undef) (a' := ?_) #[tT, tT, tT, tT, tT, tT, tT, tT, tT, tT, tT, tT, tT, tT, tT, tT, tT, tT, tT, tT, tT, tT, tT, tT, tT, tF, tF, tF, tF, tF, tF] rfl rfl (any_of HT_.out (by kernel_rfl)) (fun _ _ _ h => h) (Or.inr ⟨by rfl, rfl⟩) ?_ ?_
   rotate_left
   ·simp only [Act.put, List.setIfInBounds_toArray, List.set_cons_zero, List.set_cons_succ, i64_w, i32_w]
    rfl
   refine pure_ (i := 25) (N := some 58) (v := undef) (a' := ?_) #[tT, tT, tT, tT, tT, tT, tT, tT, tT, tT, tT, tT, tT, tT, tT, tT, tT, tT, tT, tT, tT, tT, tT, tT, tT, tT, tF, tF, tF, tF, tF] rfl rfl (any_of HT_.out (by kernel_rfl)) (fun _ _ _ h => h) (Or.inr ⟨by rfl, rfl⟩) ?_ ?_
   rotate_left
   ·simp only [Act.put, List.setIfInBounds_toArray, List.set_cons_zero, List.set_cons_succ, i64_w, i32_w]
    rfl
   refine pure_ (i := 26) (N := some 59) (v := undef) (a' := ?_) #[tT, tT, tT, tT, tT, tT, tT, tT, tT, tT, tT, tT, tT, tT, tT, tT, tT, tT, tT, tT, tT, tT, tT, tT, tT, tT, tT, tF, tF, tF, tF] rfl rfl (any_of HT_.out (by kernel_rfl)) (fun _ _ _ h => h) (Or.inr ⟨by rfl, rfl⟩) ?_ ?_
   rotate_left
   ·simp only [Act.put, List.setIfInBounds_toArray, List.set_cons_zero, List.set_cons_succ, i64_w, i32_w]
    rfl
   refine pure_ (i := 27) (N := some 60) (v := undef) (a' := ?_) #[tT, tT, tT, tT, tT, tT, tT, tT, tT, tT, tT, tT, tT, tT, tT, tT, tT, tT, tT, tT, tT, tT, tT, tT, tT, tT, tT, tT, tF, tF, tF] rfl rfl (any_of HT_.out (by kernel_rfl)) (fun _ _ _ h => h) (Or.inr ⟨by rfl, rfl⟩) ?_ ?_
   rotate_left
   ·simp only [Act.put, List.setIfInBounds_toArray, List.set_cons_zero, List.set_cons_succ, i64_w, i32_w]
    rfl
   refine pure_ (i := 28) (N := some 61) (v := undef) (a' := ?_) #[tT, tT, tT, tT, tT, tT, tT, tT, tT, tT, tT, tT, tT, tT, tT, tT, tT, tT, tT, tT, tT, tT, tT, tT, tT, tT, tT, tT, tT, tF, tF] rfl rfl (any_of HT_.out (by kernel_rfl)) (fun _ _ _ h => h) (Or.inr ⟨by rfl, rfl⟩) ?_ ?_
   rotate_left
   ·simp only [Act.put, List.setIfInBounds_toArray, List.set_cons_zero, List.set_cons_succ, i64_w, i32_w]
    rfl
   refine pure_ (i := 29) (N := some 62) (v := ?_) (a' := ?_) #[tT, tT, tT, tT, tT, tT, tT, tT, tT, tT, tT, tT, tT, tT, tT, tT, tT, tT, tT, tT, tT, tT, tT, tT, tT, tT, tT, tT, tT, tT, tF] rfl rfl (any_of HT_.out (by kernel_rfl)) (fun _ _ _ h => h) (Or.inl ⟨by rfl, ?_⟩) ?_ ?_
   rotate_left
   ·intro w'
    go_simp
    with_reducible rfl
   rotate_left
   ·simp only [Act.put, List.setIfInBounds_toArray, List.set_cons_zero, List.set_cons_succ, i64_w, i32_w]
    rfl
   refine pure_ (i := 30) (N := some 2) (v := ?_) (a' := ?_) #[tT, tT, tT, tT, tT, tT, tT, tT, tT, tT, tT, tT, tT, tT, tT, tT, tT, tT, tT, tT, tT, tT, tT, tT, tT, tT, tT, tT, tT, tT, tT] rfl rfl (any_of HT_.out (by kernel_rfl)) (fun _ _ _ h => h) (Or.inl ⟨by rfl, ?_⟩) ?_ ?_
   rotate_left
   ·intro w'
    go_simp
    with_reducible rfl
   rotate_left
   ·simp only [Act.put, List.setIfInBounds_toArray, List.set_cons_zero, List.set_cons_succ, i64_w, i32_w]
    rfl
   refine done_ (done_of HT_.out (by kernel_rfl)) ?_
   try go_wp2
   go_ret
   exact ⟨by first | rfl | (simp [errW_none, errW_some] <;> rfl) | (simp [*, errW_none, errW_some] <;> rfl), by repeat (first | (with_reducible first | exact HB.out | apply below_alloc | apply pw_below_drewN | apply below_drew1 | refine below_set ?_ GE133.out | refine below_set ?_ GE153.out | refine below_set ?_ GE163.out) | exact HB.out)⟩
 ·replace c9 := Bool.eq_false_iff.mpr c9
  subst c9
  have H1 : (some false) = some r := by rw [if_neg (show ¬ (false = true) by decide)] at H; exact H
  clear H
  have H := H1
  clear H1
  obtain rfl := Option.some.inj H
  go_enter Tryd.func3, Tryd.ntmps3
  try go_wp2_with (first | ((with_reducible refine gate_dst (N := 1) rfl ?_); refine box_event ?hg (N := 1) ?hd (cs := #[.int .i64 a0_0, .int .i64 a0_1, .int .i64 a0_2]) (t := 23) ?hr ?_; (case hd => rfl); (case hg => rfl); (case hr => first | (go_simp; done) | (go_simp; rfl)); intro gb133 hg w124 hbox hb; have n0_ := Aside0.mk (below_step (by repeat (first | (with_reducible first | exact HB.out | apply below_alloc | apply pw_below_drewN | apply below_drew1) | exact HB.out)) hb); have n1_ := Aside0.mk (hbox); have n2_ := Aside0.mk ((by rw [hg]; exact (below_size (by repeat (first | (with_reducible first | exact HB.out | apply below_alloc | apply pw_below_drewN | apply below_drew1) | exact HB.out))) : w.heap.size ≤ gb133)); have n3_ := n2_; clear HB; have HB := n0_; have BK133 := n1_; have GW133 := n2_; have GE133 := n3_; clear n0_ n1_ n2_ n3_; clear hb hbox hg; have hcz125_0 : w124.cell? ⟨gb133, 0, none⟩ = some (.int .i64 a0_0) := (blk_cell BK133.out 0).trans rfl; have hcz125_1 : w124.cell? ⟨gb133, 1, none⟩ = some (.int .i64 a0_1) := (blk_cell BK133.out 1).trans rfl; have hcz125_2 : w124.cell? ⟨gb133, 2, none⟩ = some (.int .i64 a0_2) := (blk_cell BK133.out 2).trans rfl; have hfz125_0 := blk_frozen BK133.out 0; have hfz125_1 := blk_frozen BK133.out 1; have hfz125_2 := blk_frozen BK133.out 2) | ((with_reducible refine gate_callee (f := 8) rfl ?_); refine goesL_ (some 13) rfl rfl Tryd.func8 (by kernel_rfl) rfl #[.agg #[.int .i64 a0_0, .int .i64 a0_1, .int .i64 a0_2]] rfl (by (try simp only [List.map_toArray, List.map_cons, List.map_nil]); first | done | rfl) ?_; (with_reducible refine (lapwinglaw07_made.calls a0_0 a0_1 a0_2 t134 t135 t136 _ A2.out).mono ?_); rintro e w126 ⟨rfl, hb⟩; refine ⟨_, rfl, ?_⟩; have n0_ := Aside0.mk (blk_below (g := gb133) (o := .cells #[.int .i64 a0_0, .int .i64 a0_1, .int .i64 a0_2] 23 (0, 0)) (by (with_reducible repeat (first | apply blk_drewN | apply blk_drew | apply blk_alloc)); exact BK133.out) hb); have n1_ := Aside0.mk (below_step (by repeat (first | (with_reducible first | exact HB.out | apply below_alloc | apply pw_below_drewN | apply below_drew1 | refine below_set ?_ GE133.out) | exact HB.out)) hb); clear BK133; clear HB; have BK133 := n0_; have HB := n1_; clear n0_ n1_; (try clear hb); (try clear hb2); (try clear hk); (try clear hi)) | ((with_reducible refine gate_callee (f := 7) rfl ?_); refine goesL_ (some 14) rfl rfl Tryd.func7 (by kernel_rfl) rfl #[.agg #[.int .i64 t134, .int .i64 t135, .int .i64 t136]] rfl (by (try simp only [List.map_toArray, List.map_cons, List.map_nil]); first | done | rfl) ?_; (with_reducible refine (teimsg_Put.calls k t134 t135 t136 t137 t138 _ A3.out).mono ?_); rintro e w127 ⟨rfl, hb⟩; refine ⟨_, rfl, ?_⟩; have n0_ := Aside0.mk (blk_below (g := gb133) (o := .cells #[.int .i64 a0_0, .int .i64 a0_1, .int .i64 a0_2] 23 (0, 0)) (by (with_reducible repeat (first | apply blk_drewN | apply blk_drew | apply blk_alloc)); exact BK133.out) hb); have n1_ := Aside0.mk (below_step (by repeat (first | (with_reducible first | exact HB.out | apply below_alloc | apply pw_below_drewN | apply below_drew1 | refine below_set ?_ GE133.out) | exact HB.out)) hb); clear BK133; clear HB; have BK133 := n0_; have HB := n1_; clear n0_ n1_; (try clear hb); (try clear hb2); (try clear hk); (try clear hi); have hcz128_0 : w127.cell? ⟨gb133, 0, none⟩ = some (.int .i64 a0_0) := (blk_cell BK133.out 0).trans rfl; have hcz128_1 : w127.cell? ⟨gb133, 1, none⟩ = some (.int .i64 a0_1) := (blk_cell BK133.out 1).trans rfl; have hcz128_2 : w127.cell? ⟨gb133, 2, none⟩ = some (.int .i64 a0_2) := (blk_cell BK133.out 2).trans rfl; have hfz128_0 := blk_frozen BK133.out 0; have hfz128_1 := blk_frozen BK133.out 1; have hfz128_2 := blk_frozen BK133.out 2) | ((with_reducible refine gate_callee (f := 9) rfl ?_); refine goesL_ (some 19) rfl rfl Tryd.func9 (by kernel_rfl) rfl #[.agg #[.int .i64 a0_0, .int .i64 a0_1, .int .i64 a0_2]] rfl (by (try simp only [List.map_toArray, List.map_cons, List.map_nil]); first | done | rfl) ?_; (with_reducible refine (lapwingref07_Put.calls k a0_0 a0_1 a0_2 t139 t140 _ A4.out).mono ?_); rintro e w129 ⟨rfl, hb⟩; refine ⟨_, rfl, ?_⟩; have n0_ := Aside0.mk (blk_below (g := gb133) (o := .cells #[.int .i64 a0_0, .int .i64 a0_1, .int .i64 a0_2] 23 (0, 0)) (by (with_reducible repeat (first | apply blk_drewN | apply blk_drew | apply blk_alloc)); exact BK133.out) hb); have n1_ := Aside0.mk (below_step (by repeat (first | (with_reducible first | exact HB.out | apply below_alloc | apply pw_below_drewN | apply below_drew1 | refine below_set ?_ GE133.out) | exact HB.out)) hb); clear BK133; clear HB; have BK133 := n0_; have HB := n1_; clear n0_ n1_; (try clear hb); (try clear hb2); (try clear hk); (try clear hi); have hcz130_0 : w129.cell? ⟨gb133, 0, none⟩ = some (.int .i64 a0_0) := (blk_cell BK133.out 0).trans rfl; have hcz130_1 : w129.cell? ⟨gb133, 1, none⟩ = some (.int .i64 a0_1) := (blk_cell BK133.out 1).trans rfl; have hcz130_2 : w129.cell? ⟨gb133, 2, none⟩ = some (.int .i64 a0_2) := (blk_cell BK133.out 2).trans rfl; have hfz130_0 := blk_frozen BK133.out 0; have hfz130_1 := blk_frozen BK133.out 1; have hfz130_2 := blk_frozen BK133.out 2) | ((with_reducible refine gate_callee (f := 8) rfl ?_); refine goesL_ (some 24) rfl rfl Tryd.func8 (by kernel_rfl) rfl #[.agg #[.int .i64 a0_0, .int .i64 a0_1, .int .i64 a0_2]] rfl (by (try simp only [List.map_toArray, List.map_cons, List.map_nil]); first | done | rfl) ?_; (with_reducible refine (lapwinglaw07_made.calls a0_0 a0_1 a0_2 t141 t142 t143 _ A5.out).mono ?_); rintro e w131 ⟨rfl, hb⟩; refine ⟨_, rfl, ?_⟩; have n0_ := Aside0.mk (blk_below (g := gb133) (o := .cells #[.int .i64 a0_0, .int .i64 a0_1, .int .i64 a0_2] 23 (0, 0)) (by (with_reducible repeat (first | apply blk_drewN | apply blk_drew | apply blk_alloc)); exact BK133.out) hb); have n1_ := Aside0.mk (below_step (by repeat (first | (with_reducible first | exact HB.out | apply below_alloc | apply pw_below_drewN | apply below_drew1 | refine below_set ?_ GE133.out) | exact HB.out)) hb); clear BK133; clear HB; have BK133 := n0_; have HB := n1_; clear n0_ n1_; (try clear hb); (try clear hb2); (try clear hk); (try clear hi)) | ((with_reducible refine gate_callee (f := 10) rfl ?_); refine goesL_ (some 25) rfl rfl Tryd.func10 (by kernel_rfl) rfl #[.agg #[.int .i64 t141, .int .i64 t142, .int .i64 t143]] rfl (by (try simp only [List.map_toArray, List.map_cons, List.map_nil]); first | done | rfl) ?_; (with_reducible refine (teimsg_Frame.calls k t141 t142 t143 t144 t145 t146 t147 t148 t149 t150 t151 t152 _ ?side1 A6.out).mono ?_); (case side1 => first | (with_reducible exact HL.out) | (with_reducible exact Go.Proofs.YtmgiolpooamkkaaDoorX.Laid_drewN HL.out _) | exact Go.Proofs.YtmgiolpooamkkaaDoorX.Laid_below HL.out (by repeat (first | (with_reducible first | exact HB.out | apply below_alloc | apply pw_below_drewN | apply below_drew1 | refine below_set ?_ GE133.out) | exact HB.out))); rintro e w132 ⟨rfl, hb⟩; refine ⟨_, rfl, ?_⟩; have n0_ := Aside0.mk (blk_below (g := gb133) (o := .cells #[.int .i64 a0_0, .int .i64 a0_1, .int .i64 a0_2] 23 (0, 0)) (by (with_reducible repeat (first | apply blk_drewN | apply blk_drew | apply blk_alloc)); exact BK133.out) hb); have n1_ := Aside0.mk (below_step (by repeat (first | (with_reducible first | exact HB.out | apply below_alloc | apply pw_below_drewN | apply below_drew1 | refine below_set ?_ GE133.out) | exact HB.out)) hb); clear BK133; clear HB; have BK133 := n0_; have HB := n1_; clear n0_ n1_; (try clear hb); (try clear hb2); (try clear hk); (try clear hi)) | ((with_reducible refine gate_dst (N := 7) rfl ?_); refine box_event ?hg (N := 7) ?hd (cs := #[.int .i64 0, .int .i64 0, .bool false, .int .i64 0, .bool false, .int .i64 0, .int .i64 0, .string (⟨#[]⟩ : ByteArray)]) (t := 38) ?hr ?_; (case hd => rfl); (case hg => rfl); (case hr => first | (go_simp; done) | (go_simp; rfl)); intro gb153 hg w133 hbox hb; have n0_ := Aside0.mk (blk_below (g := gb133) (o := .cells #[.int .i64 a0_0, .int .i64 a0_1, .int .i64 a0_2] 23 (0, 0)) (by (with_reducible repeat (first | apply blk_drewN | apply blk_drew | apply blk_alloc)); exact BK133.out) hb); have n1_ := Aside0.mk (below_step (by repeat (first | (with_reducible first | exact HB.out | apply below_alloc | apply pw_below_drewN | apply below_drew1 | refine below_set ?_ GE133.out) | exact HB.out)) hb); have n2_ := Aside0.mk (hbox); have n3_ := Aside0.mk ((by rw [hg]; exact (below_size (by repeat (first | (with_reducible first | exact HB.out | apply below_alloc | apply pw_below_drewN | apply below_drew1 | refine below_set ?_ GE133.out) | exact HB.out))) : w.heap.size ≤ gb153)); have n4_ := n3_; have n5_ := Aside0.mk ((by rw [hg]; exact Nat.ne_of_lt (blk_lt (g := gb133) (o := .cells #[.int .i64 a0_0, .int .i64 a0_1, .int .i64 a0_2] 23 (0, 0)) (by (with_reducible repeat (first | apply blk_drewN | apply blk_drew | apply blk_alloc)); exact BK133.out)) : gb133 ≠ gb153)); have n6_ := Aside0.mk (Ne.symm n5_.out); clear BK133; clear HB; have BK133 := n0_; have HB := n1_; have BK153 := n2_; have GW153 := n3_; have GE153 := n4_; have NB133_153 := n5_; have NB153_133 := n6_; clear n0_ n1_ n2_ n3_ n4_ n5_ n6_; clear hb hbox hg; have hnb134 := NB153_133.out; have hnc134 := NB133_153.out; have hcz135_0 : w133.cell? ⟨gb153, 0, none⟩ = some (.int .i64 0) := (blk_cell BK153.out 0).trans rfl; have hcz135_1 : w133.cell? ⟨gb153, 1, none⟩ = some (.int .i64 0) := (blk_cell BK153.out 1).trans rfl; have hcz135_2 : w133.cell? ⟨gb153, 2, none⟩ = some (.bool false) := (blk_cell BK153.out 2).trans rfl; have hcz135_3 : w133.cell? ⟨gb153, 3, none⟩ = some (.int .i64 0) := (blk_cell BK153.out 3).trans rfl; have hcz135_4 : w133.cell? ⟨gb153, 4, none⟩ = some (.bool false) := (blk_cell BK153.out 4).trans rfl; have hcz135_5 : w133.cell? ⟨gb153, 5, none⟩ = some (.int .i64 0) := (blk_cell BK153.out 5).trans rfl; have hcz135_6 : w133.cell? ⟨gb153, 6, none⟩ = some (.int .i64 0) := (blk_cell BK153.out 6).trans rfl; have hcz135_7 : w133.cell? ⟨gb153, 7, none⟩ = some (.string (⟨#[]⟩ : ByteArray)) := (blk_cell BK153.out 7).trans rfl; have hfz135_0 := blk_frozen BK153.out 0; have hfz135_1 := blk_frozen BK153.out 1; have hfz135_2 := blk_frozen BK153.out 2; have hfz135_3 := blk_frozen BK153.out 3; have hfz135_4 := blk_frozen BK153.out 4; have hfz135_5 := blk_frozen BK153.out 5; have hfz135_6 := blk_frozen BK153.out 6; have hfz135_7 := blk_frozen BK153.out 7; have hcz136_0 : w133.cell? ⟨gb133, 0, none⟩ = some (.int .i64 a0_0) := (blk_cell BK133.out 0).trans rfl; have hcz136_1 : w133.cell? ⟨gb133, 1, none⟩ = some (.int .i64 a0_1) := (blk_cell BK133.out 1).trans rfl; have hcz136_2 : w133.cell? ⟨gb133, 2, none⟩ = some (.int .i64 a0_2) := (blk_cell BK133.out 2).trans rfl; have hfz136_0 := blk_frozen BK133.out 0; have hfz136_1 := blk_frozen BK133.out 1; have hfz136_2 := blk_frozen BK133.out 2) | ((with_reducible refine gate_callee (f := 11) rfl ?_); refine goesL_ (some 30) rfl rfl Tryd.func11 (by kernel_rfl) rfl #[.agg #[.int .i64 a0_0, .int .i64 a0_1, .int .i64 a0_2]] rfl (by (try simp only [List.map_toArray, List.map_cons, List.map_nil]); first | done | rfl) ?_; (with_reducible refine (lapwingref07_Frame.calls k a0_0 a0_1 a0_2 t154 t155 t156 t157 t158 t159 t160 t161 t162 _ A7.out).mono ?_); rintro e w137 ⟨rfl, hb⟩; refine ⟨_, rfl, ?_⟩; have n0_ := Aside0.mk (blk_below (g := gb133) (o := .cells #[.int .i64 a0_0, .int .i64 a0_1, .int .i64 a0_2] 23 (0, 0)) (by (with_reducible repeat (first | apply blk_drewN | apply blk_drew | apply blk_alloc)); refine blk_far ?_ NB133_153.out _; (with_reducible repeat (first | apply blk_drewN | apply blk_drew | apply blk_alloc)); refine blk_far ?_ NB133_153.out _; (with_reducible repeat (first | apply blk_drewN | apply blk_drew | apply blk_alloc)); refine blk_far ?_ NB133_153.out _; (with_reducible repeat (first | apply blk_drewN | apply blk_drew | apply blk_alloc)); refine blk_far ?_ NB133_153.out _; (with_reducible repeat (first | apply blk_drewN | apply blk_drew | apply blk_alloc)); refine blk_far ?_ NB133_153.out _; (with_reducible repeat (first | apply blk_drewN | apply blk_drew | apply blk_alloc)); refine blk_far ?_ NB133_153.out _; (with_reducible repeat (first | apply blk_drewN | apply blk_drew | apply blk_alloc)); refine blk_far ?_ NB133_153.out _; (with_reducible repeat (first | apply blk_drewN | apply blk_drew | apply blk_alloc)); refine blk_far ?_ NB133_153.out _; (with_reducible repeat (first | apply blk_drewN | apply blk_drew | apply blk_alloc)); exact BK133.out) hb); have n1_ := Aside0.mk (blk_below (g := gb153) (o := .cells #[.int .i64 t144, .int .i64 t145, .bool t146, .int .i64 t147, .bool t148, .int .i64 t149, .int .i64 t150, .string t151] 38 (0, 0)) (by (with_reducible repeat (first | apply blk_drewN | apply blk_drew | apply blk_alloc)); refine blk_put (cs := #[.int .i64 t144, .int .i64 t145, .bool t146, .int .i64 t147, .bool t148, .int .i64 t149, .int .i64 t150, .string (⟨#[]⟩ : ByteArray)]) ?_ 7 _ rfl; (with_reducible repeat (first | apply blk_drewN | apply blk_drew | apply blk_alloc)); refine blk_put (cs := #[.int .i64 t144, .int .i64 t145, .bool t146, .int .i64 t147, .bool t148, .int .i64 t149, .int .i64 0, .string (⟨#[]⟩ : ByteArray)]) ?_ 6 _ rfl; (with_reducible repeat (first | apply blk_drewN | apply blk_drew | apply blk_alloc)); refine blk_put (cs := #[.int .i64 t144, .int .i64 t145, .bool t146, .int .i64 t147, .bool t148, .int .i64 0, .int .i64 0, .string (⟨#[]⟩ : ByteArray)]) ?_ 5 _ rfl; (with_reducible repeat (first | apply blk_drewN | apply blk_drew | apply blk_alloc)); refine blk_put (cs := #[.int .i64 t144, .int .i64 t145, .bool t146, .int .i64 t147, .bool false, .int .i64 0, .int .i64 0, .string (⟨#[]⟩ : ByteArray)]) ?_ 4 _ rfl; (with_reducible repeat (first | apply blk_drewN | apply blk_drew | apply blk_alloc)); refine blk_put (cs := #[.int .i64 t144, .int .i64 t145, .bool t146, .int .i64 0, .bool false, .int .i64 0, .int .i64 0, .string (⟨#[]⟩ : ByteArray)]) ?_ 3 _ rfl; (with_reducible repeat (first | apply blk_drewN | apply blk_drew | apply blk_alloc)); refine blk_put (cs := #[.int .i64 t144, .int .i64 t145, .bool false, .int .i64 0, .bool false, .int .i64 0, .int .i64 0, .string (⟨#[]⟩ : ByteArray)]) ?_ 2 _ rfl; (with_reducible repeat (first | apply blk_drewN | apply blk_drew | apply blk_alloc)); refine blk_put (cs := #[.int .i64 t144, .int .i64 0, .bool false, .int .i64 0, .bool false, .int .i64 0, .int .i64 0, .string (⟨#[]⟩ : ByteArray)]) ?_ 1 _ rfl; (with_reducible repeat (first | apply blk_drewN | apply blk_drew | apply blk_alloc)); refine blk_put (cs := #[.int .i64 0, .int .i64 0, .bool false, .int .i64 0, .bool false, .int .i64 0, .int .i64 0, .string (⟨#[]⟩ : ByteArray)]) ?_ 0 _ rfl; (with_reducible repeat (first | apply blk_drewN | apply blk_drew | apply blk_alloc)); exact BK153.out) hb); have n2_ := Aside0.mk (below_step (by repeat (first | (with_reducible first | exact HB.out | apply below_alloc | apply pw_below_drewN | apply below_drew1 | refine below_set ?_ GE133.out | refine below_set ?_ GE153.out) | exact HB.out)) hb); clear BK133; clear BK153; clear HB; have BK133 := n0_; have BK153 := n1_; have HB := n2_; clear n0_ n1_ n2_; (try clear hb); (try clear hb2); (try clear hk); (try clear hi)) | ((with_reducible refine gate_dst (N := 9) rfl ?_); refine box_event ?hg (N := 9) ?hd (cs := #[.int .i64 0, .int .i64 0, .bool false, .int .i64 0, .bool false, .int .i64 0, .int .i64 0, .string (⟨#[]⟩ : ByteArray)]) (t := 42) ?hr ?_; (case hd => rfl); (case hg => rfl); (case hr => first | (go_simp; done) | (go_simp; rfl)); intro gb163 hg w138 hbox hb; have n0_ := Aside0.mk (blk_below (g := gb133) (o := .cells #[.int .i64 a0_0, .int .i64 a0_1, .int .i64 a0_2] 23 (0, 0)) (by (with_reducible repeat (first | apply blk_drewN | apply blk_drew | apply blk_alloc)); exact BK133.out) hb); have n1_ := Aside0.mk (blk_below (g := gb153) (o := .cells #[.int .i64 t144, .int .i64 t145, .bool t146, .int .i64 t147, .bool t148, .int .i64 t149, .int .i64 t150, .string t151] 38 (0, 0)) (by (with_reducible repeat (first | apply blk_drewN | apply blk_drew | apply blk_alloc)); exact BK153.out) hb); have n2_ := Aside0.mk (below_step (by repeat (first | (with_reducible first | exact HB.out | apply below_alloc | apply pw_below_drewN | apply below_drew1 | refine below_set ?_ GE133.out | refine below_set ?_ GE153.out) | exact HB.out)) hb); have n3_ := Aside0.mk (hbox); have n4_ := Aside0.mk ((by rw [hg]; exact (below_size (by repeat (first | (with_reducible first | exact HB.out | apply below_alloc | apply pw_below_drewN | apply below_drew1 | refine below_set ?_ GE133.out | refine below_set ?_ GE153.out) | exact HB.out))) : w.heap.size ≤ gb163)); have n5_ := n4_; have n6_ := Aside0.mk ((by rw [hg]; exact Nat.ne_of_lt (blk_lt (g := gb133) (o := .cells #[.int .i64 a0_0, .int .i64 a0_1, .int .i64 a0_2] 23 (0, 0)) (by (with_reducible repeat (first | apply blk_drewN | apply blk_drew | apply blk_alloc)); exact BK133.out)) : gb133 ≠ gb163)); have n7_ := Aside0.mk (Ne.symm n6_.out); have n8_ := Aside0.mk ((by rw [hg]; exact Nat.ne_of_lt (blk_lt (g := gb153) (o := .cells #[.int .i64 t144, .int .i64 t145, .bool t146, .int .i64 t147, .bool t148, .int .i64 t149, .int .i64 t150, .string t151] 38 (0, 0)) (by (with_reducible repeat (first | apply blk_drewN | apply blk_drew | apply blk_alloc)); exact BK153.out)) : gb153 ≠ gb163)); have n9_ := Aside0.mk (Ne.symm n8_.out); clear BK133; clear BK153; clear HB; have BK133 := n0_; have BK153 := n1_; have HB := n2_; have BK163 := n3_; have GW163 := n4_; have GE163 := n5_; have NB133_163 := n6_; have NB163_133 := n7_; have NB153_163 := n8_; have NB163_153 := n9_; clear n0_ n1_ n2_ n3_ n4_ n5_ n6_ n7_ n8_ n9_; clear hb hbox hg; have hnb139 := NB163_133.out; have hnc139 := NB133_163.out; have hnb140 := NB163_153.out; have hnc140 := NB153_163.out; have hcz141_0 : w138.cell? ⟨gb163, 0, none⟩ = some (.int .i64 0) := (blk_cell BK163.out 0).trans rfl; have hcz141_1 : w138.cell? ⟨gb163, 1, none⟩ = some (.int .i64 0) := (blk_cell BK163.out 1).trans rfl; have hcz141_2 : w138.cell? ⟨gb163, 2, none⟩ = some (.bool false) := (blk_cell BK163.out 2).trans rfl; have hcz141_3 : w138.cell? ⟨gb163, 3, none⟩ = some (.int .i64 0) := (blk_cell BK163.out 3).trans rfl; have hcz141_4 : w138.cell? ⟨gb163, 4, none⟩ = some (.bool false) := (blk_cell BK163.out 4).trans rfl; have hcz141_5 : w138.cell? ⟨gb163, 5, none⟩ = some (.int .i64 0) := (blk_cell BK163.out 5).trans rfl; have hcz141_6 : w138.cell? ⟨gb163, 6, none⟩ = some (.int .i64 0) := (blk_cell BK163.out 6).trans rfl; have hcz141_7 : w138.cell? ⟨gb163, 7, none⟩ = some (.string (⟨#[]⟩ : ByteArray)) := (blk_cell BK163.out 7).trans rfl; have hfz141_0 := blk_frozen BK163.out 0; have hfz141_1 := blk_frozen BK163.out 1; have hfz141_2 := blk_frozen BK163.out 2; have hfz141_3 := blk_frozen BK163.out 3; have hfz141_4 := blk_frozen BK163.out 4; have hfz141_5 := blk_frozen BK163.out 5; have hfz141_6 := blk_frozen BK163.out 6; have hfz141_7 := blk_frozen BK163.out 7))
  have n0_ : Aside0 (((((((((w138.setCell ⟨gb163, 0, none⟩ (.int .i64 t154)).setCell ⟨gb163, 1, none⟩ (.int .i64 t155)).setCell ⟨gb163, 2, none⟩ (.bool t156)).setCell ⟨gb163, 3, none⟩ (.int .i64 t157)).setCell ⟨gb163, 4, none⟩ (.bool t158)).setCell ⟨gb163, 5, none⟩ (.int .i64 t159)).setCell ⟨gb163, 6, none⟩ (.int .i64 t160)).setCell ⟨gb163, 7, none⟩ (.string t161)).heap[gb133]? = some (.cells #[.int .i64 a0_0, .int .i64 a0_1, .int .i64 a0_2] 23 (0, 0))) := ⟨by (with_reducible repeat (first | apply blk_drewN | apply blk_drew | apply blk_alloc)); refine blk_far ?_ NB133_163.out _; (with_reducible repeat (first | apply blk_drewN | apply blk_drew | apply blk_alloc)); refine blk_far ?_ NB133_163.out _; (with_reducible repeat (first | apply blk_drewN | apply blk_drew | apply blk_alloc)); refine blk_far ?_ NB133_163.out _; (with_reducible repeat (first | apply blk_drewN | apply blk_drew | apply blk_alloc)); refine blk_far ?_ NB133_163.out _; (with_reducible repeat (first | apply blk_drewN | apply blk_drew | apply blk_alloc)); refine blk_far ?_ NB133_163.out _; (with_reducible repeat (first | apply blk_drewN | apply blk_drew | apply blk_alloc)); refine blk_far ?_ NB133_163.out _; (with_reducible repeat (first | apply blk_drewN | apply blk_drew | apply blk_alloc)); refine blk_far ?_ NB133_163.out _; (with_reducible repeat (first | apply blk_drewN | apply blk_drew | apply blk_alloc)); refine blk_far ?_ NB133_163.out _; (with_reducible repeat (first | apply blk_drewN | apply blk_drew | apply blk_alloc)); exact BK133.out⟩
  have n1_ : Aside0 (((((((((w138.setCell ⟨gb163, 0, none⟩ (.int .i64 t154)).setCell ⟨gb163, 1, none⟩ (.int .i64 t155)).setCell ⟨gb163, 2, none⟩ (.bool t156)).setCell ⟨gb163, 3, none⟩ (.int .i64 t157)).setCell ⟨gb163, 4, none⟩ (.bool t158)).setCell ⟨gb163, 5, none⟩ (.int .i64 t159)).setCell ⟨gb163, 6, none⟩ (.int .i64 t160)).setCell ⟨gb163, 7, none⟩ (.string t161)).heap[gb153]? = some (.cells #[.int .i64 t144, .int .i64 t145, .bool t146, .int .i64 t147, .bool t148, .int .i64 t149, .int .i64 t150, .string t151] 38 (0, 0))) := ⟨by (with_reducible repeat (first | apply blk_drewN | apply blk_drew | apply blk_alloc)); refine blk_far ?_ NB153_163.out _; (with_reducible repeat (first | apply blk_drewN | apply blk_drew | apply blk_alloc)); refine blk_far ?_ NB153_163.out _; (with_reducible repeat (first | apply blk_drewN | apply blk_drew | apply blk_alloc)); refine blk_far ?_ NB153_163.out _; (with_reducible repeat (first | apply blk_drewN | apply blk_drew | apply blk_alloc)); refine blk_far ?_ NB153_163.out _; (with_reducible repeat (first | apply blk_drewN | apply blk_drew | apply blk_alloc)); refine blk_far ?_ NB153_163.out _; (with_reducible repeat (first | apply blk_drewN | apply blk_drew | apply blk_alloc)); refine blk_far ?_ NB153_163.out _; (with_reducible repeat (first | apply blk_drewN | apply blk_drew | apply blk_alloc)); refine blk_far ?_ NB153_163.out _; (with_reducible repeat (first | apply blk_drewN | apply blk_drew | apply blk_alloc)); refine blk_far ?_ NB153_163.out _; (with_reducible repeat (first | apply blk_drewN | apply blk_drew | apply blk_alloc)); exact BK153.out⟩
  have n2_ : Aside0 (((((((((w138.setCell ⟨gb163, 0, none⟩ (.int .i64 t154)).setCell ⟨gb163, 1, none⟩ (.int .i64 t155)).setCell ⟨gb163, 2, none⟩ (.bool t156)).setCell ⟨gb163, 3, none⟩ (.int .i64 t157)).setCell ⟨gb163, 4, none⟩ (.bool t158)).setCell ⟨gb163, 5, none⟩ (.int .i64 t159)).setCell ⟨gb163, 6, none⟩ (.int .i64 t160)).setCell ⟨gb163, 7, none⟩ (.string t161)).heap[gb163]? = some (.cells #[.int .i64 t154, .int .i64 t155, .bool t156, .int .i64 t157, .bool t158, .int .i64 t159, .int .i64 t160, .string t161] 42 (0, 0))) := ⟨by (with_reducible repeat (first | apply blk_drewN | apply blk_drew | apply blk_alloc)); refine blk_put (cs := #[.int .i64 t154, .int .i64 t155, .bool t156, .int .i64 t157, .bool t158, .int .i64 t159, .int .i64 t160, .string (⟨#[]⟩ : ByteArray)]) ?_ 7 _ rfl; (with_reducible repeat (first | apply blk_drewN | apply blk_drew | apply blk_alloc)); refine blk_put (cs := #[.int .i64 t154, .int .i64 t155, .bool t156, .int .i64 t157, .bool t158, .int .i64 t159, .int .i64 0, .string (⟨#[]⟩ : ByteArray)]) ?_ 6 _ rfl; (with_reducible repeat (first | apply blk_drewN | apply blk_drew | apply blk_alloc)); refine blk_put (cs := #[.int .i64 t154, .int .i64 t155, .bool t156, .int .i64 t157, .bool t158, .int .i64 0, .int .i64 0, .string (⟨#[]⟩ : ByteArray)]) ?_ 5 _ rfl; (with_reducible repeat (first | apply blk_drewN | apply blk_drew | apply blk_alloc)); refine blk_put (cs := #[.int .i64 t154, .int .i64 t155, .bool t156, .int .i64 t157, .bool false, .int .i64 0, .int .i64 0, .string (⟨#[]⟩ : ByteArray)]) ?_ 4 _ rfl; (with_reducible repeat (first | apply blk_drewN | apply blk_drew | apply blk_alloc)); refine blk_put (cs := #[.int .i64 t154, .int .i64 t155, .bool t156, .int .i64 0, .bool false, .int .i64 0, .int .i64 0, .string (⟨#[]⟩ : ByteArray)]) ?_ 3 _ rfl; (with_reducible repeat (first | apply blk_drewN | apply blk_drew | apply blk_alloc)); refine blk_put (cs := #[.int .i64 t154, .int .i64 t155, .bool false, .int .i64 0, .bool false, .int .i64 0, .int .i64 0, .string (⟨#[]⟩ : ByteArray)]) ?_ 2 _ rfl; (with_reducible repeat (first | apply blk_drewN | apply blk_drew | apply blk_alloc)); refine blk_put (cs := #[.int .i64 t154, .int .i64 0, .bool false, .int .i64 0, .bool false, .int .i64 0, .int .i64 0, .string (⟨#[]⟩ : ByteArray)]) ?_ 1 _ rfl; (with_reducible repeat (first | apply blk_drewN | apply blk_drew | apply blk_alloc)); refine blk_put (cs := #[.int .i64 0, .int .i64 0, .bool false, .int .i64 0, .bool false, .int .i64 0, .int .i64 0, .string (⟨#[]⟩ : ByteArray)]) ?_ 0 _ rfl; (with_reducible repeat (first | apply blk_drewN | apply blk_drew | apply blk_alloc)); exact BK163.out⟩
  have n3_ : Aside0 (Below w.heap.size w ((((((((w138.setCell ⟨gb163, 0, none⟩ (.int .i64 t154)).setCell ⟨gb163, 1, none⟩ (.int .i64 t155)).setCell ⟨gb163, 2, none⟩ (.bool t156)).setCell ⟨gb163, 3, none⟩ (.int .i64 t157)).setCell ⟨gb163, 4, none⟩ (.bool t158)).setCell ⟨gb163, 5, none⟩ (.int .i64 t159)).setCell ⟨gb163, 6, none⟩ (.int .i64 t160)).setCell ⟨gb163, 7, none⟩ (.string t161))) := ⟨by repeat (first | (with_reducible first | exact HB.out | apply below_alloc | apply pw_below_drewN | apply below_drew1 | refine below_set ?_ GE133.out | refine below_set ?_ GE153.out | refine below_set ?_ GE163.out) | exact HB.out)⟩
  (try clear BK133)
  (try clear BK153)
  (try clear BK163)
  (try clear HB)
  generalize ((((((((w138.setCell ⟨gb163, 0, none⟩ (.int .i64 t154)).setCell ⟨gb163, 1, none⟩ (.int .i64 t155)).setCell ⟨gb163, 2, none⟩ (.bool t156)).setCell ⟨gb163, 3, none⟩ (.int .i64 t157)).setCell ⟨gb163, 4, none⟩ (.bool t158)).setCell ⟨gb163, 5, none⟩ (.int .i64 t159)).setCell ⟨gb163, 6, none⟩ (.int .i64 t160)).setCell ⟨gb163, 7, none⟩ (.string t161)) = w142 at n0_ n1_ n2_ n3_ ⊢
  have BK133 := n0_
  have BK153 := n1_
  have BK163 := n2_
  have HB := n3_
  clear n0_ n1_ n2_ n3_
  have n0_ := Aside0.mk (blk_drew BK133.out)
  have n1_ := Aside0.mk (blk_drew BK153.out)
  have n2_ := Aside0.mk (blk_drew BK163.out)
  have n3_ := Aside0.mk (below_drew1 HB.out)
  clear BK133
  clear BK153
  clear BK163
  clear HB
  have BK133 := n0_
  have BK153 := n1_
  have BK163 := n2_
  have HB := n3_
  clear n0_ n1_ n2_ n3_
  refine start_ (n := 31) (S := fun w' => True) (ds := []) #[tF, tF, tF, tF, tF, tF, tF, tF, tF, tF, tF, tF, tF, tF, tF, tF, tF, tF, tF, tF, tF, tF, tF, tF, tF, tF, tF, tF, tF, tF, tF] (by kernel_rfl) rfl rfl trivial (fun hHeld => ?_); refine with_tabW lapwinglaw07_TeimsgPuts.tab5 lapwinglaw07_TeimsgPuts.bits5 (fun HT_ HW_ => ?_)
  generalize w142.drew = w143 at BK133 BK153 BK163 HB hHeld ⊢
  refine one_ (i := 0) (N := some 33) #[tT, tF, tF, tF, tF, tF, tF, tF, tF, tF, tF, tF, tF, tF, tF, tF, tF, tF, tF, tF, tF, tF, tF, tF, tF, tF, tF, tF, tF, tF, tF] rfl rfl (one_of HT_.out (by kernel_rfl)) (by decide) (fun K hK => ?_)
  refine goes_ Tryd.func12 (by kernel_rfl) rfl #[] (by rfl) rfl rfl (by (try simp only [List.map_toArray, List.map_cons, List.map_nil]); first | done | rfl) ?_
  with_reducible refine (lapwinglaw07_wakes.calls k  false _ A8.out).mono ?_
  rintro e w144 ⟨rfl, hb⟩
  refine ⟨_, rfl, ?_⟩
  have n0_ := Aside0.mk (blk_below (g := gb133) (o := .cells #[.int .i64 a0_0, .int .i64 a0_1, .int .i64 a0_2] 23 (0, 0)) (by (with_reducible repeat (first | apply blk_drewN | apply blk_drew | apply blk_alloc)); exact BK133.out) hb)
  have n1_ := Aside0.mk (blk_below (g := gb153) (o := .cells #[.int .i64 t144, .int .i64 t145, .bool t146, .int .i64 t147, .bool t148, .int .i64 t149, .int .i64 t150, .string t151] 38 (0, 0)) (by (with_reducible repeat (first | apply blk_drewN | apply blk_drew | apply blk_alloc)); exact BK153.out) hb)
  have n2_ := Aside0.mk (blk_below (g := gb163) (o := .cells #[.int .i64 t154, .int .i64 t155, .bool t156, .int .i64 t157, .bool t158, .int .i64 t159, .int .i64 t160, .string t161] 42 (0, 0)) (by (with_reducible repeat (first | apply blk_drewN | apply blk_drew | apply blk_alloc)); exact BK163.out) hb)
  have n3_ := Aside0.mk (below_step (by repeat (first | (with_reducible first | exact HB.out | apply below_alloc | apply pw_below_drewN | apply below_drew1 | refine below_set ?_ GE133.out | refine below_set ?_ GE153.out | refine below_set ?_ GE163.out) | exact HB.out)) hb)
  clear BK133
  clear BK153
  clear BK163
  clear HB
  have BK133 := n0_
  have BK153 := n1_
  have BK163 := n2_
  have HB := n3_
  clear n0_ n1_ n2_ n3_
  (try clear hb)
  (try clear hb2)
  (try clear hk)
  (try clear hi)
  refine hK.out _ _ trivial (fun hHeld => ?_)
  clear hK K
  refine norm_ (a' := ?_) ?_ ?_
  rotate_left
  ·show Act.put _ (some 33) _ = _
   simp only [Act.put, List.setIfInBounds_toArray, List.set_cons_zero, List.set_cons_succ, i64_w, i32_w]
   rfl
  refine pure_ (i := 1) (N := some 34) (v := ?_) (a' := ?_) #[tT, tT, tF, tF, tF, tF, tF, tF, tF, tF, tF, tF, tF, tF, tF, tF, tF, tF, tF, tF, tF, tF, tF, tF, tF, tF, tF, tF, tF, tF, tF] rfl rfl (any_of HT_.out (by kernel_rfl)) (fun _ _ _ h => h) (Or.inl ⟨by rfl, ?_⟩) ?_ ?_
  rotate_left
  ·intro w'
   go_simp
   with_reducible rfl
  rotate_left
  ·simp only [Act.put, List.setIfInBounds_toArray, List.set_cons_zero, List.set_cons_succ, i64_w, i32_w]
   rfl
  refine pure_ (i := 2) (N := some 35) (v := undef) (a' := ?_) #[tT, tT, tT, tF, tF, tF, tF, tF, tF, tF, tF, tF, tF, tF, tF, tF, tF, tF, tF, tF, tF, tF, tF, tF, tF, tF, tF, tF, tF, tF, tF] rfl rfl (any_of HT_.out (by kernel_rfl)) (fun _ _ _ h => h) (Or.inr ⟨by rfl, rfl⟩) ?_ ?_
  rotate_left
  ·simp only [Act.put, List.setIfInBounds_toArray, List.set_cons_zero, List.set_cons_succ, i64_w, i32_w]
   rfl
  refine pure_ (i := 3) (N := some 36) (v := undef) (a' := ?_) #[tT, tT, tT, tT, tF, tF, tF, tF, tF, tF, tF, tF, tF, tF, tF, tF, tF, tF, tF, tF, tF, tF, tF, tF, tF, tF, tF, tF, tF, tF, tF] rfl rfl (any_of HT_.out (by kernel_rfl)) (fun _ _ _ h => h) (Or.inr ⟨by rfl, rfl⟩) ?_ ?_
  rotate_left
  ·simp only [Act.put, List.setIfInBounds_toArray, List.set_cons_zero, List.set_cons_succ, i64_w, i32_w]
   rfl
  refine pure_ (i := 4) (N := some 37) (v := undef) (a' := ?_) #[tT, tT, tT, tT, tT, tF, tF, tF, tF, tF, tF, tF, tF, tF, tF, tF, tF, tF, tF, tF, tF, tF, tF, tF, tF, tF, tF, tF, tF, tF, tF] rfl rfl (any_of HT_.out (by kernel_rfl)) (fun _ _ _ h => h) (Or.inr ⟨by rfl, rfl⟩) ?_ ?_
  rotate_left
  ·simp only [Act.put, List.setIfInBounds_toArray, List.set_cons_zero, List.set_cons_succ, i64_w, i32_w]
   rfl
  refine pure_ (i := 5) (N := some 38) (v := ?_) (a' := ?_) #[tT, tT, tT, tT, tT, tT, tF, tF, tF, tF, tF, tF, tF, tF, tF, tF, tF, tF, tF, tF, tF, tF, tF, tF, tF, tF, tF, tF, tF, tF, tF] rfl rfl (any_of HT_.out (by kernel_rfl)) (fun _ _ _ h => h) (Or.inl ⟨by rfl, ?_⟩) ?_ ?_
  rotate_left
  ·intro w'
   go_simp
   with_reducible rfl
  rotate_left
  ·simp only [Act.put, List.setIfInBounds_toArray, List.set_cons_zero, List.set_cons_succ, i64_w, i32_w]
   rfl
  refine pure_ (i := 6) (N := some 39) (v := ?_) (a' := ?_) #[tT, tT, tT, tT, tT, tT, tT, tF, tF, tF, tF, tF, tF, tF, tF, tF, tF, tF, tF, tF, tF, tF, tF, tF, tF, tF, tF, tF, tF, tF, tF] rfl rfl (any_of HT_.out (by kernel_rfl)) (fun _ _ _ h => h) (Or.inl ⟨by rfl, ?_⟩) ?_ ?_
  rotate_left
  ·intro w'
   go_simp
   with_reducible rfl
  rotate_left
  ·simp only [Act.put, List.setIfInBounds_toArray, List.set_cons_zero, List.set_cons_succ, i64_w, i32_w]
   rfl
  refine pure_ (i := 7) (N := some 40) (v := undef) (a' := ?_) #[tT, tT, tT, tT, tT, tT, tT, tT, tF, tF, tF, tF, tF, tF, tF, tF, tF, tF, tF, tF, tF, tF, tF, tF, tF, tF, tF, tF, tF, tF, tF] rfl rfl (any_of HT_.out (by kernel_rfl)) (fun _ _ _ h => h) (Or.inr ⟨by rfl, rfl⟩) ?_ ?_
  rotate_left
  ·simp only [Act.put, List.setIfInBounds_toArray, List.set_cons_zero, List.set_cons_succ, i64_w, i32_w]
   rfl
  refine pure_ (i := 8) (N := some 41) (v := undef) (a' := ?_) #[tT, tT, tT, tT, tT, tT, tT, tT, tT, tF, tF, tF, tF, tF, tF, tF, tF, tF, tF, tF, tF, tF, tF, tF, tF, tF, tF, tF, tF, tF, tF] rfl rfl (any_of HT_.out (by kernel_rfl)) (fun _ _ _ h => h) (Or.inr ⟨by rfl, rfl⟩) ?_ ?_
  rotate_left
  ·simp only [Act.put, List.setIfInBounds_toArray, List.set_cons_zero, List.set_cons_succ, i64_w, i32_w]
   rfl
  refine pure_ (i := 9) (N := some 42) (v := undef) (a' := ?_) #[tT, tT, tT, tT, tT, tT, tT, tT, tT, tT, tF, tF, tF, tF, tF, tF, tF, tF, tF, tF, tF, tF, tF, tF, tF, tF, tF, tF, tF, tF, tF] rfl rfl (any_of HT_.out (by kernel_rfl)) (fun _ _ _ h => h) (Or.inr ⟨by rfl, rfl⟩) ?_ ?_
  rotate_left
  ·simp only [Act.put, List.setIfInBounds_toArray, List.set_cons_zero, List.set_cons_succ, i64_w, i32_w]
   rfl
  refine pure_ (i := 10) (N := some 43) (v := ?_) (a' := ?_) #[tT, tT, tT, tT, tT, tT, tT, tT, tT, tT, tT, tF, tF, tF, tF, tF, tF, tF, tF, tF, tF, tF, tF, tF, tF, tF, tF, tF, tF, tF, tF] rfl rfl (any_of HT_.out (by kernel_rfl)) (fun _ _ _ h => h) (Or.inl ⟨by rfl, ?_⟩) ?_ ?_
  rotate_left
  ·intro w'
   go_simp
   with_reducible rfl
  rotate_left
  ·simp only [Act.put, List.setIfInBounds_toArray, List.set_cons_zero, List.set_cons_succ, i64_w, i32_w]
   rfl
  refine pure_ (i := 11) (N := some 44) (v := ?_) (a' := ?_) #[tT, tT, tT, tT, tT, tT, tT, tT, tT, tT, tT, tT, tF, tF, tF, tF, tF, tF, tF, tF, tF, tF, tF, tF, tF, tF, tF, tF, tF, tF, tF] rfl rfl (any_of HT_.out (by kernel_rfl)) (fun _ _ _ h => h) (Or.inl ⟨by rfl, ?_⟩) ?_ ?_
  rotate_left
  ·intro w'
   go_simp
   with_reducible rfl
  rotate_left
  ·simp only [Act.put, List.setIfInBounds_toArray, List.set_cons_zero, List.set_cons_succ, i64_w, i32_w]
   rfl
  refine pure_ (i := 12) (N := some 45) (v := undef) (a' := ?_) #[tT, tT, tT, tT, tT, tT, tT, tT, tT, tT, tT, tT, tT, tF, tF, tF, tF, tF, tF, tF, tF, tF, tF, tF, tF, tF, tF, tF, tF, tF, tF] rfl rfl (any_of HT_.out (by kernel_rfl)) (fun _ _ _ h => h) (Or.inr ⟨by rfl, rfl⟩) ?_ ?_
  rotate_left
  ·simp only [Act.put, List.setIfInBounds_toArray, List.set_cons_zero, List.set_cons_succ, i64_w, i32_w]
   rfl
  refine pure_ (i := 13) (N := some 46) (v := undef) (a' := ?_) #[tT, tT, tT, tT, tT, tT, tT, tT, tT, tT, tT, tT, tT, tT, tF, tF, tF, tF, tF, tF, tF, tF, tF, tF, tF, tF, tF, tF, tF, tF, tF] rfl rfl (any_of HT_.out (by kernel_rfl)) (fun _ _ _ h => h) (Or.inr ⟨by rfl, rfl⟩) ?_ ?_
  rotate_left
  ·simp only [Act.put, List.setIfInBounds_toArray, List.set_cons_zero, List.set_cons_succ, i64_w, i32_w]
   rfl
  refine pure_ (i := 14) (N := some 47) (v := undef) (a' := ?_) #[tT, tT, tT, tT, tT, tT, tT, tT, tT, tT, tT, tT, tT, tT, tT, tF, tF, tF, tF, tF, tF, tF, tF, tF, tF, tF, tF, tF, tF, tF, tF] rfl rfl (any_of HT_.out (by kernel_rfl)) (fun _ _ _ h => h) (Or.inr ⟨by rfl, rfl⟩) ?_ ?_
  rotate_left
  ·simp only [Act.put, List.setIfInBounds_toArray, List.set_cons_zero, List.set_cons_succ, i64_w, i32_w]
   rfl
  refine pure_ (i := 15) (N := some 48) (v := ?_) (a' := ?_) #[tT, tT, tT, tT, tT, tT, tT, tT, tT, tT, tT, tT, tT, tT, tT, tT, tF, tF, tF, tF, tF, tF, tF, tF, tF, tF, tF, tF, tF, tF, tF] rfl rfl (any_of HT_.out (by kernel_rfl)) (fun _ _ _ h => h) (Or.inl ⟨by rfl, ?_⟩) ?_ ?_
  rotate_left
  ·intro w'
   go_simp
   with_reducible rfl
  rotate_left
  ·simp only [Act.put, List.setIfInBounds_toArray, List.set_cons_zero, List.set_cons_succ, i64_w, i32_w]
   rfl
  refine pure_ (i := 16) (N := some 49) (v := ?_) (a' := ?_) #[tT, tT, tT, tT, tT, tT, tT, tT, tT, tT, tT, tT, tT, tT, tT, tT, tT, tF, tF, tF, tF, tF, tF, tF, tF, tF, tF, tF, tF, tF, tF] rfl rfl (any_of HT_.out (by kernel_rfl)) (fun _ _ _ h => h) (Or.inl ⟨by rfl, ?_⟩) ?_ ?_
  rotate_left
  ·intro w'
   go_simp
   with_reducible rfl
  rotate_left
  ·simp only [Act.put, List.setIfInBounds_toArray, List.set_cons_zero, List.set_cons_succ, i64_w, i32_w]
   rfl
  refine pure_ (i := 17) (N := some 50) (v := undef) (a' := ?_) #[tT, tT, tT, tT, tT, tT, tT, tT, tT, tT, tT, tT, tT, tT, tT, tT, tT, tT, tF, tF, tF, tF, tF, tF, tF, tF, tF, tF, tF, tF, tF] rfl rfl (any_of HT_.out (by kernel_rfl)) (fun _ _ _ h => h) (Or.inr ⟨by rfl, rfl⟩) ?_ ?_
  rotate_left
  ·simp only [Act.put, List.setIfInBounds_toArray, List.set_cons_zero, List.set_cons_succ, i64_w, i32_w]
   rfl
  refine pure_ (i := 18) (N := some 51) (v := undef) (a' := ?_) #[tT, tT, tT, tT, tT, tT, tT, tT, tT, tT, tT, tT, tT, tT, tT, tT, tT, tT, tT, tF, tF, tF, tF, tF, tF, tF, tF, tF, tF, tF, tF] rfl rfl (any_of HT_.out (by kernel_rfl)) (fun _ _ _ h => h) (Or.inr ⟨by rfl, rfl⟩) ?_ ?_
  rotate_left
  ·simp only [Act.put, List.setIfInBounds_toArray, List.set_cons_zero, List.set_cons_succ, i64_w, i32_w]
   rfl
  refine pure_ (i := 19) (N := some 52) (v := undef) (a' := ?_) #[tT, tT, tT, tT, tT, tT, tT, tT, tT, tT, tT, tT, tT, tT, tT, tT, tT, tT, tT, tT, tF, tF, tF, tF, tF, tF, tF, tF, tF, tF, tF] rfl rfl (any_of HT_.out (by kernel_rfl)) (fun _ _ _ h => h) (Or.inr ⟨by rfl, rfl⟩) ?_ ?_
  rotate_left
  ·simp only [Act.put, List.setIfInBounds_toArray, List.set_cons_zero, List.set_cons_succ, i64_w, i32_w]
   rfl
  refine pure_ (i := 20) (N := some 53) (v := ?_) (a' := ?_) #[tT, tT, tT, tT, tT, tT, tT, tT, tT, tT, tT, tT, tT, tT, tT, tT, tT, tT, tT, tT, tT, tF, tF, tF, tF, tF, tF, tF, tF, tF, tF] rfl rfl (any_of HT_.out (by kernel_rfl)) (fun _ _ _ h => h) (Or.inl ⟨by rfl, ?_⟩) ?_ ?_
  rotate_left
  ·intro w'
   go_simp
   with_reducible rfl
  rotate_left
  ·simp only [Act.put, List.setIfInBounds_toArray, List.set_cons_zero, List.set_cons_succ, i64_w, i32_w]
   rfl
  refine pure_ (i := 21) (N := some 54) (v := ?_) (a' := ?_) #[tT, tT, tT, tT, tT, tT, tT, tT, tT, tT, tT, tT, tT, tT, tT, tT, tT, tT, tT, tT, tT, tT, tF, tF, tF, tF, tF, tF, tF, tF, tF] rfl rfl (any_of HT_.out (by kernel_rfl)) (fun _ _ _ h => h) (Or.inl ⟨by rfl, ?_⟩) ?_ ?_
  rotate_left
  ·intro w'
   go_simp
   with_reducible rfl
  rotate_left
  ·simp only [Act.put, List.setIfInBounds_toArray, List.set_cons_zero, List.set_cons_succ, i64_w, i32_w]
   rfl
  refine pure_ (i := 22) (N := some 55) (v := undef) (a' := ?_) #[tT, tT, tT, tT, tT, tT, tT, tT, tT, tT, tT, tT, tT, tT, tT, tT, tT, tT, tT, tT, tT, tT, tT, tF, tF, tF, tF, tF, tF, tF, tF] rfl rfl (any_of HT_.out (by kernel_rfl)) (fun _ _ _ h => h) (Or.inr ⟨by rfl, rfl⟩) ?_ ?_
  rotate_left
  ·simp only [Act.put, List.setIfInBounds_toArray, List.set_cons_zero, List.set_cons_succ, i64_w, i32_w]
   rfl
  refine pure_ (i := 23) (N := some 56) (v := undef) (a' := ?_) #[tT, tT, tT, tT, tT, tT, tT, tT, tT, tT, tT, tT, tT, tT, tT, tT, tT, tT, tT, tT, tT, tT, tT, tT, tF, tF, tF, tF, tF, tF, tF] rfl rfl (any_of HT_.out (by kernel_rfl)) (fun _ _ _ h => h) (Or.inr ⟨by rfl, rfl⟩) ?_ ?_
  rotate_left
  ·simp only [Act.put, List.setIfInBounds_toArray, List.set_cons_zero, List.set_cons_succ, i64_w, i32_w]
   rfl
  refine pure_ (i := 24) (N := some 57) (v := undef) (a' := ?_) #[tT, tT, tT, tT, tT, tT, tT, tT, tT, tT, tT, tT, tT, tT, tT, tT, tT, tT, tT, tT, tT, tT, tT, tT, tT, tF, tF, tF, tF, tF, tF] rfl rfl (any_of HT_.out (by kernel_rfl)) (fun _ _ _ h => h) (Or.inr ⟨by rfl, rfl⟩) ?_ ?_
  rotate_left
  ·simp only [Act.put, List.setIfInBounds_toArray, List.set_cons_zero, List.set_cons_succ, i64_w, i32_w]
   rfl
  refine pure_ (i := 25) (N := some 58) (v := undef) (a' := ?_) #[tT, tT, tT, tT, tT, tT, tT, tT, tT, tT, tT, tT, tT, tT, tT, tT, tT, tT, tT, tT, tT, tT, tT, tT, tT, tT, tF, tF, tF, tF, tF] rfl rfl (any_of HT_.out (by kernel_rfl)) (fun _ _ _ h => h) (Or.inr ⟨by rfl, rfl⟩) ?_ ?_
  rotate_left
  ·simp only [Act.put, List.setIfInBounds_toArray, List.set_cons_zero, List.set_cons_succ, i64_w, i32_w]
   rfl
  refine pure_ (i := 26) (N := some 59) (v := undef) (a' := ?_) #[tT, tT, tT, tT, tT, tT, tT, tT, tT, tT, tT, tT, tT, tT, tT, tT, tT, tT, tT, tT, tT, tT, tT, tT, tT, tT, tT, tF, tF, tF, tF] rfl rfl (any_of HT_.out (by kernel_rfl)) (fun _ _ _ h => h) (Or.inr ⟨by rfl, rfl⟩) ?_ ?_
  rotate_left
  ·simp only [Act.put, List.setIfInBounds_toArray, List.set_cons_zero, List.set_cons_succ, i64_w, i32_w]
   rfl
  refine pure_ (i := 27) (N := some 60) (v := undef) (a' := ?_) #[tT, tT, tT, tT, tT, tT, tT, tT, tT, tT, tT, tT, tT, tT, tT, tT, tT, tT, tT, tT, tT, tT, tT, tT, tT, tT, tT, tT, tF, tF, tF] rfl rfl (any_of HT_.out (by kernel_rfl)) (fun _ _ _ h => h) (Or.inr ⟨by rfl, rfl⟩) ?_ ?_
  rotate_left
  ·simp only [Act.put, List.setIfInBounds_toArray, List.set_cons_zero, List.set_cons_succ, i64_w, i32_w]
   rfl
  refine pure_ (i := 28) (N := some 61) (v := undef) (a' := ?_) #[tT, tT, tT, tT, tT, tT, tT, tT, tT, tT, tT, tT, tT, tT, tT, tT, tT, tT, tT, tT, tT, tT, tT, tT, tT, tT, tT, tT, tT, tF, tF] rfl rfl (any_of HT_.out (by kernel_rfl)) (fun _ _ _ h => h) (Or.inr ⟨by rfl, rfl⟩) ?_ ?_
  rotate_left
  ·simp only [Act.put, List.setIfInBounds_toArray, List.set_cons_zero, List.set_cons_succ, i64_w, i32_w]
   rfl
  refine pure_ (i := 29) (N := some 62) (v := ?_) (a' := ?_) #[tT, tT, tT, tT, tT, tT, tT, tT, tT, tT, tT, tT, tT, tT, tT, tT, tT, tT, tT, tT, tT, tT, tT, tT, tT, tT, tT, tT, tT, tT, tF] rfl rfl (any_of HT_.out (by kernel_rfl)) (fun _ _ _ h => h) (Or.inl ⟨by rfl, ?_⟩) ?_ ?_
  rotate_left
  ·intro w'
   go_simp
   with_reducible rfl
  rotate_left
  ·simp only [Act.put, List.setIfInBounds_toArray, List.set_cons_zero, List.set_cons_succ, i64_w, i32_w]
   rfl
  refine pure_ (i := 30) (N := some 2) (v := ?_) (a' := ?_) #[tT, tT, tT, tT, tT, tT, tT, tT, tT, tT, tT, tT, tT, tT, tT, tT, tT, tT, tT, tT, tT, tT, tT, tT, tT, tT, tT, tT, tT, tT, tT] rfl rfl (any_of HT_.out (by kernel_rfl)) (fun _ _ _ h => h) (Or.inl ⟨by rfl, ?_⟩) ?_ ?_
  rotate_left
  ·intro w'
   go_simp
   with_reducible rfl
  rotate_left
  ·simp only [Act.put, List.setIfInBounds_toArray, List.set_cons_zero, List.set_cons_succ, i64_w, i32_w]
   rfl
  refine done_ (done_of HT_.out (by kernel_rfl)) ?_
  try go_wp2
  go_ret
  exact ⟨by first | rfl | (simp [errW_none, errW_some] <;> rfl) | (simp [*, errW_none, errW_some] <;> rfl), by repeat (first | (with_reducible first | exact HB.out | apply below_alloc | apply pw_below_drewN | apply below_drew1 | refine below_set ?_ GE133.out | refine below_set ?_ GE153.out | refine below_set ?_ GE163.out) | exact HB.out)⟩

/-- THE ONE PURE STATEMENT of lapwinglaw07_TeimsgPuts: yours. -/
def lapwinglaw07_TeimsgPuts.Pure : Prop := ∀ (a0_0 : Int) (a0_1 : Int) (a0_2 : Int), (Lit.int .i64 a0_0).wf = true → (Lit.int .i64 a0_1).wf = true → (Lit.int .i64 a0_2).wf = true → ∃ k, lapwinglaw07_TeimsgPuts.f k a0_0 a0_1 a0_2 = some true
theorem lapwinglaw07_TeimsgPuts.walk (P : lapwinglaw07_TeimsgPuts.Pure) (a0_0 : Int) (a0_1 : Int) (a0_2 : Int) (w : World) (hL : Go.Proofs.YtmgiolpooamkkaaDoorX.Laid w) (w0_0 : (Lit.int .i64 a0_0).wf = true) (w0_1 : (Lit.int .i64 a0_1).wf = true) (w0_2 : (Lit.int .i64 a0_2).wf = true) :
  Calls Tryd.prog 3 #[.agg #[.int .i64 a0_0, .int .i64 a0_1, .int .i64 a0_2]] w fun e w' => e = .returned (.bool true) ∧ Below w.heap.size w w' := by
 obtain ⟨k, h⟩ := P a0_0 a0_1 a0_2 w0_0 w0_1 w0_2
 refine (lapwinglaw07_TeimsgPuts.calls k a0_0 a0_1 a0_2 true w hL h).mono ?_
 rintro e w' ⟨rfl, hd⟩
 exact ⟨rfl, hd⟩

end Go.Proofs.YtmgiolpooamkkaaDoor.Puts
