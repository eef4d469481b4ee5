-- Written by a program of this session's, over the kit's printer turned by wip/tools/mkprint.py. Lean checks it.
import Derived.Test.YtmgiolpooamkkaaDoorOnly0
import Derived.Test.YtmgiolpooamkkaaDoorOnly1
import Derived.Test.YtmgiolpooamkkaaDoorOnly2
import Derived.Test.YtmgiolpooamkkaaDoorOnly4
namespace Go.Proofs.YtmgiolpooamkkaaDoor.Only
open Go.RowKit Go.Proofs.YtmgiolpooamkkaaDoorW.PrintWords Go.Proofs.YtmgiolpooamkkaaDoorW.PrintLast Go.Proofs.YtmgiolpooamkkaaDoorW.PrintMore
abbrev tT : Bool := true
abbrev tF : Bool := false
attribute [local go_sem] max2_int min2_int max_two min_two max_three min_three max_four min_four   -- for this text's walks alone
set_option linter.unusedVariables false
set_option linter.unusedSimpArgs false
attribute [local go_sem high] YtmgiolpooamkkaaDoorX.unary_xor_u16 YtmgiolpooamkkaaDoorX.unary_xor_u8

attribute [local go_sem high] eqA35
/-! ### lapwinglaw07_TeimsgOnly: function 5 -/
def lapwinglaw07_TeimsgOnly.j0 : Nat → Bool → Int → Int → Int → Int → Int → Int → Int → Bool → Int → Bool → Int → Int → ByteArray → Option (Bool)
 | 0, _, _, _, _, _, _, _, _, _, _, _, _, _, _ => none
 | k + 1, x28, x137000, x137001, x137002, x138000, x138001, x151000, x151001, x151002, x151003, x151004, x151005, x151006, x151007 => if x28 = true then ((lapwinglaw07_wakes.f k).bind fun t152 => (some t152)) else ((lapwinglaw07_made.f x137000 x137001 x137002).bind fun bt153 => ((teimsg_Type_FromNetwork.f bt153.1).bind fun t156 => ((teimsg_Of.f x138000 x138001 x151002 x151003 x151004 x151005 x151006 x151007 t156).bind fun bt160 => ((teimsg_Of.f x151000 x151001 x151002 x138000 x151004 x151005 x151006 x151007 t156).bind fun bt165 => ((teimsg_Of.f x151000 x151001 false x151003 x151004 x151005 x151006 x151007 t156).bind fun bt170 => (if (bt160.2.2.2 == (x138000 == x151000 && (x138001 == x151001))) = true then (if (bt165.2.2.2 == (x138000 == x151003)) = true then (some (!bt170.2.2.2)) else (some false)) else (some false)))))))
def lapwinglaw07_TeimsgOnly.f (k : Nat) (a0_0 : Int) (a0_1 : Int) (a0_2 : Int) (a1_0 : Int) (a1_1 : Int) : Option (Bool) := (lapwinglaw07_made.f a0_0 a0_1 a0_2).bind fun bt138 => ((teimsg_Frame.f k bt138.1 bt138.2.1 bt138.2.2).bind fun bt141 => ((lapwinglaw07_wakes.f k).bind fun t151 => (if t151 = true then (lapwinglaw07_TeimsgOnly.j0 k (bt141.2.2.2.2.2.2.2.2 != 0) a0_0 a0_1 a0_2 a1_0 a1_1 bt141.1 bt141.2.1 bt141.2.2.1 bt141.2.2.2.1 bt141.2.2.2.2.1 bt141.2.2.2.2.2.1 bt141.2.2.2.2.2.2.1 bt141.2.2.2.2.2.2.2.1) else (lapwinglaw07_TeimsgOnly.j0 k true a0_0 a0_1 a0_2 a1_0 a1_1 bt141.1 bt141.2.1 bt141.2.2.1 bt141.2.2.2.1 bt141.2.2.2.2.1 bt141.2.2.2.2.2.1 bt141.2.2.2.2.2.2.1 bt141.2.2.2.2.2.2.2.1))))
theorem lapwinglaw07_TeimsgOnly.mono_l : ∀ k, (∀ y0 y1 y2 y3 y4 y5 y6 y7 y8 y9 y10 y11 y12 y13, LeO (lapwinglaw07_TeimsgOnly.j0 k y0 y1 y2 y3 y4 y5 y6 y7 y8 y9 y10 y11 y12 y13) (lapwinglaw07_TeimsgOnly.j0 (k + 1) y0 y1 y2 y3 y4 y5 y6 y7 y8 y9 y10 y11 y12 y13))
 | 0 => fun _ _ _ _ _ _ _ _ _ _ _ _ _ _ r h => by simp [lapwinglaw07_TeimsgOnly.j0] at h
 | k + 1 => by
  have ih0 := lapwinglaw07_TeimsgOnly.mono_l k
  ·intro y0 y1 y2 y3 y4 y5 y6 y7 y8 y9 y10 y11 y12 y13
   unfold lapwinglaw07_TeimsgOnly.j0
   repeat' first
   | (with_reducible exact ih0 _ _ _ _ _ _ _ _ _ _ _ _ _ _)
   | (with_reducible exact lapwinglaw07_wakes.mono _)
   | (with_reducible exact teimsg_Frame.mono _ _ _ _)
   | (with_reducible exact LeO.refl _)
   | (with_reducible exact LeO.none _)
   | (with_reducible refine LeO.ite ?_ ?_)
   | (with_reducible refine LeO.bind ?_ (fun _ => ?_))
   | exact ih0 _ _ _ _ _ _ _ _ _ _ _ _ _ _
   | exact lapwinglaw07_wakes.mono _
   | exact teimsg_Frame.mono _ _ _ _
   | exact LeO.none _
   | refine LeO.ite ?_ ?_
   | refine LeO.bind ?_ (fun _ => ?_)
theorem lapwinglaw07_TeimsgOnly.mono : ∀ a0 a1 a2 a3 a4 k, LeO (lapwinglaw07_TeimsgOnly.f k a0 a1 a2 a3 a4) (lapwinglaw07_TeimsgOnly.f (k + 1) a0 a1 a2 a3 a4) := by
 intro a0 a1 a2 a3 a4 k
 have ih0 := lapwinglaw07_TeimsgOnly.mono_l k
 unfold lapwinglaw07_TeimsgOnly.f
 repeat' first
   | (with_reducible exact ih0 _ _ _ _ _ _ _ _ _ _ _ _ _ _)
   | (with_reducible exact lapwinglaw07_wakes.mono _)
   | (with_reducible exact teimsg_Frame.mono _ _ _ _)
   | (with_reducible exact LeO.refl _)
   | (with_reducible exact LeO.none _)
   | (with_reducible refine LeO.ite ?_ ?_)
   | (with_reducible refine LeO.bind ?_ (fun _ => ?_))
   | exact ih0 _ _ _ _ _ _ _ _ _ _ _ _ _ _
   | exact lapwinglaw07_wakes.mono _
   | exact teimsg_Frame.mono _ _ _ _
   | exact LeO.none _
   | refine LeO.ite ?_ ?_
   | refine LeO.bind ?_ (fun _ => ?_)
def lapwinglaw07_TeimsgOnly.T5 : Bool × List (List Nat × List Nat) := (true, [([], []), ([], []), ([], []), ([], []), ([], []), ([], []), ([3, 0, 0, 3, 4, 5], [0, 3]), ([4, 1, 6, 0, 1, 3, 4, 5, 6], [1, 4]), ([5, 2, 7, 0, 1, 2, 3, 4, 5, 6, 7], [2, 5])])
def lapwinglaw07_TeimsgOnly.B5 : List Nat := [0, 0, 0, 0, 0, 0, 57, 123, 255]
theorem lapwinglaw07_TeimsgOnly.tab5 : rtab .any (opsOf Tryd.f5 5) = lapwinglaw07_TeimsgOnly.T5 := by kernel_rfl
theorem lapwinglaw07_TeimsgOnly.bits5 : waitsOk lapwinglaw07_TeimsgOnly.T5.2 lapwinglaw07_TeimsgOnly.B5 = true := by kernel_rfl
theorem TOnly.fld0 (x y z : Int) (w : World) : Sem.run Tryd.prog (Instr.field 29 (Value.agg #[.int .i64 x, .int .i64 y, .int .i64 z]) 0) w = Result.ok (.int .i64 x) w := by kernel_rfl
attribute [local go_sem high] TOnly.fld0
set_option maxHeartbeats 8000000 in
set_option maxRecDepth 100000 in
theorem lapwinglaw07_TeimsgOnly.calls (k : Nat) (a0_0 : Int) (a0_1 : Int) (a0_2 : Int) (a1_0 : Int) (a1_1 : Int) (r : Bool) (w : World) (hL : YtmgiolpooamkkaaDoorX.Laid w) (hr : r = true) (h : lapwinglaw07_TeimsgOnly.f k a0_0 a0_1 a0_2 a1_0 a1_1 = some r) :
  Calls Tryd.prog 5 #[.agg #[.int .i64 a0_0, .int .i64 a0_1, .int .i64 a0_2], .agg #[.int .i64 a1_0, .int .i64 a1_1]] w fun e w' => e = .returned (.bool r) ∧ Below w.heap.size w w' := by
 have hu23 := Tryd.underlying23
 have hu58 := Tryd.underlying58
 have hu38 := Tryd.underlying38
 have hu35 := Tryd.underlying35
 have hu29 := Tryd.underlying29
 have HL := Aside0.mk hL
 have HGlink := Aside0.mk (YtmgiolpooamkkaaDoorX.Laid_HGlink hL)
 have HClink := Aside0.mk (show YtmgiolpooamkkaaDoorX.glLink.length ≤ 2 by decide)
 clear hL
 have HB := Aside0.mk (Below.refl w.heap.size w)
 have H : ((lapwinglaw07_made.f a0_0 a0_1 a0_2).bind fun bt138 => ((teimsg_Frame.f k bt138.1 bt138.2.1 bt138.2.2).bind fun bt141 => ((lapwinglaw07_wakes.f k).bind fun t151 => (if t151 = true then (lapwinglaw07_TeimsgOnly.j0 k (bt141.2.2.2.2.2.2.2.2 != 0) a0_0 a0_1 a0_2 a1_0 a1_1 bt141.1 bt141.2.1 bt141.2.2.1 bt141.2.2.2.1 bt141.2.2.2.2.1 bt141.2.2.2.2.2.1 bt141.2.2.2.2.2.2.1 bt141.2.2.2.2.2.2.2.1) else (lapwinglaw07_TeimsgOnly.j0 k true a0_0 a0_1 a0_2 a1_0 a1_1 bt141.1 bt141.2.1 bt141.2.2.1 bt141.2.2.2.1 bt141.2.2.2.2.1 bt141.2.2.2.2.2.1 bt141.2.2.2.2.2.2.1 bt141.2.2.2.2.2.2.2.1))))) = some r := h
 clear h
 replace H := Option.bind_eq_some_iff.mp H
 obtain ⟨⟨t138, t139, t140⟩, A30, H⟩ := H
 replace H : ((teimsg_Frame.f k t138 t139 t140).bind fun bt141 => ((lapwinglaw07_wakes.f k).bind fun t151 => (if t151 = true then (lapwinglaw07_TeimsgOnly.j0 k (bt141.2.2.2.2.2.2.2.2 != 0) a0_0 a0_1 a0_2 a1_0 a1_1 bt141.1 bt141.2.1 bt141.2.2.1 bt141.2.2.2.1 bt141.2.2.2.2.1 bt141.2.2.2.2.2.1 bt141.2.2.2.2.2.2.1 bt141.2.2.2.2.2.2.2.1) else (lapwinglaw07_TeimsgOnly.j0 k true a0_0 a0_1 a0_2 a1_0 a1_1 bt141.1 bt141.2.1 bt141.2.2.1 bt141.2.2.2.1 bt141.2.2.2.2.1 bt141.2.2.2.2.2.1 bt141.2.2.2.2.2.2.1 bt141.2.2.2.2.2.2.2.1)))) = some r := H
 have A3 := Aside0.mk A30
 clear A30
 replace H := Option.bind_eq_some_iff.mp H
 obtain ⟨⟨t141, t142, t143, t144, t145, t146, t147, t148, t149⟩, A40, H⟩ := H
 replace H : ((lapwinglaw07_wakes.f k).bind fun t151 => (if t151 = true then (lapwinglaw07_TeimsgOnly.j0 k (t149 != 0) a0_0 a0_1 a0_2 a1_0 a1_1 t141 t142 t143 t144 t145 t146 t147 t148) else (lapwinglaw07_TeimsgOnly.j0 k true a0_0 a0_1 a0_2 a1_0 a1_1 t141 t142 t143 t144 t145 t146 t147 t148))) = some r := H
 have A4 := Aside0.mk A40
 clear A40
 have HC5 := Aside0.mk H
 clear H
 go_enter Tryd.func5, Tryd.ntmps5
 go_upto_region 2 with (first | ((with_reducible refine gate_dst (N := 2) rfl ?_); refine box_event ?hg (N := 2) ?hd (cs := #[.int .i64 a0_0, .int .i64 a0_1, .int .i64 a0_2]) (t := 23) ?hr ?_; (case hd => rfl); (case hg => rfl); (case hr => first | (go_simp; done) | (go_simp; rfl)); intro gb136 hg w6 hbox hb; have n0_ := Aside0.mk (below_step (by repeat (first | (with_reducible first | exact HB.out | apply below_alloc | apply pw_below_drewN | apply below_drew1) | exact HB.out)) hb); have n1_ := Aside0.mk (hbox); have n2_ := Aside0.mk ((by rw [hg]; exact (below_size (by repeat (first | (with_reducible first | exact HB.out | apply below_alloc | apply pw_below_drewN | apply below_drew1) | exact HB.out))) : w.heap.size ≤ gb136)); have n3_ := n2_; clear HB; have HB := n0_; have BK136 := n1_; have GW136 := n2_; have GE136 := n3_; clear n0_ n1_ n2_ n3_; clear hb hbox hg) | ((with_reducible refine gate_dst (N := 3) rfl ?_); refine box_event ?hg (N := 3) ?hd (cs := #[.int .i64 a1_0, .int .i64 a1_1]) (t := 58) ?hr ?_; (case hd => rfl); (case hg => rfl); (case hr => first | (go_simp; done) | (go_simp; rfl)); intro gb137 hg w7 hbox hb; have n0_ := Aside0.mk (blk_below (g := gb136) (o := .cells #[.int .i64 a0_0, .int .i64 a0_1, .int .i64 a0_2] 23 (0, 0)) (by (with_reducible repeat (first | apply blk_drewN | apply blk_drew | apply blk_alloc)); exact BK136.out) hb); have n1_ := Aside0.mk (below_step (by repeat (first | (with_reducible first | exact HB.out | apply below_alloc | apply pw_below_drewN | apply below_drew1 | refine below_set ?_ GE136.out) | exact HB.out)) hb); have n2_ := Aside0.mk (hbox); have n3_ := Aside0.mk ((by rw [hg]; exact (below_size (by repeat (first | (with_reducible first | exact HB.out | apply below_alloc | apply pw_below_drewN | apply below_drew1 | refine below_set ?_ GE136.out) | exact HB.out))) : w.heap.size ≤ gb137)); have n4_ := n3_; have n5_ := Aside0.mk ((by rw [hg]; exact Nat.ne_of_lt (blk_lt (g := gb136) (o := .cells #[.int .i64 a0_0, .int .i64 a0_1, .int .i64 a0_2] 23 (0, 0)) (by (with_reducible repeat (first | apply blk_drewN | apply blk_drew | apply blk_alloc)); exact BK136.out)) : gb136 ≠ gb137)); have n6_ := Aside0.mk (Ne.symm n5_.out); clear BK136; clear HB; have BK136 := n0_; have HB := n1_; have BK137 := n2_; have GW137 := n3_; have GE137 := n4_; have NB136_137 := n5_; have NB137_136 := n6_; clear n0_ n1_ n2_ n3_ n4_ n5_ n6_; clear hb hbox hg; have hnb8 := NB136_137.out; have hnc8 := NB137_136.out; have hcz9_0 : w7.cell? ⟨gb136, 0, none⟩ = some (.int .i64 a0_0) := (blk_cell BK136.out 0).trans rfl; have hcz9_1 : w7.cell? ⟨gb136, 1, none⟩ = some (.int .i64 a0_1) := (blk_cell BK136.out 1).trans rfl; have hcz9_2 : w7.cell? ⟨gb136, 2, none⟩ = some (.int .i64 a0_2) := (blk_cell BK136.out 2).trans rfl; have hfz9_0 := blk_frozen BK136.out 0; have hfz9_1 := blk_frozen BK136.out 1; have hfz9_2 := blk_frozen BK136.out 2) | ((with_reducible refine gate_callee (f := 8) rfl ?_); refine goesL_ (some 19) rfl rfl Tryd.func8 (by kernel_rfl) rfl #[.agg #[.int .i64 a0_0, .int .i64 a0_1, .int .i64 a0_2]] rfl (by (try simp only [List.map_toArray, List.map_cons, List.map_nil]); first | done | rfl) ?_; (with_reducible refine (lapwinglaw07_made.calls a0_0 a0_1 a0_2 t138 t139 t140 _ A3.out).mono ?_); rintro e w10 ⟨rfl, hb⟩; refine ⟨_, rfl, ?_⟩; have n0_ := Aside0.mk (blk_below (g := gb136) (o := .cells #[.int .i64 a0_0, .int .i64 a0_1, .int .i64 a0_2] 23 (0, 0)) (by (with_reducible repeat (first | apply blk_drewN | apply blk_drew | apply blk_alloc)); exact BK136.out) hb); have n1_ := Aside0.mk (blk_below (g := gb137) (o := .cells #[.int .i64 a1_0, .int .i64 a1_1] 58 (0, 0)) (by (with_reducible repeat (first | apply blk_drewN | apply blk_drew | apply blk_alloc)); exact BK137.out) hb); have n2_ := Aside0.mk (below_step (by repeat (first | (with_reducible first | exact HB.out | apply below_alloc | apply pw_below_drewN | apply below_drew1 | refine below_set ?_ GE136.out | refine below_set ?_ GE137.out) | exact HB.out)) hb); clear BK136; clear BK137; clear HB; have BK136 := n0_; have BK137 := n1_; have HB := n2_; clear n0_ n1_ n2_; (try clear hb); (try clear hb2); (try clear hk); (try clear hi)) | ((with_reducible refine gate_callee (f := 10) rfl ?_); refine goesL_ (some 20) rfl rfl Tryd.func10 (by kernel_rfl) rfl #[.agg #[.int .i64 t138, .int .i64 t139, .int .i64 t140]] rfl (by (try simp only [List.map_toArray, List.map_cons, List.map_nil]); first | done | rfl) ?_; (with_reducible refine (teimsg_Frame.calls k t138 t139 t140 t141 t142 t143 t144 t145 t146 t147 t148 t149 _ ?side1 A4.out).mono ?_); (case side1 => first | (with_reducible exact HL.out) | (with_reducible exact YtmgiolpooamkkaaDoorX.Laid_drewN HL.out _) | exact YtmgiolpooamkkaaDoorX.Laid_below HL.out (by repeat (first | (with_reducible first | exact HB.out | apply below_alloc | apply pw_below_drewN | apply below_drew1 | refine below_set ?_ GE136.out | refine below_set ?_ GE137.out) | exact HB.out))); rintro e w11 ⟨rfl, hb⟩; refine ⟨_, rfl, ?_⟩; have n0_ := Aside0.mk (blk_below (g := gb136) (o := .cells #[.int .i64 a0_0, .int .i64 a0_1, .int .i64 a0_2] 23 (0, 0)) (by (with_reducible repeat (first | apply blk_drewN | apply blk_drew | apply blk_alloc)); exact BK136.out) hb); have n1_ := Aside0.mk (blk_below (g := gb137) (o := .cells #[.int .i64 a1_0, .int .i64 a1_1] 58 (0, 0)) (by (with_reducible repeat (first | apply blk_drewN | apply blk_drew | apply blk_alloc)); exact BK137.out) hb); have n2_ := Aside0.mk (below_step (by repeat (first | (with_reducible first | exact HB.out | apply below_alloc | apply pw_below_drewN | apply below_drew1 | refine below_set ?_ GE136.out | refine below_set ?_ GE137.out) | exact HB.out)) hb); clear BK136; clear BK137; clear HB; have BK136 := n0_; have BK137 := n1_; have HB := n2_; clear n0_ n1_ n2_; (try clear hb); (try clear hb2); (try clear hk); (try clear hi)) | ((with_reducible refine gate_dst (N := 5) rfl ?_); refine box_event ?hg (N := 5) ?hd (cs := #[.int .i64 0, .int .i64 0, .bool false, .int .i64 0, .bool false, .int .i64 0, .int .i64 0, .string (⟨#[]⟩ : ByteArray)]) (t := 38) ?hr ?_; (case hd => rfl); (case hg => rfl); (case hr => first | (go_simp; done) | (go_simp; rfl)); intro gb150 hg w12 hbox hb; have n0_ := Aside0.mk (blk_below (g := gb136) (o := .cells #[.int .i64 a0_0, .int .i64 a0_1, .int .i64 a0_2] 23 (0, 0)) (by (with_reducible repeat (first | apply blk_drewN | apply blk_drew | apply blk_alloc)); exact BK136.out) hb); have n1_ := Aside0.mk (blk_below (g := gb137) (o := .cells #[.int .i64 a1_0, .int .i64 a1_1] 58 (0, 0)) (by (with_reducible repeat (first | apply blk_drewN | apply blk_drew | apply blk_alloc)); exact BK137.out) hb); have n2_ := Aside0.mk (below_step (by repeat (first | (with_reducible first | exact HB.out | apply below_alloc | apply pw_below_drewN | apply below_drew1 | refine below_set ?_ GE136.out | refine below_set ?_ GE137.out) | exact HB.out)) hb); have n3_ := Aside0.mk (hbox); have n4_ := Aside0.mk ((by rw [hg]; exact (below_size (by repeat (first | (with_reducible first | exact HB.out | apply below_alloc | apply pw_below_drewN | apply below_drew1 | refine below_set ?_ GE136.out | refine below_set ?_ GE137.out) | exact HB.out))) : w.heap.size ≤ gb150)); have n5_ := n4_; have n6_ := Aside0.mk ((by rw [hg]; exact Nat.ne_of_lt (blk_lt (g := gb136) (o := .cells #[.int .i64 a0_0, .int .i64 a0_1, .int .i64 a0_2] 23 (0, 0)) (by (with_reducible repeat (first | apply blk_drewN | apply blk_drew | apply blk_alloc)); exact BK136.out)) : gb136 ≠ gb150)); have n7_ := Aside0.mk (Ne.symm n6_.out); have n8_ := Aside0.mk ((by rw [hg]; exact Nat.ne_of_lt (blk_lt (g := gb137) (o := .cells #[.int .i64 a1_0, .int .i64 a1_1] 58 (0, 0)) (by (with_reducible repeat (first | apply blk_drewN | apply blk_drew | apply blk_alloc)); exact BK137.out)) : gb137 ≠ gb150)); have n9_ := Aside0.mk (Ne.symm n8_.out); clear BK136; clear BK137; clear HB; have BK136 := n0_; have BK137 := n1_; have HB := n2_; have BK150 := n3_; have GW150 := n4_; have GE150 := n5_; have NB136_150 := n6_; have NB150_136 := n7_; have NB137_150 := n8_; have NB150_137 := n9_; clear n0_ n1_ n2_ n3_ n4_ n5_ n6_ n7_ n8_ n9_; clear hb hbox hg; have hnb13 := NB150_136.out; have hnc13 := NB136_150.out; have hnb14 := NB150_137.out; have hnc14 := NB137_150.out; have hcz15_0 : w12.cell? ⟨gb150, 0, none⟩ = some (.int .i64 0) := (blk_cell BK150.out 0).trans rfl; have hcz15_1 : w12.cell? ⟨gb150, 1, none⟩ = some (.int .i64 0) := (blk_cell BK150.out 1).trans rfl; have hcz15_2 : w12.cell? ⟨gb150, 2, none⟩ = some (.bool false) := (blk_cell BK150.out 2).trans rfl; have hcz15_3 : w12.cell? ⟨gb150, 3, none⟩ = some (.int .i64 0) := (blk_cell BK150.out 3).trans rfl; have hcz15_4 : w12.cell? ⟨gb150, 4, none⟩ = some (.bool false) := (blk_cell BK150.out 4).trans rfl; have hcz15_5 : w12.cell? ⟨gb150, 5, none⟩ = some (.int .i64 0) := (blk_cell BK150.out 5).trans rfl; have hcz15_6 : w12.cell? ⟨gb150, 6, none⟩ = some (.int .i64 0) := (blk_cell BK150.out 6).trans rfl; have hcz15_7 : w12.cell? ⟨gb150, 7, none⟩ = some (.string (⟨#[]⟩ : ByteArray)) := (blk_cell BK150.out 7).trans rfl; have hfz15_0 := blk_frozen BK150.out 0; have hfz15_1 := blk_frozen BK150.out 1; have hfz15_2 := blk_frozen BK150.out 2; have hfz15_3 := blk_frozen BK150.out 3; have hfz15_4 := blk_frozen BK150.out 4; have hfz15_5 := blk_frozen BK150.out 5; have hfz15_6 := blk_frozen BK150.out 6; have hfz15_7 := blk_frozen BK150.out 7))
 (try simp only [Act.put, List.setIfInBounds_toArray, List.set_cons_zero, List.set_cons_succ])
 go_cut [28] (fun v28 wc => ∃ (kq : Nat) (x28_4 : Bool), v28 = .bool x28_4 ∧ Aside0 (lapwinglaw07_TeimsgOnly.j0 kq x28_4 a0_0 a0_1 a0_2 a1_0 a1_1 t141 t142 t143 t144 t145 t146 t147 t148 = some r) ∧ Aside0 (kq ≤ k) ∧ Aside0 (wc.heap[gb136]? = some (.cells #[.int .i64 a0_0, .int .i64 a0_1, .int .i64 a0_2] 23 (0, 0))) ∧ Aside0 (wc.heap[gb137]? = some (.cells #[.int .i64 a1_0, .int .i64 a1_1] 58 (0, 0))) ∧ Aside0 (wc.heap[gb150]? = some (.cells #[.int .i64 t141, .int .i64 t142, .bool t143, .int .i64 t144, .bool t145, .int .i64 t146, .int .i64 t147, .string t148] 38 (0, 0))) ∧ Aside0 (Below w.heap.size w wc))
 case first =>
  have H := HC5.out
  clear HC5
  replace H := Option.bind_eq_some_iff.mp H
  obtain ⟨t151, A160, H⟩ := H
  replace H : (if t151 = true then (lapwinglaw07_TeimsgOnly.j0 k (t149 != 0) a0_0 a0_1 a0_2 a1_0 a1_1 t141 t142 t143 t144 t145 t146 t147 t148) else (lapwinglaw07_TeimsgOnly.j0 k true a0_0 a0_1 a0_2 a1_0 a1_1 t141 t142 t143 t144 t145 t146 t147 t148)) = some r := H
  have A16 := Aside0.mk A160
  clear A160
  by_cases c17 : t151 = true
  ·subst c17
   have H1 : (lapwinglaw07_TeimsgOnly.j0 k (t149 != 0) a0_0 a0_1 a0_2 a1_0 a1_1 t141 t142 t143 t144 t145 t146 t147 t148) = some r := by rw [if_pos rfl] at H; exact H
   clear H
   have H := H1
   clear H1
   have H' := Aside0.mk H
   clear H
   go_wp2_with (first | ((with_reducible refine gate_callee (f := 12) rfl ?_); refine goesL_ (some 23) rfl rfl Tryd.func12 (by kernel_rfl) rfl #[] rfl (by (try simp only [List.map_toArray, List.map_cons, List.map_nil]); first | done | rfl) ?_; (with_reducible refine (lapwinglaw07_wakes.calls k  true _ A16.out).mono ?_); rintro e w18 ⟨rfl, hb⟩; refine ⟨_, rfl, ?_⟩; have n0_ := Aside0.mk (blk_below (g := gb136) (o := .cells #[.int .i64 a0_0, .int .i64 a0_1, .int .i64 a0_2] 23 (0, 0)) (by (with_reducible repeat (first | apply blk_drewN | apply blk_drew | apply blk_alloc)); refine blk_far ?_ NB136_150.out _; (with_reducible repeat (first | apply blk_drewN | apply blk_drew | apply blk_alloc)); refine blk_far ?_ NB136_150.out _; (with_reducible repeat (first | apply blk_drewN | apply blk_drew | apply blk_alloc)); refine blk_far ?_ NB136_150.out _; (with_reducible repeat (first | apply blk_drewN | apply blk_drew | apply blk_alloc)); refine blk_far ?_ NB136_150.out _; (with_reducible repeat (first | apply blk_drewN | apply blk_drew | apply blk_alloc)); refine blk_far ?_ NB136_150.out _; (with_reducible repeat (first | apply blk_drewN | apply blk_drew | apply blk_alloc)); refine blk_far ?_ NB136_150.out _; (with_reducible repeat (first | apply blk_drewN | apply blk_drew | apply blk_alloc)); refine blk_far ?_ NB136_150.out _; (with_reducible repeat (first | apply blk_drewN | apply blk_drew | apply blk_alloc)); refine blk_far ?_ NB136_150.out _; (with_reducible repeat (first | apply blk_drewN | apply blk_drew | apply blk_alloc)); exact BK136.out) hb); have n1_ := Aside0.mk (blk_below (g := gb137) (o := .cells #[.int .i64 a1_0, .int .i64 a1_1] 58 (0, 0)) (by (with_reducible repeat (first | apply blk_drewN | apply blk_drew | apply blk_alloc)); refine blk_far ?_ NB137_150.out _; (with_reducible repeat (first | apply blk_drewN | apply blk_drew | apply blk_alloc)); refine blk_far ?_ NB137_150.out _; (with_reducible repeat (first | apply blk_drewN | apply blk_drew | apply blk_alloc)); refine blk_far ?_ NB137_150.out _; (with_reducible repeat (first | apply blk_drewN | apply blk_drew | apply blk_alloc)); refine blk_far ?_ NB137_150.out _; (with_reducible repeat (first | apply blk_drewN | apply blk_drew | apply blk_alloc)); refine blk_far ?_ NB137_150.out _; (with_reducible repeat (first | apply blk_drewN | apply blk_drew | apply blk_alloc)); refine blk_far ?_ NB137_150.out _; (with_reducible repeat (first | apply blk_drewN | apply blk_drew | apply blk_alloc)); refine blk_far ?_ NB137_150.out _; (with_reducible repeat (first | apply blk_drewN | apply blk_drew | apply blk_alloc)); refine blk_far ?_ NB137_150.out _; (with_reducible repeat (first | apply blk_drewN | apply blk_drew | apply blk_alloc)); exact BK137.out) hb); have n2_ := Aside0.mk (blk_below (g := gb150) (o := .cells #[.int .i64 t141, .int .i64 t142, .bool t143, .int .i64 t144, .bool t145, .int .i64 t146, .int .i64 t147, .string t148] 38 (0, 0)) (by (with_reducible repeat (first | apply blk_drewN | apply blk_drew | apply blk_alloc)); refine blk_put (cs := #[.int .i64 t141, .int .i64 t142, .bool t143, .int .i64 t144, .bool t145, .int .i64 t146, .int .i64 t147, .string (⟨#[]⟩ : ByteArray)]) ?_ 7 _ rfl; (with_reducible repeat (first | apply blk_drewN | apply blk_drew | apply blk_alloc)); refine blk_put (cs := #[.int .i64 t141, .int .i64 t142, .bool t143, .int .i64 t144, .bool t145, .int .i64 t146, .int .i64 0, .string (⟨#[]⟩ : ByteArray)]) ?_ 6 _ rfl; (with_reducible repeat (first | apply blk_drewN | apply blk_drew | apply blk_alloc)); refine blk_put (cs := #[.int .i64 t141, .int .i64 t142, .bool t143, .int .i64 t144, .bool t145, .int .i64 0, .int .i64 0, .string (⟨#[]⟩ : ByteArray)]) ?_ 5 _ rfl; (with_reducible repeat (first | apply blk_drewN | apply blk_drew | apply blk_alloc)); refine blk_put (cs := #[.int .i64 t141, .int .i64 t142, .bool t143, .int .i64 t144, .bool false, .int .i64 0, .int .i64 0, .string (⟨#[]⟩ : ByteArray)]) ?_ 4 _ rfl; (with_reducible repeat (first | apply blk_drewN | apply blk_drew | apply blk_alloc)); refine blk_put (cs := #[.int .i64 t141, .int .i64 t142, .bool t143, .int .i64 0, .bool false, .int .i64 0, .int .i64 0, .string (⟨#[]⟩ : ByteArray)]) ?_ 3 _ rfl; (with_reducible repeat (first | apply blk_drewN | apply blk_drew | apply blk_alloc)); refine blk_put (cs := #[.int .i64 t141, .int .i64 t142, .bool false, .int .i64 0, .bool false, .int .i64 0, .int .i64 0, .string (⟨#[]⟩ : ByteArray)]) ?_ 2 _ rfl; (with_reducible repeat (first | apply blk_drewN | apply blk_drew | apply blk_alloc)); refine blk_put (cs := #[.int .i64 t141, .int .i64 0, .bool false, .int .i64 0, .bool false, .int .i64 0, .int .i64 0, .string (⟨#[]⟩ : ByteArray)]) ?_ 1 _ rfl; (with_reducible repeat (first | apply blk_drewN | apply blk_drew | apply blk_alloc)); refine blk_put (cs := #[.int .i64 0, .int .i64 0, .bool false, .int .i64 0, .bool false, .int .i64 0, .int .i64 0, .string (⟨#[]⟩ : ByteArray)]) ?_ 0 _ rfl; (with_reducible repeat (first | apply blk_drewN | apply blk_drew | apply blk_alloc)); exact BK150.out) hb); have n3_ := Aside0.mk (below_step (by repeat (first | (with_reducible first | exact HB.out | apply below_alloc | apply pw_below_drewN | apply below_drew1 | refine below_set ?_ GE136.out | refine below_set ?_ GE137.out | refine below_set ?_ GE150.out) | exact HB.out)) hb); clear BK136; clear BK137; clear BK150; clear HB; have BK136 := n0_; have BK137 := n1_; have BK150 := n2_; have HB := n3_; clear n0_ n1_ n2_ n3_; (try clear hb); (try clear hb2); (try clear hk); (try clear hi)))
   go_meet
   case rel => exact ⟨_, ((t149 != 0)), (by first | rfl | (simp; done) | (simp [*]; done)), H', ⟨by first | omega | exact Nat.le_refl _⟩, ⟨by (with_reducible repeat (first | apply blk_drewN | apply blk_drew | apply blk_alloc)); exact BK136.out⟩, ⟨by (with_reducible repeat (first | apply blk_drewN | apply blk_drew | apply blk_alloc)); exact BK137.out⟩, ⟨by (with_reducible repeat (first | apply blk_drewN | apply blk_drew | apply blk_alloc)); exact BK150.out⟩, ⟨by repeat (first | (with_reducible first | exact HB.out | apply below_alloc | apply pw_below_drewN | apply below_drew1 | refine below_set ?_ GE136.out | refine below_set ?_ GE137.out | refine below_set ?_ GE150.out) | exact HB.out)⟩⟩
  ·replace c17 := Bool.eq_false_iff.mpr c17
   subst c17
   have H1 : (lapwinglaw07_TeimsgOnly.j0 k true a0_0 a0_1 a0_2 a1_0 a1_1 t141 t142 t143 t144 t145 t146 t147 t148) = some r := by rw [if_neg (show ¬ (false = true) by decide)] at H; exact H
   clear H
   have H := H1
   clear H1
   have H' := Aside0.mk H
   clear H
   go_wp2_with (first | ((with_reducible refine gate_callee (f := 12) rfl ?_); refine goesL_ (some 23) rfl rfl Tryd.func12 (by kernel_rfl) rfl #[] rfl (by (try simp only [List.map_toArray, List.map_cons, List.map_nil]); first | done | rfl) ?_; (with_reducible refine (lapwinglaw07_wakes.calls k  false _ A16.out).mono ?_); rintro e w19 ⟨rfl, hb⟩; refine ⟨_, rfl, ?_⟩; have n0_ := Aside0.mk (blk_below (g := gb136) (o := .cells #[.int .i64 a0_0, .int .i64 a0_1, .int .i64 a0_2] 23 (0, 0)) (by (with_reducible repeat (first | apply blk_drewN | apply blk_drew | apply blk_alloc)); refine blk_far ?_ NB136_150.out _; (with_reducible repeat (first | apply blk_drewN | apply blk_drew | apply blk_alloc)); refine blk_far ?_ NB136_150.out _; (with_reducible repeat (first | apply blk_drewN | apply blk_drew | apply blk_alloc)); refine blk_far ?_ NB136_150.out _; (with_reducible repeat (first | apply blk_drewN | apply blk_drew | apply blk_alloc)); refine blk_far ?_ NB136_150.out _; (with_reducible repeat (first | apply blk_drewN | apply blk_drew | apply blk_alloc)); refine blk_far ?_ NB136_150.out _; (with_reducible repeat (first | apply blk_drewN | apply blk_drew | apply blk_alloc)); refine blk_far ?_ NB136_150.out _; (with_reducible repeat (first | apply blk_drewN | apply blk_drew | apply blk_alloc)); refine blk_far ?_ NB136_150.out _; (with_reducible repeat (first | apply blk_drewN | apply blk_drew | apply blk_alloc)); refine blk_far ?_ NB136_150.out _; (with_reducible repeat (first | apply blk_drewN | apply blk_drew | apply blk_alloc)); exact BK136.out) hb); have n1_ := Aside0.mk (blk_below (g := gb137) (o := .cells #[.int .i64 a1_0, .int .i64 a1_1] 58 (0, 0)) (by (with_reducible repeat (first | apply blk_drewN | apply blk_drew | apply blk_alloc)); refine blk_far ?_ NB137_150.out _; (with_reducible repeat (first | apply blk_drewN | apply blk_drew | apply blk_alloc)); refine blk_far ?_ NB137_150.out _; (with_reducible repeat (first | apply blk_drewN | apply blk_drew | apply blk_alloc)); refine blk_far ?_ NB137_150.out _; (with_reducible repeat (first | apply blk_drewN | apply blk_drew | apply blk_alloc)); refine blk_far ?_ NB137_150.out _; (with_reducible repeat (first | apply blk_drewN | apply blk_drew | apply blk_alloc)); refine blk_far ?_ NB137_150.out _; (with_reducible repeat (first | apply blk_drewN | apply blk_drew | apply blk_alloc)); refine blk_far ?_ NB137_150.out _; (with_reducible repeat (first | apply blk_drewN | apply blk_drew | apply blk_alloc)); refine blk_far ?_ NB137_150.out _; (with_reducible repeat (first | apply blk_drewN | apply blk_drew | apply blk_alloc)); refine blk_far ?_ NB137_150.out _; (with_reducible repeat (first | apply blk_drewN | apply blk_drew | apply blk_alloc)); exact BK137.out) hb); have n2_ := Aside0.mk (blk_below (g := gb150) (o := .cells #[.int .i64 t141, .int .i64 t142, .bool t143, .int .i64 t144, .bool t145, .int .i64 t146, .int .i64 t147, .string t148] 38 (0, 0)) (by (with_reducible repeat (first | apply blk_drewN | apply blk_drew | apply blk_alloc)); refine blk_put (cs := #[.int .i64 t141, .int .i64 t142, .bool t143, .int .i64 t144, .bool t145, .int .i64 t146, .int .i64 t147, .string (⟨#[]⟩ : ByteArray)]) ?_ 7 _ rfl; (with_reducible repeat (first | apply blk_drewN | apply blk_drew | apply blk_alloc)); refine blk_put (cs := #[.int .i64 t141, .int .i64 t142, .bool t143, .int .i64 t144, .bool t145, .int .i64 t146, .int .i64 0, .string (⟨#[]⟩ : ByteArray)]) ?_ 6 _ rfl; (with_reducible repeat (first | apply blk_drewN | apply blk_drew | apply blk_alloc)); refine blk_put (cs := #[.int .i64 t141, .int .i64 t142, .bool t143, .int .i64 t144, .bool t145, .int .i64 0, .int .i64 0, .string (⟨#[]⟩ : ByteArray)]) ?_ 5 _ rfl; (with_reducible repeat (first | apply blk_drewN | apply blk_drew | apply blk_alloc)); refine blk_put (cs := #[.int .i64 t141, .int .i64 t142, .bool t143, .int .i64 t144, .bool false, .int .i64 0, .int .i64 0, .string (⟨#[]⟩ : ByteArray)]) ?_ 4 _ rfl; (with_reducible repeat (first | apply blk_drewN | apply blk_drew | apply blk_alloc)); refine blk_put (cs := #[.int .i64 t141, .int .i64 t142, .bool t143, .int .i64 0, .bool false, .int .i64 0, .int .i64 0, .string (⟨#[]⟩ : ByteArray)]) ?_ 3 _ rfl; (with_reducible repeat (first | apply blk_drewN | apply blk_drew | apply blk_alloc)); refine blk_put (cs := #[.int .i64 t141, .int .i64 t142, .bool false, .int .i64 0, .bool false, .int .i64 0, .int .i64 0, .string (⟨#[]⟩ : ByteArray)]) ?_ 2 _ rfl; (with_reducible repeat (first | apply blk_drewN | apply blk_drew | apply blk_alloc)); refine blk_put (cs := #[.int .i64 t141, .int .i64 0, .bool false, .int .i64 0, .bool false, .int .i64 0, .int .i64 0, .string (⟨#[]⟩ : ByteArray)]) ?_ 1 _ rfl; (with_reducible repeat (first | apply blk_drewN | apply blk_drew | apply blk_alloc)); refine blk_put (cs := #[.int .i64 0, .int .i64 0, .bool false, .int .i64 0, .bool false, .int .i64 0, .int .i64 0, .string (⟨#[]⟩ : ByteArray)]) ?_ 0 _ rfl; (with_reducible repeat (first | apply blk_drewN | apply blk_drew | apply blk_alloc)); exact BK150.out) hb); have n3_ := Aside0.mk (below_step (by repeat (first | (with_reducible first | exact HB.out | apply below_alloc | apply pw_below_drewN | apply below_drew1 | refine below_set ?_ GE136.out | refine below_set ?_ GE137.out | refine below_set ?_ GE150.out) | exact HB.out)) hb); clear BK136; clear BK137; clear BK150; clear HB; have BK136 := n0_; have BK137 := n1_; have BK150 := n2_; have HB := n3_; clear n0_ n1_ n2_ n3_; (try clear hb); (try clear hb2); (try clear hk); (try clear hi)))
   go_meet
   case rel => exact ⟨_, (true), (by first | rfl | (simp; done) | (simp [*]; done)), H', ⟨by first | omega | exact Nat.le_refl _⟩, ⟨by (with_reducible repeat (first | apply blk_drewN | apply blk_drew | apply blk_alloc)); exact BK136.out⟩, ⟨by (with_reducible repeat (first | apply blk_drewN | apply blk_drew | apply blk_alloc)); exact BK137.out⟩, ⟨by (with_reducible repeat (first | apply blk_drewN | apply blk_drew | apply blk_alloc)); exact BK150.out⟩, ⟨by repeat (first | (with_reducible first | exact HB.out | apply below_alloc | apply pw_below_drewN | apply below_drew1 | refine below_set ?_ GE136.out | refine below_set ?_ GE137.out | refine below_set ?_ GE150.out) | exact HB.out)⟩⟩
 case rest =>
  clear HC5
  try clear c1
  try clear p2
  try clear c5
  try clear c8
  try clear c10
  try clear c12
  try clear c13
  try clear c14
  try clear c17
  try clear hcz15_0
  try clear hcz15_1
  try clear hcz15_2
  try clear hcz15_3
  try clear hcz15_4
  try clear hcz15_5
  try clear hcz15_6
  try clear hcz15_7
  try clear hcz9_0
  try clear hcz9_1
  try clear hcz9_2
  try clear hfz15_0
  try clear hfz15_1
  try clear hfz15_2
  try clear hfz15_3
  try clear hfz15_4
  try clear hfz15_5
  try clear hfz15_6
  try clear hfz15_7
  try clear hfz9_0
  try clear hfz9_1
  try clear hfz9_2
  obtain ⟨kq, x28_4, rfl, HA, HJ4, BK136, BK137, BK150, HB⟩ := hcut
  cases kq with
  | zero => exact absurd HA.out (by simp [lapwinglaw07_TeimsgOnly.j0])
  | succ kj4 =>
   have H := HA.out
   clear HA
   simp only [lapwinglaw07_TeimsgOnly.j0] at H
   by_cases c20 : x28_4 = true
   ·subst c20
    have H1 : ((lapwinglaw07_wakes.f kj4).bind fun t152 => (some t152)) = some r := by rw [if_pos rfl] at H; exact H
    clear H
    have H := H1
    clear H1
    replace H := Option.bind_eq_some_iff.mp H
    obtain ⟨t152, A210, H⟩ := H
    replace H : (some t152) = some r := H
    have A21 := Aside0.mk A210
    clear A210
    obtain rfl := Option.some.inj H
    go_wp2_with (first | ((with_reducible refine gate_callee (f := 12) rfl ?_); refine goesL_ (some 29) rfl rfl Tryd.func12 (by kernel_rfl) rfl #[] rfl (by (try simp only [List.map_toArray, List.map_cons, List.map_nil]); first | done | rfl) ?_; (with_reducible refine (lapwinglaw07_wakes.calls kj4  t152 _ A21.out).mono ?_); rintro e w22 ⟨rfl, hb⟩; refine ⟨_, rfl, ?_⟩; have n0_ := Aside0.mk (blk_below (g := gb136) (o := .cells #[.int .i64 a0_0, .int .i64 a0_1, .int .i64 a0_2] 23 (0, 0)) (by (with_reducible repeat (first | apply blk_drewN | apply blk_drew | apply blk_alloc)); exact BK136.out) hb); have n1_ := Aside0.mk (blk_below (g := gb137) (o := .cells #[.int .i64 a1_0, .int .i64 a1_1] 58 (0, 0)) (by (with_reducible repeat (first | apply blk_drewN | apply blk_drew | apply blk_alloc)); exact BK137.out) hb); have n2_ := Aside0.mk (blk_below (g := gb150) (o := .cells #[.int .i64 t141, .int .i64 t142, .bool t143, .int .i64 t144, .bool t145, .int .i64 t146, .int .i64 t147, .string t148] 38 (0, 0)) (by (with_reducible repeat (first | apply blk_drewN | apply blk_drew | apply blk_alloc)); exact BK150.out) hb); have n3_ := Aside0.mk (below_step (by repeat (first | (with_reducible first | exact HB.out | apply below_alloc | apply pw_below_drewN | apply below_drew1 | refine below_set ?_ GE136.out | refine below_set ?_ GE137.out | refine below_set ?_ GE150.out) | exact HB.out)) hb); clear BK136; clear BK137; clear BK150; clear HB; have BK136 := n0_; have BK137 := n1_; have BK150 := n2_; have HB := n3_; clear n0_ n1_ n2_ n3_; (try clear hb); (try clear hb2); (try clear hk); (try clear hi)))
    go_ret
    exact ⟨by first | rfl | (simp [errW_none, errW_some] <;> rfl) | (simp [*, errW_none, errW_some] <;> rfl), by repeat (first | (with_reducible first | exact HB.out | apply below_alloc | apply pw_below_drewN | apply below_drew1 | refine below_set ?_ GE136.out | refine below_set ?_ GE137.out | refine below_set ?_ GE150.out) | exact HB.out)⟩
   ·replace c20 := Bool.eq_false_iff.mpr c20
    subst c20
    have H1 : ((lapwinglaw07_made.f a0_0 a0_1 a0_2).bind fun bt153 => ((teimsg_Type_FromNetwork.f bt153.1).bind fun t156 => ((teimsg_Of.f a1_0 a1_1 t143 t144 t145 t146 t147 t148 t156).bind fun bt160 => ((teimsg_Of.f t141 t142 t143 a1_0 t145 t146 t147 t148 t156).bind fun bt165 => ((teimsg_Of.f t141 t142 false t144 t145 t146 t147 t148 t156).bind fun bt170 => (if (bt160.2.2.2 == (a1_0 == t141 && (a1_1 == t142))) = true then (if (bt165.2.2.2 == (a1_0 == t144)) = true then (some (!bt170.2.2.2)) else (some false)) else (some false))))))) = some r := by rw [if_neg (show ¬ (false = true) by decide)] at H; exact H
    clear H
    have H := H1
    clear H1
    replace H := Option.bind_eq_some_iff.mp H
    obtain ⟨⟨t153, t154, t155⟩, A230, H⟩ := H
    replace H : ((teimsg_Type_FromNetwork.f t153).bind fun t156 => ((teimsg_Of.f a1_0 a1_1 t143 t144 t145 t146 t147 t148 t156).bind fun bt160 => ((teimsg_Of.f t141 t142 t143 a1_0 t145 t146 t147 t148 t156).bind fun bt165 => ((teimsg_Of.f t141 t142 false t144 t145 t146 t147 t148 t156).bind fun bt170 => (if (bt160.2.2.2 == (a1_0 == t141 && (a1_1 == t142))) = true then (if (bt165.2.2.2 == (a1_0 == t144)) = true then (some (!bt170.2.2.2)) else (some false)) else (some false)))))) = some r := H
    have A23 := Aside0.mk A230
    clear A230
    replace H := Option.bind_eq_some_iff.mp H
    obtain ⟨t156, A240, H⟩ := H
    replace H : ((teimsg_Of.f a1_0 a1_1 t143 t144 t145 t146 t147 t148 t156).bind fun bt160 => ((teimsg_Of.f t141 t142 t143 a1_0 t145 t146 t147 t148 t156).bind fun bt165 => ((teimsg_Of.f t141 t142 false t144 t145 t146 t147 t148 t156).bind fun bt170 => (if (bt160.2.2.2 == (a1_0 == t141 && (a1_1 == t142))) = true then (if (bt165.2.2.2 == (a1_0 == t144)) = true then (some (!bt170.2.2.2)) else (some false)) else (some false))))) = some r := H
    have A24 := Aside0.mk A240
    clear A240
    replace H := Option.bind_eq_some_iff.mp H
    obtain ⟨⟨t160, t161, t162, t163⟩, A250, H⟩ := H
    replace H : ((teimsg_Of.f t141 t142 t143 a1_0 t145 t146 t147 t148 t156).bind fun bt165 => ((teimsg_Of.f t141 t142 false t144 t145 t146 t147 t148 t156).bind fun bt170 => (if (t163 == (a1_0 == t141 && (a1_1 == t142))) = true then (if (bt165.2.2.2 == (a1_0 == t144)) = true then (some (!bt170.2.2.2)) else (some false)) else (some false)))) = some r := H
    have A25 := Aside0.mk A250
    clear A250
    replace H := Option.bind_eq_some_iff.mp H
    obtain ⟨⟨t165, t166, t167, t168⟩, A260, H⟩ := H
    replace H : ((teimsg_Of.f t141 t142 false t144 t145 t146 t147 t148 t156).bind fun bt170 => (if (t163 == (a1_0 == t141 && (a1_1 == t142))) = true then (if (t168 == (a1_0 == t144)) = true then (some (!bt170.2.2.2)) else (some false)) else (some false))) = some r := H
    have A26 := Aside0.mk A260
    clear A260
    replace H := Option.bind_eq_some_iff.mp H
    obtain ⟨⟨t170, t171, t172, t173⟩, A270, H⟩ := H
    replace H : (if (t163 == (a1_0 == t141 && (a1_1 == t142))) = true then (if (t168 == (a1_0 == t144)) = true then (some (!t173)) else (some false)) else (some false)) = some r := H
    have A27 := Aside0.mk A270
    clear A270
    by_cases c28 : (t163 == (a1_0 == t141 && (a1_1 == t142))) = true
    ·rw [if_pos c28] at H
     have c28b0 : (t163 == (a1_0 == t141 && (a1_1 == t142))) = true := c28
     (try (have c28b1 : decide (t163 = (a1_0 == t141 && (a1_1 == t142))) = true := by simpa using c28))
     (try (have c28b2 : (t163 == (a1_0 == t141 && (a1_1 == t142))) = true := by simpa using c28))
     clear c28
     by_cases c29 : (t168 == (a1_0 == t144)) = true
     ·rw [if_pos c29] at H
      have c29b0 : (t168 == (a1_0 == t144)) = true := c29
      (try (have c29b1 : decide (t168 = (a1_0 == t144)) = true := by simpa using c29))
      (try (have c29b2 : (t168 == (a1_0 == t144)) = true := by simpa using c29))
      clear c29
      obtain rfl := Option.some.inj H
      have hnb30 := NB136_137.out
      have hnc30 := NB137_136.out
      have hnb31 := NB136_150.out
      have hnc31 := NB150_136.out
      have hcz32_0 : wc.cell? ⟨gb136, 0, none⟩ = some (.int .i64 a0_0) := (blk_cell BK136.out 0).trans rfl
      have hcz32_1 : wc.cell? ⟨gb136, 1, none⟩ = some (.int .i64 a0_1) := (blk_cell BK136.out 1).trans rfl
      have hcz32_2 : wc.cell? ⟨gb136, 2, none⟩ = some (.int .i64 a0_2) := (blk_cell BK136.out 2).trans rfl
      have hfz32_0 := blk_frozen BK136.out 0
      have hfz32_1 := blk_frozen BK136.out 1
      have hfz32_2 := blk_frozen BK136.out 2
      try go_wp2_with (first | ((with_reducible refine gate_callee (f := 8) rfl ?_); refine goesL_ (some 31) rfl rfl Tryd.func8 (by kernel_rfl) rfl #[.agg #[.int .i64 a0_0, .int .i64 a0_1, .int .i64 a0_2]] rfl (by (try simp only [List.map_toArray, List.map_cons, List.map_nil]); first | done | rfl) ?_; (with_reducible refine (lapwinglaw07_made.calls a0_0 a0_1 a0_2 t153 t154 t155 _ A23.out).mono ?_); rintro e w33 ⟨rfl, hb⟩; refine ⟨_, rfl, ?_⟩; have n0_ := Aside0.mk (blk_below (g := gb136) (o := .cells #[.int .i64 a0_0, .int .i64 a0_1, .int .i64 a0_2] 23 (0, 0)) (by (with_reducible repeat (first | apply blk_drewN | apply blk_drew | apply blk_alloc)); exact BK136.out) hb); have n1_ := Aside0.mk (blk_below (g := gb137) (o := .cells #[.int .i64 a1_0, .int .i64 a1_1] 58 (0, 0)) (by (with_reducible repeat (first | apply blk_drewN | apply blk_drew | apply blk_alloc)); exact BK137.out) hb); have n2_ := Aside0.mk (blk_below (g := gb150) (o := .cells #[.int .i64 t141, .int .i64 t142, .bool t143, .int .i64 t144, .bool t145, .int .i64 t146, .int .i64 t147, .string t148] 38 (0, 0)) (by (with_reducible repeat (first | apply blk_drewN | apply blk_drew | apply blk_alloc)); exact BK150.out) hb); have n3_ := Aside0.mk (below_step (by repeat (first | (with_reducible first | exact HB.out | apply below_alloc | apply pw_below_drewN | apply below_drew1 | refine below_set ?_ GE136.out | refine below_set ?_ GE137.out | refine below_set ?_ GE150.out) | exact HB.out)) hb); clear BK136; clear BK137; clear BK150; clear HB; have BK136 := n0_; have BK137 := n1_; have BK150 := n2_; have HB := n3_; clear n0_ n1_ n2_ n3_; (try clear hb); (try clear hb2); (try clear hk); (try clear hi)) | ((with_reducible refine gate_callee (f := 14) rfl ?_); refine goesL_ (some 33) rfl rfl Tryd.func14 (by kernel_rfl) rfl #[.int .i64 t153] rfl (by (try simp only [List.map_toArray, List.map_cons, List.map_nil]); first | done | rfl) ?_; (with_reducible refine (teimsg_Type_FromNetwork.calls t153 t156 _ A24.out).mono ?_); rintro e w' ⟨rfl, ⟨nd, rfl⟩⟩; refine ⟨_, rfl, ?_⟩; (try (rw [drewN_self w33]; generalize hq_ : World.drewN w33 _ = w33; have n0_ : Aside0 (w33.heap[gb136]? = some (.cells #[.int .i64 a0_0, .int .i64 a0_1, .int .i64 a0_2] 23 (0, 0))) := ⟨by rw [← hq_]; exact (by (with_reducible repeat (first | apply blk_drewN | apply blk_drew | apply blk_alloc)); exact BK136.out)⟩; have n1_ : Aside0 (w33.heap[gb137]? = some (.cells #[.int .i64 a1_0, .int .i64 a1_1] 58 (0, 0))) := ⟨by rw [← hq_]; exact (by (with_reducible repeat (first | apply blk_drewN | apply blk_drew | apply blk_alloc)); exact BK137.out)⟩; have n2_ : Aside0 (w33.heap[gb150]? = some (.cells #[.int .i64 t141, .int .i64 t142, .bool t143, .int .i64 t144, .bool t145, .int .i64 t146, .int .i64 t147, .string t148] 38 (0, 0))) := ⟨by rw [← hq_]; exact (by (with_reducible repeat (first | apply blk_drewN | apply blk_drew | apply blk_alloc)); exact BK150.out)⟩; have n3_ : Aside0 (Below w.heap.size w w33) := ⟨by rw [← hq_]; exact (by repeat (first | (with_reducible first | exact HB.out | apply below_alloc | apply pw_below_drewN | apply below_drew1 | refine below_set ?_ GE136.out | refine below_set ?_ GE137.out | refine below_set ?_ GE150.out) | exact HB.out))⟩; clear BK136 BK137 BK150 HB hq_; have BK136 := n0_; have BK137 := n1_; have BK150 := n2_; have HB := n3_; clear n0_ n1_ n2_ n3_))))
      have n0_ := Aside0.mk (blk_drew BK136.out)
      have n1_ := Aside0.mk (blk_drew BK137.out)
      have n2_ := Aside0.mk (blk_drew BK150.out)
      have n3_ := Aside0.mk (below_drew1 HB.out)
      clear BK136
      clear BK137
      clear BK150
      clear HB
      have BK136 := n0_
      have BK137 := n1_
      have BK150 := n2_
      have HB := n3_
      clear n0_ n1_ n2_ n3_
      refine start_ (n := 9) (S := fun w' => w'.cell? ⟨gb150, 0, none⟩ = some (.int .i64 t141) ∧ w'.cell? ⟨gb150, 1, none⟩ = some (.int .i64 t142) ∧ w'.cell? ⟨gb150, 2, none⟩ = some (.bool t143) ∧ w'.cell? ⟨gb150, 3, none⟩ = some (.int .i64 t144) ∧ w'.cell? ⟨gb150, 4, none⟩ = some (.bool t145) ∧ w'.cell? ⟨gb150, 5, none⟩ = some (.int .i64 t146) ∧ w'.cell? ⟨gb150, 6, none⟩ = some (.int .i64 t147) ∧ w'.cell? ⟨gb150, 7, none⟩ = some (.string t148)) (ds := []) #[tF, tF, tF, tF, tF, tF, tF, tF, tF] (by kernel_rfl) rfl rfl ⟨(blk_cell BK150.out 0).trans rfl, (blk_cell BK150.out 1).trans rfl, (blk_cell BK150.out 2).trans rfl, (blk_cell BK150.out 3).trans rfl, (blk_cell BK150.out 4).trans rfl, (blk_cell BK150.out 5).trans rfl, (blk_cell BK150.out 6).trans rfl, (blk_cell BK150.out 7).trans rfl⟩ (fun hHeld => ?_); refine with_tabW lapwinglaw07_TeimsgOnly.tab5 lapwinglaw07_TeimsgOnly.bits5 (fun HT_ HW_ => ?_)
      generalize w33.drew = w34 at BK136 BK137 BK150 HB hHeld ⊢
      refine take_ (i := 0) (N := some 34) (v := ?_) (a' := ?_) #[tT, tF, tF, tF, tF, tF, tF, tF, tF] rfl rfl (take_ofW HT_.out HW_.out (by kernel_rfl)) (fun _ _ _ h => h) (Or.inl ⟨by rfl, ?_⟩) hHeld ?_ ?_
      rotate_left
      ·rintro w' ⟨s0, s1, s2, s3, s4, s5, s6, s7⟩
       go_simp
       with_reducible rfl
      rotate_left
      ·simp only [Act.put, List.setIfInBounds_toArray, List.set_cons_zero, List.set_cons_succ, i64_w, i32_w]
       rfl
      refine take_ (i := 1) (N := some 35) (v := ?_) (a' := ?_) #[tT, tT, tF, tF, tF, tF, tF, tF, tF] rfl rfl (take_ofW HT_.out HW_.out (by kernel_rfl)) (fun _ _ _ h => h) (Or.inl ⟨by rfl, ?_⟩) hHeld ?_ ?_
      rotate_left
      ·rintro w' ⟨s0, s1, s2, s3, s4, s5, s6, s7⟩
       go_simp
       with_reducible rfl
      rotate_left
      ·simp only [Act.put, List.setIfInBounds_toArray, List.set_cons_zero, List.set_cons_succ, i64_w, i32_w]
       rfl
      refine take_ (i := 2) (N := some 36) (v := ?_) (a' := ?_) #[tT, tT, tT, tF, tF, tF, tF, tF, tF] rfl rfl (take_ofW HT_.out HW_.out (by kernel_rfl)) (fun _ _ _ h => h) (Or.inl ⟨by rfl, ?_⟩) hHeld ?_ ?_
      rotate_left
      ·rintro w' ⟨s0, s1, s2, s3, s4, s5, s6, s7⟩
       go_simp
       with_reducible rfl
      rotate_left
      ·simp only [Act.put, List.setIfInBounds_toArray, List.set_cons_zero, List.set_cons_succ, i64_w, i32_w]
       rfl
      refine join_ (σ := Nat × Nat × Nat) 3 #[tT, tT, tT, tT, tT, tT, tF, tF, tF] (fun s_ => [(8, .pointer (some ⟨s_.1, 0, none⟩)), (9, .pointer (some ⟨s_.2.1, 0, none⟩)), (10, .pointer (some ⟨s_.2.2, 0, none⟩))]) (fun s_ w' => (w'.cell? ⟨gb150, 0, none⟩ = some (.int .i64 t141) ∧ w'.cell? ⟨gb150, 1, none⟩ = some (.int .i64 t142) ∧ w'.cell? ⟨gb150, 2, none⟩ = some (.bool t143) ∧ w'.cell? ⟨gb150, 3, none⟩ = some (.int .i64 t144) ∧ w'.cell? ⟨gb150, 4, none⟩ = some (.bool t145) ∧ w'.cell? ⟨gb150, 5, none⟩ = some (.int .i64 t146) ∧ w'.cell? ⟨gb150, 6, none⟩ = some (.int .i64 t147) ∧ w'.cell? ⟨gb150, 7, none⟩ = some (.string t148)) ∧ (w'.heap[gb136]? = some (.cells #[.int .i64 a0_0, .int .i64 a0_1, .int .i64 a0_2] 23 (0, 0))) ∧ (w'.heap[gb137]? = some (.cells #[.int .i64 a1_0, .int .i64 a1_1] 58 (0, 0))) ∧ (w'.heap[gb150]? = some (.cells #[.int .i64 t141, .int .i64 t142, .bool t143, .int .i64 t144, .bool t145, .int .i64 t146, .int .i64 t147, .string t148] 38 (0, 0))) ∧ (w'.heap[s_.1]? = some (.cells #[.int .i64 0, .int .i64 0, .bool false, .int .i64 0, .bool false, .int .i64 0, .int .i64 0, .string (⟨#[]⟩ : ByteArray)] 38 (0, 0))) ∧ (w'.heap[s_.2.1]? = some (.cells #[.int .i64 0, .int .i64 0, .bool false, .int .i64 0, .bool false, .int .i64 0, .int .i64 0, .string (⟨#[]⟩ : ByteArray)] 38 (0, 0))) ∧ (w'.heap[s_.2.2]? = some (.cells #[.int .i64 0, .int .i64 0, .bool false, .int .i64 0, .bool false, .int .i64 0, .int .i64 0, .string (⟨#[]⟩ : ByteArray)] 38 (0, 0))) ∧ (w.heap.size ≤ s_.1) ∧ (w.heap.size ≤ s_.1) ∧ (gb136 ≠ s_.1) ∧ (s_.1 ≠ gb136) ∧ (gb137 ≠ s_.1) ∧ (s_.1 ≠ gb137) ∧ (gb150 ≠ s_.1) ∧ (s_.1 ≠ gb150) ∧ (s_.2.1 ≠ s_.1) ∧ (s_.1 ≠ s_.2.1) ∧ (s_.2.2 ≠ s_.1) ∧ (s_.1 ≠ s_.2.2) ∧ (w.heap.size ≤ s_.2.1) ∧ (w.heap.size ≤ s_.2.1) ∧ (gb136 ≠ s_.2.1) ∧ (s_.2.1 ≠ gb136) ∧ (gb137 ≠ s_.2.1) ∧ (s_.2.1 ≠ gb137) ∧ (gb150 ≠ s_.2.1) ∧ (s_.2.1 ≠ gb150) ∧ (s_.2.2 ≠ s_.2.1) ∧ (s_.2.1 ≠ s_.2.2) ∧ (w.heap.size ≤ s_.2.2) ∧ (w.heap.size ≤ s_.2.2) ∧ (gb136 ≠ s_.2.2) ∧ (s_.2.2 ≠ gb136) ∧ (gb137 ≠ s_.2.2) ∧ (s_.2.2 ≠ gb137) ∧ (gb150 ≠ s_.2.2) ∧ (s_.2.2 ≠ gb150) ∧ (Below w.heap.size w w')) ?_ ?_
      rotate_left
      ·intro hJ3_4_5
       refine join_ (σ := Nat × Nat) 4 #[tT, tT, tT, tT, tT, tF, tF, tF, tF] (fun s_ => [(8, .pointer (some ⟨s_.1, 0, none⟩)), (9, .pointer (some ⟨s_.2, 0, none⟩))]) (fun s_ w' => (w'.cell? ⟨gb150, 0, none⟩ = some (.int .i64 t141) ∧ w'.cell? ⟨gb150, 1, none⟩ = some (.int .i64 t142) ∧ w'.cell? ⟨gb150, 2, none⟩ = some (.bool t143) ∧ w'.cell? ⟨gb150, 3, none⟩ = some (.int .i64 t144) ∧ w'.cell? ⟨gb150, 4, none⟩ = some (.bool t145) ∧ w'.cell? ⟨gb150, 5, none⟩ = some (.int .i64 t146) ∧ w'.cell? ⟨gb150, 6, none⟩ = some (.int .i64 t147) ∧ w'.cell? ⟨gb150, 7, none⟩ = some (.string t148)) ∧ (w'.heap[gb136]? = some (.cells #[.int .i64 a0_0, .int .i64 a0_1, .int .i64 a0_2] 23 (0, 0))) ∧ (w'.heap[gb137]? = some (.cells #[.int .i64 a1_0, .int .i64 a1_1] 58 (0, 0))) ∧ (w'.heap[gb150]? = some (.cells #[.int .i64 t141, .int .i64 t142, .bool t143, .int .i64 t144, .bool t145, .int .i64 t146, .int .i64 t147, .string t148] 38 (0, 0))) ∧ (w'.heap[s_.1]? = some (.cells #[.int .i64 0, .int .i64 0, .bool false, .int .i64 0, .bool false, .int .i64 0, .int .i64 0, .string (⟨#[]⟩ : ByteArray)] 38 (0, 0))) ∧ (w'.heap[s_.2]? = some (.cells #[.int .i64 0, .int .i64 0, .bool false, .int .i64 0, .bool false, .int .i64 0, .int .i64 0, .string (⟨#[]⟩ : ByteArray)] 38 (0, 0))) ∧ (w.heap.size ≤ s_.1) ∧ (w.heap.size ≤ s_.1) ∧ (gb136 ≠ s_.1) ∧ (s_.1 ≠ gb136) ∧ (gb137 ≠ s_.1) ∧ (s_.1 ≠ gb137) ∧ (gb150 ≠ s_.1) ∧ (s_.1 ≠ gb150) ∧ (s_.2 ≠ s_.1) ∧ (s_.1 ≠ s_.2) ∧ (w.heap.size ≤ s_.2) ∧ (w.heap.size ≤ s_.2) ∧ (gb136 ≠ s_.2) ∧ (s_.2 ≠ gb136) ∧ (gb137 ≠ s_.2) ∧ (s_.2 ≠ gb137) ∧ (gb150 ≠ s_.2) ∧ (s_.2 ≠ gb150) ∧ (Below w.heap.size w w')) ?_ ?_
       rotate_left
       ·intro hJ3_4
        refine join_ (σ := Nat × Nat) 4 #[tT, tT, tT, tT, tF, tT, tF, tF, tF] (fun s_ => [(8, .pointer (some ⟨s_.1, 0, none⟩)), (10, .pointer (some ⟨s_.2, 0, none⟩))]) (fun s_ w' => (w'.cell? ⟨gb150, 0, none⟩ = some (.int .i64 t141) ∧ w'.cell? ⟨gb150, 1, none⟩ = some (.int .i64 t142) ∧ w'.cell? ⟨gb150, 2, none⟩ = some (.bool t143) ∧ w'.cell? ⟨gb150, 3, none⟩ = some (.int .i64 t144) ∧ w'.cell? ⟨gb150, 4, none⟩ = some (.bool t145) ∧ w'.cell? ⟨gb150, 5, none⟩ = some (.int .i64 t146) ∧ w'.cell? ⟨gb150, 6, none⟩ = some (.int .i64 t147) ∧ w'.cell? ⟨gb150, 7, none⟩ = some (.string t148)) ∧ (w'.heap[gb136]? = some (.cells #[.int .i64 a0_0, .int .i64 a0_1, .int .i64 a0_2] 23 (0, 0))) ∧ (w'.heap[gb137]? = some (.cells #[.int .i64 a1_0, .int .i64 a1_1] 58 (0, 0))) ∧ (w'.heap[gb150]? = some (.cells #[.int .i64 t141, .int .i64 t142, .bool t143, .int .i64 t144, .bool t145, .int .i64 t146, .int .i64 t147, .string t148] 38 (0, 0))) ∧ (w'.heap[s_.1]? = some (.cells #[.int .i64 0, .int .i64 0, .bool false, .int .i64 0, .bool false, .int .i64 0, .int .i64 0, .string (⟨#[]⟩ : ByteArray)] 38 (0, 0))) ∧ (w'.heap[s_.2]? = some (.cells #[.int .i64 0, .int .i64 0, .bool false, .int .i64 0, .bool false, .int .i64 0, .int .i64 0, .string (⟨#[]⟩ : ByteArray)] 38 (0, 0))) ∧ (w.heap.size ≤ s_.1) ∧ (w.heap.size ≤ s_.1) ∧ (gb136 ≠ s_.1) ∧ (s_.1 ≠ gb136) ∧ (gb137 ≠ s_.1) ∧ (s_.1 ≠ gb137) ∧ (gb150 ≠ s_.1) ∧ (s_.1 ≠ gb150) ∧ (s_.2 ≠ s_.1) ∧ (s_.1 ≠ s_.2) ∧ (w.heap.size ≤ s_.2) ∧ (w.heap.size ≤ s_.2) ∧ (gb136 ≠ s_.2) ∧ (s_.2 ≠ gb136) ∧ (gb137 ≠ s_.2) ∧ (s_.2 ≠ gb137) ∧ (gb150 ≠ s_.2) ∧ (s_.2 ≠ gb150) ∧ (Below w.heap.size w w')) ?_ ?_
        rotate_left
        ·intro hJ3_5
         refine join_ (σ := Nat × Nat) 4 #[tT, tT, tT, tF, tT, tT, tF, tF, tF] (fun s_ => [(9, .pointer (some ⟨s_.1, 0, none⟩)), (10, .pointer (some ⟨s_.2, 0, none⟩))]) (fun s_ w' => (w'.cell? ⟨gb150, 0, none⟩ = some (.int .i64 t141) ∧ w'.cell? ⟨gb150, 1, none⟩ = some (.int .i64 t142) ∧ w'.cell? ⟨gb150, 2, none⟩ = some (.bool t143) ∧ w'.cell? ⟨gb150, 3, none⟩ = some (.int .i64 t144) ∧ w'.cell? ⟨gb150, 4, none⟩ = some (.bool t145) ∧ w'.cell? ⟨gb150, 5, none⟩ = some (.int .i64 t146) ∧ w'.cell? ⟨gb150, 6, none⟩ = some (.int .i64 t147) ∧ w'.cell? ⟨gb150, 7, none⟩ = some (.string t148)) ∧ (w'.heap[gb136]? = some (.cells #[.int .i64 a0_0, .int .i64 a0_1, .int .i64 a0_2] 23 (0, 0))) ∧ (w'.heap[gb137]? = some (.cells #[.int .i64 a1_0, .int .i64 a1_1] 58 (0, 0))) ∧ (w'.heap[gb150]? = some (.cells #[.int .i64 t141, .int .i64 t142, .bool t143, .int .i64 t144, .bool t145, .int .i64 t146, .int .i64 t147, .string t148] 38 (0, 0))) ∧ (w'.heap[s_.1]? = some (.cells #[.int .i64 0, .int .i64 0, .bool false, .int .i64 0, .bool false, .int .i64 0, .int .i64 0, .string (⟨#[]⟩ : ByteArray)] 38 (0, 0))) ∧ (w'.heap[s_.2]? = some (.cells #[.int .i64 0, .int .i64 0, .bool false, .int .i64 0, .bool false, .int .i64 0, .int .i64 0, .string (⟨#[]⟩ : ByteArray)] 38 (0, 0))) ∧ (w.heap.size ≤ s_.1) ∧ (w.heap.size ≤ s_.1) ∧ (gb136 ≠ s_.1) ∧ (s_.1 ≠ gb136) ∧ (gb137 ≠ s_.1) ∧ (s_.1 ≠ gb137) ∧ (gb150 ≠ s_.1) ∧ (s_.1 ≠ gb150) ∧ (s_.2 ≠ s_.1) ∧ (s_.1 ≠ s_.2) ∧ (w.heap.size ≤ s_.2) ∧ (w.heap.size ≤ s_.2) ∧ (gb136 ≠ s_.2) ∧ (s_.2 ≠ gb136) ∧ (gb137 ≠ s_.2) ∧ (s_.2 ≠ gb137) ∧ (gb150 ≠ s_.2) ∧ (s_.2 ≠ gb150) ∧ (Below w.heap.size w w')) ?_ ?_
         rotate_left
         ·intro hJ4_5
          refine join_ (σ := Nat) 5 #[tT, tT, tT, tT, tF, tF, tF, tF, tF] (fun s_ => [(8, .pointer (some ⟨s_, 0, none⟩))]) (fun s_ w' => (w'.cell? ⟨gb150, 0, none⟩ = some (.int .i64 t141) ∧ w'.cell? ⟨gb150, 1, none⟩ = some (.int .i64 t142) ∧ w'.cell? ⟨gb150, 2, none⟩ = some (.bool t143) ∧ w'.cell? ⟨gb150, 3, none⟩ = some (.int .i64 t144) ∧ w'.cell? ⟨gb150, 4, none⟩ = some (.bool t145) ∧ w'.cell? ⟨gb150, 5, none⟩ = some (.int .i64 t146) ∧ w'.cell? ⟨gb150, 6, none⟩ = some (.int .i64 t147) ∧ w'.cell? ⟨gb150, 7, none⟩ = some (.string t148)) ∧ (w'.heap[gb136]? = some (.cells #[.int .i64 a0_0, .int .i64 a0_1, .int .i64 a0_2] 23 (0, 0))) ∧ (w'.heap[gb137]? = some (.cells #[.int .i64 a1_0, .int .i64 a1_1] 58 (0, 0))) ∧ (w'.heap[gb150]? = some (.cells #[.int .i64 t141, .int .i64 t142, .bool t143, .int .i64 t144, .bool t145, .int .i64 t146, .int .i64 t147, .string t148] 38 (0, 0))) ∧ (w'.heap[s_]? = some (.cells #[.int .i64 0, .int .i64 0, .bool false, .int .i64 0, .bool false, .int .i64 0, .int .i64 0, .string (⟨#[]⟩ : ByteArray)] 38 (0, 0))) ∧ (w.heap.size ≤ s_) ∧ (w.heap.size ≤ s_) ∧ (gb136 ≠ s_) ∧ (s_ ≠ gb136) ∧ (gb137 ≠ s_) ∧ (s_ ≠ gb137) ∧ (gb150 ≠ s_) ∧ (s_ ≠ gb150) ∧ (Below w.heap.size w w')) ?_ ?_
          rotate_left
          ·intro hJ3
           refine join_ (σ := Nat) 5 #[tT, tT, tT, tF, tT, tF, tF, tF, tF] (fun s_ => [(9, .pointer (some ⟨s_, 0, none⟩))]) (fun s_ w' => (w'.cell? ⟨gb150, 0, none⟩ = some (.int .i64 t141) ∧ w'.cell? ⟨gb150, 1, none⟩ = some (.int .i64 t142) ∧ w'.cell? ⟨gb150, 2, none⟩ = some (.bool t143) ∧ w'.cell? ⟨gb150, 3, none⟩ = some (.int .i64 t144) ∧ w'.cell? ⟨gb150, 4, none⟩ = some (.bool t145) ∧ w'.cell? ⟨gb150, 5, none⟩ = some (.int .i64 t146) ∧ w'.cell? ⟨gb150, 6, none⟩ = some (.int .i64 t147) ∧ w'.cell? ⟨gb150, 7, none⟩ = some (.string t148)) ∧ (w'.heap[gb136]? = some (.cells #[.int .i64 a0_0, .int .i64 a0_1, .int .i64 a0_2] 23 (0, 0))) ∧ (w'.heap[gb137]? = some (.cells #[.int .i64 a1_0, .int .i64 a1_1] 58 (0, 0))) ∧ (w'.heap[gb150]? = some (.cells #[.int .i64 t141, .int .i64 t142, .bool t143, .int .i64 t144, .bool t145, .int .i64 t146, .int .i64 t147, .string t148] 38 (0, 0))) ∧ (w'.heap[s_]? = some (.cells #[.int .i64 0, .int .i64 0, .bool false, .int .i64 0, .bool false, .int .i64 0, .int .i64 0, .string (⟨#[]⟩ : ByteArray)] 38 (0, 0))) ∧ (w.heap.size ≤ s_) ∧ (w.heap.size ≤ s_) ∧ (gb136 ≠ s_) ∧ (s_ ≠ gb136) ∧ (gb137 ≠ s_) ∧ (s_ ≠ gb137) ∧ (gb150 ≠ s_) ∧ (s_ ≠ gb150) ∧ (Below w.heap.size w w')) ?_ ?_
           rotate_left
           ·intro hJ4
            refine join_ (σ := Nat) 5 #[tT, tT, tT, tF, tF, tT, tF, tF, tF] (fun s_ => [(10, .pointer (some ⟨s_, 0, none⟩))]) (fun s_ w' => (w'.cell? ⟨gb150, 0, none⟩ = some (.int .i64 t141) ∧ w'.cell? ⟨gb150, 1, none⟩ = some (.int .i64 t142) ∧ w'.cell? ⟨gb150, 2, none⟩ = some (.bool t143) ∧ w'.cell? ⟨gb150, 3, none⟩ = some (.int .i64 t144) ∧ w'.cell? ⟨gb150, 4, none⟩ = some (.bool t145) ∧ w'.cell? ⟨gb150, 5, none⟩ = some (.int .i64 t146) ∧ w'.cell? ⟨gb150, 6, none⟩ = some (.int .i64 t147) ∧ w'.cell? ⟨gb150, 7, none⟩ = some (.string t148)) ∧ (w'.heap[gb136]? = some (.cells #[.int .i64 a0_0, .int .i64 a0_1, .int .i64 a0_2] 23 (0, 0))) ∧ (w'.heap[gb137]? = some (.cells #[.int .i64 a1_0, .int .i64 a1_1] 58 (0, 0))) ∧ (w'.heap[gb150]? = some (.cells #[.int .i64 t141, .int .i64 t142, .bool t143, .int .i64 t144, .bool t145, .int .i64 t146, .int .i64 t147, .string t148] 38 (0, 0))) ∧ (w'.heap[s_]? = some (.cells #[.int .i64 0, .int .i64 0, .bool false, .int .i64 0, .bool false, .int .i64 0, .int .i64 0, .string (⟨#[]⟩ : ByteArray)] 38 (0, 0))) ∧ (w.heap.size ≤ s_) ∧ (w.heap.size ≤ s_) ∧ (gb136 ≠ s_) ∧ (s_ ≠ gb136) ∧ (gb137 ≠ s_) ∧ (s_ ≠ gb137) ∧ (gb150 ≠ s_) ∧ (s_ ≠ gb150) ∧ (Below w.heap.size w w')) ?_ ?_
            rotate_left
            ·intro hJ5
             refine three_ (i := 3) (j := 4) (k := 5) (Ni := some 8) (Nj := some 9) (Nk := some 10) #[tT, tT, tT, tT, tF, tF, tF, tF, tF] #[tT, tT, tT, tF, tT, tF, tF, tF, tF] #[tT, tT, tT, tF, tF, tT, tF, tF, tF] rfl rfl rfl rfl rfl rfl (three_of HT_.out (by kernel_rfl)) (by decide) (by decide) (by decide) (fun K hK => ?_) (fun K hK => ?_) (fun K hK => ?_)
             ·skip
              refine box_step ?hg (N := 8) ?hd (cs := #[.int .i64 0, .int .i64 0, .bool false, .int .i64 0, .bool false, .int .i64 0, .int .i64 0, .string (⟨#[]⟩ : ByteArray)]) (t := 38) ?hr ?_; (case hd => rfl); (case hg => rfl); (case hr => first | (go_simp; done) | (go_simp; rfl))
              intro gb157 hg w35 hbox hb
              have n0_ := Aside0.mk (blk_below (g := gb136) (o := .cells #[.int .i64 a0_0, .int .i64 a0_1, .int .i64 a0_2] 23 (0, 0)) (by (with_reducible repeat (first | apply blk_drewN | apply blk_drew | apply blk_alloc)); exact BK136.out) hb)
              have n1_ := Aside0.mk (blk_below (g := gb137) (o := .cells #[.int .i64 a1_0, .int .i64 a1_1] 58 (0, 0)) (by (with_reducible repeat (first | apply blk_drewN | apply blk_drew | apply blk_alloc)); exact BK137.out) hb)
              have n2_ := Aside0.mk (blk_below (g := gb150) (o := .cells #[.int .i64 t141, .int .i64 t142, .bool t143, .int .i64 t144, .bool t145, .int .i64 t146, .int .i64 t147, .string t148] 38 (0, 0)) (by (with_reducible repeat (first | apply blk_drewN | apply blk_drew | apply blk_alloc)); exact BK150.out) hb)
              have n3_ := Aside0.mk (below_step (by repeat (first | (with_reducible first | exact HB.out | apply below_alloc | apply pw_below_drewN | apply below_drew1 | refine below_set ?_ GE136.out | refine below_set ?_ GE137.out | refine below_set ?_ GE150.out) | exact HB.out)) hb)
              have n4_ := Aside0.mk (hbox)
              have n5_ := Aside0.mk ((by rw [hg]; exact (below_size (by repeat (first | (with_reducible first | exact HB.out | apply below_alloc | apply pw_below_drewN | apply below_drew1 | refine below_set ?_ GE136.out | refine below_set ?_ GE137.out | refine below_set ?_ GE150.out) | exact HB.out))) : w.heap.size ≤ gb157))
              have n6_ := Aside0.mk ((by rw [hg]; exact (below_size (by repeat (first | (with_reducible first | exact HB.out | apply below_alloc | apply pw_below_drewN | apply below_drew1 | refine below_set ?_ GE136.out | refine below_set ?_ GE137.out | refine below_set ?_ GE150.out) | exact HB.out))) : w.heap.size ≤ gb157))
              have n7_ := Aside0.mk ((by rw [hg]; exact Nat.ne_of_lt (blk_lt (g := gb136) (o := .cells #[.int .i64 a0_0, .int .i64 a0_1, .int .i64 a0_2] 23 (0, 0)) (by (with_reducible repeat (first | apply blk_drewN | apply blk_drew | apply blk_alloc)); exact BK136.out)) : gb136 ≠ gb157))
              have n8_ := Aside0.mk ((by rw [hg]; exact Nat.ne_of_gt (blk_lt (g := gb136) (o := .cells #[.int .i64 a0_0, .int .i64 a0_1, .int .i64 a0_2] 23 (0, 0)) (by (with_reducible repeat (first | apply blk_drewN | apply blk_drew | apply blk_alloc)); exact BK136.out)) : gb157 ≠ gb136))
              have n9_ := Aside0.mk ((by rw [hg]; exact Nat.ne_of_lt (blk_lt (g := gb137) (o := .cells #[.int .i64 a1_0, .int .i64 a1_1] 58 (0, 0)) (by (with_reducible repeat (first | apply blk_drewN | apply blk_drew | apply blk_alloc)); exact BK137.out)) : gb137 ≠ gb157))
              have n10_ := Aside0.mk ((by rw [hg]; exact Nat.ne_of_gt (blk_lt (g := gb137) (o := .cells #[.int .i64 a1_0, .int .i64 a1_1] 58 (0, 0)) (by (with_reducible repeat (first | apply blk_drewN | apply blk_drew | apply blk_alloc)); exact BK137.out)) : gb157 ≠ gb137))
              have n11_ := Aside0.mk ((by rw [hg]; exact Nat.ne_of_lt (blk_lt (g := gb150) (o := .cells #[.int .i64 t141, .int .i64 t142, .bool t143, .int .i64 t144, .bool t145, .int .i64 t146, .int .i64 t147, .string t148] 38 (0, 0)) (by (with_reducible repeat (first | apply blk_drewN | apply blk_drew | apply blk_alloc)); exact BK150.out)) : gb150 ≠ gb157))
              have n12_ := Aside0.mk ((by rw [hg]; exact Nat.ne_of_gt (blk_lt (g := gb150) (o := .cells #[.int .i64 t141, .int .i64 t142, .bool t143, .int .i64 t144, .bool t145, .int .i64 t146, .int .i64 t147, .string t148] 38 (0, 0)) (by (with_reducible repeat (first | apply blk_drewN | apply blk_drew | apply blk_alloc)); exact BK150.out)) : gb157 ≠ gb150))
              clear BK136
              clear BK137
              clear BK150
              clear HB
              have BK136 := n0_
              have BK137 := n1_
              have BK150 := n2_
              have HB := n3_
              have BK157 := n4_
              have GW157 := n5_
              have GE157 := n6_
              have NB136_157 := n7_
              have NB157_136 := n8_
              have NB137_157 := n9_
              have NB157_137 := n10_
              have NB150_157 := n11_
              have NB157_150 := n12_
              clear n0_ n1_ n2_ n3_ n4_ n5_ n6_ n7_ n8_ n9_ n10_ n11_ n12_
              clear hb hbox hg
              refine hK.out _ _ ⟨(blk_cell BK150.out 0).trans rfl, (blk_cell BK150.out 1).trans rfl, (blk_cell BK150.out 2).trans rfl, (blk_cell BK150.out 3).trans rfl, (blk_cell BK150.out 4).trans rfl, (blk_cell BK150.out 5).trans rfl, (blk_cell BK150.out 6).trans rfl, (blk_cell BK150.out 7).trans rfl⟩ (fun hHeld => ?_)
              clear hK K
              refine norm_ (a' := ?_) ?_ ?_
              rotate_left
              ·show Act.put _ (some 8) _ = _
               simp only [Act.put, List.setIfInBounds_toArray, List.set_cons_zero, List.set_cons_succ, i64_w, i32_w]
               rfl
              exact norm_ (by first | (simp only [putAll, Act.put, List.setIfInBounds_toArray, List.set_cons_zero, List.set_cons_succ]; done) | (simp only [putAll, Act.put, List.setIfInBounds_toArray, List.set_cons_zero, List.set_cons_succ]; rfl)) (hJ3 (gb157) _ ⟨hHeld, (by (with_reducible repeat (first | apply blk_drewN | apply blk_drew | apply blk_alloc)); exact BK136.out), (by (with_reducible repeat (first | apply blk_drewN | apply blk_drew | apply blk_alloc)); exact BK137.out), (by (with_reducible repeat (first | apply blk_drewN | apply blk_drew | apply blk_alloc)); exact BK150.out), (by (with_reducible repeat (first | apply blk_drewN | apply blk_drew | apply blk_alloc)); exact BK157.out), GW157.out, GE157.out, NB136_157.out, NB157_136.out, NB137_157.out, NB157_137.out, NB150_157.out, NB157_150.out, (by repeat (first | (with_reducible first | exact HB.out | apply below_alloc | apply pw_below_drewN | apply below_drew1 | refine below_set ?_ GE136.out | refine below_set ?_ GE137.out | refine below_set ?_ GE150.out | refine below_set ?_ GE157.out) | exact HB.out))⟩)
             ·skip
              refine box_step ?hg (N := 9) ?hd (cs := #[.int .i64 0, .int .i64 0, .bool false, .int .i64 0, .bool false, .int .i64 0, .int .i64 0, .string (⟨#[]⟩ : ByteArray)]) (t := 38) ?hr ?_; (case hd => rfl); (case hg => rfl); (case hr => first | (go_simp; done) | (go_simp; rfl))
              intro gb158 hg w35 hbox hb
              have n0_ := Aside0.mk (blk_below (g := gb136) (o := .cells #[.int .i64 a0_0, .int .i64 a0_1, .int .i64 a0_2] 23 (0, 0)) (by (with_reducible repeat (first | apply blk_drewN | apply blk_drew | apply blk_alloc)); exact BK136.out) hb)
              have n1_ := Aside0.mk (blk_below (g := gb137) (o := .cells #[.int .i64 a1_0, .int .i64 a1_1] 58 (0, 0)) (by (with_reducible repeat (first | apply blk_drewN | apply blk_drew | apply blk_alloc)); exact BK137.out) hb)
              have n2_ := Aside0.mk (blk_below (g := gb150) (o := .cells #[.int .i64 t141, .int .i64 t142, .bool t143, .int .i64 t144, .bool t145, .int .i64 t146, .int .i64 t147, .string t148] 38 (0, 0)) (by (with_reducible repeat (first | apply blk_drewN | apply blk_drew | apply blk_alloc)); exact BK150.out) hb)
              have n3_ := Aside0.mk (below_step (by repeat (first | (with_reducible first | exact HB.out | apply below_alloc | apply pw_below_drewN | apply below_drew1 | refine below_set ?_ GE136.out | refine below_set ?_ GE137.out | refine below_set ?_ GE150.out) | exact HB.out)) hb)
              have n4_ := Aside0.mk (hbox)
              have n5_ := Aside0.mk ((by rw [hg]; exact (below_size (by repeat (first | (with_reducible first | exact HB.out | apply below_alloc | apply pw_below_drewN | apply below_drew1 | refine below_set ?_ GE136.out | refine below_set ?_ GE137.out | refine below_set ?_ GE150.out) | exact HB.out))) : w.heap.size ≤ gb158))
              have n6_ := Aside0.mk ((by rw [hg]; exact (below_size (by repeat (first | (with_reducible first | exact HB.out | apply below_alloc | apply pw_below_drewN | apply below_drew1 | refine below_set ?_ GE136.out | refine below_set ?_ GE137.out | refine below_set ?_ GE150.out) | exact HB.out))) : w.heap.size ≤ gb158))
              have n7_ := Aside0.mk ((by rw [hg]; exact Nat.ne_of_lt (blk_lt (g := gb136) (o := .cells #[.int .i64 a0_0, .int .i64 a0_1, .int .i64 a0_2] 23 (0, 0)) (by (with_reducible repeat (first | apply blk_drewN | apply blk_drew | apply blk_alloc)); exact BK136.out)) : gb136 ≠ gb158))
              have n8_ := Aside0.mk ((by rw [hg]; exact Nat.ne_of_gt (blk_lt (g := gb136) (o := .cells #[.int .i64 a0_0, .int .i64 a0_1, .int .i64 a0_2] 23 (0, 0)) (by (with_reducible repeat (first | apply blk_drewN | apply blk_drew | apply blk_alloc)); exact BK136.out)) : gb158 ≠ gb136))
              have n9_ := Aside0.mk ((by rw [hg]; exact Nat.ne_of_lt (blk_lt (g := gb137) (o := .cells #[.int .i64 a1_0, .int .i64 a1_1] 58 (0, 0)) (by (with_reducible repeat (first | apply blk_drewN | apply blk_drew | apply blk_alloc)); exact BK137.out)) : gb137 ≠ gb158))
              have n10_ := Aside0.mk ((by rw [hg]; exact Nat.ne_of_gt (blk_lt (g := gb137) (o := .cells #[.int .i64 a1_0, .int .i64 a1_1] 58 (0, 0)) (by (with_reducible repeat (first | apply blk_drewN | apply blk_drew | apply blk_alloc)); exact BK137.out)) : gb158 ≠ gb137))
              have n11_ := Aside0.mk ((by rw [hg]; exact Nat.ne_of_lt (blk_lt (g := gb150) (o := .cells #[.int .i64 t141, .int .i64 t142, .bool t143, .int .i64 t144, .bool t145, .int .i64 t146, .int .i64 t147, .string t148] 38 (0, 0)) (by (with_reducible repeat (first | apply blk_drewN | apply blk_drew | apply blk_alloc)); exact BK150.out)) : gb150 ≠ gb158))
              have n12_ := Aside0.mk ((by rw [hg]; exact Nat.ne_of_gt (blk_lt (g := gb150) (o := .cells #[.int .i64 t141, .int .i64 t142, .bool t143, .int .i64 t144, .bool t145, .int .i64 t146, .int .i64 t147, .string t148] 38 (0, 0)) (by (with_reducible repeat (first | apply blk_drewN | apply blk_drew | apply blk_alloc)); exact BK150.out)) : gb158 ≠ gb150))
              clear BK136
              clear BK137
              clear BK150
              clear HB
              have BK136 := n0_
              have BK137 := n1_
              have BK150 := n2_
              have HB := n3_
              have BK158 := n4_
              have GW158 := n5_
              have GE158 := n6_
              have NB136_158 := n7_
              have NB158_136 := n8_
              have NB137_158 := n9_
              have NB158_137 := n10_
              have NB150_158 := n11_
              have NB158_150 := n12_
              clear n0_ n1_ n2_ n3_ n4_ n5_ n6_ n7_ n8_ n9_ n10_ n11_ n12_
              clear hb hbox hg
              refine hK.out _ _ ⟨(blk_cell BK150.out 0).trans rfl, (blk_cell BK150.out 1).trans rfl, (blk_cell BK150.out 2).trans rfl, (blk_cell BK150.out 3).trans rfl, (blk_cell BK150.out 4).trans rfl, (blk_cell BK150.out 5).trans rfl, (blk_cell BK150.out 6).trans rfl, (blk_cell BK150.out 7).trans rfl⟩ (fun hHeld => ?_)
              clear hK K
              refine norm_ (a' := ?_) ?_ ?_
              rotate_left
              ·show Act.put _ (some 9) _ = _
               simp only [Act.put, List.setIfInBounds_toArray, List.set_cons_zero, List.set_cons_succ, i64_w, i32_w]
               rfl
              exact norm_ (by first | (simp only [putAll, Act.put, List.setIfInBounds_toArray, List.set_cons_zero, List.set_cons_succ]; done) | (simp only [putAll, Act.put, List.setIfInBounds_toArray, List.set_cons_zero, List.set_cons_succ]; rfl)) (hJ4 (gb158) _ ⟨hHeld, (by (with_reducible repeat (first | apply blk_drewN | apply blk_drew | apply blk_alloc)); exact BK136.out), (by (with_reducible repeat (first | apply blk_drewN | apply blk_drew | apply blk_alloc)); exact BK137.out), (by (with_reducible repeat (first | apply blk_drewN | apply blk_drew | apply blk_alloc)); exact BK150.out), (by (with_reducible repeat (first | apply blk_drewN | apply blk_drew | apply blk_alloc)); exact BK158.out), GW158.out, GE158.out, NB136_158.out, NB158_136.out, NB137_158.out, NB158_137.out, NB150_158.out, NB158_150.out, (by repeat (first | (with_reducible first | exact HB.out | apply below_alloc | apply pw_below_drewN | apply below_drew1 | refine below_set ?_ GE136.out | refine below_set ?_ GE137.out | refine below_set ?_ GE150.out | refine below_set ?_ GE158.out) | exact HB.out))⟩)
             ·skip
              refine box_step ?hg (N := 10) ?hd (cs := #[.int .i64 0, .int .i64 0, .bool false, .int .i64 0, .bool false, .int .i64 0, .int .i64 0, .string (⟨#[]⟩ : ByteArray)]) (t := 38) ?hr ?_; (case hd => rfl); (case hg => rfl); (case hr => first | (go_simp; done) | (go_simp; rfl))
              intro gb159 hg w35 hbox hb
              have n0_ := Aside0.mk (blk_below (g := gb136) (o := .cells #[.int .i64 a0_0, .int .i64 a0_1, .int .i64 a0_2] 23 (0, 0)) (by (with_reducible repeat (first | apply blk_drewN | apply blk_drew | apply blk_alloc)); exact BK136.out) hb)
              have n1_ := Aside0.mk (blk_below (g := gb137) (o := .cells #[.int .i64 a1_0, .int .i64 a1_1] 58 (0, 0)) (by (with_reducible repeat (first | apply blk_drewN | apply blk_drew | apply blk_alloc)); exact BK137.out) hb)
              have n2_ := Aside0.mk (blk_below (g := gb150) (o := .cells #[.int .i64 t141, .int .i64 t142, .bool t143, .int .i64 t144, .bool t145, .int .i64 t146, .int .i64 t147, .string t148] 38 (0, 0)) (by (with_reducible repeat (first | apply blk_drewN | apply blk_drew | apply blk_alloc)); exact BK150.out) hb)
              have n3_ := Aside0.mk (below_step (by repeat (first | (with_reducible first | exact HB.out | apply below_alloc | apply pw_below_drewN | apply below_drew1 | refine below_set ?_ GE136.out | refine below_set ?_ GE137.out | refine below_set ?_ GE150.out) | exact HB.out)) hb)
              have n4_ := Aside0.mk (hbox)
              have n5_ := Aside0.mk ((by rw [hg]; exact (below_size (by repeat (first | (with_reducible first | exact HB.out | apply below_alloc | apply pw_below_drewN | apply below_drew1 | refine below_set ?_ GE136.out | refine below_set ?_ GE137.out | refine below_set ?_ GE150.out) | exact HB.out))) : w.heap.size ≤ gb159))
              have n6_ := Aside0.mk ((by rw [hg]; exact (below_size (by repeat (first | (with_reducible first | exact HB.out | apply below_alloc | apply pw_below_drewN | apply below_drew1 | refine below_set ?_ GE136.out | refine below_set ?_ GE137.out | refine below_set ?_ GE150.out) | exact HB.out))) : w.heap.size ≤ gb159))
              have n7_ := Aside0.mk ((by rw [hg]; exact Nat.ne_of_lt (blk_lt (g := gb136) (o := .cells #[.int .i64 a0_0, .int .i64 a0_1, .int .i64 a0_2] 23 (0, 0)) (by (with_reducible repeat (first | apply blk_drewN | apply blk_drew | apply blk_alloc)); exact BK136.out)) : gb136 ≠ gb159))
              have n8_ := Aside0.mk ((by rw [hg]; exact Nat.ne_of_gt (blk_lt (g := gb136) (o := .cells #[.int .i64 a0_0, .int .i64 a0_1, .int .i64 a0_2] 23 (0, 0)) (by (with_reducible repeat (first | apply blk_drewN | apply blk_drew | apply blk_alloc)); exact BK136.out)) : gb159 ≠ gb136))
              have n9_ := Aside0.mk ((by rw [hg]; exact Nat.ne_of_lt (blk_lt (g := gb137) (o := .cells #[.int .i64 a1_0, .int .i64 a1_1] 58 (0, 0)) (by (with_reducible repeat (first | apply blk_drewN | apply blk_drew | apply blk_alloc)); exact BK137.out)) : gb137 ≠ gb159))
              have n10_ := Aside0.mk ((by rw [hg]; exact Nat.ne_of_gt (blk_lt (g := gb137) (o := .cells #[.int .i64 a1_0, .int .i64 a1_1] 58 (0, 0)) (by (with_reducible repeat (first | apply blk_drewN | apply blk_drew | apply blk_alloc)); exact BK137.out)) : gb159 ≠ gb137))
              have n11_ := Aside0.mk ((by rw [hg]; exact Nat.ne_of_lt (blk_lt (g := gb150) (o := .cells #[.int .i64 t141, .int .i64 t142, .bool t143, .int .i64 t144, .bool t145, .int .i64 t146, .int .i64 t147, .string t148] 38 (0, 0)) (by (with_reducible repeat (first | apply blk_drewN | apply blk_drew | apply blk_alloc)); exact BK150.out)) : gb150 ≠ gb159))
              have n12_ := Aside0.mk ((by rw [hg]; exact Nat.ne_of_gt (blk_lt (g := gb150) (o := .cells #[.int .i64 t141, .int .i64 t142, .bool t143, .int .i64 t144, .bool t145, .int .i64 t146, .int .i64 t147, .string t148] 38 (0, 0)) (by (with_reducible repeat (first | apply blk_drewN | apply blk_drew | apply blk_alloc)); exact BK150.out)) : gb159 ≠ gb150))
              clear BK136
              clear BK137
              clear BK150
              clear HB
              have BK136 := n0_
              have BK137 := n1_
              have BK150 := n2_
              have HB := n3_
              have BK159 := n4_
              have GW159 := n5_
              have GE159 := n6_
              have NB136_159 := n7_
              have NB159_136 := n8_
              have NB137_159 := n9_
              have NB159_137 := n10_
              have NB150_159 := n11_
              have NB159_150 := n12_
              clear n0_ n1_ n2_ n3_ n4_ n5_ n6_ n7_ n8_ n9_ n10_ n11_ n12_
              clear hb hbox hg
              refine hK.out _ _ ⟨(blk_cell BK150.out 0).trans rfl, (blk_cell BK150.out 1).trans rfl, (blk_cell BK150.out 2).trans rfl, (blk_cell BK150.out 3).trans rfl, (blk_cell BK150.out 4).trans rfl, (blk_cell BK150.out 5).trans rfl, (blk_cell BK150.out 6).trans rfl, (blk_cell BK150.out 7).trans rfl⟩ (fun hHeld => ?_)
              clear hK K
              refine norm_ (a' := ?_) ?_ ?_
              rotate_left
              ·show Act.put _ (some 10) _ = _
               simp only [Act.put, List.setIfInBounds_toArray, List.set_cons_zero, List.set_cons_succ, i64_w, i32_w]
               rfl
              exact norm_ (by first | (simp only [putAll, Act.put, List.setIfInBounds_toArray, List.set_cons_zero, List.set_cons_succ]; done) | (simp only [putAll, Act.put, List.setIfInBounds_toArray, List.set_cons_zero, List.set_cons_succ]; rfl)) (hJ5 (gb159) _ ⟨hHeld, (by (with_reducible repeat (first | apply blk_drewN | apply blk_drew | apply blk_alloc)); exact BK136.out), (by (with_reducible repeat (first | apply blk_drewN | apply blk_drew | apply blk_alloc)); exact BK137.out), (by (with_reducible repeat (first | apply blk_drewN | apply blk_drew | apply blk_alloc)); exact BK150.out), (by (with_reducible repeat (first | apply blk_drewN | apply blk_drew | apply blk_alloc)); exact BK159.out), GW159.out, GE159.out, NB136_159.out, NB159_136.out, NB137_159.out, NB159_137.out, NB150_159.out, NB159_150.out, (by repeat (first | (with_reducible first | exact HB.out | apply below_alloc | apply pw_below_drewN | apply below_drew1 | refine below_set ?_ GE136.out | refine below_set ?_ GE137.out | refine below_set ?_ GE150.out | refine below_set ?_ GE159.out) | exact HB.out))⟩)
            ·skip
             rintro gb159 w36 ⟨hS_, h0_, h1_, h2_, h3_, h4_, h5_, h6_, h7_, h8_, h9_, h10_, h11_, h12_⟩
             have n0_ : Aside0 (w36.heap[gb136]? = some (.cells #[.int .i64 a0_0, .int .i64 a0_1, .int .i64 a0_2] 23 (0, 0))) := ⟨h0_⟩
             have n1_ : Aside0 (w36.heap[gb137]? = some (.cells #[.int .i64 a1_0, .int .i64 a1_1] 58 (0, 0))) := ⟨h1_⟩
             have n2_ : Aside0 (w36.heap[gb150]? = some (.cells #[.int .i64 t141, .int .i64 t142, .bool t143, .int .i64 t144, .bool t145, .int .i64 t146, .int .i64 t147, .string t148] 38 (0, 0))) := ⟨h2_⟩
             have n3_ : Aside0 (w36.heap[gb159]? = some (.cells #[.int .i64 0, .int .i64 0, .bool false, .int .i64 0, .bool false, .int .i64 0, .int .i64 0, .string (⟨#[]⟩ : ByteArray)] 38 (0, 0))) := ⟨h3_⟩
             have n4_ : Aside0 (w.heap.size ≤ gb159) := ⟨h4_⟩
             have n5_ : Aside0 (w.heap.size ≤ gb159) := ⟨h5_⟩
             have n6_ : Aside0 (gb136 ≠ gb159) := ⟨h6_⟩
             have n7_ : Aside0 (gb159 ≠ gb136) := ⟨h7_⟩
             have n8_ : Aside0 (gb137 ≠ gb159) := ⟨h8_⟩
             have n9_ : Aside0 (gb159 ≠ gb137) := ⟨h9_⟩
             have n10_ : Aside0 (gb150 ≠ gb159) := ⟨h10_⟩
             have n11_ : Aside0 (gb159 ≠ gb150) := ⟨h11_⟩
             have n12_ : Aside0 (Below w.heap.size w w36) := ⟨h12_⟩
             clear BK136
             clear BK137
             clear BK150
             clear HB
             clear h0_ h1_ h2_ h3_ h4_ h5_ h6_ h7_ h8_ h9_ h10_ h11_ h12_
             have BK136 := n0_
             have BK137 := n1_
             have BK150 := n2_
             have BK159 := n3_
             have GW159 := n4_
             have GE159 := n5_
             have NB136_159 := n6_
             have NB159_136 := n7_
             have NB137_159 := n8_
             have NB159_137 := n9_
             have NB150_159 := n10_
             have NB159_150 := n11_
             have HB := n12_
             clear n0_ n1_ n2_ n3_ n4_ n5_ n6_ n7_ n8_ n9_ n10_ n11_ n12_
             have hHeld : w36.cell? ⟨gb150, 0, none⟩ = some (.int .i64 t141) ∧ w36.cell? ⟨gb150, 1, none⟩ = some (.int .i64 t142) ∧ w36.cell? ⟨gb150, 2, none⟩ = some (.bool t143) ∧ w36.cell? ⟨gb150, 3, none⟩ = some (.int .i64 t144) ∧ w36.cell? ⟨gb150, 4, none⟩ = some (.bool t145) ∧ w36.cell? ⟨gb150, 5, none⟩ = some (.int .i64 t146) ∧ w36.cell? ⟨gb150, 6, none⟩ = some (.int .i64 t147) ∧ w36.cell? ⟨gb150, 7, none⟩ = some (.string t148) := hS_
             refine norm_ (a' := ?_) ?_ ?_
             rotate_left
             ·simp only [putAll, Act.put, List.setIfInBounds_toArray, List.set_cons_zero, List.set_cons_succ]
              rfl
             refine two_ (i := 3) (j := 4) (Ni := some 8) (Nj := some 9) #[tT, tT, tT, tT, tF, tT, tF, tF, tF] #[tT, tT, tT, tF, tT, tT, tF, tF, tF] rfl rfl rfl rfl (two_of HT_.out (by kernel_rfl)) (by decide) (by decide) (fun K hK => ?_) (fun K hK => ?_)
             ·skip
              refine box_step ?hg (N := 8) ?hd (cs := #[.int .i64 0, .int .i64 0, .bool false, .int .i64 0, .bool false, .int .i64 0, .int .i64 0, .string (⟨#[]⟩ : ByteArray)]) (t := 38) ?hr ?_; (case hd => rfl); (case hg => rfl); (case hr => first | (go_simp; done) | (go_simp; rfl))
              intro gb157 hg w37 hbox hb
              have n0_ := Aside0.mk (blk_below (g := gb136) (o := .cells #[.int .i64 a0_0, .int .i64 a0_1, .int .i64 a0_2] 23 (0, 0)) (by (with_reducible repeat (first | apply blk_drewN | apply blk_drew | apply blk_alloc)); exact BK136.out) hb)
              have n1_ := Aside0.mk (blk_below (g := gb137) (o := .cells #[.int .i64 a1_0, .int .i64 a1_1] 58 (0, 0)) (by (with_reducible repeat (first | apply blk_drewN | apply blk_drew | apply blk_alloc)); exact BK137.out) hb)
              have n2_ := Aside0.mk (blk_below (g := gb150) (o := .cells #[.int .i64 t141, .int .i64 t142, .bool t143, .int .i64 t144, .bool t145, .int .i64 t146, .int .i64 t147, .string t148] 38 (0, 0)) (by (with_reducible repeat (first | apply blk_drewN | apply blk_drew | apply blk_alloc)); exact BK150.out) hb)
              have n3_ := Aside0.mk (blk_below (g := gb159) (o := .cells #[.int .i64 0, .int .i64 0, .bool false, .int .i64 0, .bool false, .int .i64 0, .int .i64 0, .string (⟨#[]⟩ : ByteArray)] 38 (0, 0)) (by (with_reducible repeat (first | apply blk_drewN | apply blk_drew | apply blk_alloc)); exact BK159.out) hb)
              have n4_ := Aside0.mk (below_step (by repeat (first | (with_reducible first | exact HB.out | apply below_alloc | apply pw_below_drewN | apply below_drew1 | refine below_set ?_ GE136.out | refine below_set ?_ GE137.out | refine below_set ?_ GE150.out | refine below_set ?_ GE159.out) | exact HB.out)) hb)
              have n5_ := Aside0.mk (hbox)
              have n6_ := Aside0.mk ((by rw [hg]; exact (below_size (by repeat (first | (with_reducible first | exact HB.out | apply below_alloc | apply pw_below_drewN | apply below_drew1 | refine below_set ?_ GE136.out | refine below_set ?_ GE137.out | refine below_set ?_ GE150.out | refine below_set ?_ GE159.out) | exact HB.out))) : w.heap.size ≤ gb157))
              have n7_ := Aside0.mk ((by rw [hg]; exact (below_size (by repeat (first | (with_reducible first | exact HB.out | apply below_alloc | apply pw_below_drewN | apply below_drew1 | refine below_set ?_ GE136.out | refine below_set ?_ GE137.out | refine below_set ?_ GE150.out | refine below_set ?_ GE159.out) | exact HB.out))) : w.heap.size ≤ gb157))
              have n8_ := Aside0.mk ((by rw [hg]; exact Nat.ne_of_lt (blk_lt (g := gb136) (o := .cells #[.int .i64 a0_0, .int .i64 a0_1, .int .i64 a0_2] 23 (0, 0)) (by (with_reducible repeat (first | apply blk_drewN | apply blk_drew | apply blk_alloc)); exact BK136.out)) : gb136 ≠ gb157))
              have n9_ := Aside0.mk ((by rw [hg]; exact Nat.ne_of_gt (blk_lt (g := gb136) (o := .cells #[.int .i64 a0_0, .int .i64 a0_1, .int .i64 a0_2] 23 (0, 0)) (by (with_reducible repeat (first | apply blk_drewN | apply blk_drew | apply blk_alloc)); exact BK136.out)) : gb157 ≠ gb136))
              have n10_ := Aside0.mk ((by rw [hg]; exact Nat.ne_of_lt (blk_lt (g := gb137) (o := .cells #[.int .i64 a1_0, .int .i64 a1_1] 58 (0, 0)) (by (with_reducible repeat (first | apply blk_drewN | apply blk_drew | apply blk_alloc)); exact BK137.out)) : gb137 ≠ gb157))
              have n11_ := Aside0.mk ((by rw [hg]; exact Nat.ne_of_gt (blk_lt (g := gb137) (o := .cells #[.int .i64 a1_0, .int .i64 a1_1] 58 (0, 0)) (by (with_reducible repeat (first | apply blk_drewN | apply blk_drew | apply blk_alloc)); exact BK137.out)) : gb157 ≠ gb137))
              have n12_ := Aside0.mk ((by rw [hg]; exact Nat.ne_of_lt (blk_lt (g := gb150) (o := .cells #[.int .i64 t141, .int .i64 t142, .bool t143, .int .i64 t144, .bool t145, .int .i64 t146, .int .i64 t147, .string t148] 38 (0, 0)) (by (with_reducible repeat (first | apply blk_drewN | apply blk_drew | apply blk_alloc)); exact BK150.out)) : gb150 ≠ gb157))
              have n13_ := Aside0.mk ((by rw [hg]; exact Nat.ne_of_gt (blk_lt (g := gb150) (o := .cells #[.int .i64 t141, .int .i64 t142, .bool t143, .int .i64 t144, .bool t145, .int .i64 t146, .int .i64 t147, .string t148] 38 (0, 0)) (by (with_reducible repeat (first | apply blk_drewN | apply blk_drew | apply blk_alloc)); exact BK150.out)) : gb157 ≠ gb150))
              have n14_ := Aside0.mk ((by rw [hg]; exact Nat.ne_of_lt (blk_lt (g := gb159) (o := .cells #[.int .i64 0, .int .i64 0, .bool false, .int .i64 0, .bool false, .int .i64 0, .int .i64 0, .string (⟨#[]⟩ : ByteArray)] 38 (0, 0)) (by (with_reducible repeat (first | apply blk_drewN | apply blk_drew | apply blk_alloc)); exact BK159.out)) : gb159 ≠ gb157))
              have n15_ := Aside0.mk ((by rw [hg]; exact Nat.ne_of_gt (blk_lt (g := gb159) (o := .cells #[.int .i64 0, .int .i64 0, .bool false, .int .i64 0, .bool false, .int .i64 0, .int .i64 0, .string (⟨#[]⟩ : ByteArray)] 38 (0, 0)) (by (with_reducible repeat (first | apply blk_drewN | apply blk_drew | apply blk_alloc)); exact BK159.out)) : gb157 ≠ gb159))
              clear BK136
              clear BK137
              clear BK150
              clear BK159
              clear HB
              have BK136 := n0_
              have BK137 := n1_
              have BK150 := n2_
              have BK159 := n3_
              have HB := n4_
              have BK157 := n5_
              have GW157 := n6_
              have GE157 := n7_
              have NB136_157 := n8_
              have NB157_136 := n9_
              have NB137_157 := n10_
              have NB157_137 := n11_
              have NB150_157 := n12_
              have NB157_150 := n13_
              have NB159_157 := n14_
              have NB157_159 := n15_
              clear n0_ n1_ n2_ n3_ n4_ n5_ n6_ n7_ n8_ n9_ n10_ n11_ n12_ n13_ n14_ n15_
              clear hb hbox hg
              refine hK.out _ _ ⟨(blk_cell BK150.out 0).trans rfl, (blk_cell BK150.out 1).trans rfl, (blk_cell BK150.out 2).trans rfl, (blk_cell BK150.out 3).trans rfl, (blk_cell BK150.out 4).trans rfl, (blk_cell BK150.out 5).trans rfl, (blk_cell BK150.out 6).trans rfl, (blk_cell BK150.out 7).trans rfl⟩ (fun hHeld => ?_)
              clear hK K
              refine norm_ (a' := ?_) ?_ ?_
              rotate_left
              ·show Act.put _ (some 8) _ = _
               simp only [Act.put, List.setIfInBounds_toArray, List.set_cons_zero, List.set_cons_succ, i64_w, i32_w]
               rfl
              exact norm_ (by first | (simp only [putAll, Act.put, List.setIfInBounds_toArray, List.set_cons_zero, List.set_cons_succ]; done) | (simp only [putAll, Act.put, List.setIfInBounds_toArray, List.set_cons_zero, List.set_cons_succ]; rfl)) (hJ3_5 (gb157, gb159) _ ⟨hHeld, (by (with_reducible repeat (first | apply blk_drewN | apply blk_drew | apply blk_alloc)); exact BK136.out), (by (with_reducible repeat (first | apply blk_drewN | apply blk_drew | apply blk_alloc)); exact BK137.out), (by (with_reducible repeat (first | apply blk_drewN | apply blk_drew | apply blk_alloc)); exact BK150.out), (by (with_reducible repeat (first | apply blk_drewN | apply blk_drew | apply blk_alloc)); exact BK157.out), (by (with_reducible repeat (first | apply blk_drewN | apply blk_drew | apply blk_alloc)); exact BK159.out), GW157.out, GE157.out, NB136_157.out, NB157_136.out, NB137_157.out, NB157_137.out, NB150_157.out, NB157_150.out, NB159_157.out, NB157_159.out, GW159.out, GE159.out, NB136_159.out, NB159_136.out, NB137_159.out, NB159_137.out, NB150_159.out, NB159_150.out, (by repeat (first | (with_reducible first | exact HB.out | apply below_alloc | apply pw_below_drewN | apply below_drew1 | refine below_set ?_ GE136.out | refine below_set ?_ GE137.out | refine below_set ?_ GE150.out | refine below_set ?_ GE159.out | refine below_set ?_ GE157.out) | exact HB.out))⟩)
             ·skip
              refine box_step ?hg (N := 9) ?hd (cs := #[.int .i64 0, .int .i64 0, .bool false, .int .i64 0, .bool false, .int .i64 0, .int .i64 0, .string (⟨#[]⟩ : ByteArray)]) (t := 38) ?hr ?_; (case hd => rfl); (case hg => rfl); (case hr => first | (go_simp; done) | (go_simp; rfl))
              intro gb158 hg w37 hbox hb
              have n0_ := Aside0.mk (blk_below (g := gb136) (o := .cells #[.int .i64 a0_0, .int .i64 a0_1, .int .i64 a0_2] 23 (0, 0)) (by (with_reducible repeat (first | apply blk_drewN | apply blk_drew | apply blk_alloc)); exact BK136.out) hb)
              have n1_ := Aside0.mk (blk_below (g := gb137) (o := .cells #[.int .i64 a1_0, .int .i64 a1_1] 58 (0, 0)) (by (with_reducible repeat (first | apply blk_drewN | apply blk_drew | apply blk_alloc)); exact BK137.out) hb)
              have n2_ := Aside0.mk (blk_below (g := gb150) (o := .cells #[.int .i64 t141, .int .i64 t142, .bool t143, .int .i64 t144, .bool t145, .int .i64 t146, .int .i64 t147, .string t148] 38 (0, 0)) (by (with_reducible repeat (first | apply blk_drewN | apply blk_drew | apply blk_alloc)); exact BK150.out) hb)
              have n3_ := Aside0.mk (blk_below (g := gb159) (o := .cells #[.int .i64 0, .int .i64 0, .bool false, .int .i64 0, .bool false, .int .i64 0, .int .i64 0, .string (⟨#[]⟩ : ByteArray)] 38 (0, 0)) (by (with_reducible repeat (first | apply blk_drewN | apply blk_drew | apply blk_alloc)); exact BK159.out) hb)
              have n4_ := Aside0.mk (below_step (by repeat (first | (with_reducible first | exact HB.out | apply below_alloc | apply pw_below_drewN | apply below_drew1 | refine below_set ?_ GE136.out | refine below_set ?_ GE137.out | refine below_set ?_ GE150.out | refine below_set ?_ GE159.out) | exact HB.out)) hb)
              have n5_ := Aside0.mk (hbox)
              have n6_ := Aside0.mk ((by rw [hg]; exact (below_size (by repeat (first | (with_reducible first | exact HB.out | apply below_alloc | apply pw_below_drewN | apply below_drew1 | refine below_set ?_ GE136.out | refine below_set ?_ GE137.out | refine below_set ?_ GE150.out | refine below_set ?_ GE159.out) | exact HB.out))) : w.heap.size ≤ gb158))
              have n7_ := Aside0.mk ((by rw [hg]; exact (below_size (by repeat (first | (with_reducible first | exact HB.out | apply below_alloc | apply pw_below_drewN | apply below_drew1 | refine below_set ?_ GE136.out | refine below_set ?_ GE137.out | refine below_set ?_ GE150.out | refine below_set ?_ GE159.out) | exact HB.out))) : w.heap.size ≤ gb158))
              have n8_ := Aside0.mk ((by rw [hg]; exact Nat.ne_of_lt (blk_lt (g := gb136) (o := .cells #[.int .i64 a0_0, .int .i64 a0_1, .int .i64 a0_2] 23 (0, 0)) (by (with_reducible repeat (first | apply blk_drewN | apply blk_drew | apply blk_alloc)); exact BK136.out)) : gb136 ≠ gb158))
              have n9_ := Aside0.mk ((by rw [hg]; exact Nat.ne_of_gt (blk_lt (g := gb136) (o := .cells #[.int .i64 a0_0, .int .i64 a0_1, .int .i64 a0_2] 23 (0, 0)) (by (with_reducible repeat (first | apply blk_drewN | apply blk_drew | apply blk_alloc)); exact BK136.out)) : gb158 ≠ gb136))
              have n10_ := Aside0.mk ((by rw [hg]; exact Nat.ne_of_lt (blk_lt (g := gb137) (o := .cells #[.int .i64 a1_0, .int .i64 a1_1] 58 (0, 0)) (by (with_reducible repeat (first | apply blk_drewN | apply blk_drew | apply blk_alloc)); exact BK137.out)) : gb137 ≠ gb158))
              have n11_ := Aside0.mk ((by rw [hg]; exact Nat.ne_of_gt (blk_lt (g := gb137) (o := .cells #[.int .i64 a1_0, .int .i64 a1_1] 58 (0, 0)) (by (with_reducible repeat (first | apply blk_drewN | apply blk_drew | apply blk_alloc)); exact BK137.out)) : gb158 ≠ gb137))
              have n12_ := Aside0.mk ((by rw [hg]; exact Nat.ne_of_lt (blk_lt (g := gb150) (o := .cells #[.int .i64 t141, .int .i64 t142, .bool t143, .int .i64 t144, .bool t145, .int .i64 t146, .int .i64 t147, .string t148] 38 (0, 0)) (by (with_reducible repeat (first | apply blk_drewN | apply blk_drew | apply blk_alloc)); exact BK150.out)) : gb150 ≠ gb158))
              have n13_ := Aside0.mk ((by rw [hg]; exact Nat.ne_of_gt (blk_lt (g := gb150) (o := .cells #[.int .i64 t141, .int .i64 t142, .bool t143, .int .i64 t144, .bool t145, .int .i64 t146, .int .i64 t147, .string t148] 38 (0, 0)) (by (with_reducible repeat (first | apply blk_drewN | apply blk_drew | apply blk_alloc)); exact BK150.out)) : gb158 ≠ gb150))
              have n14_ := Aside0.mk ((by rw [hg]; exact Nat.ne_of_lt (blk_lt (g := gb159) (o := .cells #[.int .i64 0, .int .i64 0, .bool false, .int .i64 0, .bool false, .int .i64 0, .int .i64 0, .string (⟨#[]⟩ : ByteArray)] 38 (0, 0)) (by (with_reducible repeat (first | apply blk_drewN | apply blk_drew | apply blk_alloc)); exact BK159.out)) : gb159 ≠ gb158))
              have n15_ := Aside0.mk ((by rw [hg]; exact Nat.ne_of_gt (blk_lt (g := gb159) (o := .cells #[.int .i64 0, .int .i64 0, .bool false, .int .i64 0, .bool false, .int .i64 0, .int .i64 0, .string (⟨#[]⟩ : ByteArray)] 38 (0, 0)) (by (with_reducible repeat (first | apply blk_drewN | apply blk_drew | apply blk_alloc)); exact BK159.out)) : gb158 ≠ gb159))
              clear BK136
              clear BK137
              clear BK150
              clear BK159
              clear HB
              have BK136 := n0_
              have BK137 := n1_
              have BK150 := n2_
              have BK159 := n3_
              have HB := n4_
              have BK158 := n5_
              have GW158 := n6_
              have GE158 := n7_
              have NB136_158 := n8_
              have NB158_136 := n9_
              have NB137_158 := n10_
              have NB158_137 := n11_
              have NB150_158 := n12_
              have NB158_150 := n13_
              have NB159_158 := n14_
              have NB158_159 := n15_
              clear n0_ n1_ n2_ n3_ n4_ n5_ n6_ n7_ n8_ n9_ n10_ n11_ n12_ n13_ n14_ n15_
              clear hb hbox hg
              refine hK.out _ _ ⟨(blk_cell BK150.out 0).trans rfl, (blk_cell BK150.out 1).trans rfl, (blk_cell BK150.out 2).trans rfl, (blk_cell BK150.out 3).trans rfl, (blk_cell BK150.out 4).trans rfl, (blk_cell BK150.out 5).trans rfl, (blk_cell BK150.out 6).trans rfl, (blk_cell BK150.out 7).trans rfl⟩ (fun hHeld => ?_)
              clear hK K
              refine norm_ (a' := ?_) ?_ ?_
              rotate_left
              ·show Act.put _ (some 9) _ = _
               simp only [Act.put, List.setIfInBounds_toArray, List.set_cons_zero, List.set_cons_succ, i64_w, i32_w]
               rfl
              exact norm_ (by first | (simp only [putAll, Act.put, List.setIfInBounds_toArray, List.set_cons_zero, List.set_cons_succ]; done) | (simp only [putAll, Act.put, List.setIfInBounds_toArray, List.set_cons_zero, List.set_cons_succ]; rfl)) (hJ4_5 (gb158, gb159) _ ⟨hHeld, (by (with_reducible repeat (first | apply blk_drewN | apply blk_drew | apply blk_alloc)); exact BK136.out), (by (with_reducible repeat (first | apply blk_drewN | apply blk_drew | apply blk_alloc)); exact BK137.out), (by (with_reducible repeat (first | apply blk_drewN | apply blk_drew | apply blk_alloc)); exact BK150.out), (by (with_reducible repeat (first | apply blk_drewN | apply blk_drew | apply blk_alloc)); exact BK158.out), (by (with_reducible repeat (first | apply blk_drewN | apply blk_drew | apply blk_alloc)); exact BK159.out), GW158.out, GE158.out, NB136_158.out, NB158_136.out, NB137_158.out, NB158_137.out, NB150_158.out, NB158_150.out, NB159_158.out, NB158_159.out, GW159.out, GE159.out, NB136_159.out, NB159_136.out, NB137_159.out, NB159_137.out, NB150_159.out, NB159_150.out, (by repeat (first | (with_reducible first | exact HB.out | apply below_alloc | apply pw_below_drewN | apply below_drew1 | refine below_set ?_ GE136.out | refine below_set ?_ GE137.out | refine below_set ?_ GE150.out | refine below_set ?_ GE159.out | refine below_set ?_ GE158.out) | exact HB.out))⟩)
           ·skip
            rintro gb158 w36 ⟨hS_, h0_, h1_, h2_, h3_, h4_, h5_, h6_, h7_, h8_, h9_, h10_, h11_, h12_⟩
            have n0_ : Aside0 (w36.heap[gb136]? = some (.cells #[.int .i64 a0_0, .int .i64 a0_1, .int .i64 a0_2] 23 (0, 0))) := ⟨h0_⟩
            have n1_ : Aside0 (w36.heap[gb137]? = some (.cells #[.int .i64 a1_0, .int .i64 a1_1] 58 (0, 0))) := ⟨h1_⟩
            have n2_ : Aside0 (w36.heap[gb150]? = some (.cells #[.int .i64 t141, .int .i64 t142, .bool t143, .int .i64 t144, .bool t145, .int .i64 t146, .int .i64 t147, .string t148] 38 (0, 0))) := ⟨h2_⟩
            have n3_ : Aside0 (w36.heap[gb158]? = some (.cells #[.int .i64 0, .int .i64 0, .bool false, .int .i64 0, .bool false, .int .i64 0, .int .i64 0, .string (⟨#[]⟩ : ByteArray)] 38 (0, 0))) := ⟨h3_⟩
            have n4_ : Aside0 (w.heap.size ≤ gb158) := ⟨h4_⟩
            have n5_ : Aside0 (w.heap.size ≤ gb158) := ⟨h5_⟩
            have n6_ : Aside0 (gb136 ≠ gb158) := ⟨h6_⟩
            have n7_ : Aside0 (gb158 ≠ gb136) := ⟨h7_⟩
            have n8_ : Aside0 (gb137 ≠ gb158) := ⟨h8_⟩
            have n9_ : Aside0 (gb158 ≠ gb137) := ⟨h9_⟩
            have n10_ : Aside0 (gb150 ≠ gb158) := ⟨h10_⟩
            have n11_ : Aside0 (gb158 ≠ gb150) := ⟨h11_⟩
            have n12_ : Aside0 (Below w.heap.size w w36) := ⟨h12_⟩
            clear BK136
            clear BK137
            clear BK150
            clear HB
            clear h0_ h1_ h2_ h3_ h4_ h5_ h6_ h7_ h8_ h9_ h10_ h11_ h12_
            have BK136 := n0_
            have BK137 := n1_
            have BK150 := n2_
            have BK158 := n3_
            have GW158 := n4_
            have GE158 := n5_
            have NB136_158 := n6_
            have NB158_136 := n7_
            have NB137_158 := n8_
            have NB158_137 := n9_
            have NB150_158 := n10_
            have NB158_150 := n11_
            have HB := n12_
            clear n0_ n1_ n2_ n3_ n4_ n5_ n6_ n7_ n8_ n9_ n10_ n11_ n12_
            have hHeld : w36.cell? ⟨gb150, 0, none⟩ = some (.int .i64 t141) ∧ w36.cell? ⟨gb150, 1, none⟩ = some (.int .i64 t142) ∧ w36.cell? ⟨gb150, 2, none⟩ = some (.bool t143) ∧ w36.cell? ⟨gb150, 3, none⟩ = some (.int .i64 t144) ∧ w36.cell? ⟨gb150, 4, none⟩ = some (.bool t145) ∧ w36.cell? ⟨gb150, 5, none⟩ = some (.int .i64 t146) ∧ w36.cell? ⟨gb150, 6, none⟩ = some (.int .i64 t147) ∧ w36.cell? ⟨gb150, 7, none⟩ = some (.string t148) := hS_
            refine norm_ (a' := ?_) ?_ ?_
            rotate_left
            ·simp only [putAll, Act.put, List.setIfInBounds_toArray, List.set_cons_zero, List.set_cons_succ]
             rfl
            refine two_ (i := 3) (j := 5) (Ni := some 8) (Nj := some 10) #[tT, tT, tT, tT, tT, tF, tF, tF, tF] #[tT, tT, tT, tF, tT, tT, tF, tF, tF] rfl rfl rfl rfl (two_of HT_.out (by kernel_rfl)) (by decide) (by decide) (fun K hK => ?_) (fun K hK => ?_)
            ·skip
             refine box_step ?hg (N := 8) ?hd (cs := #[.int .i64 0, .int .i64 0, .bool false, .int .i64 0, .bool false, .int .i64 0, .int .i64 0, .string (⟨#[]⟩ : ByteArray)]) (t := 38) ?hr ?_; (case hd => rfl); (case hg => rfl); (case hr => first | (go_simp; done) | (go_simp; rfl))
             intro gb157 hg w37 hbox hb
             have n0_ := Aside0.mk (blk_below (g := gb136) (o := .cells #[.int .i64 a0_0, .int .i64 a0_1, .int .i64 a0_2] 23 (0, 0)) (by (with_reducible repeat (first | apply blk_drewN | apply blk_drew | apply blk_alloc)); exact BK136.out) hb)
             have n1_ := Aside0.mk (blk_below (g := gb137) (o := .cells #[.int .i64 a1_0, .int .i64 a1_1] 58 (0, 0)) (by (with_reducible repeat (first | apply blk_drewN | apply blk_drew | apply blk_alloc)); exact BK137.out) hb)
             have n2_ := Aside0.mk (blk_below (g := gb150) (o := .cells #[.int .i64 t141, .int .i64 t142, .bool t143, .int .i64 t144, .bool t145, .int .i64 t146, .int .i64 t147, .string t148] 38 (0, 0)) (by (with_reducible repeat (first | apply blk_drewN | apply blk_drew | apply blk_alloc)); exact BK150.out) hb)
             have n3_ := Aside0.mk (blk_below (g := gb158) (o := .cells #[.int .i64 0, .int .i64 0, .bool false, .int .i64 0, .bool false, .int .i64 0, .int .i64 0, .string (⟨#[]⟩ : ByteArray)] 38 (0, 0)) (by (with_reducible repeat (first | apply blk_drewN | apply blk_drew | apply blk_alloc)); exact BK158.out) hb)
             have n4_ := Aside0.mk (below_step (by repeat (first | (with_reducible first | exact HB.out | apply below_alloc | apply pw_below_drewN | apply below_drew1 | refine below_set ?_ GE136.out | refine below_set ?_ GE137.out | refine below_set ?_ GE150.out | refine below_set ?_ GE158.out) | exact HB.out)) hb)
             have n5_ := Aside0.mk (hbox)
             have n6_ := Aside0.mk ((by rw [hg]; exact (below_size (by repeat (first | (with_reducible first | exact HB.out | apply below_alloc | apply pw_below_drewN | apply below_drew1 | refine below_set ?_ GE136.out | refine below_set ?_ GE137.out | refine below_set ?_ GE150.out | refine below_set ?_ GE158.out) | exact HB.out))) : w.heap.size ≤ gb157))
             have n7_ := Aside0.mk ((by rw [hg]; exact (below_size (by repeat (first | (with_reducible first | exact HB.out | apply below_alloc | apply pw_below_drewN | apply below_drew1 | refine below_set ?_ GE136.out | refine below_set ?_ GE137.out | refine below_set ?_ GE150.out | refine below_set ?_ GE158.out) | exact HB.out))) : w.heap.size ≤ gb157))
             have n8_ := Aside0.mk ((by rw [hg]; exact Nat.ne_of_lt (blk_lt (g := gb136) (o := .cells #[.int .i64 a0_0, .int .i64 a0_1, .int .i64 a0_2] 23 (0, 0)) (by (with_reducible repeat (first | apply blk_drewN | apply blk_drew | apply blk_alloc)); exact BK136.out)) : gb136 ≠ gb157))
             have n9_ := Aside0.mk ((by rw [hg]; exact Nat.ne_of_gt (blk_lt (g := gb136) (o := .cells #[.int .i64 a0_0, .int .i64 a0_1, .int .i64 a0_2] 23 (0, 0)) (by (with_reducible repeat (first | apply blk_drewN | apply blk_drew | apply blk_alloc)); exact BK136.out)) : gb157 ≠ gb136))
             have n10_ := Aside0.mk ((by rw [hg]; exact Nat.ne_of_lt (blk_lt (g := gb137) (o := .cells #[.int .i64 a1_0, .int .i64 a1_1] 58 (0, 0)) (by (with_reducible repeat (first | apply blk_drewN | apply blk_drew | apply blk_alloc)); exact BK137.out)) : gb137 ≠ gb157))
             have n11_ := Aside0.mk ((by rw [hg]; exact Nat.ne_of_gt (blk_lt (g := gb137) (o := .cells #[.int .i64 a1_0, .int .i64 a1_1] 58 (0, 0)) (by (with_reducible repeat (first | apply blk_drewN | apply blk_drew | apply blk_alloc)); exact BK137.out)) : gb157 ≠ gb137))
             have n12_ := Aside0.mk ((by rw [hg]; exact Nat.ne_of_lt (blk_lt (g := gb150) (o := .cells #[.int .i64 t141, .int .i64 t142, .bool t143, .int .i64 t144, .bool t145, .int .i64 t146, .int .i64 t147, .string t148] 38 (0, 0)) (by (with_reducible repeat (first | apply blk_drewN | apply blk_drew | apply blk_alloc)); exact BK150.out)) : gb150 ≠ gb157))
             have n13_ := Aside0.mk ((by rw [hg]; exact Nat.ne_of_gt (blk_lt (g := gb150) (o := .cells #[.int .i64 t141, .int .i64 t142, .bool t143, .int .i64 t144, .bool t145, .int .i64 t146, .int .i64 t147, .string t148] 38 (0, 0)) (by (with_reducible repeat (first | apply blk_drewN | apply blk_drew | apply blk_alloc)); exact BK150.out)) : gb157 ≠ gb150))
             have n14_ := Aside0.mk ((by rw [hg]; exact Nat.ne_of_lt (blk_lt (g := gb158) (o := .cells #[.int .i64 0, .int .i64 0, .bool false, .int .i64 0, .bool false, .int .i64 0, .int .i64 0, .string (⟨#[]⟩ : ByteArray)] 38 (0, 0)) (by (with_reducible repeat (first | apply blk_drewN | apply blk_drew | apply blk_alloc)); exact BK158.out)) : gb158 ≠ gb157))
             have n15_ := Aside0.mk ((by rw [hg]; exact Nat.ne_of_gt (blk_lt (g := gb158) (o := .cells #[.int .i64 0, .int .i64 0, .bool false, .int .i64 0, .bool false, .int .i64 0, .int .i64 0, .string (⟨#[]⟩ : ByteArray)] 38 (0, 0)) (by (with_reducible repeat (first | apply blk_drewN | apply blk_drew | apply blk_alloc)); exact BK158.out)) : gb157 ≠ gb158))
             clear BK136
             clear BK137
             clear BK150
             clear BK158
             clear HB
             have BK136 := n0_
             have BK137 := n1_
             have BK150 := n2_
             have BK158 := n3_
             have HB := n4_
             have BK157 := n5_
             have GW157 := n6_
             have GE157 := n7_
             have NB136_157 := n8_
             have NB157_136 := n9_
             have NB137_157 := n10_
             have NB157_137 := n11_
             have NB150_157 := n12_
             have NB157_150 := n13_
             have NB158_157 := n14_
             have NB157_158 := n15_
             clear n0_ n1_ n2_ n3_ n4_ n5_ n6_ n7_ n8_ n9_ n10_ n11_ n12_ n13_ n14_ n15_
             clear hb hbox hg
             refine hK.out _ _ ⟨(blk_cell BK150.out 0).trans rfl, (blk_cell BK150.out 1).trans rfl, (blk_cell BK150.out 2).trans rfl, (blk_cell BK150.out 3).trans rfl, (blk_cell BK150.out 4).trans rfl, (blk_cell BK150.out 5).trans rfl, (blk_cell BK150.out 6).trans rfl, (blk_cell BK150.out 7).trans rfl⟩ (fun hHeld => ?_)
             clear hK K
             refine norm_ (a' := ?_) ?_ ?_
             rotate_left
             ·show Act.put _ (some 8) _ = _
              simp only [Act.put, List.setIfInBounds_toArray, List.set_cons_zero, List.set_cons_succ, i64_w, i32_w]
              rfl
             exact norm_ (by first | (simp only [putAll, Act.put, List.setIfInBounds_toArray, List.set_cons_zero, List.set_cons_succ]; done) | (simp only [putAll, Act.put, List.setIfInBounds_toArray, List.set_cons_zero, List.set_cons_succ]; rfl)) (hJ3_4 (gb157, gb158) _ ⟨hHeld, (by (with_reducible repeat (first | apply blk_drewN | apply blk_drew | apply blk_alloc)); exact BK136.out), (by (with_reducible repeat (first | apply blk_drewN | apply blk_drew | apply blk_alloc)); exact BK137.out), (by (with_reducible repeat (first | apply blk_drewN | apply blk_drew | apply blk_alloc)); exact BK150.out), (by (with_reducible repeat (first | apply blk_drewN | apply blk_drew | apply blk_alloc)); exact BK157.out), (by (with_reducible repeat (first | apply blk_drewN | apply blk_drew | apply blk_alloc)); exact BK158.out), GW157.out, GE157.out, NB136_157.out, NB157_136.out, NB137_157.out, NB157_137.out, NB150_157.out, NB157_150.out, NB158_157.out, NB157_158.out, GW158.out, GE158.out, NB136_158.out, NB158_136.out, NB137_158.out, NB158_137.out, NB150_158.out, NB158_150.out, (by repeat (first | (with_reducible first | exact HB.out | apply below_alloc | apply pw_below_drewN | apply below_drew1 | refine below_set ?_ GE136.out | refine below_set ?_ GE137.out | refine below_set ?_ GE150.out | refine below_set ?_ GE158.out | refine below_set ?_ GE157.out) | exact HB.out))⟩)
            ·skip
             refine box_step ?hg (N := 10) ?hd (cs := #[.int .i64 0, .int .i64 0, .bool false, .int .i64 0, .bool false, .int .i64 0, .int .i64 0, .string (⟨#[]⟩ : ByteArray)]) (t := 38) ?hr ?_; (case hd => rfl); (case hg => rfl); (case hr => first | (go_simp; done) | (go_simp; rfl))
             intro gb159 hg w37 hbox hb
             have n0_ := Aside0.mk (blk_below (g := gb136) (o := .cells #[.int .i64 a0_0, .int .i64 a0_1, .int .i64 a0_2] 23 (0, 0)) (by (with_reducible repeat (first | apply blk_drewN | apply blk_drew | apply blk_alloc)); exact BK136.out) hb)
             have n1_ := Aside0.mk (blk_below (g := gb137) (o := .cells #[.int .i64 a1_0, .int .i64 a1_1] 58 (0, 0)) (by (with_reducible repeat (first | apply blk_drewN | apply blk_drew | apply blk_alloc)); exact BK137.out) hb)
             have n2_ := Aside0.mk (blk_below (g := gb150) (o := .cells #[.int .i64 t141, .int .i64 t142, .bool t143, .int .i64 t144, .bool t145, .int .i64 t146, .int .i64 t147, .string t148] 38 (0, 0)) (by (with_reducible repeat (first | apply blk_drewN | apply blk_drew | apply blk_alloc)); exact BK150.out) hb)
             have n3_ := Aside0.mk (blk_below (g := gb158) (o := .cells #[.int .i64 0, .int .i64 0, .bool false, .int .i64 0, .bool false, .int .i64 0, .int .i64 0, .string (⟨#[]⟩ : ByteArray)] 38 (0, 0)) (by (with_reducible repeat (first | apply blk_drewN | apply blk_drew | apply blk_alloc)); exact BK158.out) hb)
             have n4_ := Aside0.mk (below_step (by repeat (first | (with_reducible first | exact HB.out | apply below_alloc | apply pw_below_drewN | apply below_drew1 | refine below_set ?_ GE136.out | refine below_set ?_ GE137.out | refine below_set ?_ GE150.out | refine below_set ?_ GE158.out) | exact HB.out)) hb)
             have n5_ := Aside0.mk (hbox)
             have n6_ := Aside0.mk ((by rw [hg]; exact (below_size (by repeat (first | (with_reducible first | exact HB.out | apply below_alloc | apply pw_below_drewN | apply below_drew1 | refine below_set ?_ GE136.out | refine below_set ?_ GE137.out | refine below_set ?_ GE150.out | refine below_set ?_ GE158.out) | exact HB.out))) : w.heap.size ≤ gb159))
             have n7_ := Aside0.mk ((by rw [hg]; exact (below_size (by repeat (first | (with_reducible first | exact HB.out | apply below_alloc | apply pw_below_drewN | apply below_drew1 | refine below_set ?_ GE136.out | refine below_set ?_ GE137.out | refine below_set ?_ GE150.out | refine below_set ?_ GE158.out) | exact HB.out))) : w.heap.size ≤ gb159))
             have n8_ := Aside0.mk ((by rw [hg]; exact Nat.ne_of_lt (blk_lt (g := gb136) (o := .cells #[.int .i64 a0_0, .int .i64 a0_1, .int .i64 a0_2] 23 (0, 0)) (by (with_reducible repeat (first | apply blk_drewN | apply blk_drew | apply blk_alloc)); exact BK136.out)) : gb136 ≠ gb159))
             have n9_ := Aside0.mk ((by rw [hg]; exact Nat.ne_of_gt (blk_lt (g := gb136) (o := .cells #[.int .i64 a0_0, .int .i64 a0_1, .int .i64 a0_2] 23 (0, 0)) (by (with_reducible repeat (first | apply blk_drewN | apply blk_drew | apply blk_alloc)); exact BK136.out)) : gb159 ≠ gb136))
             have n10_ := Aside0.mk ((by rw [hg]; exact Nat.ne_of_lt (blk_lt (g := gb137) (o := .cells #[.int .i64 a1_0, .int .i64 a1_1] 58 (0, 0)) (by (with_reducible repeat (first | apply blk_drewN | apply blk_drew | apply blk_alloc)); exact BK137.out)) : gb137 ≠ gb159))
             have n11_ := Aside0.mk ((by rw [hg]; exact Nat.ne_of_gt (blk_lt (g := gb137) (o := .cells #[.int .i64 a1_0, .int .i64 a1_1] 58 (0, 0)) (by (with_reducible repeat (first | apply blk_drewN | apply blk_drew | apply blk_alloc)); exact BK137.out)) : gb159 ≠ gb137))
             have n12_ := Aside0.mk ((by rw [hg]; exact Nat.ne_of_lt (blk_lt (g := gb150) (o := .cells #[.int .i64 t141, .int .i64 t142, .bool t143, .int .i64 t144, .bool t145, .int .i64 t146, .int .i64 t147, .string t148] 38 (0, 0)) (by (with_reducible repeat (first | apply blk_drewN | apply blk_drew | apply blk_alloc)); exact BK150.out)) : gb150 ≠ gb159))
             have n13_ := Aside0.mk ((by rw [hg]; exact Nat.ne_of_gt (blk_lt (g := gb150) (o := .cells #[.int .i64 t141, .int .i64 t142, .bool t143, .int .i64 t144, .bool t145, .int .i64 t146, .int .i64 t147, .string t148] 38 (0, 0)) (by (with_reducible repeat (first | apply blk_drewN | apply blk_drew | apply blk_alloc)); exact BK150.out)) : gb159 ≠ gb150))
             have n14_ := Aside0.mk ((by rw [hg]; exact Nat.ne_of_lt (blk_lt (g := gb158) (o := .cells #[.int .i64 0, .int .i64 0, .bool false, .int .i64 0, .bool false, .int .i64 0, .int .i64 0, .string (⟨#[]⟩ : ByteArray)] 38 (0, 0)) (by (with_reducible repeat (first | apply blk_drewN | apply blk_drew | apply blk_alloc)); exact BK158.out)) : gb158 ≠ gb159))
             have n15_ := Aside0.mk ((by rw [hg]; exact Nat.ne_of_gt (blk_lt (g := gb158) (o := .cells #[.int .i64 0, .int .i64 0, .bool false, .int .i64 0, .bool false, .int .i64 0, .int .i64 0, .string (⟨#[]⟩ : ByteArray)] 38 (0, 0)) (by (with_reducible repeat (first | apply blk_drewN | apply blk_drew | apply blk_alloc)); exact BK158.out)) : gb159 ≠ gb158))
             clear BK136
             clear BK137
             clear BK150
             clear BK158
             clear HB
             have BK136 := n0_
             have BK137 := n1_
             have BK150 := n2_
             have BK158 := n3_
             have HB := n4_
             have BK159 := n5_
             have GW159 := n6_
             have GE159 := n7_
             have NB136_159 := n8_
             have NB159_136 := n9_
             have NB137_159 := n10_
             have NB159_137 := n11_
             have NB150_159 := n12_
             have NB159_150 := n13_
             have NB158_159 := n14_
             have NB159_158 := n15_
             clear n0_ n1_ n2_ n3_ n4_ n5_ n6_ n7_ n8_ n9_ n10_ n11_ n12_ n13_ n14_ n15_
             clear hb hbox hg
             refine hK.out _ _ ⟨(blk_cell BK150.out 0).trans rfl, (blk_cell BK150.out 1).trans rfl, (blk_cell BK150.out 2).trans rfl, (blk_cell BK150.out 3).trans rfl, (blk_cell BK150.out 4).trans rfl, (blk_cell BK150.out 5).trans rfl, (blk_cell BK150.out 6).trans rfl, (blk_cell BK150.out 7).trans rfl⟩ (fun hHeld => ?_)
             clear hK K
             refine norm_ (a' := ?_) ?_ ?_
             rotate_left
             ·show Act.put _ (some 10) _ = _
              simp only [Act.put, List.setIfInBounds_toArray, List.set_cons_zero, List.set_cons_succ, i64_w, i32_w]
              rfl
             exact norm_ (by first | (simp only [putAll, Act.put, List.setIfInBounds_toArray, List.set_cons_zero, List.set_cons_succ]; done) | (simp only [putAll, Act.put, List.setIfInBounds_toArray, List.set_cons_zero, List.set_cons_succ]; rfl)) (hJ4_5 (gb158, gb159) _ ⟨hHeld, (by (with_reducible repeat (first | apply blk_drewN | apply blk_drew | apply blk_alloc)); exact BK136.out), (by (with_reducible repeat (first | apply blk_drewN | apply blk_drew | apply blk_alloc)); exact BK137.out), (by (with_reducible repeat (first | apply blk_drewN | apply blk_drew | apply blk_alloc)); exact BK150.out), (by (with_reducible repeat (first | apply blk_drewN | apply blk_drew | apply blk_alloc)); exact BK158.out), (by (with_reducible repeat (first | apply blk_drewN | apply blk_drew | apply blk_alloc)); exact BK159.out), GW158.out, GE158.out, NB136_158.out, NB158_136.out, NB137_158.out, NB158_137.out, NB150_158.out, NB158_150.out, NB159_158.out, NB158_159.out, GW159.out, GE159.out, NB136_159.out, NB159_136.out, NB137_159.out, NB159_137.out, NB150_159.out, NB159_150.out, (by repeat (first | (with_reducible first | exact HB.out | apply below_alloc | apply pw_below_drewN | apply below_drew1 | refine below_set ?_ GE136.out | refine below_set ?_ GE137.out | refine below_set ?_ GE150.out | refine below_set ?_ GE158.out | refine below_set ?_ GE159.out) | exact HB.out))⟩)
          ·skip
           rintro gb157 w36 ⟨hS_, h0_, h1_, h2_, h3_, h4_, h5_, h6_, h7_, h8_, h9_, h10_, h11_, h12_⟩
           have n0_ : Aside0 (w36.heap[gb136]? = some (.cells #[.int .i64 a0_0, .int .i64 a0_1, .int .i64 a0_2] 23 (0, 0))) := ⟨h0_⟩
           have n1_ : Aside0 (w36.heap[gb137]? = some (.cells #[.int .i64 a1_0, .int .i64 a1_1] 58 (0, 0))) := ⟨h1_⟩
           have n2_ : Aside0 (w36.heap[gb150]? = some (.cells #[.int .i64 t141, .int .i64 t142, .bool t143, .int .i64 t144, .bool t145, .int .i64 t146, .int .i64 t147, .string t148] 38 (0, 0))) := ⟨h2_⟩
           have n3_ : Aside0 (w36.heap[gb157]? = some (.cells #[.int .i64 0, .int .i64 0, .bool false, .int .i64 0, .bool false, .int .i64 0, .int .i64 0, .string (⟨#[]⟩ : ByteArray)] 38 (0, 0))) := ⟨h3_⟩
           have n4_ : Aside0 (w.heap.size ≤ gb157) := ⟨h4_⟩
           have n5_ : Aside0 (w.heap.size ≤ gb157) := ⟨h5_⟩
           have n6_ : Aside0 (gb136 ≠ gb157) := ⟨h6_⟩
           have n7_ : Aside0 (gb157 ≠ gb136) := ⟨h7_⟩
           have n8_ : Aside0 (gb137 ≠ gb157) := ⟨h8_⟩
           have n9_ : Aside0 (gb157 ≠ gb137) := ⟨h9_⟩
           have n10_ : Aside0 (gb150 ≠ gb157) := ⟨h10_⟩
           have n11_ : Aside0 (gb157 ≠ gb150) := ⟨h11_⟩
           have n12_ : Aside0 (Below w.heap.size w w36) := ⟨h12_⟩
           clear BK136
           clear BK137
           clear BK150
           clear HB
           clear h0_ h1_ h2_ h3_ h4_ h5_ h6_ h7_ h8_ h9_ h10_ h11_ h12_
           have BK136 := n0_
           have BK137 := n1_
           have BK150 := n2_
           have BK157 := n3_
           have GW157 := n4_
           have GE157 := n5_
           have NB136_157 := n6_
           have NB157_136 := n7_
           have NB137_157 := n8_
           have NB157_137 := n9_
           have NB150_157 := n10_
           have NB157_150 := n11_
           have HB := n12_
           clear n0_ n1_ n2_ n3_ n4_ n5_ n6_ n7_ n8_ n9_ n10_ n11_ n12_
           have hHeld : w36.cell? ⟨gb150, 0, none⟩ = some (.int .i64 t141) ∧ w36.cell? ⟨gb150, 1, none⟩ = some (.int .i64 t142) ∧ w36.cell? ⟨gb150, 2, none⟩ = some (.bool t143) ∧ w36.cell? ⟨gb150, 3, none⟩ = some (.int .i64 t144) ∧ w36.cell? ⟨gb150, 4, none⟩ = some (.bool t145) ∧ w36.cell? ⟨gb150, 5, none⟩ = some (.int .i64 t146) ∧ w36.cell? ⟨gb150, 6, none⟩ = some (.int .i64 t147) ∧ w36.cell? ⟨gb150, 7, none⟩ = some (.string t148) := hS_
           refine norm_ (a' := ?_) ?_ ?_
           rotate_left
           ·simp only [putAll, Act.put, List.setIfInBounds_toArray, List.set_cons_zero, List.set_cons_succ]
            rfl
           refine two_ (i := 4) (j := 5) (Ni := some 9) (Nj := some 10) #[tT, tT, tT, tT, tT, tF, tF, tF, tF] #[tT, tT, tT, tT, tF, tT, tF, tF, tF] rfl rfl rfl rfl (two_of HT_.out (by kernel_rfl)) (by decide) (by decide) (fun K hK => ?_) (fun K hK => ?_)
           ·skip
            refine box_step ?hg (N := 9) ?hd (cs := #[.int .i64 0, .int .i64 0, .bool false, .int .i64 0, .bool false, .int .i64 0, .int .i64 0, .string (⟨#[]⟩ : ByteArray)]) (t := 38) ?hr ?_; (case hd => rfl); (case hg => rfl); (case hr => first | (go_simp; done) | (go_simp; rfl))
            intro gb158 hg w37 hbox hb
            have n0_ := Aside0.mk (blk_below (g := gb136) (o := .cells #[.int .i64 a0_0, .int .i64 a0_1, .int .i64 a0_2] 23 (0, 0)) (by (with_reducible repeat (first | apply blk_drewN | apply blk_drew | apply blk_alloc)); exact BK136.out) hb)
            have n1_ := Aside0.mk (blk_below (g := gb137) (o := .cells #[.int .i64 a1_0, .int .i64 a1_1] 58 (0, 0)) (by (with_reducible repeat (first | apply blk_drewN | apply blk_drew | apply blk_alloc)); exact BK137.out) hb)
            have n2_ := Aside0.mk (blk_below (g := gb150) (o := .cells #[.int .i64 t141, .int .i64 t142, .bool t143, .int .i64 t144, .bool t145, .int .i64 t146, .int .i64 t147, .string t148] 38 (0, 0)) (by (with_reducible repeat (first | apply blk_drewN | apply blk_drew | apply blk_alloc)); exact BK150.out) hb)
            have n3_ := Aside0.mk (blk_below (g := gb157) (o := .cells #[.int .i64 0, .int .i64 0, .bool false, .int .i64 0, .bool false, .int .i64 0, .int .i64 0, .string (⟨#[]⟩ : ByteArray)] 38 (0, 0)) (by (with_reducible repeat (first | apply blk_drewN | apply blk_drew | apply blk_alloc)); exact BK157.out) hb)
            have n4_ := Aside0.mk (below_step (by repeat (first | (with_reducible first | exact HB.out | apply below_alloc | apply pw_below_drewN | apply below_drew1 | refine below_set ?_ GE136.out | refine below_set ?_ GE137.out | refine below_set ?_ GE150.out | refine below_set ?_ GE157.out) | exact HB.out)) hb)
            have n5_ := Aside0.mk (hbox)
            have n6_ := Aside0.mk ((by rw [hg]; exact (below_size (by repeat (first | (with_reducible first | exact HB.out | apply below_alloc | apply pw_below_drewN | apply below_drew1 | refine below_set ?_ GE136.out | refine below_set ?_ GE137.out | refine below_set ?_ GE150.out | refine below_set ?_ GE157.out) | exact HB.out))) : w.heap.size ≤ gb158))
            have n7_ := Aside0.mk ((by rw [hg]; exact (below_size (by repeat (first | (with_reducible first | exact HB.out | apply below_alloc | apply pw_below_drewN | apply below_drew1 | refine below_set ?_ GE136.out | refine below_set ?_ GE137.out | refine below_set ?_ GE150.out | refine below_set ?_ GE157.out) | exact HB.out))) : w.heap.size ≤ gb158))
            have n8_ := Aside0.mk ((by rw [hg]; exact Nat.ne_of_lt (blk_lt (g := gb136) (o := .cells #[.int .i64 a0_0, .int .i64 a0_1, .int .i64 a0_2] 23 (0, 0)) (by (with_reducible repeat (first | apply blk_drewN | apply blk_drew | apply blk_alloc)); exact BK136.out)) : gb136 ≠ gb158))
            have n9_ := Aside0.mk ((by rw [hg]; exact Nat.ne_of_gt (blk_lt (g := gb136) (o := .cells #[.int .i64 a0_0, .int .i64 a0_1, .int .i64 a0_2] 23 (0, 0)) (by (with_reducible repeat (first | apply blk_drewN | apply blk_drew | apply blk_alloc)); exact BK136.out)) : gb158 ≠ gb136))
            have n10_ := Aside0.mk ((by rw [hg]; exact Nat.ne_of_lt (blk_lt (g := gb137) (o := .cells #[.int .i64 a1_0, .int .i64 a1_1] 58 (0, 0)) (by (with_reducible repeat (first | apply blk_drewN | apply blk_drew | apply blk_alloc)); exact BK137.out)) : gb137 ≠ gb158))
            have n11_ := Aside0.mk ((by rw [hg]; exact Nat.ne_of_gt (blk_lt (g := gb137) (o := .cells #[.int .i64 a1_0, .int .i64 a1_1] 58 (0, 0)) (by (with_reducible repeat (first | apply blk_drewN | apply blk_drew | apply blk_alloc)); exact BK137.out)) : gb158 ≠ gb137))
            have n12_ := Aside0.mk ((by rw [hg]; exact Nat.ne_of_lt (blk_lt (g := gb150) (o := .cells #[.int .i64 t141, .int .i64 t142, .bool t143, .int .i64 t144, .bool t145, .int .i64 t146, .int .i64 t147, .string t148] 38 (0, 0)) (by (with_reducible repeat (first | apply blk_drewN | apply blk_drew | apply blk_alloc)); exact BK150.out)) : gb150 ≠ gb158))
            have n13_ := Aside0.mk ((by rw [hg]; exact Nat.ne_of_gt (blk_lt (g := gb150) (o := .cells #[.int .i64 t141, .int .i64 t142, .bool t143, .int .i64 t144, .bool t145, .int .i64 t146, .int .i64 t147, .string t148] 38 (0, 0)) (by (with_reducible repeat (first | apply blk_drewN | apply blk_drew | apply blk_alloc)); exact BK150.out)) : gb158 ≠ gb150))
            have n14_ := Aside0.mk ((by rw [hg]; exact Nat.ne_of_lt (blk_lt (g := gb157) (o := .cells #[.int .i64 0, .int .i64 0, .bool false, .int .i64 0, .bool false, .int .i64 0, .int .i64 0, .string (⟨#[]⟩ : ByteArray)] 38 (0, 0)) (by (with_reducible repeat (first | apply blk_drewN | apply blk_drew | apply blk_alloc)); exact BK157.out)) : gb157 ≠ gb158))
            have n15_ := Aside0.mk ((by rw [hg]; exact Nat.ne_of_gt (blk_lt (g := gb157) (o := .cells #[.int .i64 0, .int .i64 0, .bool false, .int .i64 0, .bool false, .int .i64 0, .int .i64 0, .string (⟨#[]⟩ : ByteArray)] 38 (0, 0)) (by (with_reducible repeat (first | apply blk_drewN | apply blk_drew | apply blk_alloc)); exact BK157.out)) : gb158 ≠ gb157))
            clear BK136
            clear BK137
            clear BK150
            clear BK157
            clear HB
            have BK136 := n0_
            have BK137 := n1_
            have BK150 := n2_
            have BK157 := n3_
            have HB := n4_
            have BK158 := n5_
            have GW158 := n6_
            have GE158 := n7_
            have NB136_158 := n8_
            have NB158_136 := n9_
            have NB137_158 := n10_
            have NB158_137 := n11_
            have NB150_158 := n12_
            have NB158_150 := n13_
            have NB157_158 := n14_
            have NB158_157 := n15_
            clear n0_ n1_ n2_ n3_ n4_ n5_ n6_ n7_ n8_ n9_ n10_ n11_ n12_ n13_ n14_ n15_
            clear hb hbox hg
            refine hK.out _ _ ⟨(blk_cell BK150.out 0).trans rfl, (blk_cell BK150.out 1).trans rfl, (blk_cell BK150.out 2).trans rfl, (blk_cell BK150.out 3).trans rfl, (blk_cell BK150.out 4).trans rfl, (blk_cell BK150.out 5).trans rfl, (blk_cell BK150.out 6).trans rfl, (blk_cell BK150.out 7).trans rfl⟩ (fun hHeld => ?_)
            clear hK K
            refine norm_ (a' := ?_) ?_ ?_
            rotate_left
            ·show Act.put _ (some 9) _ = _
             simp only [Act.put, List.setIfInBounds_toArray, List.set_cons_zero, List.set_cons_succ, i64_w, i32_w]
             rfl
            exact norm_ (by first | (simp only [putAll, Act.put, List.setIfInBounds_toArray, List.set_cons_zero, List.set_cons_succ]; done) | (simp only [putAll, Act.put, List.setIfInBounds_toArray, List.set_cons_zero, List.set_cons_succ]; rfl)) (hJ3_4 (gb157, gb158) _ ⟨hHeld, (by (with_reducible repeat (first | apply blk_drewN | apply blk_drew | apply blk_alloc)); exact BK136.out), (by (with_reducible repeat (first | apply blk_drewN | apply blk_drew | apply blk_alloc)); exact BK137.out), (by (with_reducible repeat (first | apply blk_drewN | apply blk_drew | apply blk_alloc)); exact BK150.out), (by (with_reducible repeat (first | apply blk_drewN | apply blk_drew | apply blk_alloc)); exact BK157.out), (by (with_reducible repeat (first | apply blk_drewN | apply blk_drew | apply blk_alloc)); exact BK158.out), GW157.out, GE157.out, NB136_157.out, NB157_136.out, NB137_157.out, NB157_137.out, NB150_157.out, NB157_150.out, NB158_157.out, NB157_158.out, GW158.out, GE158.out, NB136_158.out, NB158_136.out, NB137_158.out, NB158_137.out, NB150_158.out, NB158_150.out, (by repeat (first | (with_reducible first | exact HB.out | apply below_alloc | apply pw_below_drewN | apply below_drew1 | refine below_set ?_ GE136.out | refine below_set ?_ GE137.out | refine below_set ?_ GE150.out | refine below_set ?_ GE157.out | refine below_set ?_ GE158.out) | exact HB.out))⟩)
           ·skip
            refine box_step ?hg (N := 10) ?hd (cs := #[.int .i64 0, .int .i64 0, .bool false, .int .i64 0, .bool false, .int .i64 0, .int .i64 0, .string (⟨#[]⟩ : ByteArray)]) (t := 38) ?hr ?_; (case hd => rfl); (case hg => rfl); (case hr => first | (go_simp; done) | (go_simp; rfl))
            intro gb159 hg w37 hbox hb
            have n0_ := Aside0.mk (blk_below (g := gb136) (o := .cells #[.int .i64 a0_0, .int .i64 a0_1, .int .i64 a0_2] 23 (0, 0)) (by (with_reducible repeat (first | apply blk_drewN | apply blk_drew | apply blk_alloc)); exact BK136.out) hb)
            have n1_ := Aside0.mk (blk_below (g := gb137) (o := .cells #[.int .i64 a1_0, .int .i64 a1_1] 58 (0, 0)) (by (with_reducible repeat (first | apply blk_drewN | apply blk_drew | apply blk_alloc)); exact BK137.out) hb)
            have n2_ := Aside0.mk (blk_below (g := gb150) (o := .cells #[.int .i64 t141, .int .i64 t142, .bool t143, .int .i64 t144, .bool t145, .int .i64 t146, .int .i64 t147, .string t148] 38 (0, 0)) (by (with_reducible repeat (first | apply blk_drewN | apply blk_drew | apply blk_alloc)); exact BK150.out) hb)
            have n3_ := Aside0.mk (blk_below (g := gb157) (o := .cells #[.int .i64 0, .int .i64 0, .bool false, .int .i64 0, .bool false, .int .i64 0, .int .i64 0, .string (⟨#[]⟩ : ByteArray)] 38 (0, 0)) (by (with_reducible repeat (first | apply blk_drewN | apply blk_drew | apply blk_alloc)); exact BK157.out) hb)
            have n4_ := Aside0.mk (below_step (by repeat (first | (with_reducible first | exact HB.out | apply below_alloc | apply pw_below_drewN | apply below_drew1 | refine below_set ?_ GE136.out | refine below_set ?_ GE137.out | refine below_set ?_ GE150.out | refine below_set ?_ GE157.out) | exact HB.out)) hb)
            have n5_ := Aside0.mk (hbox)
            have n6_ := Aside0.mk ((by rw [hg]; exact (below_size (by repeat (first | (with_reducible first | exact HB.out | apply below_alloc | apply pw_below_drewN | apply below_drew1 | refine below_set ?_ GE136.out | refine below_set ?_ GE137.out | refine below_set ?_ GE150.out | refine below_set ?_ GE157.out) | exact HB.out))) : w.heap.size ≤ gb159))
            have n7_ := Aside0.mk ((by rw [hg]; exact (below_size (by repeat (first | (with_reducible first | exact HB.out | apply below_alloc | apply pw_below_drewN | apply below_drew1 | refine below_set ?_ GE136.out | refine below_set ?_ GE137.out | refine below_set ?_ GE150.out | refine below_set ?_ GE157.out) | exact HB.out))) : w.heap.size ≤ gb159))
            have n8_ := Aside0.mk ((by rw [hg]; exact Nat.ne_of_lt (blk_lt (g := gb136) (o := .cells #[.int .i64 a0_0, .int .i64 a0_1, .int .i64 a0_2] 23 (0, 0)) (by (with_reducible repeat (first | apply blk_drewN | apply blk_drew | apply blk_alloc)); exact BK136.out)) : gb136 ≠ gb159))
            have n9_ := Aside0.mk ((by rw [hg]; exact Nat.ne_of_gt (blk_lt (g := gb136) (o := .cells #[.int .i64 a0_0, .int .i64 a0_1, .int .i64 a0_2] 23 (0, 0)) (by (with_reducible repeat (first | apply blk_drewN | apply blk_drew | apply blk_alloc)); exact BK136.out)) : gb159 ≠ gb136))
            have n10_ := Aside0.mk ((by rw [hg]; exact Nat.ne_of_lt (blk_lt (g := gb137) (o := .cells #[.int .i64 a1_0, .int .i64 a1_1] 58 (0, 0)) (by (with_reducible repeat (first | apply blk_drewN | apply blk_drew | apply blk_alloc)); exact BK137.out)) : gb137 ≠ gb159))
            have n11_ := Aside0.mk ((by rw [hg]; exact Nat.ne_of_gt (blk_lt (g := gb137) (o := .cells #[.int .i64 a1_0, .int .i64 a1_1] 58 (0, 0)) (by (with_reducible repeat (first | apply blk_drewN | apply blk_drew | apply blk_alloc)); exact BK137.out)) : gb159 ≠ gb137))
            have n12_ := Aside0.mk ((by rw [hg]; exact Nat.ne_of_lt (blk_lt (g := gb150) (o := .cells #[.int .i64 t141, .int .i64 t142, .bool t143, .int .i64 t144, .bool t145, .int .i64 t146, .int .i64 t147, .string t148] 38 (0, 0)) (by (with_reducible repeat (first | apply blk_drewN | apply blk_drew | apply blk_alloc)); exact BK150.out)) : gb150 ≠ gb159))
            have n13_ := Aside0.mk ((by rw [hg]; exact Nat.ne_of_gt (blk_lt (g := gb150) (o := .cells #[.int .i64 t141, .int .i64 t142, .bool t143, .int .i64 t144, .bool t145, .int .i64 t146, .int .i64 t147, .string t148] 38 (0, 0)) (by (with_reducible repeat (first | apply blk_drewN | apply blk_drew | apply blk_alloc)); exact BK150.out)) : gb159 ≠ gb150))
            have n14_ := Aside0.mk ((by rw [hg]; exact Nat.ne_of_lt (blk_lt (g := gb157) (o := .cells #[.int .i64 0, .int .i64 0, .bool false, .int .i64 0, .bool false, .int .i64 0, .int .i64 0, .string (⟨#[]⟩ : ByteArray)] 38 (0, 0)) (by (with_reducible repeat (first | apply blk_drewN | apply blk_drew | apply blk_alloc)); exact BK157.out)) : gb157 ≠ gb159))
            have n15_ := Aside0.mk ((by rw [hg]; exact Nat.ne_of_gt (blk_lt (g := gb157) (o := .cells #[.int .i64 0, .int .i64 0, .bool false, .int .i64 0, .bool false, .int .i64 0, .int .i64 0, .string (⟨#[]⟩ : ByteArray)] 38 (0, 0)) (by (with_reducible repeat (first | apply blk_drewN | apply blk_drew | apply blk_alloc)); exact BK157.out)) : gb159 ≠ gb157))
            clear BK136
            clear BK137
            clear BK150
            clear BK157
            clear HB
            have BK136 := n0_
            have BK137 := n1_
            have BK150 := n2_
            have BK157 := n3_
            have HB := n4_
            have BK159 := n5_
            have GW159 := n6_
            have GE159 := n7_
            have NB136_159 := n8_
            have NB159_136 := n9_
            have NB137_159 := n10_
            have NB159_137 := n11_
            have NB150_159 := n12_
            have NB159_150 := n13_
            have NB157_159 := n14_
            have NB159_157 := n15_
            clear n0_ n1_ n2_ n3_ n4_ n5_ n6_ n7_ n8_ n9_ n10_ n11_ n12_ n13_ n14_ n15_
            clear hb hbox hg
            refine hK.out _ _ ⟨(blk_cell BK150.out 0).trans rfl, (blk_cell BK150.out 1).trans rfl, (blk_cell BK150.out 2).trans rfl, (blk_cell BK150.out 3).trans rfl, (blk_cell BK150.out 4).trans rfl, (blk_cell BK150.out 5).trans rfl, (blk_cell BK150.out 6).trans rfl, (blk_cell BK150.out 7).trans rfl⟩ (fun hHeld => ?_)
            clear hK K
            refine norm_ (a' := ?_) ?_ ?_
            rotate_left
            ·show Act.put _ (some 10) _ = _
             simp only [Act.put, List.setIfInBounds_toArray, List.set_cons_zero, List.set_cons_succ, i64_w, i32_w]
             rfl
            exact norm_ (by first | (simp only [putAll, Act.put, List.setIfInBounds_toArray, List.set_cons_zero, List.set_cons_succ]; done) | (simp only [putAll, Act.put, List.setIfInBounds_toArray, List.set_cons_zero, List.set_cons_succ]; rfl)) (hJ3_5 (gb157, gb159) _ ⟨hHeld, (by (with_reducible repeat (first | apply blk_drewN | apply blk_drew | apply blk_alloc)); exact BK136.out), (by (with_reducible repeat (first | apply blk_drewN | apply blk_drew | apply blk_alloc)); exact BK137.out), (by (with_reducible repeat (first | apply blk_drewN | apply blk_drew | apply blk_alloc)); exact BK150.out), (by (with_reducible repeat (first | apply blk_drewN | apply blk_drew | apply blk_alloc)); exact BK157.out), (by (with_reducible repeat (first | apply blk_drewN | apply blk_drew | apply blk_alloc)); exact BK159.out), GW157.out, GE157.out, NB136_157.out, NB157_136.out, NB137_157.out, NB157_137.out, NB150_157.out, NB157_150.out, NB159_157.out, NB157_159.out, GW159.out, GE159.out, NB136_159.out, NB159_136.out, NB137_159.out, NB159_137.out, NB150_159.out, NB159_150.out, (by repeat (first | (with_reducible first | exact HB.out | apply below_alloc | apply pw_below_drewN | apply below_drew1 | refine below_set ?_ GE136.out | refine below_set ?_ GE137.out | refine below_set ?_ GE150.out | refine below_set ?_ GE157.out | refine below_set ?_ GE159.out) | exact HB.out))⟩)
         ·skip
          rintro ⟨gb158, gb159⟩ w37 ⟨hS_, h0_, h1_, h2_, h3_, h4_, h5_, h6_, h7_, h8_, h9_, h10_, h11_, h12_, h13_, h14_, h15_, h16_, h17_, h18_, h19_, h20_, h21_, h22_, h23_⟩
          have n0_ : Aside0 (w37.heap[gb136]? = some (.cells #[.int .i64 a0_0, .int .i64 a0_1, .int .i64 a0_2] 23 (0, 0))) := ⟨h0_⟩
          have n1_ : Aside0 (w37.heap[gb137]? = some (.cells #[.int .i64 a1_0, .int .i64 a1_1] 58 (0, 0))) := ⟨h1_⟩
          have n2_ : Aside0 (w37.heap[gb150]? = some (.cells #[.int .i64 t141, .int .i64 t142, .bool t143, .int .i64 t144, .bool t145, .int .i64 t146, .int .i64 t147, .string t148] 38 (0, 0))) := ⟨h2_⟩
          have n3_ : Aside0 (w37.heap[gb158]? = some (.cells #[.int .i64 0, .int .i64 0, .bool false, .int .i64 0, .bool false, .int .i64 0, .int .i64 0, .string (⟨#[]⟩ : ByteArray)] 38 (0, 0))) := ⟨h3_⟩
          have n4_ : Aside0 (w37.heap[gb159]? = some (.cells #[.int .i64 0, .int .i64 0, .bool false, .int .i64 0, .bool false, .int .i64 0, .int .i64 0, .string (⟨#[]⟩ : ByteArray)] 38 (0, 0))) := ⟨h4_⟩
          have n5_ : Aside0 (w.heap.size ≤ gb158) := ⟨h5_⟩
          have n6_ : Aside0 (w.heap.size ≤ gb158) := ⟨h6_⟩
          have n7_ : Aside0 (gb136 ≠ gb158) := ⟨h7_⟩
          have n8_ : Aside0 (gb158 ≠ gb136) := ⟨h8_⟩
          have n9_ : Aside0 (gb137 ≠ gb158) := ⟨h9_⟩
          have n10_ : Aside0 (gb158 ≠ gb137) := ⟨h10_⟩
          have n11_ : Aside0 (gb150 ≠ gb158) := ⟨h11_⟩
          have n12_ : Aside0 (gb158 ≠ gb150) := ⟨h12_⟩
          have n13_ : Aside0 (gb159 ≠ gb158) := ⟨h13_⟩
          have n14_ : Aside0 (gb158 ≠ gb159) := ⟨h14_⟩
          have n15_ : Aside0 (w.heap.size ≤ gb159) := ⟨h15_⟩
          have n16_ : Aside0 (w.heap.size ≤ gb159) := ⟨h16_⟩
          have n17_ : Aside0 (gb136 ≠ gb159) := ⟨h17_⟩
          have n18_ : Aside0 (gb159 ≠ gb136) := ⟨h18_⟩
          have n19_ : Aside0 (gb137 ≠ gb159) := ⟨h19_⟩
          have n20_ : Aside0 (gb159 ≠ gb137) := ⟨h20_⟩
          have n21_ : Aside0 (gb150 ≠ gb159) := ⟨h21_⟩
          have n22_ : Aside0 (gb159 ≠ gb150) := ⟨h22_⟩
          have n23_ : Aside0 (Below w.heap.size w w37) := ⟨h23_⟩
          clear BK136
          clear BK137
          clear BK150
          clear HB
          clear h0_ h1_ h2_ h3_ h4_ h5_ h6_ h7_ h8_ h9_ h10_ h11_ h12_ h13_ h14_ h15_ h16_ h17_ h18_ h19_ h20_ h21_ h22_ h23_
          have BK136 := n0_
          have BK137 := n1_
          have BK150 := n2_
          have BK158 := n3_
          have BK159 := n4_
          have GW158 := n5_
          have GE158 := n6_
          have NB136_158 := n7_
          have NB158_136 := n8_
          have NB137_158 := n9_
          have NB158_137 := n10_
          have NB150_158 := n11_
          have NB158_150 := n12_
          have NB159_158 := n13_
          have NB158_159 := n14_
          have GW159 := n15_
          have GE159 := n16_
          have NB136_159 := n17_
          have NB159_136 := n18_
          have NB137_159 := n19_
          have NB159_137 := n20_
          have NB150_159 := n21_
          have NB159_150 := n22_
          have HB := n23_
          clear n0_ n1_ n2_ n3_ n4_ n5_ n6_ n7_ n8_ n9_ n10_ n11_ n12_ n13_ n14_ n15_ n16_ n17_ n18_ n19_ n20_ n21_ n22_ n23_
          have hHeld : w37.cell? ⟨gb150, 0, none⟩ = some (.int .i64 t141) ∧ w37.cell? ⟨gb150, 1, none⟩ = some (.int .i64 t142) ∧ w37.cell? ⟨gb150, 2, none⟩ = some (.bool t143) ∧ w37.cell? ⟨gb150, 3, none⟩ = some (.int .i64 t144) ∧ w37.cell? ⟨gb150, 4, none⟩ = some (.bool t145) ∧ w37.cell? ⟨gb150, 5, none⟩ = some (.int .i64 t146) ∧ w37.cell? ⟨gb150, 6, none⟩ = some (.int .i64 t147) ∧ w37.cell? ⟨gb150, 7, none⟩ = some (.string t148) := hS_
          refine norm_ (a' := ?_) ?_ ?_
          rotate_left
          ·simp only [putAll, Act.put, List.setIfInBounds_toArray, List.set_cons_zero, List.set_cons_succ]
           rfl
          refine one_ (i := 3) (N := some 8) #[tT, tT, tT, tT, tT, tT, tF, tF, tF] rfl rfl (one_of HT_.out (by kernel_rfl)) (by decide) (fun K hK => ?_)
          refine box_step ?hg (N := 8) ?hd (cs := #[.int .i64 0, .int .i64 0, .bool false, .int .i64 0, .bool false, .int .i64 0, .int .i64 0, .string (⟨#[]⟩ : ByteArray)]) (t := 38) ?hr ?_; (case hd => rfl); (case hg => rfl); (case hr => first | (go_simp; done) | (go_simp; rfl))
          intro gb157 hg w38 hbox hb
          have n0_ := Aside0.mk (blk_below (g := gb136) (o := .cells #[.int .i64 a0_0, .int .i64 a0_1, .int .i64 a0_2] 23 (0, 0)) (by (with_reducible repeat (first | apply blk_drewN | apply blk_drew | apply blk_alloc)); exact BK136.out) hb)
          have n1_ := Aside0.mk (blk_below (g := gb137) (o := .cells #[.int .i64 a1_0, .int .i64 a1_1] 58 (0, 0)) (by (with_reducible repeat (first | apply blk_drewN | apply blk_drew | apply blk_alloc)); exact BK137.out) hb)
          have n2_ := Aside0.mk (blk_below (g := gb150) (o := .cells #[.int .i64 t141, .int .i64 t142, .bool t143, .int .i64 t144, .bool t145, .int .i64 t146, .int .i64 t147, .string t148] 38 (0, 0)) (by (with_reducible repeat (first | apply blk_drewN | apply blk_drew | apply blk_alloc)); exact BK150.out) hb)
          have n3_ := Aside0.mk (blk_below (g := gb158) (o := .cells #[.int .i64 0, .int .i64 0, .bool false, .int .i64 0, .bool false, .int .i64 0, .int .i64 0, .string (⟨#[]⟩ : ByteArray)] 38 (0, 0)) (by (with_reducible repeat (first | apply blk_drewN | apply blk_drew | apply blk_alloc)); exact BK158.out) hb)
          have n4_ := Aside0.mk (blk_below (g := gb159) (o := .cells #[.int .i64 0, .int .i64 0, .bool false, .int .i64 0, .bool false, .int .i64 0, .int .i64 0, .string (⟨#[]⟩ : ByteArray)] 38 (0, 0)) (by (with_reducible repeat (first | apply blk_drewN | apply blk_drew | apply blk_alloc)); exact BK159.out) hb)
          have n5_ := Aside0.mk (below_step (by repeat (first | (with_reducible first | exact HB.out | apply below_alloc | apply pw_below_drewN | apply below_drew1 | refine below_set ?_ GE136.out | refine below_set ?_ GE137.out | refine below_set ?_ GE150.out | refine below_set ?_ GE158.out | refine below_set ?_ GE159.out) | exact HB.out)) hb)
          have n6_ := Aside0.mk (hbox)
          have n7_ := Aside0.mk ((by rw [hg]; exact (below_size (by repeat (first | (with_reducible first | exact HB.out | apply below_alloc | apply pw_below_drewN | apply below_drew1 | refine below_set ?_ GE136.out | refine below_set ?_ GE137.out | refine below_set ?_ GE150.out | refine below_set ?_ GE158.out | refine below_set ?_ GE159.out) | exact HB.out))) : w.heap.size ≤ gb157))
          have n8_ := Aside0.mk ((by rw [hg]; exact (below_size (by repeat (first | (with_reducible first | exact HB.out | apply below_alloc | apply pw_below_drewN | apply below_drew1 | refine below_set ?_ GE136.out | refine below_set ?_ GE137.out | refine below_set ?_ GE150.out | refine below_set ?_ GE158.out | refine below_set ?_ GE159.out) | exact HB.out))) : w.heap.size ≤ gb157))
          have n9_ := Aside0.mk ((by rw [hg]; exact Nat.ne_of_lt (blk_lt (g := gb136) (o := .cells #[.int .i64 a0_0, .int .i64 a0_1, .int .i64 a0_2] 23 (0, 0)) (by (with_reducible repeat (first | apply blk_drewN | apply blk_drew | apply blk_alloc)); exact BK136.out)) : gb136 ≠ gb157))
          have n10_ := Aside0.mk ((by rw [hg]; exact Nat.ne_of_gt (blk_lt (g := gb136) (o := .cells #[.int .i64 a0_0, .int .i64 a0_1, .int .i64 a0_2] 23 (0, 0)) (by (with_reducible repeat (first | apply blk_drewN | apply blk_drew | apply blk_alloc)); exact BK136.out)) : gb157 ≠ gb136))
          have n11_ := Aside0.mk ((by rw [hg]; exact Nat.ne_of_lt (blk_lt (g := gb137) (o := .cells #[.int .i64 a1_0, .int .i64 a1_1] 58 (0, 0)) (by (with_reducible repeat (first | apply blk_drewN | apply blk_drew | apply blk_alloc)); exact BK137.out)) : gb137 ≠ gb157))
          have n12_ := Aside0.mk ((by rw [hg]; exact Nat.ne_of_gt (blk_lt (g := gb137) (o := .cells #[.int .i64 a1_0, .int .i64 a1_1] 58 (0, 0)) (by (with_reducible repeat (first | apply blk_drewN | apply blk_drew | apply blk_alloc)); exact BK137.out)) : gb157 ≠ gb137))
          have n13_ := Aside0.mk ((by rw [hg]; exact Nat.ne_of_lt (blk_lt (g := gb150) (o := .cells #[.int .i64 t141, .int .i64 t142, .bool t143, .int .i64 t144, .bool t145, .int .i64 t146, .int .i64 t147, .string t148] 38 (0, 0)) (by (with_reducible repeat (first | apply blk_drewN | apply blk_drew | apply blk_alloc)); exact BK150.out)) : gb150 ≠ gb157))
          have n14_ := Aside0.mk ((by rw [hg]; exact Nat.ne_of_gt (blk_lt (g := gb150) (o := .cells #[.int .i64 t141, .int .i64 t142, .bool t143, .int .i64 t144, .bool t145, .int .i64 t146, .int .i64 t147, .string t148] 38 (0, 0)) (by (with_reducible repeat (first | apply blk_drewN | apply blk_drew | apply blk_alloc)); exact BK150.out)) : gb157 ≠ gb150))
          have n15_ := Aside0.mk ((by rw [hg]; exact Nat.ne_of_lt (blk_lt (g := gb158) (o := .cells #[.int .i64 0, .int .i64 0, .bool false, .int .i64 0, .bool false, .int .i64 0, .int .i64 0, .string (⟨#[]⟩ : ByteArray)] 38 (0, 0)) (by (with_reducible repeat (first | apply blk_drewN | apply blk_drew | apply blk_alloc)); exact BK158.out)) : gb158 ≠ gb157))
          have n16_ := Aside0.mk ((by rw [hg]; exact Nat.ne_of_gt (blk_lt (g := gb158) (o := .cells #[.int .i64 0, .int .i64 0, .bool false, .int .i64 0, .bool false, .int .i64 0, .int .i64 0, .string (⟨#[]⟩ : ByteArray)] 38 (0, 0)) (by (with_reducible repeat (first | apply blk_drewN | apply blk_drew | apply blk_alloc)); exact BK158.out)) : gb157 ≠ gb158))
          have n17_ := Aside0.mk ((by rw [hg]; exact Nat.ne_of_lt (blk_lt (g := gb159) (o := .cells #[.int .i64 0, .int .i64 0, .bool false, .int .i64 0, .bool false, .int .i64 0, .int .i64 0, .string (⟨#[]⟩ : ByteArray)] 38 (0, 0)) (by (with_reducible repeat (first | apply blk_drewN | apply blk_drew | apply blk_alloc)); exact BK159.out)) : gb159 ≠ gb157))
          have n18_ := Aside0.mk ((by rw [hg]; exact Nat.ne_of_gt (blk_lt (g := gb159) (o := .cells #[.int .i64 0, .int .i64 0, .bool false, .int .i64 0, .bool false, .int .i64 0, .int .i64 0, .string (⟨#[]⟩ : ByteArray)] 38 (0, 0)) (by (with_reducible repeat (first | apply blk_drewN | apply blk_drew | apply blk_alloc)); exact BK159.out)) : gb157 ≠ gb159))
          clear BK136
          clear BK137
          clear BK150
          clear BK158
          clear BK159
          clear HB
          have BK136 := n0_
          have BK137 := n1_
          have BK150 := n2_
          have BK158 := n3_
          have BK159 := n4_
          have HB := n5_
          have BK157 := n6_
          have GW157 := n7_
          have GE157 := n8_
          have NB136_157 := n9_
          have NB157_136 := n10_
          have NB137_157 := n11_
          have NB157_137 := n12_
          have NB150_157 := n13_
          have NB157_150 := n14_
          have NB158_157 := n15_
          have NB157_158 := n16_
          have NB159_157 := n17_
          have NB157_159 := n18_
          clear n0_ n1_ n2_ n3_ n4_ n5_ n6_ n7_ n8_ n9_ n10_ n11_ n12_ n13_ n14_ n15_ n16_ n17_ n18_
          clear hb hbox hg
          refine hK.out _ _ ⟨(blk_cell BK150.out 0).trans rfl, (blk_cell BK150.out 1).trans rfl, (blk_cell BK150.out 2).trans rfl, (blk_cell BK150.out 3).trans rfl, (blk_cell BK150.out 4).trans rfl, (blk_cell BK150.out 5).trans rfl, (blk_cell BK150.out 6).trans rfl, (blk_cell BK150.out 7).trans rfl⟩ (fun hHeld => ?_)
          clear hK K
          refine norm_ (a' := ?_) ?_ ?_
          rotate_left
          ·show Act.put _ (some 8) _ = _
           simp only [Act.put, List.setIfInBounds_toArray, List.set_cons_zero, List.set_cons_succ, i64_w, i32_w]
           rfl
          exact norm_ (by first | (simp only [putAll, Act.put, List.setIfInBounds_toArray, List.set_cons_zero, List.set_cons_succ]; done) | (simp only [putAll, Act.put, List.setIfInBounds_toArray, List.set_cons_zero, List.set_cons_succ]; rfl)) (hJ3_4_5 (gb157, gb158, gb159) _ ⟨hHeld, (by (with_reducible repeat (first | apply blk_drewN | apply blk_drew | apply blk_alloc)); exact BK136.out), (by (with_reducible repeat (first | apply blk_drewN | apply blk_drew | apply blk_alloc)); exact BK137.out), (by (with_reducible repeat (first | apply blk_drewN | apply blk_drew | apply blk_alloc)); exact BK150.out), (by (with_reducible repeat (first | apply blk_drewN | apply blk_drew | apply blk_alloc)); exact BK157.out), (by (with_reducible repeat (first | apply blk_drewN | apply blk_drew | apply blk_alloc)); exact BK158.out), (by (with_reducible repeat (first | apply blk_drewN | apply blk_drew | apply blk_alloc)); exact BK159.out), GW157.out, GE157.out, NB136_157.out, NB157_136.out, NB137_157.out, NB157_137.out, NB150_157.out, NB157_150.out, NB158_157.out, NB157_158.out, NB159_157.out, NB157_159.out, GW158.out, GE158.out, NB136_158.out, NB158_136.out, NB137_158.out, NB158_137.out, NB150_158.out, NB158_150.out, NB159_158.out, NB158_159.out, GW159.out, GE159.out, NB136_159.out, NB159_136.out, NB137_159.out, NB159_137.out, NB150_159.out, NB159_150.out, (by repeat (first | (with_reducible first | exact HB.out | apply below_alloc | apply pw_below_drewN | apply below_drew1 | refine below_set ?_ GE136.out | refine below_set ?_ GE137.out | refine below_set ?_ GE150.out | refine below_set ?_ GE158.out | refine below_set ?_ GE159.out | refine below_set ?_ GE157.out) | exact HB.out))⟩)
        ·skip
         rintro ⟨gb157, gb159⟩ w37 ⟨hS_, h0_, h1_, h2_, h3_, h4_, h5_, h6_, h7_, h8_, h9_, h10_, h11_, h12_, h13_, h14_, h15_, h16_, h17_, h18_, h19_, h20_, h21_, h22_, h23_⟩
         have n0_ : Aside0 (w37.heap[gb136]? = some (.cells #[.int .i64 a0_0, .int .i64 a0_1, .int .i64 a0_2] 23 (0, 0))) := ⟨h0_⟩
         have n1_ : Aside0 (w37.heap[gb137]? = some (.cells #[.int .i64 a1_0, .int .i64 a1_1] 58 (0, 0))) := ⟨h1_⟩
         have n2_ : Aside0 (w37.heap[gb150]? = some (.cells #[.int .i64 t141, .int .i64 t142, .bool t143, .int .i64 t144, .bool t145, .int .i64 t146, .int .i64 t147, .string t148] 38 (0, 0))) := ⟨h2_⟩
         have n3_ : Aside0 (w37.heap[gb157]? = some (.cells #[.int .i64 0, .int .i64 0, .bool false, .int .i64 0, .bool false, .int .i64 0, .int .i64 0, .string (⟨#[]⟩ : ByteArray)] 38 (0, 0))) := ⟨h3_⟩
         have n4_ : Aside0 (w37.heap[gb159]? = some (.cells #[.int .i64 0, .int .i64 0, .bool false, .int .i64 0, .bool false, .int .i64 0, .int .i64 0, .string (⟨#[]⟩ : ByteArray)] 38 (0, 0))) := ⟨h4_⟩
         have n5_ : Aside0 (w.heap.size ≤ gb157) := ⟨h5_⟩
         have n6_ : Aside0 (w.heap.size ≤ gb157) := ⟨h6_⟩
         have n7_ : Aside0 (gb136 ≠ gb157) := ⟨h7_⟩
         have n8_ : Aside0 (gb157 ≠ gb136) := ⟨h8_⟩
         have n9_ : Aside0 (gb137 ≠ gb157) := ⟨h9_⟩
         have n10_ : Aside0 (gb157 ≠ gb137) := ⟨h10_⟩
         have n11_ : Aside0 (gb150 ≠ gb157) := ⟨h11_⟩
         have n12_ : Aside0 (gb157 ≠ gb150) := ⟨h12_⟩
         have n13_ : Aside0 (gb159 ≠ gb157) := ⟨h13_⟩
         have n14_ : Aside0 (gb157 ≠ gb159) := ⟨h14_⟩
         have n15_ : Aside0 (w.heap.size ≤ gb159) := ⟨h15_⟩
         have n16_ : Aside0 (w.heap.size ≤ gb159) := ⟨h16_⟩
         have n17_ : Aside0 (gb136 ≠ gb159) := ⟨h17_⟩
         have n18_ : Aside0 (gb159 ≠ gb136) := ⟨h18_⟩
         have n19_ : Aside0 (gb137 ≠ gb159) := ⟨h19_⟩
         have n20_ : Aside0 (gb159 ≠ gb137) := ⟨h20_⟩
         have n21_ : Aside0 (gb150 ≠ gb159) := ⟨h21_⟩
         have n22_ : Aside0 (gb159 ≠ gb150) := ⟨h22_⟩
         have n23_ : Aside0 (Below w.heap.size w w37) := ⟨h23_⟩
         clear BK136
         clear BK137
         clear BK150
         clear HB
         clear h0_ h1_ h2_ h3_ h4_ h5_ h6_ h7_ h8_ h9_ h10_ h11_ h12_ h13_ h14_ h15_ h16_ h17_ h18_ h19_ h20_ h21_ h22_ h23_
         have BK136 := n0_
         have BK137 := n1_
         have BK150 := n2_
         have BK157 := n3_
         have BK159 := n4_
         have GW157 := n5_
         have GE157 := n6_
         have NB136_157 := n7_
         have NB157_136 := n8_
         have NB137_157 := n9_
         have NB157_137 := n10_
         have NB150_157 := n11_
         have NB157_150 := n12_
         have NB159_157 := n13_
         have NB157_159 := n14_
         have GW159 := n15_
         have GE159 := n16_
         have NB136_159 := n17_
         have NB159_136 := n18_
         have NB137_159 := n19_
         have NB159_137 := n20_
         have NB150_159 := n21_
         have NB159_150 := n22_
         have HB := n23_
         clear n0_ n1_ n2_ n3_ n4_ n5_ n6_ n7_ n8_ n9_ n10_ n11_ n12_ n13_ n14_ n15_ n16_ n17_ n18_ n19_ n20_ n21_ n22_ n23_
         have hHeld : w37.cell? ⟨gb150, 0, none⟩ = some (.int .i64 t141) ∧ w37.cell? ⟨gb150, 1, none⟩ = some (.int .i64 t142) ∧ w37.cell? ⟨gb150, 2, none⟩ = some (.bool t143) ∧ w37.cell? ⟨gb150, 3, none⟩ = some (.int .i64 t144) ∧ w37.cell? ⟨gb150, 4, none⟩ = some (.bool t145) ∧ w37.cell? ⟨gb150, 5, none⟩ = some (.int .i64 t146) ∧ w37.cell? ⟨gb150, 6, none⟩ = some (.int .i64 t147) ∧ w37.cell? ⟨gb150, 7, none⟩ = some (.string t148) := hS_
         refine norm_ (a' := ?_) ?_ ?_
         rotate_left
         ·simp only [putAll, Act.put, List.setIfInBounds_toArray, List.set_cons_zero, List.set_cons_succ]
          rfl
         refine one_ (i := 4) (N := some 9) #[tT, tT, tT, tT, tT, tT, tF, tF, tF] rfl rfl (one_of HT_.out (by kernel_rfl)) (by decide) (fun K hK => ?_)
         refine box_step ?hg (N := 9) ?hd (cs := #[.int .i64 0, .int .i64 0, .bool false, .int .i64 0, .bool false, .int .i64 0, .int .i64 0, .string (⟨#[]⟩ : ByteArray)]) (t := 38) ?hr ?_; (case hd => rfl); (case hg => rfl); (case hr => first | (go_simp; done) | (go_simp; rfl))
         intro gb158 hg w38 hbox hb
         have n0_ := Aside0.mk (blk_below (g := gb136) (o := .cells #[.int .i64 a0_0, .int .i64 a0_1, .int .i64 a0_2] 23 (0, 0)) (by (with_reducible repeat (first | apply blk_drewN | apply blk_drew | apply blk_alloc)); exact BK136.out) hb)
         have n1_ := Aside0.mk (blk_below (g := gb137) (o := .cells #[.int .i64 a1_0, .int .i64 a1_1] 58 (0, 0)) (by (with_reducible repeat (first | apply blk_drewN | apply blk_drew | apply blk_alloc)); exact BK137.out) hb)
         have n2_ := Aside0.mk (blk_below (g := gb150) (o := .cells #[.int .i64 t141, .int .i64 t142, .bool t143, .int .i64 t144, .bool t145, .int .i64 t146, .int .i64 t147, .string t148] 38 (0, 0)) (by (with_reducible repeat (first | apply blk_drewN | apply blk_drew | apply blk_alloc)); exact BK150.out) hb)
         have n3_ := Aside0.mk (blk_below (g := gb157) (o := .cells #[.int .i64 0, .int .i64 0, .bool false, .int .i64 0, .bool false, .int .i64 0, .int .i64 0, .string (⟨#[]⟩ : ByteArray)] 38 (0, 0)) (by (with_reducible repeat (first | apply blk_drewN | apply blk_drew | apply blk_alloc)); exact BK157.out) hb)
         have n4_ := Aside0.mk (blk_below (g := gb159) (o := .cells #[.int .i64 0, .int .i64 0, .bool false, .int .i64 0, .bool false, .int .i64 0, .int .i64 0, .string (⟨#[]⟩ : ByteArray)] 38 (0, 0)) (by (with_reducible repeat (first | apply blk_drewN | apply blk_drew | apply blk_alloc)); exact BK159.out) hb)
         have n5_ := Aside0.mk (below_step (by repeat (first | (with_reducible first | exact HB.out | apply below_alloc | apply pw_below_drewN | apply below_drew1 | refine below_set ?_ GE136.out | refine below_set ?_ GE137.out | refine below_set ?_ GE150.out | refine below_set ?_ GE157.out | refine below_set ?_ GE159.out) | exact HB.out)) hb)
         have n6_ := Aside0.mk (hbox)
         have n7_ := Aside0.mk ((by rw [hg]; exact (below_size (by repeat (first | (with_reducible first | exact HB.out | apply below_alloc | apply pw_below_drewN | apply below_drew1 | refine below_set ?_ GE136.out | refine below_set ?_ GE137.out | refine below_set ?_ GE150.out | refine below_set ?_ GE157.out | refine below_set ?_ GE159.out) | exact HB.out))) : w.heap.size ≤ gb158))
         have n8_ := Aside0.mk ((by rw [hg]; exact (below_size (by repeat (first | (with_reducible first | exact HB.out | apply below_alloc | apply pw_below_drewN | apply below_drew1 | refine below_set ?_ GE136.out | refine below_set ?_ GE137.out | refine below_set ?_ GE150.out | refine below_set ?_ GE157.out | refine below_set ?_ GE159.out) | exact HB.out))) : w.heap.size ≤ gb158))
         have n9_ := Aside0.mk ((by rw [hg]; exact Nat.ne_of_lt (blk_lt (g := gb136) (o := .cells #[.int .i64 a0_0, .int .i64 a0_1, .int .i64 a0_2] 23 (0, 0)) (by (with_reducible repeat (first | apply blk_drewN | apply blk_drew | apply blk_alloc)); exact BK136.out)) : gb136 ≠ gb158))
         have n10_ := Aside0.mk ((by rw [hg]; exact Nat.ne_of_gt (blk_lt (g := gb136) (o := .cells #[.int .i64 a0_0, .int .i64 a0_1, .int .i64 a0_2] 23 (0, 0)) (by (with_reducible repeat (first | apply blk_drewN | apply blk_drew | apply blk_alloc)); exact BK136.out)) : gb158 ≠ gb136))
         have n11_ := Aside0.mk ((by rw [hg]; exact Nat.ne_of_lt (blk_lt (g := gb137) (o := .cells #[.int .i64 a1_0, .int .i64 a1_1] 58 (0, 0)) (by (with_reducible repeat (first | apply blk_drewN | apply blk_drew | apply blk_alloc)); exact BK137.out)) : gb137 ≠ gb158))
         have n12_ := Aside0.mk ((by rw [hg]; exact Nat.ne_of_gt (blk_lt (g := gb137) (o := .cells #[.int .i64 a1_0, .int .i64 a1_1] 58 (0, 0)) (by (with_reducible repeat (first | apply blk_drewN | apply blk_drew | apply blk_alloc)); exact BK137.out)) : gb158 ≠ gb137))
         have n13_ := Aside0.mk ((by rw [hg]; exact Nat.ne_of_lt (blk_lt (g := gb150) (o := .cells #[.int .i64 t141, .int .i64 t142, .bool t143, .int .i64 t144, .bool t145, .int .i64 t146, .int .i64 t147, .string t148] 38 (0, 0)) (by (with_reducible repeat (first | apply blk_drewN | apply blk_drew | apply blk_alloc)); exact BK150.out)) : gb150 ≠ gb158))
         have n14_ := Aside0.mk ((by rw [hg]; exact Nat.ne_of_gt (blk_lt (g := gb150) (o := .cells #[.int .i64 t141, .int .i64 t142, .bool t143, .int .i64 t144, .bool t145, .int .i64 t146, .int .i64 t147, .string t148] 38 (0, 0)) (by (with_reducible repeat (first | apply blk_drewN | apply blk_drew | apply blk_alloc)); exact BK150.out)) : gb158 ≠ gb150))
         have n15_ := Aside0.mk ((by rw [hg]; exact Nat.ne_of_lt (blk_lt (g := gb157) (o := .cells #[.int .i64 0, .int .i64 0, .bool false, .int .i64 0, .bool false, .int .i64 0, .int .i64 0, .string (⟨#[]⟩ : ByteArray)] 38 (0, 0)) (by (with_reducible repeat (first | apply blk_drewN | apply blk_drew | apply blk_alloc)); exact BK157.out)) : gb157 ≠ gb158))
         have n16_ := Aside0.mk ((by rw [hg]; exact Nat.ne_of_gt (blk_lt (g := gb157) (o := .cells #[.int .i64 0, .int .i64 0, .bool false, .int .i64 0, .bool false, .int .i64 0, .int .i64 0, .string (⟨#[]⟩ : ByteArray)] 38 (0, 0)) (by (with_reducible repeat (first | apply blk_drewN | apply blk_drew | apply blk_alloc)); exact BK157.out)) : gb158 ≠ gb157))
         have n17_ := Aside0.mk ((by rw [hg]; exact Nat.ne_of_lt (blk_lt (g := gb159) (o := .cells #[.int .i64 0, .int .i64 0, .bool false, .int .i64 0, .bool false, .int .i64 0, .int .i64 0, .string (⟨#[]⟩ : ByteArray)] 38 (0, 0)) (by (with_reducible repeat (first | apply blk_drewN | apply blk_drew | apply blk_alloc)); exact BK159.out)) : gb159 ≠ gb158))
         have n18_ := Aside0.mk ((by rw [hg]; exact Nat.ne_of_gt (blk_lt (g := gb159) (o := .cells #[.int .i64 0, .int .i64 0, .bool false, .int .i64 0, .bool false, .int .i64 0, .int .i64 0, .string (⟨#[]⟩ : ByteArray)] 38 (0, 0)) (by (with_reducible repeat (first | apply blk_drewN | apply blk_drew | apply blk_alloc)); exact BK159.out)) : gb158 ≠ gb159))
         clear BK136
         clear BK137
         clear BK150
         clear BK157
         clear BK159
         clear HB
         have BK136 := n0_
         have BK137 := n1_
         have BK150 := n2_
         have BK157 := n3_
         have BK159 := n4_
         have HB := n5_
         have BK158 := n6_
         have GW158 := n7_
         have GE158 := n8_
         have NB136_158 := n9_
         have NB158_136 := n10_
         have NB137_158 := n11_
         have NB158_137 := n12_
         have NB150_158 := n13_
         have NB158_150 := n14_
         have NB157_158 := n15_
         have NB158_157 := n16_
         have NB159_158 := n17_
         have NB158_159 := n18_
         clear n0_ n1_ n2_ n3_ n4_ n5_ n6_ n7_ n8_ n9_ n10_ n11_ n12_ n13_ n14_ n15_ n16_ n17_ n18_
         clear hb hbox hg
         refine hK.out _ _ ⟨(blk_cell BK150.out 0).trans rfl, (blk_cell BK150.out 1).trans rfl, (blk_cell BK150.out 2).trans rfl, (blk_cell BK150.out 3).trans rfl, (blk_cell BK150.out 4).trans rfl, (blk_cell BK150.out 5).trans rfl, (blk_cell BK150.out 6).trans rfl, (blk_cell BK150.out 7).trans rfl⟩ (fun hHeld => ?_)
         clear hK K
         refine norm_ (a' := ?_) ?_ ?_
         rotate_left
         ·show Act.put _ (some 9) _ = _
          simp only [Act.put, List.setIfInBounds_toArray, List.set_cons_zero, List.set_cons_succ, i64_w, i32_w]
          rfl
         exact norm_ (by first | (simp only [putAll, Act.put, List.setIfInBounds_toArray, List.set_cons_zero, List.set_cons_succ]; done) | (simp only [putAll, Act.put, List.setIfInBounds_toArray, List.set_cons_zero, List.set_cons_succ]; rfl)) (hJ3_4_5 (gb157, gb158, gb159) _ ⟨hHeld, (by (with_reducible repeat (first | apply blk_drewN | apply blk_drew | apply blk_alloc)); exact BK136.out), (by (with_reducible repeat (first | apply blk_drewN | apply blk_drew | apply blk_alloc)); exact BK137.out), (by (with_reducible repeat (first | apply blk_drewN | apply blk_drew | apply blk_alloc)); exact BK150.out), (by (with_reducible repeat (first | apply blk_drewN | apply blk_drew | apply blk_alloc)); exact BK157.out), (by (with_reducible repeat (first | apply blk_drewN | apply blk_drew | apply blk_alloc)); exact BK158.out), (by (with_reducible repeat (first | apply blk_drewN | apply blk_drew | apply blk_alloc)); exact BK159.out), GW157.out, GE157.out, NB136_157.out, NB157_136.out, NB137_157.out, NB157_137.out, NB150_157.out, NB157_150.out, NB158_157.out, NB157_158.out, NB159_157.out, NB157_159.out, GW158.out, GE158.out, NB136_158.out, NB158_136.out, NB137_158.out, NB158_137.out, NB150_158.out, NB158_150.out, NB159_158.out, NB158_159.out, GW159.out, GE159.out, NB136_159.out, NB159_136.out, NB137_159.out, NB159_137.out, NB150_159.out, NB159_150.out, (by repeat (first | (with_reducible first | exact HB.out | apply below_alloc | apply pw_below_drewN | apply below_drew1 | refine below_set ?_ GE136.out | refine below_set ?_ GE137.out | refine below_set ?_ GE150.out | refine below_set ?_ GE157.out | refine below_set ?_ GE159.out | refine below_set ?_ GE158.out) | exact HB.out))⟩)
       ·skip
        rintro ⟨gb157, gb158⟩ w37 ⟨hS_, h0_, h1_, h2_, h3_, h4_, h5_, h6_, h7_, h8_, h9_, h10_, h11_, h12_, h13_, h14_, h15_, h16_, h17_, h18_, h19_, h20_, h21_, h22_, h23_⟩
        have n0_ : Aside0 (w37.heap[gb136]? = some (.cells #[.int .i64 a0_0, .int .i64 a0_1, .int .i64 a0_2] 23 (0, 0))) := ⟨h0_⟩
        have n1_ : Aside0 (w37.heap[gb137]? = some (.cells #[.int .i64 a1_0, .int .i64 a1_1] 58 (0, 0))) := ⟨h1_⟩
        have n2_ : Aside0 (w37.heap[gb150]? = some (.cells #[.int .i64 t141, .int .i64 t142, .bool t143, .int .i64 t144, .bool t145, .int .i64 t146, .int .i64 t147, .string t148] 38 (0, 0))) := ⟨h2_⟩
        have n3_ : Aside0 (w37.heap[gb157]? = some (.cells #[.int .i64 0, .int .i64 0, .bool false, .int .i64 0, .bool false, .int .i64 0, .int .i64 0, .string (⟨#[]⟩ : ByteArray)] 38 (0, 0))) := ⟨h3_⟩
        have n4_ : Aside0 (w37.heap[gb158]? = some (.cells #[.int .i64 0, .int .i64 0, .bool false, .int .i64 0, .bool false, .int .i64 0, .int .i64 0, .string (⟨#[]⟩ : ByteArray)] 38 (0, 0))) := ⟨h4_⟩
        have n5_ : Aside0 (w.heap.size ≤ gb157) := ⟨h5_⟩
        have n6_ : Aside0 (w.heap.size ≤ gb157) := ⟨h6_⟩
        have n7_ : Aside0 (gb136 ≠ gb157) := ⟨h7_⟩
        have n8_ : Aside0 (gb157 ≠ gb136) := ⟨h8_⟩
        have n9_ : Aside0 (gb137 ≠ gb157) := ⟨h9_⟩
        have n10_ : Aside0 (gb157 ≠ gb137) := ⟨h10_⟩
        have n11_ : Aside0 (gb150 ≠ gb157) := ⟨h11_⟩
        have n12_ : Aside0 (gb157 ≠ gb150) := ⟨h12_⟩
        have n13_ : Aside0 (gb158 ≠ gb157) := ⟨h13_⟩
        have n14_ : Aside0 (gb157 ≠ gb158) := ⟨h14_⟩
        have n15_ : Aside0 (w.heap.size ≤ gb158) := ⟨h15_⟩
        have n16_ : Aside0 (w.heap.size ≤ gb158) := ⟨h16_⟩
        have n17_ : Aside0 (gb136 ≠ gb158) := ⟨h17_⟩
        have n18_ : Aside0 (gb158 ≠ gb136) := ⟨h18_⟩
        have n19_ : Aside0 (gb137 ≠ gb158) := ⟨h19_⟩
        have n20_ : Aside0 (gb158 ≠ gb137) := ⟨h20_⟩
        have n21_ : Aside0 (gb150 ≠ gb158) := ⟨h21_⟩
        have n22_ : Aside0 (gb158 ≠ gb150) := ⟨h22_⟩
        have n23_ : Aside0 (Below w.heap.size w w37) := ⟨h23_⟩
        clear BK136
        clear BK137
        clear BK150
        clear HB
        clear h0_ h1_ h2_ h3_ h4_ h5_ h6_ h7_ h8_ h9_ h10_ h11_ h12_ h13_ h14_ h15_ h16_ h17_ h18_ h19_ h20_ h21_ h22_ h23_
        have BK136 := n0_
        have BK137 := n1_
        have BK150 := n2_
        have BK157 := n3_
        have BK158 := n4_
        have GW157 := n5_
        have GE157 := n6_
        have NB136_157 := n7_
        have NB157_136 := n8_
        have NB137_157 := n9_
        have NB157_137 := n10_
        have NB150_157 := n11_
        have NB157_150 := n12_
        have NB158_157 := n13_
        have NB157_158 := n14_
        have GW158 := n15_
        have GE158 := n16_
        have NB136_158 := n17_
        have NB158_136 := n18_
        have NB137_158 := n19_
        have NB158_137 := n20_
        have NB150_158 := n21_
        have NB158_150 := n22_
        have HB := n23_
        clear n0_ n1_ n2_ n3_ n4_ n5_ n6_ n7_ n8_ n9_ n10_ n11_ n12_ n13_ n14_ n15_ n16_ n17_ n18_ n19_ n20_ n21_ n22_ n23_
        have hHeld : w37.cell? ⟨gb150, 0, none⟩ = some (.int .i64 t141) ∧ w37.cell? ⟨gb150, 1, none⟩ = some (.int .i64 t142) ∧ w37.cell? ⟨gb150, 2, none⟩ = some (.bool t143) ∧ w37.cell? ⟨gb150, 3, none⟩ = some (.int .i64 t144) ∧ w37.cell? ⟨gb150, 4, none⟩ = some (.bool t145) ∧ w37.cell? ⟨gb150, 5, none⟩ = some (.int .i64 t146) ∧ w37.cell? ⟨gb150, 6, none⟩ = some (.int .i64 t147) ∧ w37.cell? ⟨gb150, 7, none⟩ = some (.string t148) := hS_
        refine norm_ (a' := ?_) ?_ ?_
        rotate_left
        ·simp only [putAll, Act.put, List.setIfInBounds_toArray, List.set_cons_zero, List.set_cons_succ]
         rfl
        refine one_ (i := 5) (N := some 10) #[tT, tT, tT, tT, tT, tT, tF, tF, tF] rfl rfl (one_of HT_.out (by kernel_rfl)) (by decide) (fun K hK => ?_)
        refine box_step ?hg (N := 10) ?hd (cs := #[.int .i64 0, .int .i64 0, .bool false, .int .i64 0, .bool false, .int .i64 0, .int .i64 0, .string (⟨#[]⟩ : ByteArray)]) (t := 38) ?hr ?_; (case hd => rfl); (case hg => rfl); (case hr => first | (go_simp; done) | (go_simp; rfl))
        intro gb159 hg w38 hbox hb
        have n0_ := Aside0.mk (blk_below (g := gb136) (o := .cells #[.int .i64 a0_0, .int .i64 a0_1, .int .i64 a0_2] 23 (0, 0)) (by (with_reducible repeat (first | apply blk_drewN | apply blk_drew | apply blk_alloc)); exact BK136.out) hb)
        have n1_ := Aside0.mk (blk_below (g := gb137) (o := .cells #[.int .i64 a1_0, .int .i64 a1_1] 58 (0, 0)) (by (with_reducible repeat (first | apply blk_drewN | apply blk_drew | apply blk_alloc)); exact BK137.out) hb)
        have n2_ := Aside0.mk (blk_below (g := gb150) (o := .cells #[.int .i64 t141, .int .i64 t142, .bool t143, .int .i64 t144, .bool t145, .int .i64 t146, .int .i64 t147, .string t148] 38 (0, 0)) (by (with_reducible repeat (first | apply blk_drewN | apply blk_drew | apply blk_alloc)); exact BK150.out) hb)
        have n3_ := Aside0.mk (blk_below (g := gb157) (o := .cells #[.int .i64 0, .int .i64 0, .bool false, .int .i64 0, .bool false, .int .i64 0, .int .i64 0, .string (⟨#[]⟩ : ByteArray)] 38 (0, 0)) (by (with_reducible repeat (first | apply blk_drewN | apply blk_drew | apply blk_alloc)); exact BK157.out) hb)
        have n4_ := Aside0.mk (blk_below (g := gb158) (o := .cells #[.int .i64 0, .int .i64 0, .bool false, .int .i64 0, .bool false, .int .i64 0, .int .i64 0, .string (⟨#[]⟩ : ByteArray)] 38 (0, 0)) (by (with_reducible repeat (first | apply blk_drewN | apply blk_drew | apply blk_alloc)); exact BK158.out) hb)
        have n5_ := Aside0.mk (below_step (by repeat (first | (with_reducible first | exact HB.out | apply below_alloc | apply pw_below_drewN | apply below_drew1 | refine below_set ?_ GE136.out | refine below_set ?_ GE137.out | refine below_set ?_ GE150.out | refine below_set ?_ GE157.out | refine below_set ?_ GE158.out) | exact HB.out)) hb)
        have n6_ := Aside0.mk (hbox)
        have n7_ := Aside0.mk ((by rw [hg]; exact (below_size (by repeat (first | (with_reducible first | exact HB.out | apply below_alloc | apply pw_below_drewN | apply below_drew1 | refine below_set ?_ GE136.out | refine below_set ?_ GE137.out | refine below_set ?_ GE150.out | refine below_set ?_ GE157.out | refine below_set ?_ GE158.out) | exact HB.out))) : w.heap.size ≤ gb159))
        have n8_ := Aside0.mk ((by rw [hg]; exact (below_size (by repeat (first | (with_reducible first | exact HB.out | apply below_alloc | apply pw_below_drewN | apply below_drew1 | refine below_set ?_ GE136.out | refine below_set ?_ GE137.out | refine below_set ?_ GE150.out | refine below_set ?_ GE157.out | refine below_set ?_ GE158.out) | exact HB.out))) : w.heap.size ≤ gb159))
        have n9_ := Aside0.mk ((by rw [hg]; exact Nat.ne_of_lt (blk_lt (g := gb136) (o := .cells #[.int .i64 a0_0, .int .i64 a0_1, .int .i64 a0_2] 23 (0, 0)) (by (with_reducible repeat (first | apply blk_drewN | apply blk_drew | apply blk_alloc)); exact BK136.out)) : gb136 ≠ gb159))
        have n10_ := Aside0.mk ((by rw [hg]; exact Nat.ne_of_gt (blk_lt (g := gb136) (o := .cells #[.int .i64 a0_0, .int .i64 a0_1, .int .i64 a0_2] 23 (0, 0)) (by (with_reducible repeat (first | apply blk_drewN | apply blk_drew | apply blk_alloc)); exact BK136.out)) : gb159 ≠ gb136))
        have n11_ := Aside0.mk ((by rw [hg]; exact Nat.ne_of_lt (blk_lt (g := gb137) (o := .cells #[.int .i64 a1_0, .int .i64 a1_1] 58 (0, 0)) (by (with_reducible repeat (first | apply blk_drewN | apply blk_drew | apply blk_alloc)); exact BK137.out)) : gb137 ≠ gb159))
        have n12_ := Aside0.mk ((by rw [hg]; exact Nat.ne_of_gt (blk_lt (g := gb137) (o := .cells #[.int .i64 a1_0, .int .i64 a1_1] 58 (0, 0)) (by (with_reducible repeat (first | apply blk_drewN | apply blk_drew | apply blk_alloc)); exact BK137.out)) : gb159 ≠ gb137))
        have n13_ := Aside0.mk ((by rw [hg]; exact Nat.ne_of_lt (blk_lt (g := gb150) (o := .cells #[.int .i64 t141, .int .i64 t142, .bool t143, .int .i64 t144, .bool t145, .int .i64 t146, .int .i64 t147, .string t148] 38 (0, 0)) (by (with_reducible repeat (first | apply blk_drewN | apply blk_drew | apply blk_alloc)); exact BK150.out)) : gb150 ≠ gb159))
        have n14_ := Aside0.mk ((by rw [hg]; exact Nat.ne_of_gt (blk_lt (g := gb150) (o := .cells #[.int .i64 t141, .int .i64 t142, .bool t143, .int .i64 t144, .bool t145, .int .i64 t146, .int .i64 t147, .string t148] 38 (0, 0)) (by (with_reducible repeat (first | apply blk_drewN | apply blk_drew | apply blk_alloc)); exact BK150.out)) : gb159 ≠ gb150))
        have n15_ := Aside0.mk ((by rw [hg]; exact Nat.ne_of_lt (blk_lt (g := gb157) (o := .cells #[.int .i64 0, .int .i64 0, .bool false, .int .i64 0, .bool false, .int .i64 0, .int .i64 0, .string (⟨#[]⟩ : ByteArray)] 38 (0, 0)) (by (with_reducible repeat (first | apply blk_drewN | apply blk_drew | apply blk_alloc)); exact BK157.out)) : gb157 ≠ gb159))
        have n16_ := Aside0.mk ((by rw [hg]; exact Nat.ne_of_gt (blk_lt (g := gb157) (o := .cells #[.int .i64 0, .int .i64 0, .bool false, .int .i64 0, .bool false, .int .i64 0, .int .i64 0, .string (⟨#[]⟩ : ByteArray)] 38 (0, 0)) (by (with_reducible repeat (first | apply blk_drewN | apply blk_drew | apply blk_alloc)); exact BK157.out)) : gb159 ≠ gb157))
        have n17_ := Aside0.mk ((by rw [hg]; exact Nat.ne_of_lt (blk_lt (g := gb158) (o := .cells #[.int .i64 0, .int .i64 0, .bool false, .int .i64 0, .bool false, .int .i64 0, .int .i64 0, .string (⟨#[]⟩ : ByteArray)] 38 (0, 0)) (by (with_reducible repeat (first | apply blk_drewN | apply blk_drew | apply blk_alloc)); exact BK158.out)) : gb158 ≠ gb159))
        have n18_ := Aside0.mk ((by rw [hg]; exact Nat.ne_of_gt (blk_lt (g := gb158) (o := .cells #[.int .i64 0, .int .i64 0, .bool false, .int .i64 0, .bool false, .int .i64 0, .int .i64 0, .string (⟨#[]⟩ : ByteArray)] 38 (0, 0)) (by (with_reducible repeat (first | apply blk_drewN | apply blk_drew | apply blk_alloc)); exact BK158.out)) : gb159 ≠ gb158))
        clear BK136
        clear BK137
        clear BK150
        clear BK157
        clear BK158
        clear HB
        have BK136 := n0_
        have BK137 := n1_
        have BK150 := n2_
        have BK157 := n3_
        have BK158 := n4_
        have HB := n5_
        have BK159 := n6_
        have GW159 := n7_
        have GE159 := n8_
        have NB136_159 := n9_
        have NB159_136 := n10_
        have NB137_159 := n11_
        have NB159_137 := n12_
        have NB150_159 := n13_
        have NB159_150 := n14_
        have NB157_159 := n15_
        have NB159_157 := n16_
        have NB158_159 := n17_
        have NB159_158 := n18_
        clear n0_ n1_ n2_ n3_ n4_ n5_ n6_ n7_ n8_ n9_ n10_ n11_ n12_ n13_ n14_ n15_ n16_ n17_ n18_
        clear hb hbox hg
        refine hK.out _ _ ⟨(blk_cell BK150.out 0).trans rfl, (blk_cell BK150.out 1).trans rfl, (blk_cell BK150.out 2).trans rfl, (blk_cell BK150.out 3).trans rfl, (blk_cell BK150.out 4).trans rfl, (blk_cell BK150.out 5).trans rfl, (blk_cell BK150.out 6).trans rfl, (blk_cell BK150.out 7).trans rfl⟩ (fun hHeld => ?_)
        clear hK K
        refine norm_ (a' := ?_) ?_ ?_
        rotate_left
        ·show Act.put _ (some 10) _ = _
         simp only [Act.put, List.setIfInBounds_toArray, List.set_cons_zero, List.set_cons_succ, i64_w, i32_w]
         rfl
        exact norm_ (by first | (simp only [putAll, Act.put, List.setIfInBounds_toArray, List.set_cons_zero, List.set_cons_succ]; done) | (simp only [putAll, Act.put, List.setIfInBounds_toArray, List.set_cons_zero, List.set_cons_succ]; rfl)) (hJ3_4_5 (gb157, gb158, gb159) _ ⟨hHeld, (by (with_reducible repeat (first | apply blk_drewN | apply blk_drew | apply blk_alloc)); exact BK136.out), (by (with_reducible repeat (first | apply blk_drewN | apply blk_drew | apply blk_alloc)); exact BK137.out), (by (with_reducible repeat (first | apply blk_drewN | apply blk_drew | apply blk_alloc)); exact BK150.out), (by (with_reducible repeat (first | apply blk_drewN | apply blk_drew | apply blk_alloc)); exact BK157.out), (by (with_reducible repeat (first | apply blk_drewN | apply blk_drew | apply blk_alloc)); exact BK158.out), (by (with_reducible repeat (first | apply blk_drewN | apply blk_drew | apply blk_alloc)); exact BK159.out), GW157.out, GE157.out, NB136_157.out, NB157_136.out, NB137_157.out, NB157_137.out, NB150_157.out, NB157_150.out, NB158_157.out, NB157_158.out, NB159_157.out, NB157_159.out, GW158.out, GE158.out, NB136_158.out, NB158_136.out, NB137_158.out, NB158_137.out, NB150_158.out, NB158_150.out, NB159_158.out, NB158_159.out, GW159.out, GE159.out, NB136_159.out, NB159_136.out, NB137_159.out, NB159_137.out, NB150_159.out, NB159_150.out, (by repeat (first | (with_reducible first | exact HB.out | apply below_alloc | apply pw_below_drewN | apply below_drew1 | refine below_set ?_ GE136.out | refine below_set ?_ GE137.out | refine below_set ?_ GE150.out | refine below_set ?_ GE157.out | refine below_set ?_ GE158.out | refine below_set ?_ GE159.out) | exact HB.out))⟩)
      rintro ⟨gb157, gb158, gb159⟩ w38 ⟨hS_, h0_, h1_, h2_, h3_, h4_, h5_, h6_, h7_, h8_, h9_, h10_, h11_, h12_, h13_, h14_, h15_, h16_, h17_, h18_, h19_, h20_, h21_, h22_, h23_, h24_, h25_, h26_, h27_, h28_, h29_, h30_, h31_, h32_, h33_, h34_, h35_, h36_⟩
      have n0_ : Aside0 (w38.heap[gb136]? = some (.cells #[.int .i64 a0_0, .int .i64 a0_1, .int .i64 a0_2] 23 (0, 0))) := ⟨h0_⟩
      have n1_ : Aside0 (w38.heap[gb137]? = some (.cells #[.int .i64 a1_0, .int .i64 a1_1] 58 (0, 0))) := ⟨h1_⟩
      have n2_ : Aside0 (w38.heap[gb150]? = some (.cells #[.int .i64 t141, .int .i64 t142, .bool t143, .int .i64 t144, .bool t145, .int .i64 t146, .int .i64 t147, .string t148] 38 (0, 0))) := ⟨h2_⟩
      have n3_ : Aside0 (w38.heap[gb157]? = some (.cells #[.int .i64 0, .int .i64 0, .bool false, .int .i64 0, .bool false, .int .i64 0, .int .i64 0, .string (⟨#[]⟩ : ByteArray)] 38 (0, 0))) := ⟨h3_⟩
      have n4_ : Aside0 (w38.heap[gb158]? = some (.cells #[.int .i64 0, .int .i64 0, .bool false, .int .i64 0, .bool false, .int .i64 0, .int .i64 0, .string (⟨#[]⟩ : ByteArray)] 38 (0, 0))) := ⟨h4_⟩
      have n5_ : Aside0 (w38.heap[gb159]? = some (.cells #[.int .i64 0, .int .i64 0, .bool false, .int .i64 0, .bool false, .int .i64 0, .int .i64 0, .string (⟨#[]⟩ : ByteArray)] 38 (0, 0))) := ⟨h5_⟩
      have n6_ : Aside0 (w.heap.size ≤ gb157) := ⟨h6_⟩
      have n7_ : Aside0 (w.heap.size ≤ gb157) := ⟨h7_⟩
      have n8_ : Aside0 (gb136 ≠ gb157) := ⟨h8_⟩
      have n9_ : Aside0 (gb157 ≠ gb136) := ⟨h9_⟩
      have n10_ : Aside0 (gb137 ≠ gb157) := ⟨h10_⟩
      have n11_ : Aside0 (gb157 ≠ gb137) := ⟨h11_⟩
      have n12_ : Aside0 (gb150 ≠ gb157) := ⟨h12_⟩
      have n13_ : Aside0 (gb157 ≠ gb150) := ⟨h13_⟩
      have n14_ : Aside0 (gb158 ≠ gb157) := ⟨h14_⟩
      have n15_ : Aside0 (gb157 ≠ gb158) := ⟨h15_⟩
      have n16_ : Aside0 (gb159 ≠ gb157) := ⟨h16_⟩
      have n17_ : Aside0 (gb157 ≠ gb159) := ⟨h17_⟩
      have n18_ : Aside0 (w.heap.size ≤ gb158) := ⟨h18_⟩
      have n19_ : Aside0 (w.heap.size ≤ gb158) := ⟨h19_⟩
      have n20_ : Aside0 (gb136 ≠ gb158) := ⟨h20_⟩
      have n21_ : Aside0 (gb158 ≠ gb136) := ⟨h21_⟩
      have n22_ : Aside0 (gb137 ≠ gb158) := ⟨h22_⟩
      have n23_ : Aside0 (gb158 ≠ gb137) := ⟨h23_⟩
      have n24_ : Aside0 (gb150 ≠ gb158) := ⟨h24_⟩
      have n25_ : Aside0 (gb158 ≠ gb150) := ⟨h25_⟩
      have n26_ : Aside0 (gb159 ≠ gb158) := ⟨h26_⟩
      have n27_ : Aside0 (gb158 ≠ gb159) := ⟨h27_⟩
      have n28_ : Aside0 (w.heap.size ≤ gb159) := ⟨h28_⟩
      have n29_ : Aside0 (w.heap.size ≤ gb159) := ⟨h29_⟩
      have n30_ : Aside0 (gb136 ≠ gb159) := ⟨h30_⟩
      have n31_ : Aside0 (gb159 ≠ gb136) := ⟨h31_⟩
      have n32_ : Aside0 (gb137 ≠ gb159) := ⟨h32_⟩
      have n33_ : Aside0 (gb159 ≠ gb137) := ⟨h33_⟩
      have n34_ : Aside0 (gb150 ≠ gb159) := ⟨h34_⟩
      have n35_ : Aside0 (gb159 ≠ gb150) := ⟨h35_⟩
      have n36_ : Aside0 (Below w.heap.size w w38) := ⟨h36_⟩
      clear BK136
      clear BK137
      clear BK150
      clear HB
      clear h0_ h1_ h2_ h3_ h4_ h5_ h6_ h7_ h8_ h9_ h10_ h11_ h12_ h13_ h14_ h15_ h16_ h17_ h18_ h19_ h20_ h21_ h22_ h23_ h24_ h25_ h26_ h27_ h28_ h29_ h30_ h31_ h32_ h33_ h34_ h35_ h36_
      have BK136 := n0_
      have BK137 := n1_
      have BK150 := n2_
      have BK157 := n3_
      have BK158 := n4_
      have BK159 := n5_
      have GW157 := n6_
      have GE157 := n7_
      have NB136_157 := n8_
      have NB157_136 := n9_
      have NB137_157 := n10_
      have NB157_137 := n11_
      have NB150_157 := n12_
      have NB157_150 := n13_
      have NB158_157 := n14_
      have NB157_158 := n15_
      have NB159_157 := n16_
      have NB157_159 := n17_
      have GW158 := n18_
      have GE158 := n19_
      have NB136_158 := n20_
      have NB158_136 := n21_
      have NB137_158 := n22_
      have NB158_137 := n23_
      have NB150_158 := n24_
      have NB158_150 := n25_
      have NB159_158 := n26_
      have NB158_159 := n27_
      have GW159 := n28_
      have GE159 := n29_
      have NB136_159 := n30_
      have NB159_136 := n31_
      have NB137_159 := n32_
      have NB159_137 := n33_
      have NB150_159 := n34_
      have NB159_150 := n35_
      have HB := n36_
      clear n0_ n1_ n2_ n3_ n4_ n5_ n6_ n7_ n8_ n9_ n10_ n11_ n12_ n13_ n14_ n15_ n16_ n17_ n18_ n19_ n20_ n21_ n22_ n23_ n24_ n25_ n26_ n27_ n28_ n29_ n30_ n31_ n32_ n33_ n34_ n35_ n36_
      have hHeld : w38.cell? ⟨gb150, 0, none⟩ = some (.int .i64 t141) ∧ w38.cell? ⟨gb150, 1, none⟩ = some (.int .i64 t142) ∧ w38.cell? ⟨gb150, 2, none⟩ = some (.bool t143) ∧ w38.cell? ⟨gb150, 3, none⟩ = some (.int .i64 t144) ∧ w38.cell? ⟨gb150, 4, none⟩ = some (.bool t145) ∧ w38.cell? ⟨gb150, 5, none⟩ = some (.int .i64 t146) ∧ w38.cell? ⟨gb150, 6, none⟩ = some (.int .i64 t147) ∧ w38.cell? ⟨gb150, 7, none⟩ = some (.string t148) := hS_
      refine norm_ (a' := ?_) ?_ ?_
      rotate_left
      ·simp only [putAll, Act.put, List.setIfInBounds_toArray, List.set_cons_zero, List.set_cons_succ]
       rfl
      refine one_ (i := 6) (N := none) #[tT, tT, tT, tT, tT, tT, tT, tF, tF] rfl rfl (one_of HT_.out (by kernel_rfl)) (by decide) (fun K hK => ?_)
      have hs39 : w38.cell? ⟨gb157, 0, none⟩ = some (.int .i64 0) := (blk_cell BK157.out 0).trans rfl
      have hfs39 := blk_frozen BK157.out 0
      have hns39_0 := NB136_157.out
      have hns39_1 := NB137_157.out
      have hns39_2 := NB150_157.out
      have hns39_4 := NB158_157.out
      have hns39_5 := NB159_157.out
      have hms39_0 := NB157_136.out
      have hms39_1 := NB157_137.out
      have hms39_2 := NB157_150.out
      have hms39_4 := NB157_158.out
      have hms39_5 := NB157_159.out
      have hs40 : w38.cell? ⟨gb157, 1, none⟩ = some (.int .i64 0) := (blk_cell BK157.out 1).trans rfl
      have hfs40 := blk_frozen BK157.out 1
      have hns40_0 := NB136_157.out
      have hns40_1 := NB137_157.out
      have hns40_2 := NB150_157.out
      have hns40_4 := NB158_157.out
      have hns40_5 := NB159_157.out
      have hms40_0 := NB157_136.out
      have hms40_1 := NB157_137.out
      have hms40_2 := NB157_150.out
      have hms40_4 := NB157_158.out
      have hms40_5 := NB157_159.out
      have hs41 : w38.cell? ⟨gb157, 2, none⟩ = some (.bool false) := (blk_cell BK157.out 2).trans rfl
      have hfs41 := blk_frozen BK157.out 2
      have hns41_0 := NB136_157.out
      have hns41_1 := NB137_157.out
      have hns41_2 := NB150_157.out
      have hns41_4 := NB158_157.out
      have hns41_5 := NB159_157.out
      have hms41_0 := NB157_136.out
      have hms41_1 := NB157_137.out
      have hms41_2 := NB157_150.out
      have hms41_4 := NB157_158.out
      have hms41_5 := NB157_159.out
      have hs42 : w38.cell? ⟨gb157, 3, none⟩ = some (.int .i64 0) := (blk_cell BK157.out 3).trans rfl
      have hfs42 := blk_frozen BK157.out 3
      have hns42_0 := NB136_157.out
      have hns42_1 := NB137_157.out
      have hns42_2 := NB150_157.out
      have hns42_4 := NB158_157.out
      have hns42_5 := NB159_157.out
      have hms42_0 := NB157_136.out
      have hms42_1 := NB157_137.out
      have hms42_2 := NB157_150.out
      have hms42_4 := NB157_158.out
      have hms42_5 := NB157_159.out
      have hs43 : w38.cell? ⟨gb157, 4, none⟩ = some (.bool false) := (blk_cell BK157.out 4).trans rfl
      have hfs43 := blk_frozen BK157.out 4
      have hns43_0 := NB136_157.out
      have hns43_1 := NB137_157.out
      have hns43_2 := NB150_157.out
      have hns43_4 := NB158_157.out
      have hns43_5 := NB159_157.out
      have hms43_0 := NB157_136.out
      have hms43_1 := NB157_137.out
      have hms43_2 := NB157_150.out
      have hms43_4 := NB157_158.out
      have hms43_5 := NB157_159.out
      have hs44 : w38.cell? ⟨gb157, 5, none⟩ = some (.int .i64 0) := (blk_cell BK157.out 5).trans rfl
      have hfs44 := blk_frozen BK157.out 5
      have hns44_0 := NB136_157.out
      have hns44_1 := NB137_157.out
      have hns44_2 := NB150_157.out
      have hns44_4 := NB158_157.out
      have hns44_5 := NB159_157.out
      have hms44_0 := NB157_136.out
      have hms44_1 := NB157_137.out
      have hms44_2 := NB157_150.out
      have hms44_4 := NB157_158.out
      have hms44_5 := NB157_159.out
      have hs45 : w38.cell? ⟨gb157, 6, none⟩ = some (.int .i64 0) := (blk_cell BK157.out 6).trans rfl
      have hfs45 := blk_frozen BK157.out 6
      have hns45_0 := NB136_157.out
      have hns45_1 := NB137_157.out
      have hns45_2 := NB150_157.out
      have hns45_4 := NB158_157.out
      have hns45_5 := NB159_157.out
      have hms45_0 := NB157_136.out
      have hms45_1 := NB157_137.out
      have hms45_2 := NB157_150.out
      have hms45_4 := NB157_158.out
      have hms45_5 := NB157_159.out
      have hs46 : w38.cell? ⟨gb157, 7, none⟩ = some (.string (⟨#[]⟩ : ByteArray)) := (blk_cell BK157.out 7).trans rfl
      have hfs46 := blk_frozen BK157.out 7
      have hns46_0 := NB136_157.out
      have hns46_1 := NB137_157.out
      have hns46_2 := NB150_157.out
      have hns46_4 := NB158_157.out
      have hns46_5 := NB159_157.out
      have hms46_0 := NB157_136.out
      have hms46_1 := NB157_137.out
      have hms46_2 := NB157_150.out
      have hms46_4 := NB157_158.out
      have hms46_5 := NB157_159.out
      refine skip_ (w1 := ?_) (by rfl) rfl ?_ ?_
      rotate_left
      ·go_simp
       rfl
      refine hK.out _ _ ⟨((cell_far (p := ⟨gb157, _, none⟩) NB150_157.out _).trans (((cell_far (p := ⟨gb157, _, none⟩) NB150_157.out _).trans (((cell_far (p := ⟨gb157, _, none⟩) NB150_157.out _).trans (((cell_far (p := ⟨gb157, _, none⟩) NB150_157.out _).trans (((cell_far (p := ⟨gb157, _, none⟩) NB150_157.out _).trans (((cell_far (p := ⟨gb157, _, none⟩) NB150_157.out _).trans (((cell_far (p := ⟨gb157, _, none⟩) NB150_157.out _).trans (((cell_far (p := ⟨gb157, _, none⟩) NB150_157.out _).trans (hHeld.1)))))))))))))))), ((cell_far (p := ⟨gb157, _, none⟩) NB150_157.out _).trans (((cell_far (p := ⟨gb157, _, none⟩) NB150_157.out _).trans (((cell_far (p := ⟨gb157, _, none⟩) NB150_157.out _).trans (((cell_far (p := ⟨gb157, _, none⟩) NB150_157.out _).trans (((cell_far (p := ⟨gb157, _, none⟩) NB150_157.out _).trans (((cell_far (p := ⟨gb157, _, none⟩) NB150_157.out _).trans (((cell_far (p := ⟨gb157, _, none⟩) NB150_157.out _).trans (((cell_far (p := ⟨gb157, _, none⟩) NB150_157.out _).trans (hHeld.2.1)))))))))))))))), ((cell_far (p := ⟨gb157, _, none⟩) NB150_157.out _).trans (((cell_far (p := ⟨gb157, _, none⟩) NB150_157.out _).trans (((cell_far (p := ⟨gb157, _, none⟩) NB150_157.out _).trans (((cell_far (p := ⟨gb157, _, none⟩) NB150_157.out _).trans (((cell_far (p := ⟨gb157, _, none⟩) NB150_157.out _).trans (((cell_far (p := ⟨gb157, _, none⟩) NB150_157.out _).trans (((cell_far (p := ⟨gb157, _, none⟩) NB150_157.out _).trans (((cell_far (p := ⟨gb157, _, none⟩) NB150_157.out _).trans (hHeld.2.2.1)))))))))))))))), ((cell_far (p := ⟨gb157, _, none⟩) NB150_157.out _).trans (((cell_far (p := ⟨gb157, _, none⟩) NB150_157.out _).trans (((cell_far (p := ⟨gb157, _, none⟩) NB150_157.out _).trans (((cell_far (p := ⟨gb157, _, none⟩) NB150_157.out _).trans (((cell_far (p := ⟨gb157, _, none⟩) NB150_157.out _).trans (((cell_far (p := ⟨gb157, _, none⟩) NB150_157.out _).trans (((cell_far (p := ⟨gb157, _, none⟩) NB150_157.out _).trans (((cell_far (p := ⟨gb157, _, none⟩) NB150_157.out _).trans (hHeld.2.2.2.1)))))))))))))))), ((cell_far (p := ⟨gb157, _, none⟩) NB150_157.out _).trans (((cell_far (p := ⟨gb157, _, none⟩) NB150_157.out _).trans (((cell_far (p := ⟨gb157, _, none⟩) NB150_157.out _).trans (((cell_far (p := ⟨gb157, _, none⟩) NB150_157.out _).trans (((cell_far (p := ⟨gb157, _, none⟩) NB150_157.out _).trans (((cell_far (p := ⟨gb157, _, none⟩) NB150_157.out _).trans (((cell_far (p := ⟨gb157, _, none⟩) NB150_157.out _).trans (((cell_far (p := ⟨gb157, _, none⟩) NB150_157.out _).trans (hHeld.2.2.2.2.1)))))))))))))))), ((cell_far (p := ⟨gb157, _, none⟩) NB150_157.out _).trans (((cell_far (p := ⟨gb157, _, none⟩) NB150_157.out _).trans (((cell_far (p := ⟨gb157, _, none⟩) NB150_157.out _).trans (((cell_far (p := ⟨gb157, _, none⟩) NB150_157.out _).trans (((cell_far (p := ⟨gb157, _, none⟩) NB150_157.out _).trans (((cell_far (p := ⟨gb157, _, none⟩) NB150_157.out _).trans (((cell_far (p := ⟨gb157, _, none⟩) NB150_157.out _).trans (((cell_far (p := ⟨gb157, _, none⟩) NB150_157.out _).trans (hHeld.2.2.2.2.2.1)))))))))))))))), ((cell_far (p := ⟨gb157, _, none⟩) NB150_157.out _).trans (((cell_far (p := ⟨gb157, _, none⟩) NB150_157.out _).trans (((cell_far (p := ⟨gb157, _, none⟩) NB150_157.out _).trans (((cell_far (p := ⟨gb157, _, none⟩) NB150_157.out _).trans (((cell_far (p := ⟨gb157, _, none⟩) NB150_157.out _).trans (((cell_far (p := ⟨gb157, _, none⟩) NB150_157.out _).trans (((cell_far (p := ⟨gb157, _, none⟩) NB150_157.out _).trans (((cell_far (p := ⟨gb157, _, none⟩) NB150_157.out _).trans (hHeld.2.2.2.2.2.2.1)))))))))))))))), ((cell_far (p := ⟨gb157, _, none⟩) NB150_157.out _).trans (((cell_far (p := ⟨gb157, _, none⟩) NB150_157.out _).trans (((cell_far (p := ⟨gb157, _, none⟩) NB150_157.out _).trans (((cell_far (p := ⟨gb157, _, none⟩) NB150_157.out _).trans (((cell_far (p := ⟨gb157, _, none⟩) NB150_157.out _).trans (((cell_far (p := ⟨gb157, _, none⟩) NB150_157.out _).trans (((cell_far (p := ⟨gb157, _, none⟩) NB150_157.out _).trans (((cell_far (p := ⟨gb157, _, none⟩) NB150_157.out _).trans (hHeld.2.2.2.2.2.2.2))))))))))))))))⟩ (fun hHeld => ?_)
      clear hK K
      have n0_ : Aside0 (((((((((w38.setCell ⟨gb157, 0, none⟩ (.int .i64 t141)).setCell ⟨gb157, 1, none⟩ (.int .i64 t142)).setCell ⟨gb157, 2, none⟩ (.bool t143)).setCell ⟨gb157, 3, none⟩ (.int .i64 t144)).setCell ⟨gb157, 4, none⟩ (.bool t145)).setCell ⟨gb157, 5, none⟩ (.int .i64 t146)).setCell ⟨gb157, 6, none⟩ (.int .i64 t147)).setCell ⟨gb157, 7, none⟩ (.string t148)).heap[gb136]? = some (.cells #[.int .i64 a0_0, .int .i64 a0_1, .int .i64 a0_2] 23 (0, 0))) := ⟨by (with_reducible repeat (first | apply blk_drewN | apply blk_drew | apply blk_alloc)); refine blk_far ?_ NB136_157.out _; refine blk_far ?_ NB136_157.out _; refine blk_far ?_ NB136_157.out _; refine blk_far ?_ NB136_157.out _; refine blk_far ?_ NB136_157.out _; refine blk_far ?_ NB136_157.out _; refine blk_far ?_ NB136_157.out _; refine blk_far ?_ NB136_157.out _; (with_reducible repeat (first | apply blk_drewN | apply blk_drew | apply blk_alloc)); exact BK136.out⟩
      have n1_ : Aside0 (((((((((w38.setCell ⟨gb157, 0, none⟩ (.int .i64 t141)).setCell ⟨gb157, 1, none⟩ (.int .i64 t142)).setCell ⟨gb157, 2, none⟩ (.bool t143)).setCell ⟨gb157, 3, none⟩ (.int .i64 t144)).setCell ⟨gb157, 4, none⟩ (.bool t145)).setCell ⟨gb157, 5, none⟩ (.int .i64 t146)).setCell ⟨gb157, 6, none⟩ (.int .i64 t147)).setCell ⟨gb157, 7, none⟩ (.string t148)).heap[gb137]? = some (.cells #[.int .i64 a1_0, .int .i64 a1_1] 58 (0, 0))) := ⟨by (with_reducible repeat (first | apply blk_drewN | apply blk_drew | apply blk_alloc)); refine blk_far ?_ NB137_157.out _; refine blk_far ?_ NB137_157.out _; refine blk_far ?_ NB137_157.out _; refine blk_far ?_ NB137_157.out _; refine blk_far ?_ NB137_157.out _; refine blk_far ?_ NB137_157.out _; refine blk_far ?_ NB137_157.out _; refine blk_far ?_ NB137_157.out _; (with_reducible repeat (first | apply blk_drewN | apply blk_drew | apply blk_alloc)); exact BK137.out⟩
      have n2_ : Aside0 (((((((((w38.setCell ⟨gb157, 0, none⟩ (.int .i64 t141)).setCell ⟨gb157, 1, none⟩ (.int .i64 t142)).setCell ⟨gb157, 2, none⟩ (.bool t143)).setCell ⟨gb157, 3, none⟩ (.int .i64 t144)).setCell ⟨gb157, 4, none⟩ (.bool t145)).setCell ⟨gb157, 5, none⟩ (.int .i64 t146)).setCell ⟨gb157, 6, none⟩ (.int .i64 t147)).setCell ⟨gb157, 7, none⟩ (.string t148)).heap[gb150]? = some (.cells #[.int .i64 t141, .int .i64 t142, .bool t143, .int .i64 t144, .bool t145, .int .i64 t146, .int .i64 t147, .string t148] 38 (0, 0))) := ⟨by (with_reducible repeat (first | apply blk_drewN | apply blk_drew | apply blk_alloc)); refine blk_far ?_ NB150_157.out _; refine blk_far ?_ NB150_157.out _; refine blk_far ?_ NB150_157.out _; refine blk_far ?_ NB150_157.out _; refine blk_far ?_ NB150_157.out _; refine blk_far ?_ NB150_157.out _; refine blk_far ?_ NB150_157.out _; refine blk_far ?_ NB150_157.out _; (with_reducible repeat (first | apply blk_drewN | apply blk_drew | apply blk_alloc)); exact BK150.out⟩
      have n3_ : Aside0 (((((((((w38.setCell ⟨gb157, 0, none⟩ (.int .i64 t141)).setCell ⟨gb157, 1, none⟩ (.int .i64 t142)).setCell ⟨gb157, 2, none⟩ (.bool t143)).setCell ⟨gb157, 3, none⟩ (.int .i64 t144)).setCell ⟨gb157, 4, none⟩ (.bool t145)).setCell ⟨gb157, 5, none⟩ (.int .i64 t146)).setCell ⟨gb157, 6, none⟩ (.int .i64 t147)).setCell ⟨gb157, 7, none⟩ (.string t148)).heap[gb157]? = some (.cells #[.int .i64 t141, .int .i64 t142, .bool t143, .int .i64 t144, .bool t145, .int .i64 t146, .int .i64 t147, .string t148] 38 (0, 0))) := ⟨by (with_reducible repeat (first | apply blk_drewN | apply blk_drew | apply blk_alloc)); refine blk_put (cs := #[.int .i64 t141, .int .i64 t142, .bool t143, .int .i64 t144, .bool t145, .int .i64 t146, .int .i64 t147, .string (⟨#[]⟩ : ByteArray)]) ?_ 7 _ rfl; refine blk_put (cs := #[.int .i64 t141, .int .i64 t142, .bool t143, .int .i64 t144, .bool t145, .int .i64 t146, .int .i64 0, .string (⟨#[]⟩ : ByteArray)]) ?_ 6 _ rfl; refine blk_put (cs := #[.int .i64 t141, .int .i64 t142, .bool t143, .int .i64 t144, .bool t145, .int .i64 0, .int .i64 0, .string (⟨#[]⟩ : ByteArray)]) ?_ 5 _ rfl; refine blk_put (cs := #[.int .i64 t141, .int .i64 t142, .bool t143, .int .i64 t144, .bool false, .int .i64 0, .int .i64 0, .string (⟨#[]⟩ : ByteArray)]) ?_ 4 _ rfl; refine blk_put (cs := #[.int .i64 t141, .int .i64 t142, .bool t143, .int .i64 0, .bool false, .int .i64 0, .int .i64 0, .string (⟨#[]⟩ : ByteArray)]) ?_ 3 _ rfl; refine blk_put (cs := #[.int .i64 t141, .int .i64 t142, .bool false, .int .i64 0, .bool false, .int .i64 0, .int .i64 0, .string (⟨#[]⟩ : ByteArray)]) ?_ 2 _ rfl; refine blk_put (cs := #[.int .i64 t141, .int .i64 0, .bool false, .int .i64 0, .bool false, .int .i64 0, .int .i64 0, .string (⟨#[]⟩ : ByteArray)]) ?_ 1 _ rfl; refine blk_put (cs := #[.int .i64 0, .int .i64 0, .bool false, .int .i64 0, .bool false, .int .i64 0, .int .i64 0, .string (⟨#[]⟩ : ByteArray)]) ?_ 0 _ rfl; (with_reducible repeat (first | apply blk_drewN | apply blk_drew | apply blk_alloc)); exact BK157.out⟩
      have n4_ : Aside0 (((((((((w38.setCell ⟨gb157, 0, none⟩ (.int .i64 t141)).setCell ⟨gb157, 1, none⟩ (.int .i64 t142)).setCell ⟨gb157, 2, none⟩ (.bool t143)).setCell ⟨gb157, 3, none⟩ (.int .i64 t144)).setCell ⟨gb157, 4, none⟩ (.bool t145)).setCell ⟨gb157, 5, none⟩ (.int .i64 t146)).setCell ⟨gb157, 6, none⟩ (.int .i64 t147)).setCell ⟨gb157, 7, none⟩ (.string t148)).heap[gb158]? = some (.cells #[.int .i64 0, .int .i64 0, .bool false, .int .i64 0, .bool false, .int .i64 0, .int .i64 0, .string (⟨#[]⟩ : ByteArray)] 38 (0, 0))) := ⟨by (with_reducible repeat (first | apply blk_drewN | apply blk_drew | apply blk_alloc)); refine blk_far ?_ NB158_157.out _; refine blk_far ?_ NB158_157.out _; refine blk_far ?_ NB158_157.out _; refine blk_far ?_ NB158_157.out _; refine blk_far ?_ NB158_157.out _; refine blk_far ?_ NB158_157.out _; refine blk_far ?_ NB158_157.out _; refine blk_far ?_ NB158_157.out _; (with_reducible repeat (first | apply blk_drewN | apply blk_drew | apply blk_alloc)); exact BK158.out⟩
      have n5_ : Aside0 (((((((((w38.setCell ⟨gb157, 0, none⟩ (.int .i64 t141)).setCell ⟨gb157, 1, none⟩ (.int .i64 t142)).setCell ⟨gb157, 2, none⟩ (.bool t143)).setCell ⟨gb157, 3, none⟩ (.int .i64 t144)).setCell ⟨gb157, 4, none⟩ (.bool t145)).setCell ⟨gb157, 5, none⟩ (.int .i64 t146)).setCell ⟨gb157, 6, none⟩ (.int .i64 t147)).setCell ⟨gb157, 7, none⟩ (.string t148)).heap[gb159]? = some (.cells #[.int .i64 0, .int .i64 0, .bool false, .int .i64 0, .bool false, .int .i64 0, .int .i64 0, .string (⟨#[]⟩ : ByteArray)] 38 (0, 0))) := ⟨by (with_reducible repeat (first | apply blk_drewN | apply blk_drew | apply blk_alloc)); refine blk_far ?_ NB159_157.out _; refine blk_far ?_ NB159_157.out _; refine blk_far ?_ NB159_157.out _; refine blk_far ?_ NB159_157.out _; refine blk_far ?_ NB159_157.out _; refine blk_far ?_ NB159_157.out _; refine blk_far ?_ NB159_157.out _; refine blk_far ?_ NB159_157.out _; (with_reducible repeat (first | apply blk_drewN | apply blk_drew | apply blk_alloc)); exact BK159.out⟩
      have n6_ : Aside0 (Below w.heap.size w ((((((((w38.setCell ⟨gb157, 0, none⟩ (.int .i64 t141)).setCell ⟨gb157, 1, none⟩ (.int .i64 t142)).setCell ⟨gb157, 2, none⟩ (.bool t143)).setCell ⟨gb157, 3, none⟩ (.int .i64 t144)).setCell ⟨gb157, 4, none⟩ (.bool t145)).setCell ⟨gb157, 5, none⟩ (.int .i64 t146)).setCell ⟨gb157, 6, none⟩ (.int .i64 t147)).setCell ⟨gb157, 7, none⟩ (.string t148))) := ⟨by repeat (first | (with_reducible first | exact HB.out | apply below_alloc | apply pw_below_drewN | apply below_drew1 | refine below_set ?_ GE157.out) | exact HB.out)⟩
      (try clear BK136)
      (try clear BK137)
      (try clear BK150)
      (try clear BK157)
      (try clear BK158)
      (try clear BK159)
      (try clear HB)
      generalize ((((((((w38.setCell ⟨gb157, 0, none⟩ (.int .i64 t141)).setCell ⟨gb157, 1, none⟩ (.int .i64 t142)).setCell ⟨gb157, 2, none⟩ (.bool t143)).setCell ⟨gb157, 3, none⟩ (.int .i64 t144)).setCell ⟨gb157, 4, none⟩ (.bool t145)).setCell ⟨gb157, 5, none⟩ (.int .i64 t146)).setCell ⟨gb157, 6, none⟩ (.int .i64 t147)).setCell ⟨gb157, 7, none⟩ (.string t148)) = w38s at n0_ n1_ n2_ n3_ n4_ n5_ n6_ hHeld ⊢
      have BK136 := n0_
      have BK137 := n1_
      have BK150 := n2_
      have BK157 := n3_
      have BK158 := n4_
      have BK159 := n5_
      have HB := n6_
      clear n0_ n1_ n2_ n3_ n4_ n5_ n6_
      refine one_ (i := 7) (N := none) #[tT, tT, tT, tT, tT, tT, tT, tT, tF] rfl rfl (one_of HT_.out (by kernel_rfl)) (by decide) (fun K hK => ?_)
      have hs47 : w38s.cell? ⟨gb158, 0, none⟩ = some (.int .i64 0) := (blk_cell BK158.out 0).trans rfl
      have hfs47 := blk_frozen BK158.out 0
      have hns47_0 := NB136_158.out
      have hns47_1 := NB137_158.out
      have hns47_2 := NB150_158.out
      have hns47_3 := NB157_158.out
      have hns47_5 := NB159_158.out
      have hms47_0 := NB158_136.out
      have hms47_1 := NB158_137.out
      have hms47_2 := NB158_150.out
      have hms47_3 := NB158_157.out
      have hms47_5 := NB158_159.out
      have hs48 : w38s.cell? ⟨gb158, 1, none⟩ = some (.int .i64 0) := (blk_cell BK158.out 1).trans rfl
      have hfs48 := blk_frozen BK158.out 1
      have hns48_0 := NB136_158.out
      have hns48_1 := NB137_158.out
      have hns48_2 := NB150_158.out
      have hns48_3 := NB157_158.out
      have hns48_5 := NB159_158.out
      have hms48_0 := NB158_136.out
      have hms48_1 := NB158_137.out
      have hms48_2 := NB158_150.out
      have hms48_3 := NB158_157.out
      have hms48_5 := NB158_159.out
      have hs49 : w38s.cell? ⟨gb158, 2, none⟩ = some (.bool false) := (blk_cell BK158.out 2).trans rfl
      have hfs49 := blk_frozen BK158.out 2
      have hns49_0 := NB136_158.out
      have hns49_1 := NB137_158.out
      have hns49_2 := NB150_158.out
      have hns49_3 := NB157_158.out
      have hns49_5 := NB159_158.out
      have hms49_0 := NB158_136.out
      have hms49_1 := NB158_137.out
      have hms49_2 := NB158_150.out
      have hms49_3 := NB158_157.out
      have hms49_5 := NB158_159.out
      have hs50 : w38s.cell? ⟨gb158, 3, none⟩ = some (.int .i64 0) := (blk_cell BK158.out 3).trans rfl
      have hfs50 := blk_frozen BK158.out 3
      have hns50_0 := NB136_158.out
      have hns50_1 := NB137_158.out
      have hns50_2 := NB150_158.out
      have hns50_3 := NB157_158.out
      have hns50_5 := NB159_158.out
      have hms50_0 := NB158_136.out
      have hms50_1 := NB158_137.out
      have hms50_2 := NB158_150.out
      have hms50_3 := NB158_157.out
      have hms50_5 := NB158_159.out
      have hs51 : w38s.cell? ⟨gb158, 4, none⟩ = some (.bool false) := (blk_cell BK158.out 4).trans rfl
      have hfs51 := blk_frozen BK158.out 4
      have hns51_0 := NB136_158.out
      have hns51_1 := NB137_158.out
      have hns51_2 := NB150_158.out
      have hns51_3 := NB157_158.out
      have hns51_5 := NB159_158.out
      have hms51_0 := NB158_136.out
      have hms51_1 := NB158_137.out
      have hms51_2 := NB158_150.out
      have hms51_3 := NB158_157.out
      have hms51_5 := NB158_159.out
      have hs52 : w38s.cell? ⟨gb158, 5, none⟩ = some (.int .i64 0) := (blk_cell BK158.out 5).trans rfl
      have hfs52 := blk_frozen BK158.out 5
      have hns52_0 := NB136_158.out
      have hns52_1 := NB137_158.out
      have hns52_2 := NB150_158.out
      have hns52_3 := NB157_158.out
      have hns52_5 := NB159_158.out
      have hms52_0 := NB158_136.out
      have hms52_1 := NB158_137.out
      have hms52_2 := NB158_150.out
      have hms52_3 := NB158_157.out
      have hms52_5 := NB158_159.out
      have hs53 : w38s.cell? ⟨gb158, 6, none⟩ = some (.int .i64 0) := (blk_cell BK158.out 6).trans rfl
      have hfs53 := blk_frozen BK158.out 6
      have hns53_0 := NB136_158.out
      have hns53_1 := NB137_158.out
      have hns53_2 := NB150_158.out
      have hns53_3 := NB157_158.out
      have hns53_5 := NB159_158.out
      have hms53_0 := NB158_136.out
      have hms53_1 := NB158_137.out
      have hms53_2 := NB158_150.out
      have hms53_3 := NB158_157.out
      have hms53_5 := NB158_159.out
      have hs54 : w38s.cell? ⟨gb158, 7, none⟩ = some (.string (⟨#[]⟩ : ByteArray)) := (blk_cell BK158.out 7).trans rfl
      have hfs54 := blk_frozen BK158.out 7
      have hns54_0 := NB136_158.out
      have hns54_1 := NB137_158.out
      have hns54_2 := NB150_158.out
      have hns54_3 := NB157_158.out
      have hns54_5 := NB159_158.out
      have hms54_0 := NB158_136.out
      have hms54_1 := NB158_137.out
      have hms54_2 := NB158_150.out
      have hms54_3 := NB158_157.out
      have hms54_5 := NB158_159.out
      refine skip_ (w1 := ?_) (by rfl) rfl ?_ ?_
      rotate_left
      ·go_simp
       rfl
      refine hK.out _ _ ⟨((cell_far (p := ⟨gb158, _, none⟩) NB150_158.out _).trans (((cell_far (p := ⟨gb158, _, none⟩) NB150_158.out _).trans (((cell_far (p := ⟨gb158, _, none⟩) NB150_158.out _).trans (((cell_far (p := ⟨gb158, _, none⟩) NB150_158.out _).trans (((cell_far (p := ⟨gb158, _, none⟩) NB150_158.out _).trans (((cell_far (p := ⟨gb158, _, none⟩) NB150_158.out _).trans (((cell_far (p := ⟨gb158, _, none⟩) NB150_158.out _).trans (((cell_far (p := ⟨gb158, _, none⟩) NB150_158.out _).trans (hHeld.1)))))))))))))))), ((cell_far (p := ⟨gb158, _, none⟩) NB150_158.out _).trans (((cell_far (p := ⟨gb158, _, none⟩) NB150_158.out _).trans (((cell_far (p := ⟨gb158, _, none⟩) NB150_158.out _).trans (((cell_far (p := ⟨gb158, _, none⟩) NB150_158.out _).trans (((cell_far (p := ⟨gb158, _, none⟩) NB150_158.out _).trans (((cell_far (p := ⟨gb158, _, none⟩) NB150_158.out _).trans (((cell_far (p := ⟨gb158, _, none⟩) NB150_158.out _).trans (((cell_far (p := ⟨gb158, _, none⟩) NB150_158.out _).trans (hHeld.2.1)))))))))))))))), ((cell_far (p := ⟨gb158, _, none⟩) NB150_158.out _).trans (((cell_far (p := ⟨gb158, _, none⟩) NB150_158.out _).trans (((cell_far (p := ⟨gb158, _, none⟩) NB150_158.out _).trans (((cell_far (p := ⟨gb158, _, none⟩) NB150_158.out _).trans (((cell_far (p := ⟨gb158, _, none⟩) NB150_158.out _).trans (((cell_far (p := ⟨gb158, _, none⟩) NB150_158.out _).trans (((cell_far (p := ⟨gb158, _, none⟩) NB150_158.out _).trans (((cell_far (p := ⟨gb158, _, none⟩) NB150_158.out _).trans (hHeld.2.2.1)))))))))))))))), ((cell_far (p := ⟨gb158, _, none⟩) NB150_158.out _).trans (((cell_far (p := ⟨gb158, _, none⟩) NB150_158.out _).trans (((cell_far (p := ⟨gb158, _, none⟩) NB150_158.out _).trans (((cell_far (p := ⟨gb158, _, none⟩) NB150_158.out _).trans (((cell_far (p := ⟨gb158, _, none⟩) NB150_158.out _).trans (((cell_far (p := ⟨gb158, _, none⟩) NB150_158.out _).trans (((cell_far (p := ⟨gb158, _, none⟩) NB150_158.out _).trans (((cell_far (p := ⟨gb158, _, none⟩) NB150_158.out _).trans (hHeld.2.2.2.1)))))))))))))))), ((cell_far (p := ⟨gb158, _, none⟩) NB150_158.out _).trans (((cell_far (p := ⟨gb158, _, none⟩) NB150_158.out _).trans (((cell_far (p := ⟨gb158, _, none⟩) NB150_158.out _).trans (((cell_far (p := ⟨gb158, _, none⟩) NB150_158.out _).trans (((cell_far (p := ⟨gb158, _, none⟩) NB150_158.out _).trans (((cell_far (p := ⟨gb158, _, none⟩) NB150_158.out _).trans (((cell_far (p := ⟨gb158, _, none⟩) NB150_158.out _).trans (((cell_far (p := ⟨gb158, _, none⟩) NB150_158.out _).trans (hHeld.2.2.2.2.1)))))))))))))))), ((cell_far (p := ⟨gb158, _, none⟩) NB150_158.out _).trans (((cell_far (p := ⟨gb158, _, none⟩) NB150_158.out _).trans (((cell_far (p := ⟨gb158, _, none⟩) NB150_158.out _).trans (((cell_far (p := ⟨gb158, _, none⟩) NB150_158.out _).trans (((cell_far (p := ⟨gb158, _, none⟩) NB150_158.out _).trans (((cell_far (p := ⟨gb158, _, none⟩) NB150_158.out _).trans (((cell_far (p := ⟨gb158, _, none⟩) NB150_158.out _).trans (((cell_far (p := ⟨gb158, _, none⟩) NB150_158.out _).trans (hHeld.2.2.2.2.2.1)))))))))))))))), ((cell_far (p := ⟨gb158, _, none⟩) NB150_158.out _).trans (((cell_far (p := ⟨gb158, _, none⟩) NB150_158.out _).trans (((cell_far (p := ⟨gb158, _, none⟩) NB150_158.out _).trans (((cell_far (p := ⟨gb158, _, none⟩) NB150_158.out _).trans (((cell_far (p := ⟨gb158, _, none⟩) NB150_158.out _).trans (((cell_far (p := ⟨gb158, _, none⟩) NB150_158.out _).trans (((cell_far (p := ⟨gb158, _, none⟩) NB150_158.out _).trans (((cell_far (p := ⟨gb158, _, none⟩) NB150_158.out _).trans (hHeld.2.2.2.2.2.2.1)))))))))))))))), ((cell_far (p := ⟨gb158, _, none⟩) NB150_158.out _).trans (((cell_far (p := ⟨gb158, _, none⟩) NB150_158.out _).trans (((cell_far (p := ⟨gb158, _, none⟩) NB150_158.out _).trans (((cell_far (p := ⟨gb158, _, none⟩) NB150_158.out _).trans (((cell_far (p := ⟨gb158, _, none⟩) NB150_158.out _).trans (((cell_far (p := ⟨gb158, _, none⟩) NB150_158.out _).trans (((cell_far (p := ⟨gb158, _, none⟩) NB150_158.out _).trans (((cell_far (p := ⟨gb158, _, none⟩) NB150_158.out _).trans (hHeld.2.2.2.2.2.2.2))))))))))))))))⟩ (fun hHeld => ?_)
      clear hK K
      have n0_ : Aside0 (((((((((w38s.setCell ⟨gb158, 0, none⟩ (.int .i64 t141)).setCell ⟨gb158, 1, none⟩ (.int .i64 t142)).setCell ⟨gb158, 2, none⟩ (.bool t143)).setCell ⟨gb158, 3, none⟩ (.int .i64 t144)).setCell ⟨gb158, 4, none⟩ (.bool t145)).setCell ⟨gb158, 5, none⟩ (.int .i64 t146)).setCell ⟨gb158, 6, none⟩ (.int .i64 t147)).setCell ⟨gb158, 7, none⟩ (.string t148)).heap[gb136]? = some (.cells #[.int .i64 a0_0, .int .i64 a0_1, .int .i64 a0_2] 23 (0, 0))) := ⟨by (with_reducible repeat (first | apply blk_drewN | apply blk_drew | apply blk_alloc)); refine blk_far ?_ NB136_158.out _; refine blk_far ?_ NB136_158.out _; refine blk_far ?_ NB136_158.out _; refine blk_far ?_ NB136_158.out _; refine blk_far ?_ NB136_158.out _; refine blk_far ?_ NB136_158.out _; refine blk_far ?_ NB136_158.out _; refine blk_far ?_ NB136_158.out _; (with_reducible repeat (first | apply blk_drewN | apply blk_drew | apply blk_alloc)); exact BK136.out⟩
      have n1_ : Aside0 (((((((((w38s.setCell ⟨gb158, 0, none⟩ (.int .i64 t141)).setCell ⟨gb158, 1, none⟩ (.int .i64 t142)).setCell ⟨gb158, 2, none⟩ (.bool t143)).setCell ⟨gb158, 3, none⟩ (.int .i64 t144)).setCell ⟨gb158, 4, none⟩ (.bool t145)).setCell ⟨gb158, 5, none⟩ (.int .i64 t146)).setCell ⟨gb158, 6, none⟩ (.int .i64 t147)).setCell ⟨gb158, 7, none⟩ (.string t148)).heap[gb137]? = some (.cells #[.int .i64 a1_0, .int .i64 a1_1] 58 (0, 0))) := ⟨by (with_reducible repeat (first | apply blk_drewN | apply blk_drew | apply blk_alloc)); refine blk_far ?_ NB137_158.out _; refine blk_far ?_ NB137_158.out _; refine blk_far ?_ NB137_158.out _; refine blk_far ?_ NB137_158.out _; refine blk_far ?_ NB137_158.out _; refine blk_far ?_ NB137_158.out _; refine blk_far ?_ NB137_158.out _; refine blk_far ?_ NB137_158.out _; (with_reducible repeat (first | apply blk_drewN | apply blk_drew | apply blk_alloc)); exact BK137.out⟩
      have n2_ : Aside0 (((((((((w38s.setCell ⟨gb158, 0, none⟩ (.int .i64 t141)).setCell ⟨gb158, 1, none⟩ (.int .i64 t142)).setCell ⟨gb158, 2, none⟩ (.bool t143)).setCell ⟨gb158, 3, none⟩ (.int .i64 t144)).setCell ⟨gb158, 4, none⟩ (.bool t145)).setCell ⟨gb158, 5, none⟩ (.int .i64 t146)).setCell ⟨gb158, 6, none⟩ (.int .i64 t147)).setCell ⟨gb158, 7, none⟩ (.string t148)).heap[gb150]? = some (.cells #[.int .i64 t141, .int .i64 t142, .bool t143, .int .i64 t144, .bool t145, .int .i64 t146, .int .i64 t147, .string t148] 38 (0, 0))) := ⟨by (with_reducible repeat (first | apply blk_drewN | apply blk_drew | apply blk_alloc)); refine blk_far ?_ NB150_158.out _; refine blk_far ?_ NB150_158.out _; refine blk_far ?_ NB150_158.out _; refine blk_far ?_ NB150_158.out _; refine blk_far ?_ NB150_158.out _; refine blk_far ?_ NB150_158.out _; refine blk_far ?_ NB150_158.out _; refine blk_far ?_ NB150_158.out _; (with_reducible repeat (first | apply blk_drewN | apply blk_drew | apply blk_alloc)); exact BK150.out⟩
      have n3_ : Aside0 (((((((((w38s.setCell ⟨gb158, 0, none⟩ (.int .i64 t141)).setCell ⟨gb158, 1, none⟩ (.int .i64 t142)).setCell ⟨gb158, 2, none⟩ (.bool t143)).setCell ⟨gb158, 3, none⟩ (.int .i64 t144)).setCell ⟨gb158, 4, none⟩ (.bool t145)).setCell ⟨gb158, 5, none⟩ (.int .i64 t146)).setCell ⟨gb158, 6, none⟩ (.int .i64 t147)).setCell ⟨gb158, 7, none⟩ (.string t148)).heap[gb157]? = some (.cells #[.int .i64 t141, .int .i64 t142, .bool t143, .int .i64 t144, .bool t145, .int .i64 t146, .int .i64 t147, .string t148] 38 (0, 0))) := ⟨by (with_reducible repeat (first | apply blk_drewN | apply blk_drew | apply blk_alloc)); refine blk_far ?_ NB157_158.out _; refine blk_far ?_ NB157_158.out _; refine blk_far ?_ NB157_158.out _; refine blk_far ?_ NB157_158.out _; refine blk_far ?_ NB157_158.out _; refine blk_far ?_ NB157_158.out _; refine blk_far ?_ NB157_158.out _; refine blk_far ?_ NB157_158.out _; (with_reducible repeat (first | apply blk_drewN | apply blk_drew | apply blk_alloc)); exact BK157.out⟩
      have n4_ : Aside0 (((((((((w38s.setCell ⟨gb158, 0, none⟩ (.int .i64 t141)).setCell ⟨gb158, 1, none⟩ (.int .i64 t142)).setCell ⟨gb158, 2, none⟩ (.bool t143)).setCell ⟨gb158, 3, none⟩ (.int .i64 t144)).setCell ⟨gb158, 4, none⟩ (.bool t145)).setCell ⟨gb158, 5, none⟩ (.int .i64 t146)).setCell ⟨gb158, 6, none⟩ (.int .i64 t147)).setCell ⟨gb158, 7, none⟩ (.string t148)).heap[gb158]? = some (.cells #[.int .i64 t141, .int .i64 t142, .bool t143, .int .i64 t144, .bool t145, .int .i64 t146, .int .i64 t147, .string t148] 38 (0, 0))) := ⟨by (with_reducible repeat (first | apply blk_drewN | apply blk_drew | apply blk_alloc)); refine blk_put (cs := #[.int .i64 t141, .int .i64 t142, .bool t143, .int .i64 t144, .bool t145, .int .i64 t146, .int .i64 t147, .string (⟨#[]⟩ : ByteArray)]) ?_ 7 _ rfl; refine blk_put (cs := #[.int .i64 t141, .int .i64 t142, .bool t143, .int .i64 t144, .bool t145, .int .i64 t146, .int .i64 0, .string (⟨#[]⟩ : ByteArray)]) ?_ 6 _ rfl; refine blk_put (cs := #[.int .i64 t141, .int .i64 t142, .bool t143, .int .i64 t144, .bool t145, .int .i64 0, .int .i64 0, .string (⟨#[]⟩ : ByteArray)]) ?_ 5 _ rfl; refine blk_put (cs := #[.int .i64 t141, .int .i64 t142, .bool t143, .int .i64 t144, .bool false, .int .i64 0, .int .i64 0, .string (⟨#[]⟩ : ByteArray)]) ?_ 4 _ rfl; refine blk_put (cs := #[.int .i64 t141, .int .i64 t142, .bool t143, .int .i64 0, .bool false, .int .i64 0, .int .i64 0, .string (⟨#[]⟩ : ByteArray)]) ?_ 3 _ rfl; refine blk_put (cs := #[.int .i64 t141, .int .i64 t142, .bool false, .int .i64 0, .bool false, .int .i64 0, .int .i64 0, .string (⟨#[]⟩ : ByteArray)]) ?_ 2 _ rfl; refine blk_put (cs := #[.int .i64 t141, .int .i64 0, .bool false, .int .i64 0, .bool false, .int .i64 0, .int .i64 0, .string (⟨#[]⟩ : ByteArray)]) ?_ 1 _ rfl; refine blk_put (cs := #[.int .i64 0, .int .i64 0, .bool false, .int .i64 0, .bool false, .int .i64 0, .int .i64 0, .string (⟨#[]⟩ : ByteArray)]) ?_ 0 _ rfl; (with_reducible repeat (first | apply blk_drewN | apply blk_drew | apply blk_alloc)); exact BK158.out⟩
      have n5_ : Aside0 (((((((((w38s.setCell ⟨gb158, 0, none⟩ (.int .i64 t141)).setCell ⟨gb158, 1, none⟩ (.int .i64 t142)).setCell ⟨gb158, 2, none⟩ (.bool t143)).setCell ⟨gb158, 3, none⟩ (.int .i64 t144)).setCell ⟨gb158, 4, none⟩ (.bool t145)).setCell ⟨gb158, 5, none⟩ (.int .i64 t146)).setCell ⟨gb158, 6, none⟩ (.int .i64 t147)).setCell ⟨gb158, 7, none⟩ (.string t148)).heap[gb159]? = some (.cells #[.int .i64 0, .int .i64 0, .bool false, .int .i64 0, .bool false, .int .i64 0, .int .i64 0, .string (⟨#[]⟩ : ByteArray)] 38 (0, 0))) := ⟨by (with_reducible repeat (first | apply blk_drewN | apply blk_drew | apply blk_alloc)); refine blk_far ?_ NB159_158.out _; refine blk_far ?_ NB159_158.out _; refine blk_far ?_ NB159_158.out _; refine blk_far ?_ NB159_158.out _; refine blk_far ?_ NB159_158.out _; refine blk_far ?_ NB159_158.out _; refine blk_far ?_ NB159_158.out _; refine blk_far ?_ NB159_158.out _; (with_reducible repeat (first | apply blk_drewN | apply blk_drew | apply blk_alloc)); exact BK159.out⟩
      have n6_ : Aside0 (Below w.heap.size w ((((((((w38s.setCell ⟨gb158, 0, none⟩ (.int .i64 t141)).setCell ⟨gb158, 1, none⟩ (.int .i64 t142)).setCell ⟨gb158, 2, none⟩ (.bool t143)).setCell ⟨gb158, 3, none⟩ (.int .i64 t144)).setCell ⟨gb158, 4, none⟩ (.bool t145)).setCell ⟨gb158, 5, none⟩ (.int .i64 t146)).setCell ⟨gb158, 6, none⟩ (.int .i64 t147)).setCell ⟨gb158, 7, none⟩ (.string t148))) := ⟨by repeat (first | (with_reducible first | exact HB.out | apply below_alloc | apply pw_below_drewN | apply below_drew1 | refine below_set ?_ GE158.out) | exact HB.out)⟩
      (try clear BK136)
      (try clear BK137)
      (try clear BK150)
      (try clear BK157)
      (try clear BK158)
      (try clear BK159)
      (try clear HB)
      generalize ((((((((w38s.setCell ⟨gb158, 0, none⟩ (.int .i64 t141)).setCell ⟨gb158, 1, none⟩ (.int .i64 t142)).setCell ⟨gb158, 2, none⟩ (.bool t143)).setCell ⟨gb158, 3, none⟩ (.int .i64 t144)).setCell ⟨gb158, 4, none⟩ (.bool t145)).setCell ⟨gb158, 5, none⟩ (.int .i64 t146)).setCell ⟨gb158, 6, none⟩ (.int .i64 t147)).setCell ⟨gb158, 7, none⟩ (.string t148)) = w38ss at n0_ n1_ n2_ n3_ n4_ n5_ n6_ hHeld ⊢
      have BK136 := n0_
      have BK137 := n1_
      have BK150 := n2_
      have BK157 := n3_
      have BK158 := n4_
      have BK159 := n5_
      have HB := n6_
      clear n0_ n1_ n2_ n3_ n4_ n5_ n6_
      refine one_ (i := 8) (N := none) #[tT, tT, tT, tT, tT, tT, tT, tT, tT] rfl rfl (one_of HT_.out (by kernel_rfl)) (by decide) (fun K hK => ?_)
      have hs55 : w38ss.cell? ⟨gb159, 0, none⟩ = some (.int .i64 0) := (blk_cell BK159.out 0).trans rfl
      have hfs55 := blk_frozen BK159.out 0
      have hns55_0 := NB136_159.out
      have hns55_1 := NB137_159.out
      have hns55_2 := NB150_159.out
      have hns55_3 := NB157_159.out
      have hns55_4 := NB158_159.out
      have hms55_0 := NB159_136.out
      have hms55_1 := NB159_137.out
      have hms55_2 := NB159_150.out
      have hms55_3 := NB159_157.out
      have hms55_4 := NB159_158.out
      have hs56 : w38ss.cell? ⟨gb159, 1, none⟩ = some (.int .i64 0) := (blk_cell BK159.out 1).trans rfl
      have hfs56 := blk_frozen BK159.out 1
      have hns56_0 := NB136_159.out
      have hns56_1 := NB137_159.out
      have hns56_2 := NB150_159.out
      have hns56_3 := NB157_159.out
      have hns56_4 := NB158_159.out
      have hms56_0 := NB159_136.out
      have hms56_1 := NB159_137.out
      have hms56_2 := NB159_150.out
      have hms56_3 := NB159_157.out
      have hms56_4 := NB159_158.out
      have hs57 : w38ss.cell? ⟨gb159, 2, none⟩ = some (.bool false) := (blk_cell BK159.out 2).trans rfl
      have hfs57 := blk_frozen BK159.out 2
      have hns57_0 := NB136_159.out
      have hns57_1 := NB137_159.out
      have hns57_2 := NB150_159.out
      have hns57_3 := NB157_159.out
      have hns57_4 := NB158_159.out
      have hms57_0 := NB159_136.out
      have hms57_1 := NB159_137.out
      have hms57_2 := NB159_150.out
      have hms57_3 := NB159_157.out
      have hms57_4 := NB159_158.out
      have hs58 : w38ss.cell? ⟨gb159, 3, none⟩ = some (.int .i64 0) := (blk_cell BK159.out 3).trans rfl
      have hfs58 := blk_frozen BK159.out 3
      have hns58_0 := NB136_159.out
      have hns58_1 := NB137_159.out
      have hns58_2 := NB150_159.out
      have hns58_3 := NB157_159.out
      have hns58_4 := NB158_159.out
      have hms58_0 := NB159_136.out
      have hms58_1 := NB159_137.out
      have hms58_2 := NB159_150.out
      have hms58_3 := NB159_157.out
      have hms58_4 := NB159_158.out
      have hs59 : w38ss.cell? ⟨gb159, 4, none⟩ = some (.bool false) := (blk_cell BK159.out 4).trans rfl
      have hfs59 := blk_frozen BK159.out 4
      have hns59_0 := NB136_159.out
      have hns59_1 := NB137_159.out
      have hns59_2 := NB150_159.out
      have hns59_3 := NB157_159.out
      have hns59_4 := NB158_159.out
      have hms59_0 := NB159_136.out
      have hms59_1 := NB159_137.out
      have hms59_2 := NB159_150.out
      have hms59_3 := NB159_157.out
      have hms59_4 := NB159_158.out
      have hs60 : w38ss.cell? ⟨gb159, 5, none⟩ = some (.int .i64 0) := (blk_cell BK159.out 5).trans rfl
      have hfs60 := blk_frozen BK159.out 5
      have hns60_0 := NB136_159.out
      have hns60_1 := NB137_159.out
      have hns60_2 := NB150_159.out
      have hns60_3 := NB157_159.out
      have hns60_4 := NB158_159.out
      have hms60_0 := NB159_136.out
      have hms60_1 := NB159_137.out
      have hms60_2 := NB159_150.out
      have hms60_3 := NB159_157.out
      have hms60_4 := NB159_158.out
      have hs61 : w38ss.cell? ⟨gb159, 6, none⟩ = some (.int .i64 0) := (blk_cell BK159.out 6).trans rfl
      have hfs61 := blk_frozen BK159.out 6
      have hns61_0 := NB136_159.out
      have hns61_1 := NB137_159.out
      have hns61_2 := NB150_159.out
      have hns61_3 := NB157_159.out
      have hns61_4 := NB158_159.out
      have hms61_0 := NB159_136.out
      have hms61_1 := NB159_137.out
      have hms61_2 := NB159_150.out
      have hms61_3 := NB159_157.out
      have hms61_4 := NB159_158.out
      have hs62 : w38ss.cell? ⟨gb159, 7, none⟩ = some (.string (⟨#[]⟩ : ByteArray)) := (blk_cell BK159.out 7).trans rfl
      have hfs62 := blk_frozen BK159.out 7
      have hns62_0 := NB136_159.out
      have hns62_1 := NB137_159.out
      have hns62_2 := NB150_159.out
      have hns62_3 := NB157_159.out
      have hns62_4 := NB158_159.out
      have hms62_0 := NB159_136.out
      have hms62_1 := NB159_137.out
      have hms62_2 := NB159_150.out
      have hms62_3 := NB159_157.out
      have hms62_4 := NB159_158.out
      refine skip_ (w1 := ?_) (by rfl) rfl ?_ ?_
      rotate_left
      ·go_simp
       rfl
      refine hK.out _ _ ⟨((cell_far (p := ⟨gb159, _, none⟩) NB150_159.out _).trans (((cell_far (p := ⟨gb159, _, none⟩) NB150_159.out _).trans (((cell_far (p := ⟨gb159, _, none⟩) NB150_159.out _).trans (((cell_far (p := ⟨gb159, _, none⟩) NB150_159.out _).trans (((cell_far (p := ⟨gb159, _, none⟩) NB150_159.out _).trans (((cell_far (p := ⟨gb159, _, none⟩) NB150_159.out _).trans (((cell_far (p := ⟨gb159, _, none⟩) NB150_159.out _).trans (((cell_far (p := ⟨gb159, _, none⟩) NB150_159.out _).trans (hHeld.1)))))))))))))))), ((cell_far (p := ⟨gb159, _, none⟩) NB150_159.out _).trans (((cell_far (p := ⟨gb159, _, none⟩) NB150_159.out _).trans (((cell_far (p := ⟨gb159, _, none⟩) NB150_159.out _).trans (((cell_far (p := ⟨gb159, _, none⟩) NB150_159.out _).trans (((cell_far (p := ⟨gb159, _, none⟩) NB150_159.out _).trans (((cell_far (p := ⟨gb159, _, none⟩) NB150_159.out _).trans (((cell_far (p := ⟨gb159, _, none⟩) NB150_159.out _).trans (((cell_far (p := ⟨gb159, _, none⟩) NB150_159.out _).trans (hHeld.2.1)))))))))))))))), ((cell_far (p := ⟨gb159, _, none⟩) NB150_159.out _).trans (((cell_far (p := ⟨gb159, _, none⟩) NB150_159.out _).trans (((cell_far (p := ⟨gb159, _, none⟩) NB150_159.out _).trans (((cell_far (p := ⟨gb159, _, none⟩) NB150_159.out _).trans (((cell_far (p := ⟨gb159, _, none⟩) NB150_159.out _).trans (((cell_far (p := ⟨gb159, _, none⟩) NB150_159.out _).trans (((cell_far (p := ⟨gb159, _, none⟩) NB150_159.out _).trans (((cell_far (p := ⟨gb159, _, none⟩) NB150_159.out _).trans (hHeld.2.2.1)))))))))))))))), ((cell_far (p := ⟨gb159, _, none⟩) NB150_159.out _).trans (((cell_far (p := ⟨gb159, _, none⟩) NB150_159.out _).trans (((cell_far (p := ⟨gb159, _, none⟩) NB150_159.out _).trans (((cell_far (p := ⟨gb159, _, none⟩) NB150_159.out _).trans (((cell_far (p := ⟨gb159, _, none⟩) NB150_159.out _).trans (((cell_far (p := ⟨gb159, _, none⟩) NB150_159.out _).trans (((cell_far (p := ⟨gb159, _, none⟩) NB150_159.out _).trans (((cell_far (p := ⟨gb159, _, none⟩) NB150_159.out _).trans (hHeld.2.2.2.1)))))))))))))))), ((cell_far (p := ⟨gb159, _, none⟩) NB150_159.out _).trans (((cell_far (p := ⟨gb159, _, none⟩) NB150_159.out _).trans (((cell_far (p := ⟨gb159, _, none⟩) NB150_159.out _).trans (((cell_far (p := ⟨gb159, _, none⟩) NB150_159.out _).trans (((cell_far (p := ⟨gb159, _, none⟩) NB150_159.out _).trans (((cell_far (p := ⟨gb159, _, none⟩) NB150_159.out _).trans (((cell_far (p := ⟨gb159, _, none⟩) NB150_159.out _).trans (((cell_far (p := ⟨gb159, _, none⟩) NB150_159.out _).trans (hHeld.2.2.2.2.1)))))))))))))))), ((cell_far (p := ⟨gb159, _, none⟩) NB150_159.out _).trans (((cell_far (p := ⟨gb159, _, none⟩) NB150_159.out _).trans (((cell_far (p := ⟨gb159, _, none⟩) NB150_159.out _).trans (((cell_far (p := ⟨gb159, _, none⟩) NB150_159.out _).trans (((cell_far (p := ⟨gb159, _, none⟩) NB150_159.out _).trans (((cell_far (p := ⟨gb159, _, none⟩) NB150_159.out _).trans (((cell_far (p := ⟨gb159, _, none⟩) NB150_159.out _).trans (((cell_far (p := ⟨gb159, _, none⟩) NB150_159.out _).trans (hHeld.2.2.2.2.2.1)))))))))))))))), ((cell_far (p := ⟨gb159, _, none⟩) NB150_159.out _).trans (((cell_far (p := ⟨gb159, _, none⟩) NB150_159.out _).trans (((cell_far (p := ⟨gb159, _, none⟩) NB150_159.out _).trans (((cell_far (p := ⟨gb159, _, none⟩) NB150_159.out _).trans (((cell_far (p := ⟨gb159, _, none⟩) NB150_159.out _).trans (((cell_far (p := ⟨gb159, _, none⟩) NB150_159.out _).trans (((cell_far (p := ⟨gb159, _, none⟩) NB150_159.out _).trans (((cell_far (p := ⟨gb159, _, none⟩) NB150_159.out _).trans (hHeld.2.2.2.2.2.2.1)))))))))))))))), ((cell_far (p := ⟨gb159, _, none⟩) NB150_159.out _).trans (((cell_far (p := ⟨gb159, _, none⟩) NB150_159.out _).trans (((cell_far (p := ⟨gb159, _, none⟩) NB150_159.out _).trans (((cell_far (p := ⟨gb159, _, none⟩) NB150_159.out _).trans (((cell_far (p := ⟨gb159, _, none⟩) NB150_159.out _).trans (((cell_far (p := ⟨gb159, _, none⟩) NB150_159.out _).trans (((cell_far (p := ⟨gb159, _, none⟩) NB150_159.out _).trans (((cell_far (p := ⟨gb159, _, none⟩) NB150_159.out _).trans (hHeld.2.2.2.2.2.2.2))))))))))))))))⟩ (fun hHeld => ?_)
      clear hK K
      refine done_ (done_of HT_.out (by kernel_rfl)) ?_
      have n0_ : Aside0 (((((((((w38ss.setCell ⟨gb159, 0, none⟩ (.int .i64 t141)).setCell ⟨gb159, 1, none⟩ (.int .i64 t142)).setCell ⟨gb159, 2, none⟩ (.bool t143)).setCell ⟨gb159, 3, none⟩ (.int .i64 t144)).setCell ⟨gb159, 4, none⟩ (.bool t145)).setCell ⟨gb159, 5, none⟩ (.int .i64 t146)).setCell ⟨gb159, 6, none⟩ (.int .i64 t147)).setCell ⟨gb159, 7, none⟩ (.string t148)).heap[gb136]? = some (.cells #[.int .i64 a0_0, .int .i64 a0_1, .int .i64 a0_2] 23 (0, 0))) := ⟨by (with_reducible repeat (first | apply blk_drewN | apply blk_drew | apply blk_alloc)); refine blk_far ?_ NB136_159.out _; refine blk_far ?_ NB136_159.out _; refine blk_far ?_ NB136_159.out _; refine blk_far ?_ NB136_159.out _; refine blk_far ?_ NB136_159.out _; refine blk_far ?_ NB136_159.out _; refine blk_far ?_ NB136_159.out _; refine blk_far ?_ NB136_159.out _; (with_reducible repeat (first | apply blk_drewN | apply blk_drew | apply blk_alloc)); exact BK136.out⟩
      have n1_ : Aside0 (((((((((w38ss.setCell ⟨gb159, 0, none⟩ (.int .i64 t141)).setCell ⟨gb159, 1, none⟩ (.int .i64 t142)).setCell ⟨gb159, 2, none⟩ (.bool t143)).setCell ⟨gb159, 3, none⟩ (.int .i64 t144)).setCell ⟨gb159, 4, none⟩ (.bool t145)).setCell ⟨gb159, 5, none⟩ (.int .i64 t146)).setCell ⟨gb159, 6, none⟩ (.int .i64 t147)).setCell ⟨gb159, 7, none⟩ (.string t148)).heap[gb137]? = some (.cells #[.int .i64 a1_0, .int .i64 a1_1] 58 (0, 0))) := ⟨by (with_reducible repeat (first | apply blk_drewN | apply blk_drew | apply blk_alloc)); refine blk_far ?_ NB137_159.out _; refine blk_far ?_ NB137_159.out _; refine blk_far ?_ NB137_159.out _; refine blk_far ?_ NB137_159.out _; refine blk_far ?_ NB137_159.out _; refine blk_far ?_ NB137_159.out _; refine blk_far ?_ NB137_159.out _; refine blk_far ?_ NB137_159.out _; (with_reducible repeat (first | apply blk_drewN | apply blk_drew | apply blk_alloc)); exact BK137.out⟩
      have n2_ : Aside0 (((((((((w38ss.setCell ⟨gb159, 0, none⟩ (.int .i64 t141)).setCell ⟨gb159, 1, none⟩ (.int .i64 t142)).setCell ⟨gb159, 2, none⟩ (.bool t143)).setCell ⟨gb159, 3, none⟩ (.int .i64 t144)).setCell ⟨gb159, 4, none⟩ (.bool t145)).setCell ⟨gb159, 5, none⟩ (.int .i64 t146)).setCell ⟨gb159, 6, none⟩ (.int .i64 t147)).setCell ⟨gb159, 7, none⟩ (.string t148)).heap[gb150]? = some (.cells #[.int .i64 t141, .int .i64 t142, .bool t143, .int .i64 t144, .bool t145, .int .i64 t146, .int .i64 t147, .string t148] 38 (0, 0))) := ⟨by (with_reducible repeat (first | apply blk_drewN | apply blk_drew | apply blk_alloc)); refine blk_far ?_ NB150_159.out _; refine blk_far ?_ NB150_159.out _; refine blk_far ?_ NB150_159.out _; refine blk_far ?_ NB150_159.out _; refine blk_far ?_ NB150_159.out _; refine blk_far ?_ NB150_159.out _; refine blk_far ?_ NB150_159.out _; refine blk_far ?_ NB150_159.out _; (with_reducible repeat (first | apply blk_drewN | apply blk_drew | apply blk_alloc)); exact BK150.out⟩
      have n3_ : Aside0 (((((((((w38ss.setCell ⟨gb159, 0, none⟩ (.int .i64 t141)).setCell ⟨gb159, 1, none⟩ (.int .i64 t142)).setCell ⟨gb159, 2, none⟩ (.bool t143)).setCell ⟨gb159, 3, none⟩ (.int .i64 t144)).setCell ⟨gb159, 4, none⟩ (.bool t145)).setCell ⟨gb159, 5, none⟩ (.int .i64 t146)).setCell ⟨gb159, 6, none⟩ (.int .i64 t147)).setCell ⟨gb159, 7, none⟩ (.string t148)).heap[gb157]? = some (.cells #[.int .i64 t141, .int .i64 t142, .bool t143, .int .i64 t144, .bool t145, .int .i64 t146, .int .i64 t147, .string t148] 38 (0, 0))) := ⟨by (with_reducible repeat (first | apply blk_drewN | apply blk_drew | apply blk_alloc)); refine blk_far ?_ NB157_159.out _; refine blk_far ?_ NB157_159.out _; refine blk_far ?_ NB157_159.out _; refine blk_far ?_ NB157_159.out _; refine blk_far ?_ NB157_159.out _; refine blk_far ?_ NB157_159.out _; refine blk_far ?_ NB157_159.out _; refine blk_far ?_ NB157_159.out _; (with_reducible repeat (first | apply blk_drewN | apply blk_drew | apply blk_alloc)); exact BK157.out⟩
      have n4_ : Aside0 (((((((((w38ss.setCell ⟨gb159, 0, none⟩ (.int .i64 t141)).setCell ⟨gb159, 1, none⟩ (.int .i64 t142)).setCell ⟨gb159, 2, none⟩ (.bool t143)).setCell ⟨gb159, 3, none⟩ (.int .i64 t144)).setCell ⟨gb159, 4, none⟩ (.bool t145)).setCell ⟨gb159, 5, none⟩ (.int .i64 t146)).setCell ⟨gb159, 6, none⟩ (.int .i64 t147)).setCell ⟨gb159, 7, none⟩ (.string t148)).heap[gb158]? = some (.cells #[.int .i64 t141, .int .i64 t142, .bool t143, .int .i64 t144, .bool t145, .int .i64 t146, .int .i64 t147, .string t148] 38 (0, 0))) := ⟨by (with_reducible repeat (first | apply blk_drewN | apply blk_drew | apply blk_alloc)); refine blk_far ?_ NB158_159.out _; refine blk_far ?_ NB158_159.out _; refine blk_far ?_ NB158_159.out _; refine blk_far ?_ NB158_159.out _; refine blk_far ?_ NB158_159.out _; refine blk_far ?_ NB158_159.out _; refine blk_far ?_ NB158_159.out _; refine blk_far ?_ NB158_159.out _; (with_reducible repeat (first | apply blk_drewN | apply blk_drew | apply blk_alloc)); exact BK158.out⟩
      have n5_ : Aside0 (((((((((w38ss.setCell ⟨gb159, 0, none⟩ (.int .i64 t141)).setCell ⟨gb159, 1, none⟩ (.int .i64 t142)).setCell ⟨gb159, 2, none⟩ (.bool t143)).setCell ⟨gb159, 3, none⟩ (.int .i64 t144)).setCell ⟨gb159, 4, none⟩ (.bool t145)).setCell ⟨gb159, 5, none⟩ (.int .i64 t146)).setCell ⟨gb159, 6, none⟩ (.int .i64 t147)).setCell ⟨gb159, 7, none⟩ (.string t148)).heap[gb159]? = some (.cells #[.int .i64 t141, .int .i64 t142, .bool t143, .int .i64 t144, .bool t145, .int .i64 t146, .int .i64 t147, .string t148] 38 (0, 0))) := ⟨by (with_reducible repeat (first | apply blk_drewN | apply blk_drew | apply blk_alloc)); refine blk_put (cs := #[.int .i64 t141, .int .i64 t142, .bool t143, .int .i64 t144, .bool t145, .int .i64 t146, .int .i64 t147, .string (⟨#[]⟩ : ByteArray)]) ?_ 7 _ rfl; refine blk_put (cs := #[.int .i64 t141, .int .i64 t142, .bool t143, .int .i64 t144, .bool t145, .int .i64 t146, .int .i64 0, .string (⟨#[]⟩ : ByteArray)]) ?_ 6 _ rfl; refine blk_put (cs := #[.int .i64 t141, .int .i64 t142, .bool t143, .int .i64 t144, .bool t145, .int .i64 0, .int .i64 0, .string (⟨#[]⟩ : ByteArray)]) ?_ 5 _ rfl; refine blk_put (cs := #[.int .i64 t141, .int .i64 t142, .bool t143, .int .i64 t144, .bool false, .int .i64 0, .int .i64 0, .string (⟨#[]⟩ : ByteArray)]) ?_ 4 _ rfl; refine blk_put (cs := #[.int .i64 t141, .int .i64 t142, .bool t143, .int .i64 0, .bool false, .int .i64 0, .int .i64 0, .string (⟨#[]⟩ : ByteArray)]) ?_ 3 _ rfl; refine blk_put (cs := #[.int .i64 t141, .int .i64 t142, .bool false, .int .i64 0, .bool false, .int .i64 0, .int .i64 0, .string (⟨#[]⟩ : ByteArray)]) ?_ 2 _ rfl; refine blk_put (cs := #[.int .i64 t141, .int .i64 0, .bool false, .int .i64 0, .bool false, .int .i64 0, .int .i64 0, .string (⟨#[]⟩ : ByteArray)]) ?_ 1 _ rfl; refine blk_put (cs := #[.int .i64 0, .int .i64 0, .bool false, .int .i64 0, .bool false, .int .i64 0, .int .i64 0, .string (⟨#[]⟩ : ByteArray)]) ?_ 0 _ rfl; (with_reducible repeat (first | apply blk_drewN | apply blk_drew | apply blk_alloc)); exact BK159.out⟩
      have n6_ : Aside0 (Below w.heap.size w ((((((((w38ss.setCell ⟨gb159, 0, none⟩ (.int .i64 t141)).setCell ⟨gb159, 1, none⟩ (.int .i64 t142)).setCell ⟨gb159, 2, none⟩ (.bool t143)).setCell ⟨gb159, 3, none⟩ (.int .i64 t144)).setCell ⟨gb159, 4, none⟩ (.bool t145)).setCell ⟨gb159, 5, none⟩ (.int .i64 t146)).setCell ⟨gb159, 6, none⟩ (.int .i64 t147)).setCell ⟨gb159, 7, none⟩ (.string t148))) := ⟨by repeat (first | (with_reducible first | exact HB.out | apply below_alloc | apply pw_below_drewN | apply below_drew1 | refine below_set ?_ GE159.out) | exact HB.out)⟩
      (try clear BK136)
      (try clear BK137)
      (try clear BK150)
      (try clear BK157)
      (try clear BK158)
      (try clear BK159)
      (try clear HB)
      generalize ((((((((w38ss.setCell ⟨gb159, 0, none⟩ (.int .i64 t141)).setCell ⟨gb159, 1, none⟩ (.int .i64 t142)).setCell ⟨gb159, 2, none⟩ (.bool t143)).setCell ⟨gb159, 3, none⟩ (.int .i64 t144)).setCell ⟨gb159, 4, none⟩ (.bool t145)).setCell ⟨gb159, 5, none⟩ (.int .i64 t146)).setCell ⟨gb159, 6, none⟩ (.int .i64 t147)).setCell ⟨gb159, 7, none⟩ (.string t148)) = w38sss at n0_ n1_ n2_ n3_ n4_ n5_ n6_ ⊢
      have BK136 := n0_
      have BK137 := n1_
      have BK150 := n2_
      have BK157 := n3_
      have BK158 := n4_
      have BK159 := n5_
      have HB := n6_
      clear n0_ n1_ n2_ n3_ n4_ n5_ n6_
      have hnb63 := NB137_150.out
      have hnc63 := NB150_137.out
      have hnb64 := NB137_157.out
      have hnc64 := NB157_137.out
      have hnb65 := NB137_158.out
      have hnc65 := NB158_137.out
      have hnb66 := NB137_159.out
      have hnc66 := NB159_137.out
      have hcz67_0 : w38sss.cell? ⟨gb137, 0, none⟩ = some (.int .i64 a1_0) := (blk_cell BK137.out 0).trans rfl
      have hcz67_1 : w38sss.cell? ⟨gb137, 1, none⟩ = some (.int .i64 a1_1) := (blk_cell BK137.out 1).trans rfl
      have hfz67_0 := blk_frozen BK137.out 0
      have hfz67_1 := blk_frozen BK137.out 1
      have hnb68 := NB157_136.out
      have hnc68 := NB136_157.out
      have hnb69 := NB157_150.out
      have hnc69 := NB150_157.out
      have hnb70 := NB157_158.out
      have hnc70 := NB158_157.out
      have hnb71 := NB157_159.out
      have hnc71 := NB159_157.out
      have hcz72_0 : w38sss.cell? ⟨gb157, 0, none⟩ = some (.int .i64 t141) := (blk_cell BK157.out 0).trans rfl
      have hcz72_1 : w38sss.cell? ⟨gb157, 1, none⟩ = some (.int .i64 t142) := (blk_cell BK157.out 1).trans rfl
      have hcz72_2 : w38sss.cell? ⟨gb157, 2, none⟩ = some (.bool t143) := (blk_cell BK157.out 2).trans rfl
      have hcz72_3 : w38sss.cell? ⟨gb157, 3, none⟩ = some (.int .i64 t144) := (blk_cell BK157.out 3).trans rfl
      have hcz72_4 : w38sss.cell? ⟨gb157, 4, none⟩ = some (.bool t145) := (blk_cell BK157.out 4).trans rfl
      have hcz72_5 : w38sss.cell? ⟨gb157, 5, none⟩ = some (.int .i64 t146) := (blk_cell BK157.out 5).trans rfl
      have hcz72_6 : w38sss.cell? ⟨gb157, 6, none⟩ = some (.int .i64 t147) := (blk_cell BK157.out 6).trans rfl
      have hcz72_7 : w38sss.cell? ⟨gb157, 7, none⟩ = some (.string t148) := (blk_cell BK157.out 7).trans rfl
      have hfz72_0 := blk_frozen BK157.out 0
      have hfz72_1 := blk_frozen BK157.out 1
      have hfz72_2 := blk_frozen BK157.out 2
      have hfz72_3 := blk_frozen BK157.out 3
      have hfz72_4 := blk_frozen BK157.out 4
      have hfz72_5 := blk_frozen BK157.out 5
      have hfz72_6 := blk_frozen BK157.out 6
      have hfz72_7 := blk_frozen BK157.out 7
      have hnb73 := NB158_136.out
      have hnc73 := NB136_158.out
      have hnb74 := NB158_150.out
      have hnc74 := NB150_158.out
      have hnb75 := NB158_159.out
      have hnc75 := NB159_158.out
      have hcz76_0 : w38sss.cell? ⟨gb158, 0, none⟩ = some (.int .i64 t141) := (blk_cell BK158.out 0).trans rfl
      have hcz76_1 : w38sss.cell? ⟨gb158, 1, none⟩ = some (.int .i64 t142) := (blk_cell BK158.out 1).trans rfl
      have hcz76_2 : w38sss.cell? ⟨gb158, 2, none⟩ = some (.bool t143) := (blk_cell BK158.out 2).trans rfl
      have hcz76_3 : w38sss.cell? ⟨gb158, 3, none⟩ = some (.int .i64 t144) := (blk_cell BK158.out 3).trans rfl
      have hcz76_4 : w38sss.cell? ⟨gb158, 4, none⟩ = some (.bool t145) := (blk_cell BK158.out 4).trans rfl
      have hcz76_5 : w38sss.cell? ⟨gb158, 5, none⟩ = some (.int .i64 t146) := (blk_cell BK158.out 5).trans rfl
      have hcz76_6 : w38sss.cell? ⟨gb158, 6, none⟩ = some (.int .i64 t147) := (blk_cell BK158.out 6).trans rfl
      have hcz76_7 : w38sss.cell? ⟨gb158, 7, none⟩ = some (.string t148) := (blk_cell BK158.out 7).trans rfl
      have hfz76_0 := blk_frozen BK158.out 0
      have hfz76_1 := blk_frozen BK158.out 1
      have hfz76_2 := blk_frozen BK158.out 2
      have hfz76_3 := blk_frozen BK158.out 3
      have hfz76_4 := blk_frozen BK158.out 4
      have hfz76_5 := blk_frozen BK158.out 5
      have hfz76_6 := blk_frozen BK158.out 6
      have hfz76_7 := blk_frozen BK158.out 7
      have hnb77 := NB159_136.out
      have hnc77 := NB136_159.out
      have hnb78 := NB159_150.out
      have hnc78 := NB150_159.out
      have hcz79_0 : w38sss.cell? ⟨gb159, 0, none⟩ = some (.int .i64 t141) := (blk_cell BK159.out 0).trans rfl
      have hcz79_1 : w38sss.cell? ⟨gb159, 1, none⟩ = some (.int .i64 t142) := (blk_cell BK159.out 1).trans rfl
      have hcz79_2 : w38sss.cell? ⟨gb159, 2, none⟩ = some (.bool t143) := (blk_cell BK159.out 2).trans rfl
      have hcz79_3 : w38sss.cell? ⟨gb159, 3, none⟩ = some (.int .i64 t144) := (blk_cell BK159.out 3).trans rfl
      have hcz79_4 : w38sss.cell? ⟨gb159, 4, none⟩ = some (.bool t145) := (blk_cell BK159.out 4).trans rfl
      have hcz79_5 : w38sss.cell? ⟨gb159, 5, none⟩ = some (.int .i64 t146) := (blk_cell BK159.out 5).trans rfl
      have hcz79_6 : w38sss.cell? ⟨gb159, 6, none⟩ = some (.int .i64 t147) := (blk_cell BK159.out 6).trans rfl
      have hcz79_7 : w38sss.cell? ⟨gb159, 7, none⟩ = some (.string t148) := (blk_cell BK159.out 7).trans rfl
      have hfz79_0 := blk_frozen BK159.out 0
      have hfz79_1 := blk_frozen BK159.out 1
      have hfz79_2 := blk_frozen BK159.out 2
      have hfz79_3 := blk_frozen BK159.out 3
      have hfz79_4 := blk_frozen BK159.out 4
      have hfz79_5 := blk_frozen BK159.out 5
      have hfz79_6 := blk_frozen BK159.out 6
      have hfz79_7 := blk_frozen BK159.out 7
      try go_wp2_with (first | ((with_reducible refine gate_callee (f := 17) rfl ?_); refine goesL_ (some 50) rfl rfl Tryd.func17 (by kernel_rfl) rfl #[.agg #[.int .i64 a1_0, .int .i64 a1_1, .bool t143, .int .i64 t144, .bool t145, .int .i64 t146, .int .i64 t147, .string t148], .bool t156] rfl (by (try simp only [List.map_toArray, List.map_cons, List.map_nil]); first | done | rfl) ?_; (with_reducible refine (teimsg_Of.calls a1_0 a1_1 t143 t144 t145 t146 t147 t148 t156 t160 t161 t162 t163 _ ?side1 A25.out).mono ?_); (case side1 => first | (with_reducible exact HL.out) | (with_reducible exact YtmgiolpooamkkaaDoorX.Laid_drewN HL.out _) | exact YtmgiolpooamkkaaDoorX.Laid_below HL.out (by repeat (first | (with_reducible first | exact HB.out | apply below_alloc | apply pw_below_drewN | apply below_drew1 | refine below_set ?_ GE136.out | refine below_set ?_ GE137.out | refine below_set ?_ GE150.out | refine below_set ?_ GE157.out | refine below_set ?_ GE158.out | refine below_set ?_ GE159.out) | exact HB.out))); rintro e w80 ⟨rfl, hb⟩; refine ⟨_, rfl, ?_⟩; have n0_ := Aside0.mk (blk_below (g := gb136) (o := .cells #[.int .i64 a0_0, .int .i64 a0_1, .int .i64 a0_2] 23 (0, 0)) (by (with_reducible repeat (first | apply blk_drewN | apply blk_drew | apply blk_alloc)); refine blk_far ?_ NB136_159.out _; (with_reducible repeat (first | apply blk_drewN | apply blk_drew | apply blk_alloc)); refine blk_far ?_ NB136_158.out _; (with_reducible repeat (first | apply blk_drewN | apply blk_drew | apply blk_alloc)); refine blk_far ?_ NB136_157.out _; (with_reducible repeat (first | apply blk_drewN | apply blk_drew | apply blk_alloc)); refine blk_far ?_ NB136_157.out _; (with_reducible repeat (first | apply blk_drewN | apply blk_drew | apply blk_alloc)); exact BK136.out) hb); have n1_ := Aside0.mk (blk_below (g := gb137) (o := .cells #[.int .i64 a1_0, .int .i64 a1_1] 58 (0, 0)) (by (with_reducible repeat (first | apply blk_drewN | apply blk_drew | apply blk_alloc)); refine blk_far ?_ NB137_159.out _; (with_reducible repeat (first | apply blk_drewN | apply blk_drew | apply blk_alloc)); refine blk_far ?_ NB137_158.out _; (with_reducible repeat (first | apply blk_drewN | apply blk_drew | apply blk_alloc)); refine blk_far ?_ NB137_157.out _; (with_reducible repeat (first | apply blk_drewN | apply blk_drew | apply blk_alloc)); refine blk_far ?_ NB137_157.out _; (with_reducible repeat (first | apply blk_drewN | apply blk_drew | apply blk_alloc)); exact BK137.out) hb); have n2_ := Aside0.mk (blk_below (g := gb150) (o := .cells #[.int .i64 t141, .int .i64 t142, .bool t143, .int .i64 t144, .bool t145, .int .i64 t146, .int .i64 t147, .string t148] 38 (0, 0)) (by (with_reducible repeat (first | apply blk_drewN | apply blk_drew | apply blk_alloc)); refine blk_far ?_ NB150_159.out _; (with_reducible repeat (first | apply blk_drewN | apply blk_drew | apply blk_alloc)); refine blk_far ?_ NB150_158.out _; (with_reducible repeat (first | apply blk_drewN | apply blk_drew | apply blk_alloc)); refine blk_far ?_ NB150_157.out _; (with_reducible repeat (first | apply blk_drewN | apply blk_drew | apply blk_alloc)); refine blk_far ?_ NB150_157.out _; (with_reducible repeat (first | apply blk_drewN | apply blk_drew | apply blk_alloc)); exact BK150.out) hb); have n3_ := Aside0.mk (blk_below (g := gb157) (o := .cells #[.int .i64 a1_0, .int .i64 a1_1, .bool t143, .int .i64 t144, .bool t145, .int .i64 t146, .int .i64 t147, .string t148] 38 (0, 0)) (by (with_reducible repeat (first | apply blk_drewN | apply blk_drew | apply blk_alloc)); refine blk_far ?_ NB157_159.out _; (with_reducible repeat (first | apply blk_drewN | apply blk_drew | apply blk_alloc)); refine blk_far ?_ NB157_158.out _; (with_reducible repeat (first | apply blk_drewN | apply blk_drew | apply blk_alloc)); refine blk_put (cs := #[.int .i64 a1_0, .int .i64 t142, .bool t143, .int .i64 t144, .bool t145, .int .i64 t146, .int .i64 t147, .string t148]) ?_ 1 _ rfl; (with_reducible repeat (first | apply blk_drewN | apply blk_drew | apply blk_alloc)); refine blk_put (cs := #[.int .i64 t141, .int .i64 t142, .bool t143, .int .i64 t144, .bool t145, .int .i64 t146, .int .i64 t147, .string t148]) ?_ 0 _ rfl; (with_reducible repeat (first | apply blk_drewN | apply blk_drew | apply blk_alloc)); exact BK157.out) hb); have n4_ := Aside0.mk (blk_below (g := gb158) (o := .cells #[.int .i64 t141, .int .i64 t142, .bool t143, .int .i64 a1_0, .bool t145, .int .i64 t146, .int .i64 t147, .string t148] 38 (0, 0)) (by (with_reducible repeat (first | apply blk_drewN | apply blk_drew | apply blk_alloc)); refine blk_far ?_ NB158_159.out _; (with_reducible repeat (first | apply blk_drewN | apply blk_drew | apply blk_alloc)); refine blk_put (cs := #[.int .i64 t141, .int .i64 t142, .bool t143, .int .i64 t144, .bool t145, .int .i64 t146, .int .i64 t147, .string t148]) ?_ 3 _ rfl; (with_reducible repeat (first | apply blk_drewN | apply blk_drew | apply blk_alloc)); refine blk_far ?_ NB158_157.out _; (with_reducible repeat (first | apply blk_drewN | apply blk_drew | apply blk_alloc)); refine blk_far ?_ NB158_157.out _; (with_reducible repeat (first | apply blk_drewN | apply blk_drew | apply blk_alloc)); exact BK158.out) hb); have n5_ := Aside0.mk (blk_below (g := gb159) (o := .cells #[.int .i64 t141, .int .i64 t142, .bool false, .int .i64 t144, .bool t145, .int .i64 t146, .int .i64 t147, .string t148] 38 (0, 0)) (by (with_reducible repeat (first | apply blk_drewN | apply blk_drew | apply blk_alloc)); refine blk_put (cs := #[.int .i64 t141, .int .i64 t142, .bool t143, .int .i64 t144, .bool t145, .int .i64 t146, .int .i64 t147, .string t148]) ?_ 2 _ rfl; (with_reducible repeat (first | apply blk_drewN | apply blk_drew | apply blk_alloc)); refine blk_far ?_ NB159_158.out _; (with_reducible repeat (first | apply blk_drewN | apply blk_drew | apply blk_alloc)); refine blk_far ?_ NB159_157.out _; (with_reducible repeat (first | apply blk_drewN | apply blk_drew | apply blk_alloc)); refine blk_far ?_ NB159_157.out _; (with_reducible repeat (first | apply blk_drewN | apply blk_drew | apply blk_alloc)); exact BK159.out) hb); have n6_ := Aside0.mk (below_step (by repeat (first | (with_reducible first | exact HB.out | apply below_alloc | apply pw_below_drewN | apply below_drew1 | refine below_set ?_ GE136.out | refine below_set ?_ GE137.out | refine below_set ?_ GE150.out | refine below_set ?_ GE157.out | refine below_set ?_ GE158.out | refine below_set ?_ GE159.out) | exact HB.out)) hb); clear BK136; clear BK137; clear BK150; clear BK157; clear BK158; clear BK159; clear HB; have BK136 := n0_; have BK137 := n1_; have BK150 := n2_; have BK157 := n3_; have BK158 := n4_; have BK159 := n5_; have HB := n6_; clear n0_ n1_ n2_ n3_ n4_ n5_ n6_; (try clear hb); (try clear hb2); (try clear hk); (try clear hi)) | ((with_reducible refine gate_dst (N := 11) rfl ?_); refine box_event ?hg (N := 11) ?hd (cs := #[.int .i64 0, .int .i64 0, .int .i64 0]) (t := 29) ?hr ?_; (case hd => rfl); (case hg => rfl); (case hr => first | (go_simp; done) | (go_simp; rfl)); intro gb164 hg w81 hbox hb; have n0_ := Aside0.mk (blk_below (g := gb136) (o := .cells #[.int .i64 a0_0, .int .i64 a0_1, .int .i64 a0_2] 23 (0, 0)) (by (with_reducible repeat (first | apply blk_drewN | apply blk_drew | apply blk_alloc)); exact BK136.out) hb); have n1_ := Aside0.mk (blk_below (g := gb137) (o := .cells #[.int .i64 a1_0, .int .i64 a1_1] 58 (0, 0)) (by (with_reducible repeat (first | apply blk_drewN | apply blk_drew | apply blk_alloc)); exact BK137.out) hb); have n2_ := Aside0.mk (blk_below (g := gb150) (o := .cells #[.int .i64 t141, .int .i64 t142, .bool t143, .int .i64 t144, .bool t145, .int .i64 t146, .int .i64 t147, .string t148] 38 (0, 0)) (by (with_reducible repeat (first | apply blk_drewN | apply blk_drew | apply blk_alloc)); exact BK150.out) hb); have n3_ := Aside0.mk (blk_below (g := gb157) (o := .cells #[.int .i64 a1_0, .int .i64 a1_1, .bool t143, .int .i64 t144, .bool t145, .int .i64 t146, .int .i64 t147, .string t148] 38 (0, 0)) (by (with_reducible repeat (first | apply blk_drewN | apply blk_drew | apply blk_alloc)); exact BK157.out) hb); have n4_ := Aside0.mk (blk_below (g := gb158) (o := .cells #[.int .i64 t141, .int .i64 t142, .bool t143, .int .i64 a1_0, .bool t145, .int .i64 t146, .int .i64 t147, .string t148] 38 (0, 0)) (by (with_reducible repeat (first | apply blk_drewN | apply blk_drew | apply blk_alloc)); exact BK158.out) hb); have n5_ := Aside0.mk (blk_below (g := gb159) (o := .cells #[.int .i64 t141, .int .i64 t142, .bool false, .int .i64 t144, .bool t145, .int .i64 t146, .int .i64 t147, .string t148] 38 (0, 0)) (by (with_reducible repeat (first | apply blk_drewN | apply blk_drew | apply blk_alloc)); exact BK159.out) hb); have n6_ := Aside0.mk (below_step (by repeat (first | (with_reducible first | exact HB.out | apply below_alloc | apply pw_below_drewN | apply below_drew1 | refine below_set ?_ GE136.out | refine below_set ?_ GE137.out | refine below_set ?_ GE150.out | refine below_set ?_ GE157.out | refine below_set ?_ GE158.out | refine below_set ?_ GE159.out) | exact HB.out)) hb); have n7_ := Aside0.mk (hbox); have n8_ := Aside0.mk ((by rw [hg]; exact (below_size (by repeat (first | (with_reducible first | exact HB.out | apply below_alloc | apply pw_below_drewN | apply below_drew1 | refine below_set ?_ GE136.out | refine below_set ?_ GE137.out | refine below_set ?_ GE150.out | refine below_set ?_ GE157.out | refine below_set ?_ GE158.out | refine below_set ?_ GE159.out) | exact HB.out))) : w.heap.size ≤ gb164)); have n9_ := n8_; have n10_ := Aside0.mk ((by rw [hg]; exact Nat.ne_of_lt (blk_lt (g := gb136) (o := .cells #[.int .i64 a0_0, .int .i64 a0_1, .int .i64 a0_2] 23 (0, 0)) (by (with_reducible repeat (first | apply blk_drewN | apply blk_drew | apply blk_alloc)); exact BK136.out)) : gb136 ≠ gb164)); have n11_ := Aside0.mk (Ne.symm n10_.out); have n12_ := Aside0.mk ((by rw [hg]; exact Nat.ne_of_lt (blk_lt (g := gb137) (o := .cells #[.int .i64 a1_0, .int .i64 a1_1] 58 (0, 0)) (by (with_reducible repeat (first | apply blk_drewN | apply blk_drew | apply blk_alloc)); exact BK137.out)) : gb137 ≠ gb164)); have n13_ := Aside0.mk (Ne.symm n12_.out); have n14_ := Aside0.mk ((by rw [hg]; exact Nat.ne_of_lt (blk_lt (g := gb150) (o := .cells #[.int .i64 t141, .int .i64 t142, .bool t143, .int .i64 t144, .bool t145, .int .i64 t146, .int .i64 t147, .string t148] 38 (0, 0)) (by (with_reducible repeat (first | apply blk_drewN | apply blk_drew | apply blk_alloc)); exact BK150.out)) : gb150 ≠ gb164)); have n15_ := Aside0.mk (Ne.symm n14_.out); have n16_ := Aside0.mk ((by rw [hg]; exact Nat.ne_of_lt (blk_lt (g := gb157) (o := .cells #[.int .i64 a1_0, .int .i64 a1_1, .bool t143, .int .i64 t144, .bool t145, .int .i64 t146, .int .i64 t147, .string t148] 38 (0, 0)) (by (with_reducible repeat (first | apply blk_drewN | apply blk_drew | apply blk_alloc)); exact BK157.out)) : gb157 ≠ gb164)); have n17_ := Aside0.mk (Ne.symm n16_.out); have n18_ := Aside0.mk ((by rw [hg]; exact Nat.ne_of_lt (blk_lt (g := gb158) (o := .cells #[.int .i64 t141, .int .i64 t142, .bool t143, .int .i64 a1_0, .bool t145, .int .i64 t146, .int .i64 t147, .string t148] 38 (0, 0)) (by (with_reducible repeat (first | apply blk_drewN | apply blk_drew | apply blk_alloc)); exact BK158.out)) : gb158 ≠ gb164)); have n19_ := Aside0.mk (Ne.symm n18_.out); have n20_ := Aside0.mk ((by rw [hg]; exact Nat.ne_of_lt (blk_lt (g := gb159) (o := .cells #[.int .i64 t141, .int .i64 t142, .bool false, .int .i64 t144, .bool t145, .int .i64 t146, .int .i64 t147, .string t148] 38 (0, 0)) (by (with_reducible repeat (first | apply blk_drewN | apply blk_drew | apply blk_alloc)); exact BK159.out)) : gb159 ≠ gb164)); have n21_ := Aside0.mk (Ne.symm n20_.out); clear BK136; clear BK137; clear BK150; clear BK157; clear BK158; clear BK159; clear HB; have BK136 := n0_; have BK137 := n1_; have BK150 := n2_; have BK157 := n3_; have BK158 := n4_; have BK159 := n5_; have HB := n6_; have BK164 := n7_; have GW164 := n8_; have GE164 := n9_; have NB136_164 := n10_; have NB164_136 := n11_; have NB137_164 := n12_; have NB164_137 := n13_; have NB150_164 := n14_; have NB164_150 := n15_; have NB157_164 := n16_; have NB164_157 := n17_; have NB158_164 := n18_; have NB164_158 := n19_; have NB159_164 := n20_; have NB164_159 := n21_; clear n0_ n1_ n2_ n3_ n4_ n5_ n6_ n7_ n8_ n9_ n10_ n11_ n12_ n13_ n14_ n15_ n16_ n17_ n18_ n19_ n20_ n21_; clear hb hbox hg; have hnb82 := NB164_136.out; have hnc82 := NB136_164.out; have hnb83 := NB164_137.out; have hnc83 := NB137_164.out; have hnb84 := NB164_150.out; have hnc84 := NB150_164.out; have hnb85 := NB164_157.out; have hnc85 := NB157_164.out; have hnb86 := NB164_158.out; have hnc86 := NB158_164.out; have hnb87 := NB164_159.out; have hnc87 := NB159_164.out; have hcz88_0 : w81.cell? ⟨gb164, 0, none⟩ = some (.int .i64 0) := (blk_cell BK164.out 0).trans rfl; have hcz88_1 : w81.cell? ⟨gb164, 1, none⟩ = some (.int .i64 0) := (blk_cell BK164.out 1).trans rfl; have hcz88_2 : w81.cell? ⟨gb164, 2, none⟩ = some (.int .i64 0) := (blk_cell BK164.out 2).trans rfl; have hfz88_0 := blk_frozen BK164.out 0; have hfz88_1 := blk_frozen BK164.out 1; have hfz88_2 := blk_frozen BK164.out 2; have hcz89_0 : w81.cell? ⟨gb158, 0, none⟩ = some (.int .i64 t141) := (blk_cell BK158.out 0).trans rfl; have hcz89_1 : w81.cell? ⟨gb158, 1, none⟩ = some (.int .i64 t142) := (blk_cell BK158.out 1).trans rfl; have hcz89_2 : w81.cell? ⟨gb158, 2, none⟩ = some (.bool t143) := (blk_cell BK158.out 2).trans rfl; have hcz89_3 : w81.cell? ⟨gb158, 3, none⟩ = some (.int .i64 a1_0) := (blk_cell BK158.out 3).trans rfl; have hcz89_4 : w81.cell? ⟨gb158, 4, none⟩ = some (.bool t145) := (blk_cell BK158.out 4).trans rfl; have hcz89_5 : w81.cell? ⟨gb158, 5, none⟩ = some (.int .i64 t146) := (blk_cell BK158.out 5).trans rfl; have hcz89_6 : w81.cell? ⟨gb158, 6, none⟩ = some (.int .i64 t147) := (blk_cell BK158.out 6).trans rfl; have hcz89_7 : w81.cell? ⟨gb158, 7, none⟩ = some (.string t148) := (blk_cell BK158.out 7).trans rfl; have hfz89_0 := blk_frozen BK158.out 0; have hfz89_1 := blk_frozen BK158.out 1; have hfz89_2 := blk_frozen BK158.out 2; have hfz89_3 := blk_frozen BK158.out 3; have hfz89_4 := blk_frozen BK158.out 4; have hfz89_5 := blk_frozen BK158.out 5; have hfz89_6 := blk_frozen BK158.out 6; have hfz89_7 := blk_frozen BK158.out 7) | ((with_reducible refine gate_callee (f := 17) rfl ?_); refine goesL_ (some 56) rfl rfl Tryd.func17 (by kernel_rfl) rfl #[.agg #[.int .i64 t141, .int .i64 t142, .bool t143, .int .i64 a1_0, .bool t145, .int .i64 t146, .int .i64 t147, .string t148], .bool t156] rfl (by (try simp only [List.map_toArray, List.map_cons, List.map_nil]); first | done | rfl) ?_; (with_reducible refine (teimsg_Of.calls t141 t142 t143 a1_0 t145 t146 t147 t148 t156 t165 t166 t167 t168 _ ?side1 A26.out).mono ?_); (case side1 => first | (with_reducible exact HL.out) | (with_reducible exact YtmgiolpooamkkaaDoorX.Laid_drewN HL.out _) | exact YtmgiolpooamkkaaDoorX.Laid_below HL.out (by repeat (first | (with_reducible first | exact HB.out | apply below_alloc | apply pw_below_drewN | apply below_drew1 | refine below_set ?_ GE136.out | refine below_set ?_ GE137.out | refine below_set ?_ GE150.out | refine below_set ?_ GE157.out | refine below_set ?_ GE158.out | refine below_set ?_ GE159.out | refine below_set ?_ GE164.out) | exact HB.out))); rintro e w90 ⟨rfl, hb⟩; refine ⟨_, rfl, ?_⟩; have n0_ := Aside0.mk (blk_below (g := gb136) (o := .cells #[.int .i64 a0_0, .int .i64 a0_1, .int .i64 a0_2] 23 (0, 0)) (by (with_reducible repeat (first | apply blk_drewN | apply blk_drew | apply blk_alloc)); refine blk_far ?_ NB136_164.out _; (with_reducible repeat (first | apply blk_drewN | apply blk_drew | apply blk_alloc)); refine blk_far ?_ NB136_164.out _; (with_reducible repeat (first | apply blk_drewN | apply blk_drew | apply blk_alloc)); refine blk_far ?_ NB136_164.out _; (with_reducible repeat (first | apply blk_drewN | apply blk_drew | apply blk_alloc)); exact BK136.out) hb); have n1_ := Aside0.mk (blk_below (g := gb137) (o := .cells #[.int .i64 a1_0, .int .i64 a1_1] 58 (0, 0)) (by (with_reducible repeat (first | apply blk_drewN | apply blk_drew | apply blk_alloc)); refine blk_far ?_ NB137_164.out _; (with_reducible repeat (first | apply blk_drewN | apply blk_drew | apply blk_alloc)); refine blk_far ?_ NB137_164.out _; (with_reducible repeat (first | apply blk_drewN | apply blk_drew | apply blk_alloc)); refine blk_far ?_ NB137_164.out _; (with_reducible repeat (first | apply blk_drewN | apply blk_drew | apply blk_alloc)); exact BK137.out) hb); have n2_ := Aside0.mk (blk_below (g := gb150) (o := .cells #[.int .i64 t141, .int .i64 t142, .bool t143, .int .i64 t144, .bool t145, .int .i64 t146, .int .i64 t147, .string t148] 38 (0, 0)) (by (with_reducible repeat (first | apply blk_drewN | apply blk_drew | apply blk_alloc)); refine blk_far ?_ NB150_164.out _; (with_reducible repeat (first | apply blk_drewN | apply blk_drew | apply blk_alloc)); refine blk_far ?_ NB150_164.out _; (with_reducible repeat (first | apply blk_drewN | apply blk_drew | apply blk_alloc)); refine blk_far ?_ NB150_164.out _; (with_reducible repeat (first | apply blk_drewN | apply blk_drew | apply blk_alloc)); exact BK150.out) hb); have n3_ := Aside0.mk (blk_below (g := gb157) (o := .cells #[.int .i64 a1_0, .int .i64 a1_1, .bool t143, .int .i64 t144, .bool t145, .int .i64 t146, .int .i64 t147, .string t148] 38 (0, 0)) (by (with_reducible repeat (first | apply blk_drewN | apply blk_drew | apply blk_alloc)); refine blk_far ?_ NB157_164.out _; (with_reducible repeat (first | apply blk_drewN | apply blk_drew | apply blk_alloc)); refine blk_far ?_ NB157_164.out _; (with_reducible repeat (first | apply blk_drewN | apply blk_drew | apply blk_alloc)); refine blk_far ?_ NB157_164.out _; (with_reducible repeat (first | apply blk_drewN | apply blk_drew | apply blk_alloc)); exact BK157.out) hb); have n4_ := Aside0.mk (blk_below (g := gb158) (o := .cells #[.int .i64 t141, .int .i64 t142, .bool t143, .int .i64 a1_0, .bool t145, .int .i64 t146, .int .i64 t147, .string t148] 38 (0, 0)) (by (with_reducible repeat (first | apply blk_drewN | apply blk_drew | apply blk_alloc)); refine blk_far ?_ NB158_164.out _; (with_reducible repeat (first | apply blk_drewN | apply blk_drew | apply blk_alloc)); refine blk_far ?_ NB158_164.out _; (with_reducible repeat (first | apply blk_drewN | apply blk_drew | apply blk_alloc)); refine blk_far ?_ NB158_164.out _; (with_reducible repeat (first | apply blk_drewN | apply blk_drew | apply blk_alloc)); exact BK158.out) hb); have n5_ := Aside0.mk (blk_below (g := gb159) (o := .cells #[.int .i64 t141, .int .i64 t142, .bool false, .int .i64 t144, .bool t145, .int .i64 t146, .int .i64 t147, .string t148] 38 (0, 0)) (by (with_reducible repeat (first | apply blk_drewN | apply blk_drew | apply blk_alloc)); refine blk_far ?_ NB159_164.out _; (with_reducible repeat (first | apply blk_drewN | apply blk_drew | apply blk_alloc)); refine blk_far ?_ NB159_164.out _; (with_reducible repeat (first | apply blk_drewN | apply blk_drew | apply blk_alloc)); refine blk_far ?_ NB159_164.out _; (with_reducible repeat (first | apply blk_drewN | apply blk_drew | apply blk_alloc)); exact BK159.out) hb); have n6_ := Aside0.mk (blk_below (g := gb164) (o := .cells #[.int .i64 t160, .int .i64 t161, .int .i64 t162] 29 (0, 0)) (by (with_reducible repeat (first | apply blk_drewN | apply blk_drew | apply blk_alloc)); refine blk_put (cs := #[.int .i64 t160, .int .i64 t161, .int .i64 0]) ?_ 2 _ rfl; (with_reducible repeat (first | apply blk_drewN | apply blk_drew | apply blk_alloc)); refine blk_put (cs := #[.int .i64 t160, .int .i64 0, .int .i64 0]) ?_ 1 _ rfl; (with_reducible repeat (first | apply blk_drewN | apply blk_drew | apply blk_alloc)); refine blk_put (cs := #[.int .i64 0, .int .i64 0, .int .i64 0]) ?_ 0 _ rfl; (with_reducible repeat (first | apply blk_drewN | apply blk_drew | apply blk_alloc)); exact BK164.out) hb); have n7_ := Aside0.mk (below_step (by repeat (first | (with_reducible first | exact HB.out | apply below_alloc | apply pw_below_drewN | apply below_drew1 | refine below_set ?_ GE136.out | refine below_set ?_ GE137.out | refine below_set ?_ GE150.out | refine below_set ?_ GE157.out | refine below_set ?_ GE158.out | refine below_set ?_ GE159.out | refine below_set ?_ GE164.out) | exact HB.out)) hb); clear BK136; clear BK137; clear BK150; clear BK157; clear BK158; clear BK159; clear BK164; clear HB; have BK136 := n0_; have BK137 := n1_; have BK150 := n2_; have BK157 := n3_; have BK158 := n4_; have BK159 := n5_; have BK164 := n6_; have HB := n7_; clear n0_ n1_ n2_ n3_ n4_ n5_ n6_ n7_; (try clear hb); (try clear hb2); (try clear hk); (try clear hi)) | ((with_reducible refine gate_dst (N := 13) rfl ?_); refine box_event ?hg (N := 13) ?hd (cs := #[.int .i64 0, .int .i64 0, .int .i64 0]) (t := 29) ?hr ?_; (case hd => rfl); (case hg => rfl); (case hr => first | (go_simp; done) | (go_simp; rfl)); intro gb169 hg w91 hbox hb; have n0_ := Aside0.mk (blk_below (g := gb136) (o := .cells #[.int .i64 a0_0, .int .i64 a0_1, .int .i64 a0_2] 23 (0, 0)) (by (with_reducible repeat (first | apply blk_drewN | apply blk_drew | apply blk_alloc)); exact BK136.out) hb); have n1_ := Aside0.mk (blk_below (g := gb137) (o := .cells #[.int .i64 a1_0, .int .i64 a1_1] 58 (0, 0)) (by (with_reducible repeat (first | apply blk_drewN | apply blk_drew | apply blk_alloc)); exact BK137.out) hb); have n2_ := Aside0.mk (blk_below (g := gb150) (o := .cells #[.int .i64 t141, .int .i64 t142, .bool t143, .int .i64 t144, .bool t145, .int .i64 t146, .int .i64 t147, .string t148] 38 (0, 0)) (by (with_reducible repeat (first | apply blk_drewN | apply blk_drew | apply blk_alloc)); exact BK150.out) hb); have n3_ := Aside0.mk (blk_below (g := gb157) (o := .cells #[.int .i64 a1_0, .int .i64 a1_1, .bool t143, .int .i64 t144, .bool t145, .int .i64 t146, .int .i64 t147, .string t148] 38 (0, 0)) (by (with_reducible repeat (first | apply blk_drewN | apply blk_drew | apply blk_alloc)); exact BK157.out) hb); have n4_ := Aside0.mk (blk_below (g := gb158) (o := .cells #[.int .i64 t141, .int .i64 t142, .bool t143, .int .i64 a1_0, .bool t145, .int .i64 t146, .int .i64 t147, .string t148] 38 (0, 0)) (by (with_reducible repeat (first | apply blk_drewN | apply blk_drew | apply blk_alloc)); exact BK158.out) hb); have n5_ := Aside0.mk (blk_below (g := gb159) (o := .cells #[.int .i64 t141, .int .i64 t142, .bool false, .int .i64 t144, .bool t145, .int .i64 t146, .int .i64 t147, .string t148] 38 (0, 0)) (by (with_reducible repeat (first | apply blk_drewN | apply blk_drew | apply blk_alloc)); exact BK159.out) hb); have n6_ := Aside0.mk (blk_below (g := gb164) (o := .cells #[.int .i64 t160, .int .i64 t161, .int .i64 t162] 29 (0, 0)) (by (with_reducible repeat (first | apply blk_drewN | apply blk_drew | apply blk_alloc)); exact BK164.out) hb); have n7_ := Aside0.mk (below_step (by repeat (first | (with_reducible first | exact HB.out | apply below_alloc | apply pw_below_drewN | apply below_drew1 | refine below_set ?_ GE136.out | refine below_set ?_ GE137.out | refine below_set ?_ GE150.out | refine below_set ?_ GE157.out | refine below_set ?_ GE158.out | refine below_set ?_ GE159.out | refine below_set ?_ GE164.out) | exact HB.out)) hb); have n8_ := Aside0.mk (hbox); have n9_ := Aside0.mk ((by rw [hg]; exact (below_size (by repeat (first | (with_reducible first | exact HB.out | apply below_alloc | apply pw_below_drewN | apply below_drew1 | refine below_set ?_ GE136.out | refine below_set ?_ GE137.out | refine below_set ?_ GE150.out | refine below_set ?_ GE157.out | refine below_set ?_ GE158.out | refine below_set ?_ GE159.out | refine below_set ?_ GE164.out) | exact HB.out))) : w.heap.size ≤ gb169)); have n10_ := n9_; have n11_ := Aside0.mk ((by rw [hg]; exact Nat.ne_of_lt (blk_lt (g := gb136) (o := .cells #[.int .i64 a0_0, .int .i64 a0_1, .int .i64 a0_2] 23 (0, 0)) (by (with_reducible repeat (first | apply blk_drewN | apply blk_drew | apply blk_alloc)); exact BK136.out)) : gb136 ≠ gb169)); have n12_ := Aside0.mk (Ne.symm n11_.out); have n13_ := Aside0.mk ((by rw [hg]; exact Nat.ne_of_lt (blk_lt (g := gb137) (o := .cells #[.int .i64 a1_0, .int .i64 a1_1] 58 (0, 0)) (by (with_reducible repeat (first | apply blk_drewN | apply blk_drew | apply blk_alloc)); exact BK137.out)) : gb137 ≠ gb169)); have n14_ := Aside0.mk (Ne.symm n13_.out); have n15_ := Aside0.mk ((by rw [hg]; exact Nat.ne_of_lt (blk_lt (g := gb150) (o := .cells #[.int .i64 t141, .int .i64 t142, .bool t143, .int .i64 t144, .bool t145, .int .i64 t146, .int .i64 t147, .string t148] 38 (0, 0)) (by (with_reducible repeat (first | apply blk_drewN | apply blk_drew | apply blk_alloc)); exact BK150.out)) : gb150 ≠ gb169)); have n16_ := Aside0.mk (Ne.symm n15_.out); have n17_ := Aside0.mk ((by rw [hg]; exact Nat.ne_of_lt (blk_lt (g := gb157) (o := .cells #[.int .i64 a1_0, .int .i64 a1_1, .bool t143, .int .i64 t144, .bool t145, .int .i64 t146, .int .i64 t147, .string t148] 38 (0, 0)) (by (with_reducible repeat (first | apply blk_drewN | apply blk_drew | apply blk_alloc)); exact BK157.out)) : gb157 ≠ gb169)); have n18_ := Aside0.mk (Ne.symm n17_.out); have n19_ := Aside0.mk ((by rw [hg]; exact Nat.ne_of_lt (blk_lt (g := gb158) (o := .cells #[.int .i64 t141, .int .i64 t142, .bool t143, .int .i64 a1_0, .bool t145, .int .i64 t146, .int .i64 t147, .string t148] 38 (0, 0)) (by (with_reducible repeat (first | apply blk_drewN | apply blk_drew | apply blk_alloc)); exact BK158.out)) : gb158 ≠ gb169)); have n20_ := Aside0.mk (Ne.symm n19_.out); have n21_ := Aside0.mk ((by rw [hg]; exact Nat.ne_of_lt (blk_lt (g := gb159) (o := .cells #[.int .i64 t141, .int .i64 t142, .bool false, .int .i64 t144, .bool t145, .int .i64 t146, .int .i64 t147, .string t148] 38 (0, 0)) (by (with_reducible repeat (first | apply blk_drewN | apply blk_drew | apply blk_alloc)); exact BK159.out)) : gb159 ≠ gb169)); have n22_ := Aside0.mk (Ne.symm n21_.out); have n23_ := Aside0.mk ((by rw [hg]; exact Nat.ne_of_lt (blk_lt (g := gb164) (o := .cells #[.int .i64 t160, .int .i64 t161, .int .i64 t162] 29 (0, 0)) (by (with_reducible repeat (first | apply blk_drewN | apply blk_drew | apply blk_alloc)); exact BK164.out)) : gb164 ≠ gb169)); have n24_ := Aside0.mk (Ne.symm n23_.out); clear BK136; clear BK137; clear BK150; clear BK157; clear BK158; clear BK159; clear BK164; clear HB; have BK136 := n0_; have BK137 := n1_; have BK150 := n2_; have BK157 := n3_; have BK158 := n4_; have BK159 := n5_; have BK164 := n6_; have HB := n7_; have BK169 := n8_; have GW169 := n9_; have GE169 := n10_; have NB136_169 := n11_; have NB169_136 := n12_; have NB137_169 := n13_; have NB169_137 := n14_; have NB150_169 := n15_; have NB169_150 := n16_; have NB157_169 := n17_; have NB169_157 := n18_; have NB158_169 := n19_; have NB169_158 := n20_; have NB159_169 := n21_; have NB169_159 := n22_; have NB164_169 := n23_; have NB169_164 := n24_; clear n0_ n1_ n2_ n3_ n4_ n5_ n6_ n7_ n8_ n9_ n10_ n11_ n12_ n13_ n14_ n15_ n16_ n17_ n18_ n19_ n20_ n21_ n22_ n23_ n24_; clear hb hbox hg; have hnb92 := NB169_136.out; have hnc92 := NB136_169.out; have hnb93 := NB169_137.out; have hnc93 := NB137_169.out; have hnb94 := NB169_150.out; have hnc94 := NB150_169.out; have hnb95 := NB169_157.out; have hnc95 := NB157_169.out; have hnb96 := NB169_158.out; have hnc96 := NB158_169.out; have hnb97 := NB169_159.out; have hnc97 := NB159_169.out; have hnb98 := NB169_164.out; have hnc98 := NB164_169.out; have hcz99_0 : w91.cell? ⟨gb169, 0, none⟩ = some (.int .i64 0) := (blk_cell BK169.out 0).trans rfl; have hcz99_1 : w91.cell? ⟨gb169, 1, none⟩ = some (.int .i64 0) := (blk_cell BK169.out 1).trans rfl; have hcz99_2 : w91.cell? ⟨gb169, 2, none⟩ = some (.int .i64 0) := (blk_cell BK169.out 2).trans rfl; have hfz99_0 := blk_frozen BK169.out 0; have hfz99_1 := blk_frozen BK169.out 1; have hfz99_2 := blk_frozen BK169.out 2; have hcz100_0 : w91.cell? ⟨gb159, 0, none⟩ = some (.int .i64 t141) := (blk_cell BK159.out 0).trans rfl; have hcz100_1 : w91.cell? ⟨gb159, 1, none⟩ = some (.int .i64 t142) := (blk_cell BK159.out 1).trans rfl; have hcz100_2 : w91.cell? ⟨gb159, 2, none⟩ = some (.bool false) := (blk_cell BK159.out 2).trans rfl; have hcz100_3 : w91.cell? ⟨gb159, 3, none⟩ = some (.int .i64 t144) := (blk_cell BK159.out 3).trans rfl; have hcz100_4 : w91.cell? ⟨gb159, 4, none⟩ = some (.bool t145) := (blk_cell BK159.out 4).trans rfl; have hcz100_5 : w91.cell? ⟨gb159, 5, none⟩ = some (.int .i64 t146) := (blk_cell BK159.out 5).trans rfl; have hcz100_6 : w91.cell? ⟨gb159, 6, none⟩ = some (.int .i64 t147) := (blk_cell BK159.out 6).trans rfl; have hcz100_7 : w91.cell? ⟨gb159, 7, none⟩ = some (.string t148) := (blk_cell BK159.out 7).trans rfl; have hfz100_0 := blk_frozen BK159.out 0; have hfz100_1 := blk_frozen BK159.out 1; have hfz100_2 := blk_frozen BK159.out 2; have hfz100_3 := blk_frozen BK159.out 3; have hfz100_4 := blk_frozen BK159.out 4; have hfz100_5 := blk_frozen BK159.out 5; have hfz100_6 := blk_frozen BK159.out 6; have hfz100_7 := blk_frozen BK159.out 7) | ((with_reducible refine gate_callee (f := 17) rfl ?_); refine goesL_ (some 62) rfl rfl Tryd.func17 (by kernel_rfl) rfl #[.agg #[.int .i64 t141, .int .i64 t142, .bool false, .int .i64 t144, .bool t145, .int .i64 t146, .int .i64 t147, .string t148], .bool t156] rfl (by (try simp only [List.map_toArray, List.map_cons, List.map_nil]); first | done | rfl) ?_; (with_reducible refine (teimsg_Of.calls t141 t142 false t144 t145 t146 t147 t148 t156 t170 t171 t172 t173 _ ?side1 A27.out).mono ?_); (case side1 => first | (with_reducible exact HL.out) | (with_reducible exact YtmgiolpooamkkaaDoorX.Laid_drewN HL.out _) | exact YtmgiolpooamkkaaDoorX.Laid_below HL.out (by repeat (first | (with_reducible first | exact HB.out | apply below_alloc | apply pw_below_drewN | apply below_drew1 | refine below_set ?_ GE136.out | refine below_set ?_ GE137.out | refine below_set ?_ GE150.out | refine below_set ?_ GE157.out | refine below_set ?_ GE158.out | refine below_set ?_ GE159.out | refine below_set ?_ GE164.out | refine below_set ?_ GE169.out) | exact HB.out))); rintro e w101 ⟨rfl, hb⟩; refine ⟨_, rfl, ?_⟩; have n0_ := Aside0.mk (blk_below (g := gb136) (o := .cells #[.int .i64 a0_0, .int .i64 a0_1, .int .i64 a0_2] 23 (0, 0)) (by (with_reducible repeat (first | apply blk_drewN | apply blk_drew | apply blk_alloc)); refine blk_far ?_ NB136_169.out _; (with_reducible repeat (first | apply blk_drewN | apply blk_drew | apply blk_alloc)); refine blk_far ?_ NB136_169.out _; (with_reducible repeat (first | apply blk_drewN | apply blk_drew | apply blk_alloc)); refine blk_far ?_ NB136_169.out _; (with_reducible repeat (first | apply blk_drewN | apply blk_drew | apply blk_alloc)); exact BK136.out) hb); have n1_ := Aside0.mk (blk_below (g := gb137) (o := .cells #[.int .i64 a1_0, .int .i64 a1_1] 58 (0, 0)) (by (with_reducible repeat (first | apply blk_drewN | apply blk_drew | apply blk_alloc)); refine blk_far ?_ NB137_169.out _; (with_reducible repeat (first | apply blk_drewN | apply blk_drew | apply blk_alloc)); refine blk_far ?_ NB137_169.out _; (with_reducible repeat (first | apply blk_drewN | apply blk_drew | apply blk_alloc)); refine blk_far ?_ NB137_169.out _; (with_reducible repeat (first | apply blk_drewN | apply blk_drew | apply blk_alloc)); exact BK137.out) hb); have n2_ := Aside0.mk (blk_below (g := gb150) (o := .cells #[.int .i64 t141, .int .i64 t142, .bool t143, .int .i64 t144, .bool t145, .int .i64 t146, .int .i64 t147, .string t148] 38 (0, 0)) (by (with_reducible repeat (first | apply blk_drewN | apply blk_drew | apply blk_alloc)); refine blk_far ?_ NB150_169.out _; (with_reducible repeat (first | apply blk_drewN | apply blk_drew | apply blk_alloc)); refine blk_far ?_ NB150_169.out _; (with_reducible repeat (first | apply blk_drewN | apply blk_drew | apply blk_alloc)); refine blk_far ?_ NB150_169.out _; (with_reducible repeat (first | apply blk_drewN | apply blk_drew | apply blk_alloc)); exact BK150.out) hb); have n3_ := Aside0.mk (blk_below (g := gb157) (o := .cells #[.int .i64 a1_0, .int .i64 a1_1, .bool t143, .int .i64 t144, .bool t145, .int .i64 t146, .int .i64 t147, .string t148] 38 (0, 0)) (by (with_reducible repeat (first | apply blk_drewN | apply blk_drew | apply blk_alloc)); refine blk_far ?_ NB157_169.out _; (with_reducible repeat (first | apply blk_drewN | apply blk_drew | apply blk_alloc)); refine blk_far ?_ NB157_169.out _; (with_reducible repeat (first | apply blk_drewN | apply blk_drew | apply blk_alloc)); refine blk_far ?_ NB157_169.out _; (with_reducible repeat (first | apply blk_drewN | apply blk_drew | apply blk_alloc)); exact BK157.out) hb); have n4_ := Aside0.mk (blk_below (g := gb158) (o := .cells #[.int .i64 t141, .int .i64 t142, .bool t143, .int .i64 a1_0, .bool t145, .int .i64 t146, .int .i64 t147, .string t148] 38 (0, 0)) (by (with_reducible repeat (first | apply blk_drewN | apply blk_drew | apply blk_alloc)); refine blk_far ?_ NB158_169.out _; (with_reducible repeat (first | apply blk_drewN | apply blk_drew | apply blk_alloc)); refine blk_far ?_ NB158_169.out _; (with_reducible repeat (first | apply blk_drewN | apply blk_drew | apply blk_alloc)); refine blk_far ?_ NB158_169.out _; (with_reducible repeat (first | apply blk_drewN | apply blk_drew | apply blk_alloc)); exact BK158.out) hb); have n5_ := Aside0.mk (blk_below (g := gb159) (o := .cells #[.int .i64 t141, .int .i64 t142, .bool false, .int .i64 t144, .bool t145, .int .i64 t146, .int .i64 t147, .string t148] 38 (0, 0)) (by (with_reducible repeat (first | apply blk_drewN | apply blk_drew | apply blk_alloc)); refine blk_far ?_ NB159_169.out _; (with_reducible repeat (first | apply blk_drewN | apply blk_drew | apply blk_alloc)); refine blk_far ?_ NB159_169.out _; (with_reducible repeat (first | apply blk_drewN | apply blk_drew | apply blk_alloc)); refine blk_far ?_ NB159_169.out _; (with_reducible repeat (first | apply blk_drewN | apply blk_drew | apply blk_alloc)); exact BK159.out) hb); have n6_ := Aside0.mk (blk_below (g := gb164) (o := .cells #[.int .i64 t160, .int .i64 t161, .int .i64 t162] 29 (0, 0)) (by (with_reducible repeat (first | apply blk_drewN | apply blk_drew | apply blk_alloc)); refine blk_far ?_ NB164_169.out _; (with_reducible repeat (first | apply blk_drewN | apply blk_drew | apply blk_alloc)); refine blk_far ?_ NB164_169.out _; (with_reducible repeat (first | apply blk_drewN | apply blk_drew | apply blk_alloc)); refine blk_far ?_ NB164_169.out _; (with_reducible repeat (first | apply blk_drewN | apply blk_drew | apply blk_alloc)); exact BK164.out) hb); have n7_ := Aside0.mk (blk_below (g := gb169) (o := .cells #[.int .i64 t165, .int .i64 t166, .int .i64 t167] 29 (0, 0)) (by (with_reducible repeat (first | apply blk_drewN | apply blk_drew | apply blk_alloc)); refine blk_put (cs := #[.int .i64 t165, .int .i64 t166, .int .i64 0]) ?_ 2 _ rfl; (with_reducible repeat (first | apply blk_drewN | apply blk_drew | apply blk_alloc)); refine blk_put (cs := #[.int .i64 t165, .int .i64 0, .int .i64 0]) ?_ 1 _ rfl; (with_reducible repeat (first | apply blk_drewN | apply blk_drew | apply blk_alloc)); refine blk_put (cs := #[.int .i64 0, .int .i64 0, .int .i64 0]) ?_ 0 _ rfl; (with_reducible repeat (first | apply blk_drewN | apply blk_drew | apply blk_alloc)); exact BK169.out) hb); have n8_ := Aside0.mk (below_step (by repeat (first | (with_reducible first | exact HB.out | apply below_alloc | apply pw_below_drewN | apply below_drew1 | refine below_set ?_ GE136.out | refine below_set ?_ GE137.out | refine below_set ?_ GE150.out | refine below_set ?_ GE157.out | refine below_set ?_ GE158.out | refine below_set ?_ GE159.out | refine below_set ?_ GE164.out | refine below_set ?_ GE169.out) | exact HB.out)) hb); clear BK136; clear BK137; clear BK150; clear BK157; clear BK158; clear BK159; clear BK164; clear BK169; clear HB; have BK136 := n0_; have BK137 := n1_; have BK150 := n2_; have BK157 := n3_; have BK158 := n4_; have BK159 := n5_; have BK164 := n6_; have BK169 := n7_; have HB := n8_; clear n0_ n1_ n2_ n3_ n4_ n5_ n6_ n7_ n8_; (try clear hb); (try clear hb2); (try clear hk); (try clear hi)) | ((with_reducible refine gate_dst (N := 15) rfl ?_); refine box_event ?hg (N := 15) ?hd (cs := #[.int .i64 0, .int .i64 0, .int .i64 0]) (t := 29) ?hr ?_; (case hd => rfl); (case hg => rfl); (case hr => first | (go_simp; done) | (go_simp; rfl)); intro gb174 hg w102 hbox hb; have n0_ := Aside0.mk (blk_below (g := gb136) (o := .cells #[.int .i64 a0_0, .int .i64 a0_1, .int .i64 a0_2] 23 (0, 0)) (by (with_reducible repeat (first | apply blk_drewN | apply blk_drew | apply blk_alloc)); exact BK136.out) hb); have n1_ := Aside0.mk (blk_below (g := gb137) (o := .cells #[.int .i64 a1_0, .int .i64 a1_1] 58 (0, 0)) (by (with_reducible repeat (first | apply blk_drewN | apply blk_drew | apply blk_alloc)); exact BK137.out) hb); have n2_ := Aside0.mk (blk_below (g := gb150) (o := .cells #[.int .i64 t141, .int .i64 t142, .bool t143, .int .i64 t144, .bool t145, .int .i64 t146, .int .i64 t147, .string t148] 38 (0, 0)) (by (with_reducible repeat (first | apply blk_drewN | apply blk_drew | apply blk_alloc)); exact BK150.out) hb); have n3_ := Aside0.mk (blk_below (g := gb157) (o := .cells #[.int .i64 a1_0, .int .i64 a1_1, .bool t143, .int .i64 t144, .bool t145, .int .i64 t146, .int .i64 t147, .string t148] 38 (0, 0)) (by (with_reducible repeat (first | apply blk_drewN | apply blk_drew | apply blk_alloc)); exact BK157.out) hb); have n4_ := Aside0.mk (blk_below (g := gb158) (o := .cells #[.int .i64 t141, .int .i64 t142, .bool t143, .int .i64 a1_0, .bool t145, .int .i64 t146, .int .i64 t147, .string t148] 38 (0, 0)) (by (with_reducible repeat (first | apply blk_drewN | apply blk_drew | apply blk_alloc)); exact BK158.out) hb); have n5_ := Aside0.mk (blk_below (g := gb159) (o := .cells #[.int .i64 t141, .int .i64 t142, .bool false, .int .i64 t144, .bool t145, .int .i64 t146, .int .i64 t147, .string t148] 38 (0, 0)) (by (with_reducible repeat (first | apply blk_drewN | apply blk_drew | apply blk_alloc)); exact BK159.out) hb); have n6_ := Aside0.mk (blk_below (g := gb164) (o := .cells #[.int .i64 t160, .int .i64 t161, .int .i64 t162] 29 (0, 0)) (by (with_reducible repeat (first | apply blk_drewN | apply blk_drew | apply blk_alloc)); exact BK164.out) hb); have n7_ := Aside0.mk (blk_below (g := gb169) (o := .cells #[.int .i64 t165, .int .i64 t166, .int .i64 t167] 29 (0, 0)) (by (with_reducible repeat (first | apply blk_drewN | apply blk_drew | apply blk_alloc)); exact BK169.out) hb); have n8_ := Aside0.mk (below_step (by repeat (first | (with_reducible first | exact HB.out | apply below_alloc | apply pw_below_drewN | apply below_drew1 | refine below_set ?_ GE136.out | refine below_set ?_ GE137.out | refine below_set ?_ GE150.out | refine below_set ?_ GE157.out | refine below_set ?_ GE158.out | refine below_set ?_ GE159.out | refine below_set ?_ GE164.out | refine below_set ?_ GE169.out) | exact HB.out)) hb); have n9_ := Aside0.mk (hbox); have n10_ := Aside0.mk ((by rw [hg]; exact (below_size (by repeat (first | (with_reducible first | exact HB.out | apply below_alloc | apply pw_below_drewN | apply below_drew1 | refine below_set ?_ GE136.out | refine below_set ?_ GE137.out | refine below_set ?_ GE150.out | refine below_set ?_ GE157.out | refine below_set ?_ GE158.out | refine below_set ?_ GE159.out | refine below_set ?_ GE164.out | refine below_set ?_ GE169.out) | exact HB.out))) : w.heap.size ≤ gb174)); have n11_ := n10_; have n12_ := Aside0.mk ((by rw [hg]; exact Nat.ne_of_lt (blk_lt (g := gb136) (o := .cells #[.int .i64 a0_0, .int .i64 a0_1, .int .i64 a0_2] 23 (0, 0)) (by (with_reducible repeat (first | apply blk_drewN | apply blk_drew | apply blk_alloc)); exact BK136.out)) : gb136 ≠ gb174)); have n13_ := Aside0.mk (Ne.symm n12_.out); have n14_ := Aside0.mk ((by rw [hg]; exact Nat.ne_of_lt (blk_lt (g := gb137) (o := .cells #[.int .i64 a1_0, .int .i64 a1_1] 58 (0, 0)) (by (with_reducible repeat (first | apply blk_drewN | apply blk_drew | apply blk_alloc)); exact BK137.out)) : gb137 ≠ gb174)); have n15_ := Aside0.mk (Ne.symm n14_.out); have n16_ := Aside0.mk ((by rw [hg]; exact Nat.ne_of_lt (blk_lt (g := gb150) (o := .cells #[.int .i64 t141, .int .i64 t142, .bool t143, .int .i64 t144, .bool t145, .int .i64 t146, .int .i64 t147, .string t148] 38 (0, 0)) (by (with_reducible repeat (first | apply blk_drewN | apply blk_drew | apply blk_alloc)); exact BK150.out)) : gb150 ≠ gb174)); have n17_ := Aside0.mk (Ne.symm n16_.out); have n18_ := Aside0.mk ((by rw [hg]; exact Nat.ne_of_lt (blk_lt (g := gb157) (o := .cells #[.int .i64 a1_0, .int .i64 a1_1, .bool t143, .int .i64 t144, .bool t145, .int .i64 t146, .int .i64 t147, .string t148] 38 (0, 0)) (by (with_reducible repeat (first | apply blk_drewN | apply blk_drew | apply blk_alloc)); exact BK157.out)) : gb157 ≠ gb174)); have n19_ := Aside0.mk (Ne.symm n18_.out); have n20_ := Aside0.mk ((by rw [hg]; exact Nat.ne_of_lt (blk_lt (g := gb158) (o := .cells #[.int .i64 t141, .int .i64 t142, .bool t143, .int .i64 a1_0, .bool t145, .int .i64 t146, .int .i64 t147, .string t148] 38 (0, 0)) (by (with_reducible repeat (first | apply blk_drewN | apply blk_drew | apply blk_alloc)); exact BK158.out)) : gb158 ≠ gb174)); have n21_ := Aside0.mk (Ne.symm n20_.out); have n22_ := Aside0.mk ((by rw [hg]; exact Nat.ne_of_lt (blk_lt (g := gb159) (o := .cells #[.int .i64 t141, .int .i64 t142, .bool false, .int .i64 t144, .bool t145, .int .i64 t146, .int .i64 t147, .string t148] 38 (0, 0)) (by (with_reducible repeat (first | apply blk_drewN | apply blk_drew | apply blk_alloc)); exact BK159.out)) : gb159 ≠ gb174)); have n23_ := Aside0.mk (Ne.symm n22_.out); have n24_ := Aside0.mk ((by rw [hg]; exact Nat.ne_of_lt (blk_lt (g := gb164) (o := .cells #[.int .i64 t160, .int .i64 t161, .int .i64 t162] 29 (0, 0)) (by (with_reducible repeat (first | apply blk_drewN | apply blk_drew | apply blk_alloc)); exact BK164.out)) : gb164 ≠ gb174)); have n25_ := Aside0.mk (Ne.symm n24_.out); have n26_ := Aside0.mk ((by rw [hg]; exact Nat.ne_of_lt (blk_lt (g := gb169) (o := .cells #[.int .i64 t165, .int .i64 t166, .int .i64 t167] 29 (0, 0)) (by (with_reducible repeat (first | apply blk_drewN | apply blk_drew | apply blk_alloc)); exact BK169.out)) : gb169 ≠ gb174)); have n27_ := Aside0.mk (Ne.symm n26_.out); clear BK136; clear BK137; clear BK150; clear BK157; clear BK158; clear BK159; clear BK164; clear BK169; clear HB; have BK136 := n0_; have BK137 := n1_; have BK150 := n2_; have BK157 := n3_; have BK158 := n4_; have BK159 := n5_; have BK164 := n6_; have BK169 := n7_; have HB := n8_; have BK174 := n9_; have GW174 := n10_; have GE174 := n11_; have NB136_174 := n12_; have NB174_136 := n13_; have NB137_174 := n14_; have NB174_137 := n15_; have NB150_174 := n16_; have NB174_150 := n17_; have NB157_174 := n18_; have NB174_157 := n19_; have NB158_174 := n20_; have NB174_158 := n21_; have NB159_174 := n22_; have NB174_159 := n23_; have NB164_174 := n24_; have NB174_164 := n25_; have NB169_174 := n26_; have NB174_169 := n27_; clear n0_ n1_ n2_ n3_ n4_ n5_ n6_ n7_ n8_ n9_ n10_ n11_ n12_ n13_ n14_ n15_ n16_ n17_ n18_ n19_ n20_ n21_ n22_ n23_ n24_ n25_ n26_ n27_; clear hb hbox hg; have hnb103 := NB174_136.out; have hnc103 := NB136_174.out; have hnb104 := NB174_137.out; have hnc104 := NB137_174.out; have hnb105 := NB174_150.out; have hnc105 := NB150_174.out; have hnb106 := NB174_157.out; have hnc106 := NB157_174.out; have hnb107 := NB174_158.out; have hnc107 := NB158_174.out; have hnb108 := NB174_159.out; have hnc108 := NB159_174.out; have hnb109 := NB174_164.out; have hnc109 := NB164_174.out; have hnb110 := NB174_169.out; have hnc110 := NB169_174.out; have hcz111_0 : w102.cell? ⟨gb174, 0, none⟩ = some (.int .i64 0) := (blk_cell BK174.out 0).trans rfl; have hcz111_1 : w102.cell? ⟨gb174, 1, none⟩ = some (.int .i64 0) := (blk_cell BK174.out 1).trans rfl; have hcz111_2 : w102.cell? ⟨gb174, 2, none⟩ = some (.int .i64 0) := (blk_cell BK174.out 2).trans rfl; have hfz111_0 := blk_frozen BK174.out 0; have hfz111_1 := blk_frozen BK174.out 1; have hfz111_2 := blk_frozen BK174.out 2; have hcz112_0 : w102.cell? ⟨gb157, 0, none⟩ = some (.int .i64 a1_0) := (blk_cell BK157.out 0).trans rfl; have hcz112_1 : w102.cell? ⟨gb157, 1, none⟩ = some (.int .i64 a1_1) := (blk_cell BK157.out 1).trans rfl; have hcz112_2 : w102.cell? ⟨gb157, 2, none⟩ = some (.bool t143) := (blk_cell BK157.out 2).trans rfl; have hcz112_3 : w102.cell? ⟨gb157, 3, none⟩ = some (.int .i64 t144) := (blk_cell BK157.out 3).trans rfl; have hcz112_4 : w102.cell? ⟨gb157, 4, none⟩ = some (.bool t145) := (blk_cell BK157.out 4).trans rfl; have hcz112_5 : w102.cell? ⟨gb157, 5, none⟩ = some (.int .i64 t146) := (blk_cell BK157.out 5).trans rfl; have hcz112_6 : w102.cell? ⟨gb157, 6, none⟩ = some (.int .i64 t147) := (blk_cell BK157.out 6).trans rfl; have hcz112_7 : w102.cell? ⟨gb157, 7, none⟩ = some (.string t148) := (blk_cell BK157.out 7).trans rfl; have hfz112_0 := blk_frozen BK157.out 0; have hfz112_1 := blk_frozen BK157.out 1; have hfz112_2 := blk_frozen BK157.out 2; have hfz112_3 := blk_frozen BK157.out 3; have hfz112_4 := blk_frozen BK157.out 4; have hfz112_5 := blk_frozen BK157.out 5; have hfz112_6 := blk_frozen BK157.out 6; have hfz112_7 := blk_frozen BK157.out 7; have hcz113_0 : w102.cell? ⟨gb150, 0, none⟩ = some (.int .i64 t141) := (blk_cell BK150.out 0).trans rfl; have hcz113_1 : w102.cell? ⟨gb150, 1, none⟩ = some (.int .i64 t142) := (blk_cell BK150.out 1).trans rfl; have hcz113_2 : w102.cell? ⟨gb150, 2, none⟩ = some (.bool t143) := (blk_cell BK150.out 2).trans rfl; have hcz113_3 : w102.cell? ⟨gb150, 3, none⟩ = some (.int .i64 t144) := (blk_cell BK150.out 3).trans rfl; have hcz113_4 : w102.cell? ⟨gb150, 4, none⟩ = some (.bool t145) := (blk_cell BK150.out 4).trans rfl; have hcz113_5 : w102.cell? ⟨gb150, 5, none⟩ = some (.int .i64 t146) := (blk_cell BK150.out 5).trans rfl; have hcz113_6 : w102.cell? ⟨gb150, 6, none⟩ = some (.int .i64 t147) := (blk_cell BK150.out 6).trans rfl; have hcz113_7 : w102.cell? ⟨gb150, 7, none⟩ = some (.string t148) := (blk_cell BK150.out 7).trans rfl; have hfz113_0 := blk_frozen BK150.out 0; have hfz113_1 := blk_frozen BK150.out 1; have hfz113_2 := blk_frozen BK150.out 2; have hfz113_3 := blk_frozen BK150.out 3; have hfz113_4 := blk_frozen BK150.out 4; have hfz113_5 := blk_frozen BK150.out 5; have hfz113_6 := blk_frozen BK150.out 6; have hfz113_7 := blk_frozen BK150.out 7; have hcz114_0 : w102.cell? ⟨gb158, 0, none⟩ = some (.int .i64 t141) := (blk_cell BK158.out 0).trans rfl; have hcz114_1 : w102.cell? ⟨gb158, 1, none⟩ = some (.int .i64 t142) := (blk_cell BK158.out 1).trans rfl; have hcz114_2 : w102.cell? ⟨gb158, 2, none⟩ = some (.bool t143) := (blk_cell BK158.out 2).trans rfl; have hcz114_3 : w102.cell? ⟨gb158, 3, none⟩ = some (.int .i64 a1_0) := (blk_cell BK158.out 3).trans rfl; have hcz114_4 : w102.cell? ⟨gb158, 4, none⟩ = some (.bool t145) := (blk_cell BK158.out 4).trans rfl; have hcz114_5 : w102.cell? ⟨gb158, 5, none⟩ = some (.int .i64 t146) := (blk_cell BK158.out 5).trans rfl; have hcz114_6 : w102.cell? ⟨gb158, 6, none⟩ = some (.int .i64 t147) := (blk_cell BK158.out 6).trans rfl; have hcz114_7 : w102.cell? ⟨gb158, 7, none⟩ = some (.string t148) := (blk_cell BK158.out 7).trans rfl; have hfz114_0 := blk_frozen BK158.out 0; have hfz114_1 := blk_frozen BK158.out 1; have hfz114_2 := blk_frozen BK158.out 2; have hfz114_3 := blk_frozen BK158.out 3; have hfz114_4 := blk_frozen BK158.out 4; have hfz114_5 := blk_frozen BK158.out 5; have hfz114_6 := blk_frozen BK158.out 6; have hfz114_7 := blk_frozen BK158.out 7))
      go_ret
      exact ⟨by first | rfl | (simp [errW_none, errW_some] <;> rfl) | (simp [*, errW_none, errW_some] <;> rfl), by repeat (first | (with_reducible first | exact HB.out | apply below_alloc | apply pw_below_drewN | apply below_drew1 | refine below_set ?_ GE136.out | refine below_set ?_ GE137.out | refine below_set ?_ GE150.out | refine below_set ?_ GE157.out | refine below_set ?_ GE158.out | refine below_set ?_ GE159.out | refine below_set ?_ GE164.out | refine below_set ?_ GE169.out | refine below_set ?_ GE174.out) | exact HB.out)⟩
     ·rw [if_neg c29] at H
      have c29b0 : (t168 == (a1_0 == t144)) = false := by simpa using c29
      (try (have c29b1 : decide (t168 = (a1_0 == t144)) = false := by simpa using c29))
      (try (have c29b2 : (t168 == (a1_0 == t144)) = false := by simpa using c29))
      (try (have c29b3 : ¬ (t168 = (a1_0 == t144)) := by simpa using c29))
      clear c29
      exact absurd (Option.some.inj H) (by rw [hr]; decide)
    ·rw [if_neg c28] at H
     have c28b0 : (t163 == (a1_0 == t141 && (a1_1 == t142))) = false := by simpa using c28
     (try (have c28b1 : decide (t163 = (a1_0 == t141 && (a1_1 == t142))) = false := by simpa using c28))
     (try (have c28b2 : (t163 == (a1_0 == t141 && (a1_1 == t142))) = false := by simpa using c28))
     (try (have c28b3 : ¬ (t163 = (a1_0 == t141 && (a1_1 == t142))) := by simpa using c28))
     clear c28
     exact absurd (Option.some.inj H) (by rw [hr]; decide)
/-- THE ONE PURE STATEMENT of lapwinglaw07_TeimsgOnly: yours. -/
def lapwinglaw07_TeimsgOnly.Pure : Prop := ∀ (a0_0 : Int) (a0_1 : Int) (a0_2 : Int) (a1_0 : Int) (a1_1 : Int), (Lit.int .i64 a0_0).wf = true → (Lit.int .i64 a0_1).wf = true → (Lit.int .i64 a0_2).wf = true → (Lit.int .i64 a1_0).wf = true → (Lit.int .i64 a1_1).wf = true → ∃ k, lapwinglaw07_TeimsgOnly.f k a0_0 a0_1 a0_2 a1_0 a1_1 = some true
theorem lapwinglaw07_TeimsgOnly.walk (P : lapwinglaw07_TeimsgOnly.Pure) (a0_0 : Int) (a0_1 : Int) (a0_2 : Int) (a1_0 : Int) (a1_1 : Int) (w : World) (hL : YtmgiolpooamkkaaDoorX.Laid w) (w0_0 : (Lit.int .i64 a0_0).wf = true) (w0_1 : (Lit.int .i64 a0_1).wf = true) (w0_2 : (Lit.int .i64 a0_2).wf = true) (w1_0 : (Lit.int .i64 a1_0).wf = true) (w1_1 : (Lit.int .i64 a1_1).wf = true) :
  Calls Tryd.prog 5 #[.agg #[.int .i64 a0_0, .int .i64 a0_1, .int .i64 a0_2], .agg #[.int .i64 a1_0, .int .i64 a1_1]] w fun e w' => e = .returned (.bool true) ∧ Below w.heap.size w w' := by
 obtain ⟨k, h⟩ := P a0_0 a0_1 a0_2 a1_0 a1_1 w0_0 w0_1 w0_2 w1_0 w1_1
 refine (lapwinglaw07_TeimsgOnly.calls k a0_0 a0_1 a0_2 a1_0 a1_1 true w hL rfl h).mono ?_
 rintro e w' ⟨rfl, hd⟩
 exact ⟨rfl, hd⟩

end Go.Proofs.YtmgiolpooamkkaaDoor.Only
