-- Written by a program of this session's, over the kit's printer turned by wip/tools/mkprint.py. Lean checks it.
import Derived.Test.YtdpgdnbknmncfaaDoorPrint0
namespace Go.Proofs.YtdpgdnbknmncfaaDoor.Print
open Go.RowKit Go.Proofs.YtdpgdnbknmncfaaDoorW.PrintWords Go.Proofs.YtdpgdnbknmncfaaDoorW.PrintLast Go.Proofs.YtdpgdnbknmncfaaDoorW.PrintMore
attribute [local go_sem] max2_int min2_int max_two min_two max_three min_three max_four min_four   -- for this text's walks alone
set_option linter.unusedVariables false
set_option linter.unusedSimpArgs false
attribute [local go_sem high] YtdpgdnbknmncfaaDoorX.unary_xor_u16 YtdpgdnbknmncfaaDoorX.unary_xor_u8

/-! ### lapwinglaw06_frames: function 16 -/
def lapwinglaw06_frames.f (a0_0 : Int) (a0_1 : Int) (a0_2 : Bool) (a0_3 : Int) (a0_4 : Bool) (a0_5 : Int) (a0_6 : Int) (a0_7 : ByteArray) : Option (Int × Int × Bool × Int × Bool × Int × Int × ByteArray × Int × Int × Bool × Int × Bool × Int × Int × ByteArray) := some (a0_0, a0_1, a0_2, a0_3, a0_4, a0_5, a0_6, a0_7, a0_0, a0_1, a0_2, a0_3, a0_4, a0_5, a0_6, a0_7)
def lapwinglaw06_frames.T1 : Bool × List (List Nat × List Nat) := (true, [([], []), ([0], [0]), ([], []), ([2], [2]), ([1, 3], [1, 3]), ([], []), ([5], [5]), ([], []), ([7], [7]), ([], []), ([9], [9]), ([], []), ([11], [11]), ([], []), ([13], [13]), ([], []), ([15], [15]), ([4, 6, 8, 10, 12, 14, 16], [4, 6, 8, 10, 12, 14, 16]), ([], []), ([17, 0, 1, 2, 3, 4, 5, 6, 7, 8, 9, 10, 11, 12, 13, 14, 15, 16, 17], [17]), ([18, 19, 0, 1, 2, 3, 4, 5, 6, 7, 8, 9, 10, 11, 12, 13, 14, 15, 16, 17, 18, 19], [18])])
def lapwinglaw06_frames.B1 : List Nat := [0, 1, 0, 4, 15, 0, 32, 0, 128, 0, 512, 0, 2048, 0, 8192, 0, 32768, 131071, 0, 262143, 1048575]
theorem lapwinglaw06_frames.tab1 : rtab .any (opsOf Tryd.f16 1) = lapwinglaw06_frames.T1 := by kernel_rfl
theorem lapwinglaw06_frames.bits1 : waitsOk lapwinglaw06_frames.T1.2 lapwinglaw06_frames.B1 = true := by kernel_rfl
set_option maxHeartbeats 8000000 in
set_option maxRecDepth 100000 in
theorem lapwinglaw06_frames.calls (a0_0 : Int) (a0_1 : Int) (a0_2 : Bool) (a0_3 : Int) (a0_4 : Bool) (a0_5 : Int) (a0_6 : Int) (a0_7 : ByteArray) (r1 : Int) (r2 : Int) (r3 : Bool) (r4 : Int) (r5 : Bool) (r6 : Int) (r7 : Int) (r8 : ByteArray) (r9 : Int) (r10 : Int) (r11 : Bool) (r12 : Int) (r13 : Bool) (r14 : Int) (r15 : Int) (r16 : ByteArray) (w : World) (h : lapwinglaw06_frames.f a0_0 a0_1 a0_2 a0_3 a0_4 a0_5 a0_6 a0_7 = some (r1, r2, r3, r4, r5, r6, r7, r8, r9, r10, r11, r12, r13, r14, r15, r16)) :
  Calls Tryd.prog 16 #[.agg #[.int .i64 a0_0, .int .i64 a0_1, .bool a0_2, .int .i64 a0_3, .bool a0_4, .int .i64 a0_5, .int .i64 a0_6, .string a0_7]] w fun e w' => e = .returned (.tuple #[.agg #[.int .i64 r1, .int .i64 r2, .bool r3, .int .i64 r4, .bool r5, .int .i64 r6, .int .i64 r7, .string r8], .agg #[.int .i64 r9, .int .i64 r10, .bool r11, .int .i64 r12, .bool r13, .int .i64 r14, .int .i64 r15, .string r16]]) ∧ Below w.heap.size w w' := by
 have hu29 := Tryd.underlying29
 have hu33 := Tryd.underlying33
 have hu34 := Tryd.underlying34
 have hu31 := Tryd.underlying31
 have HB := Aside0.mk (Below.refl w.heap.size w)
 have H : (some (a0_0, a0_1, a0_2, a0_3, a0_4, a0_5, a0_6, a0_7, a0_0, a0_1, a0_2, a0_3, a0_4, a0_5, a0_6, a0_7)) = some (r1, r2, r3, r4, r5, r6, r7, r8, r9, r10, r11, r12, r13, r14, r15, r16) := h
 clear h
 simp only [Option.some.injEq, Prod.mk.injEq] at H
 obtain ⟨rfl, rfl, rfl, rfl, rfl, rfl, rfl, rfl, rfl, rfl, rfl, rfl, rfl, rfl, rfl, rfl⟩ := H
 go_enter Tryd.func16, Tryd.ntmps16
 try go_wp2_with (first | ((with_reducible refine gate_dst (N := 1) rfl ?_); refine box_event ?hg (N := 1) ?hd (cs := #[.int .i64 a0_0, .int .i64 a0_1, .bool a0_2, .int .i64 a0_3, .bool a0_4, .int .i64 a0_5, .int .i64 a0_6, .string a0_7]) (t := 29) ?hr ?_; (case hd => rfl); (case hg => rfl); (case hr => first | (go_simp; done) | (go_simp; rfl)); intro gb192 hg w2 hbox hb; have n0_ := Aside0.mk (below_step (by repeat (first | (with_reducible first | exact HB.out | apply below_alloc | apply pw_below_drewN | apply below_drew1) | exact HB.out)) hb); have n1_ := Aside0.mk (hbox); have n2_ := Aside0.mk ((by rw [hg]; exact (below_size (by repeat (first | (with_reducible first | exact HB.out | apply below_alloc | apply pw_below_drewN | apply below_drew1) | exact HB.out))) : w.heap.size ≤ gb192)); have n3_ := n2_; clear HB; have HB := n0_; have BK192 := n1_; have GW192 := n2_; have GE192 := n3_; clear n0_ n1_ n2_ n3_; clear hb hbox hg) | ((with_reducible refine gate_dst (N := 2) rfl ?_); refine box_event ?hg (N := 2) ?hd (cs := #[.int .i64 0, .int .i64 0, .bool false, .int .i64 0, .bool false, .int .i64 0, .int .i64 0, .string (⟨#[]⟩ : ByteArray)]) (t := 33) ?hr ?_; (case hd => rfl); (case hg => rfl); (case hr => first | (go_simp; done) | (go_simp; rfl)); intro gb193 hg w3 hbox hb; have n0_ := Aside0.mk (blk_below (g := gb192) (o := .cells #[.int .i64 a0_0, .int .i64 a0_1, .bool a0_2, .int .i64 a0_3, .bool a0_4, .int .i64 a0_5, .int .i64 a0_6, .string a0_7] 29 (0, 0)) (by (with_reducible repeat (first | apply blk_drewN | apply blk_drew | apply blk_alloc)); exact BK192.out) hb); have n1_ := Aside0.mk (below_step (by repeat (first | (with_reducible first | exact HB.out | apply below_alloc | apply pw_below_drewN | apply below_drew1 | refine below_set ?_ GE192.out) | exact HB.out)) hb); have n2_ := Aside0.mk (hbox); have n3_ := Aside0.mk ((by rw [hg]; exact (below_size (by repeat (first | (with_reducible first | exact HB.out | apply below_alloc | apply pw_below_drewN | apply below_drew1 | refine below_set ?_ GE192.out) | exact HB.out))) : w.heap.size ≤ gb193)); have n4_ := n3_; have n5_ := Aside0.mk ((by rw [hg]; exact Nat.ne_of_lt (blk_lt (g := gb192) (o := .cells #[.int .i64 a0_0, .int .i64 a0_1, .bool a0_2, .int .i64 a0_3, .bool a0_4, .int .i64 a0_5, .int .i64 a0_6, .string a0_7] 29 (0, 0)) (by (with_reducible repeat (first | apply blk_drewN | apply blk_drew | apply blk_alloc)); exact BK192.out)) : gb192 ≠ gb193)); have n6_ := Aside0.mk (Ne.symm n5_.out); clear BK192; clear HB; have BK192 := n0_; have HB := n1_; have BK193 := n2_; have GW193 := n3_; have GE193 := n4_; have NB192_193 := n5_; have NB193_192 := n6_; clear n0_ n1_ n2_ n3_ n4_ n5_ n6_; clear hb hbox hg) | ((with_reducible refine gate_dst (N := 3) rfl ?_); refine box_event ?hg (N := 3) ?hd (cs := #[.int .i64 0, .int .i64 0, .bool false, .int .i64 0, .bool false, .int .i64 0, .int .i64 0, .string (⟨#[]⟩ : ByteArray)]) (t := 34) ?hr ?_; (case hd => rfl); (case hg => rfl); (case hr => first | (go_simp; done) | (go_simp; rfl)); intro gb194 hg w4 hbox hb; have n0_ := Aside0.mk (blk_below (g := gb192) (o := .cells #[.int .i64 a0_0, .int .i64 a0_1, .bool a0_2, .int .i64 a0_3, .bool a0_4, .int .i64 a0_5, .int .i64 a0_6, .string a0_7] 29 (0, 0)) (by (with_reducible repeat (first | apply blk_drewN | apply blk_drew | apply blk_alloc)); exact BK192.out) hb); have n1_ := Aside0.mk (blk_below (g := gb193) (o := .cells #[.int .i64 0, .int .i64 0, .bool false, .int .i64 0, .bool false, .int .i64 0, .int .i64 0, .string (⟨#[]⟩ : ByteArray)] 33 (0, 0)) (by (with_reducible repeat (first | apply blk_drewN | apply blk_drew | apply blk_alloc)); exact BK193.out) hb); have n2_ := Aside0.mk (below_step (by repeat (first | (with_reducible first | exact HB.out | apply below_alloc | apply pw_below_drewN | apply below_drew1 | refine below_set ?_ GE192.out | refine below_set ?_ GE193.out) | exact HB.out)) hb); have n3_ := Aside0.mk (hbox); have n4_ := Aside0.mk ((by rw [hg]; exact (below_size (by repeat (first | (with_reducible first | exact HB.out | apply below_alloc | apply pw_below_drewN | apply below_drew1 | refine below_set ?_ GE192.out | refine below_set ?_ GE193.out) | exact HB.out))) : w.heap.size ≤ gb194)); have n5_ := n4_; have n6_ := Aside0.mk ((by rw [hg]; exact Nat.ne_of_lt (blk_lt (g := gb192) (o := .cells #[.int .i64 a0_0, .int .i64 a0_1, .bool a0_2, .int .i64 a0_3, .bool a0_4, .int .i64 a0_5, .int .i64 a0_6, .string a0_7] 29 (0, 0)) (by (with_reducible repeat (first | apply blk_drewN | apply blk_drew | apply blk_alloc)); exact BK192.out)) : gb192 ≠ gb194)); have n7_ := Aside0.mk (Ne.symm n6_.out); have n8_ := Aside0.mk ((by rw [hg]; exact Nat.ne_of_lt (blk_lt (g := gb193) (o := .cells #[.int .i64 0, .int .i64 0, .bool false, .int .i64 0, .bool false, .int .i64 0, .int .i64 0, .string (⟨#[]⟩ : ByteArray)] 33 (0, 0)) (by (with_reducible repeat (first | apply blk_drewN | apply blk_drew | apply blk_alloc)); exact BK193.out)) : gb193 ≠ gb194)); have n9_ := Aside0.mk (Ne.symm n8_.out); clear BK192; clear BK193; clear HB; have BK192 := n0_; have BK193 := n1_; have HB := n2_; have BK194 := n3_; have GW194 := n4_; have GE194 := n5_; have NB192_194 := n6_; have NB194_192 := n7_; have NB193_194 := n8_; have NB194_193 := n9_; clear n0_ n1_ n2_ n3_ n4_ n5_ n6_ n7_ n8_ n9_; clear hb hbox hg))
 have n0_ := Aside0.mk (blk_drew BK192.out)
 have n1_ := Aside0.mk (blk_drew BK193.out)
 have n2_ := Aside0.mk (blk_drew BK194.out)
 have n3_ := Aside0.mk (below_drew1 HB.out)
 clear BK192
 clear BK193
 clear BK194
 clear HB
 have BK192 := n0_
 have BK193 := n1_
 have BK194 := n2_
 have HB := n3_
 clear n0_ n1_ n2_ n3_
 refine start_ (n := 21) (S := fun w' => w'.cell? ⟨gb192, 0, none⟩ = some (.int .i64 a0_0) ∧ w'.cell? ⟨gb192, 1, none⟩ = some (.int .i64 a0_1) ∧ w'.cell? ⟨gb192, 2, none⟩ = some (.bool a0_2) ∧ w'.cell? ⟨gb192, 3, none⟩ = some (.int .i64 a0_3) ∧ w'.cell? ⟨gb192, 4, none⟩ = some (.bool a0_4) ∧ w'.cell? ⟨gb192, 5, none⟩ = some (.int .i64 a0_5) ∧ w'.cell? ⟨gb192, 6, none⟩ = some (.int .i64 a0_6) ∧ w'.cell? ⟨gb192, 7, none⟩ = some (.string a0_7)) (ds := []) #[tF, tF, tF, tF, tF, tF, tF, tF, tF, tF, tF, tF, tF, tF, tF, tF, tF, tF, tF, tF, tF] (by kernel_rfl) rfl rfl ⟨(blk_cell BK192.out 0).trans rfl, (blk_cell BK192.out 1).trans rfl, (blk_cell BK192.out 2).trans rfl, (blk_cell BK192.out 3).trans rfl, (blk_cell BK192.out 4).trans rfl, (blk_cell BK192.out 5).trans rfl, (blk_cell BK192.out 6).trans rfl, (blk_cell BK192.out 7).trans rfl⟩ (fun hHeld => ?_); refine with_tabW lapwinglaw06_frames.tab1 lapwinglaw06_frames.bits1 (fun HT_ HW_ => ?_)
 generalize w4.drew = w5 at BK192 BK193 BK194 HB hHeld ⊢
 refine pure_ (i := 0) (N := some 4) (v := ?_) (a' := ?_) #[tT, tF, tF, tF, tF, tF, tF, tF, tF, tF, tF, tF, tF, tF, tF, tF, tF, tF, tF, tF, tF] rfl rfl (any_of HT_.out (by kernel_rfl)) (fun _ _ _ h => h) (Or.inl ⟨by rfl, ?_⟩) ?_ ?_
 rotate_left
 ·intro w'
  go_simp
  with_reducible rfl
 rotate_left
 ·simp only [Act.put, List.setIfInBounds_toArray, List.set_cons_zero, List.set_cons_succ, i64_w, i32_w]
  rfl
 refine pure_ (i := 2) (N := some 6) (v := ?_) (a' := ?_) #[tT, tF, tT, tF, tF, tF, tF, tF, tF, tF, tF, tF, tF, tF, tF, tF, tF, tF, tF, tF, tF] rfl rfl (any_of HT_.out (by kernel_rfl)) (fun _ _ _ h => h) (Or.inl ⟨by rfl, ?_⟩) ?_ ?_
 rotate_left
 ·intro w'
  go_simp
  with_reducible rfl
 rotate_left
 ·simp only [Act.put, List.setIfInBounds_toArray, List.set_cons_zero, List.set_cons_succ, i64_w, i32_w]
  rfl
 refine pure_ (i := 5) (N := some 9) (v := ?_) (a' := ?_) #[tT, tF, tT, tF, tF, tT, tF, tF, tF, tF, tF, tF, tF, tF, tF, tF, tF, tF, tF, tF, tF] rfl rfl (any_of HT_.out (by kernel_rfl)) (fun _ _ _ h => h) (Or.inl ⟨by rfl, ?_⟩) ?_ ?_
 rotate_left
 ·intro w'
  go_simp
  with_reducible rfl
 rotate_left
 ·simp only [Act.put, List.setIfInBounds_toArray, List.set_cons_zero, List.set_cons_succ, i64_w, i32_w]
  rfl
 refine pure_ (i := 7) (N := some 11) (v := ?_) (a' := ?_) #[tT, tF, tT, tF, tF, tT, tF, tT, tF, tF, tF, tF, tF, tF, tF, tF, tF, tF, tF, tF, tF] rfl rfl (any_of HT_.out (by kernel_rfl)) (fun _ _ _ h => h) (Or.inl ⟨by rfl, ?_⟩) ?_ ?_
 rotate_left
 ·intro w'
  go_simp
  with_reducible rfl
 rotate_left
 ·simp only [Act.put, List.setIfInBounds_toArray, List.set_cons_zero, List.set_cons_succ, i64_w, i32_w]
  rfl
 refine pure_ (i := 9) (N := some 13) (v := ?_) (a' := ?_) #[tT, tF, tT, tF, tF, tT, tF, tT, tF, tT, tF, tF, tF, tF, tF, tF, tF, tF, tF, tF, tF] rfl rfl (any_of HT_.out (by kernel_rfl)) (fun _ _ _ h => h) (Or.inl ⟨by rfl, ?_⟩) ?_ ?_
 rotate_left
 ·intro w'
  go_simp
  with_reducible rfl
 rotate_left
 ·simp only [Act.put, List.setIfInBounds_toArray, List.set_cons_zero, List.set_cons_succ, i64_w, i32_w]
  rfl
 refine pure_ (i := 11) (N := some 15) (v := ?_) (a' := ?_) #[tT, tF, tT, tF, tF, tT, tF, tT, tF, tT, tF, tT, tF, tF, tF, tF, tF, tF, tF, tF, tF] rfl rfl (any_of HT_.out (by kernel_rfl)) (fun _ _ _ h => h) (Or.inl ⟨by rfl, ?_⟩) ?_ ?_
 rotate_left
 ·intro w'
  go_simp
  with_reducible rfl
 rotate_left
 ·simp only [Act.put, List.setIfInBounds_toArray, List.set_cons_zero, List.set_cons_succ, i64_w, i32_w]
  rfl
 refine pure_ (i := 13) (N := some 17) (v := ?_) (a' := ?_) #[tT, tF, tT, tF, tF, tT, tF, tT, tF, tT, tF, tT, tF, tT, tF, tF, tF, tF, tF, tF, tF] rfl rfl (any_of HT_.out (by kernel_rfl)) (fun _ _ _ h => h) (Or.inl ⟨by rfl, ?_⟩) ?_ ?_
 rotate_left
 ·intro w'
  go_simp
  with_reducible rfl
 rotate_left
 ·simp only [Act.put, List.setIfInBounds_toArray, List.set_cons_zero, List.set_cons_succ, i64_w, i32_w]
  rfl
 refine pure_ (i := 15) (N := some 19) (v := ?_) (a' := ?_) #[tT, tF, tT, tF, tF, tT, tF, tT, tF, tT, tF, tT, tF, tT, tF, tT, tF, tF, tF, tF, tF] rfl rfl (any_of HT_.out (by kernel_rfl)) (fun _ _ _ h => h) (Or.inl ⟨by rfl, ?_⟩) ?_ ?_
 rotate_left
 ·intro w'
  go_simp
  with_reducible rfl
 rotate_left
 ·simp only [Act.put, List.setIfInBounds_toArray, List.set_cons_zero, List.set_cons_succ, i64_w, i32_w]
  rfl
 refine take_ (i := 1) (N := some 5) (v := ?_) (a' := ?_) #[tT, tT, tT, tF, tF, tT, tF, tT, tF, tT, tF, tT, tF, tT, tF, tT, tF, tF, tF, tF, tF] rfl rfl (take_ofW HT_.out HW_.out (by kernel_rfl)) (fun _ _ _ h => h) (Or.inl ⟨by rfl, ?_⟩) hHeld ?_ ?_
 rotate_left
 ·rintro w' ⟨s0, s1, s2, s3, s4, s5, s6, s7⟩
  go_simp
  with_reducible rfl
 rotate_left
 ·simp only [Act.put, List.setIfInBounds_toArray, List.set_cons_zero, List.set_cons_succ, i64_w, i32_w]
  rfl
 refine take_ (i := 3) (N := some 7) (v := ?_) (a' := ?_) #[tT, tT, tT, tT, tF, tT, tF, tT, tF, tT, tF, tT, tF, tT, tF, tT, tF, tF, tF, tF, tF] rfl rfl (take_ofW HT_.out HW_.out (by kernel_rfl)) (fun _ _ _ h => h) (Or.inl ⟨by rfl, ?_⟩) hHeld ?_ ?_
 rotate_left
 ·rintro w' ⟨s0, s1, s2, s3, s4, s5, s6, s7⟩
  go_simp
  with_reducible rfl
 rotate_left
 ·simp only [Act.put, List.setIfInBounds_toArray, List.set_cons_zero, List.set_cons_succ, i64_w, i32_w]
  rfl
 refine pure_ (i := 4) (N := some 8) (v := ?_) (a' := ?_) #[tT, tT, tT, tT, tT, tT, tF, tT, tF, tT, tF, tT, tF, tT, tF, tT, tF, tF, tF, tF, tF] rfl rfl (any_of HT_.out (by kernel_rfl)) (fun _ _ _ h => h) (Or.inl ⟨by rfl, ?_⟩) ?_ ?_
 rotate_left
 ·intro w'
  go_simp
  with_reducible rfl
 rotate_left
 ·simp only [Act.put, List.setIfInBounds_toArray, List.set_cons_zero, List.set_cons_succ, i64_w, i32_w]
  rfl
 refine take_ (i := 6) (N := some 10) (v := ?_) (a' := ?_) #[tT, tT, tT, tT, tT, tT, tT, tT, tF, tT, tF, tT, tF, tT, tF, tT, tF, tF, tF, tF, tF] rfl rfl (take_ofW HT_.out HW_.out (by kernel_rfl)) (fun _ _ _ h => h) (Or.inl ⟨by rfl, ?_⟩) hHeld ?_ ?_
 rotate_left
 ·rintro w' ⟨s0, s1, s2, s3, s4, s5, s6, s7⟩
  go_simp
  with_reducible rfl
 rotate_left
 ·simp only [Act.put, List.setIfInBounds_toArray, List.set_cons_zero, List.set_cons_succ, i64_w, i32_w]
  rfl
 refine take_ (i := 8) (N := some 12) (v := ?_) (a' := ?_) #[tT, tT, tT, tT, tT, tT, tT, tT, tT, tT, tF, tT, tF, tT, tF, tT, tF, tF, tF, tF, tF] rfl rfl (take_ofW HT_.out HW_.out (by kernel_rfl)) (fun _ _ _ h => h) (Or.inl ⟨by rfl, ?_⟩) hHeld ?_ ?_
 rotate_left
 ·rintro w' ⟨s0, s1, s2, s3, s4, s5, s6, s7⟩
  go_simp
  with_reducible rfl
 rotate_left
 ·simp only [Act.put, List.setIfInBounds_toArray, List.set_cons_zero, List.set_cons_succ, i64_w, i32_w]
  rfl
 refine take_ (i := 10) (N := some 14) (v := ?_) (a' := ?_) #[tT, tT, tT, tT, tT, tT, tT, tT, tT, tT, tT, tT, tF, tT, tF, tT, tF, tF, tF, tF, tF] rfl rfl (take_ofW HT_.out HW_.out (by kernel_rfl)) (fun _ _ _ h => h) (Or.inl ⟨by rfl, ?_⟩) hHeld ?_ ?_
 rotate_left
 ·rintro w' ⟨s0, s1, s2, s3, s4, s5, s6, s7⟩
  go_simp
  with_reducible rfl
 rotate_left
 ·simp only [Act.put, List.setIfInBounds_toArray, List.set_cons_zero, List.set_cons_succ, i64_w, i32_w]
  rfl
 refine take_ (i := 12) (N := some 16) (v := ?_) (a' := ?_) #[tT, tT, tT, tT, tT, tT, tT, tT, tT, tT, tT, tT, tT, tT, tF, tT, tF, tF, tF, tF, tF] rfl rfl (take_ofW HT_.out HW_.out (by kernel_rfl)) (fun _ _ _ h => h) (Or.inl ⟨by rfl, ?_⟩) hHeld ?_ ?_
 rotate_left
 ·rintro w' ⟨s0, s1, s2, s3, s4, s5, s6, s7⟩
  go_simp
  with_reducible rfl
 rotate_left
 ·simp only [Act.put, List.setIfInBounds_toArray, List.set_cons_zero, List.set_cons_succ, i64_w, i32_w]
  rfl
 refine take_ (i := 14) (N := some 18) (v := ?_) (a' := ?_) #[tT, tT, tT, tT, tT, tT, tT, tT, tT, tT, tT, tT, tT, tT, tT, tT, tF, tF, tF, tF, tF] rfl rfl (take_ofW HT_.out HW_.out (by kernel_rfl)) (fun _ _ _ h => h) (Or.inl ⟨by rfl, ?_⟩) hHeld ?_ ?_
 rotate_left
 ·rintro w' ⟨s0, s1, s2, s3, s4, s5, s6, s7⟩
  go_simp
  with_reducible rfl
 rotate_left
 ·simp only [Act.put, List.setIfInBounds_toArray, List.set_cons_zero, List.set_cons_succ, i64_w, i32_w]
  rfl
 refine take_ (i := 16) (N := some 20) (v := ?_) (a' := ?_) #[tT, tT, tT, tT, tT, tT, tT, tT, tT, tT, tT, tT, tT, tT, tT, tT, tT, tF, tF, tF, tF] rfl rfl (take_ofW HT_.out HW_.out (by kernel_rfl)) (fun _ _ _ h => h) (Or.inl ⟨by rfl, ?_⟩) hHeld ?_ ?_
 rotate_left
 ·rintro w' ⟨s0, s1, s2, s3, s4, s5, s6, s7⟩
  go_simp
  with_reducible rfl
 rotate_left
 ·simp only [Act.put, List.setIfInBounds_toArray, List.set_cons_zero, List.set_cons_succ, i64_w, i32_w]
  rfl
 refine pure_ (i := 17) (N := some 21) (v := ?_) (a' := ?_) #[tT, tT, tT, tT, tT, tT, tT, tT, tT, tT, tT, tT, tT, tT, tT, tT, tT, tT, tF, tF, tF] rfl rfl (any_of HT_.out (by kernel_rfl)) (fun _ _ _ h => h) (Or.inl ⟨by rfl, ?_⟩) ?_ ?_
 rotate_left
 ·intro w'
  go_simp
  with_reducible rfl
 rotate_left
 ·simp only [Act.put, List.setIfInBounds_toArray, List.set_cons_zero, List.set_cons_succ, i64_w, i32_w]
  rfl
 refine take_ (i := 18) (N := some 22) (v := ?_) (a' := ?_) #[tT, tT, tT, tT, tT, tT, tT, tT, tT, tT, tT, tT, tT, tT, tT, tT, tT, tT, tT, tF, tF] rfl rfl (take_ofW HT_.out HW_.out (by kernel_rfl)) (fun _ _ _ h => h) (Or.inl ⟨by rfl, ?_⟩) hHeld ?_ ?_
 rotate_left
 ·rintro w' ⟨s0, s1, s2, s3, s4, s5, s6, s7⟩
  go_simp
  with_reducible rfl
 rotate_left
 ·simp only [Act.put, List.setIfInBounds_toArray, List.set_cons_zero, List.set_cons_succ, i64_w, i32_w]
  rfl
 refine one_ (i := 19) (N := none) #[tT, tT, tT, tT, tT, tT, tT, tT, tT, tT, tT, tT, tT, tT, tT, tT, tT, tT, tT, tT, tF] rfl rfl (one_of HT_.out (by kernel_rfl)) (by decide) (fun K hK => ?_)
 have hs6 : w5.cell? ⟨gb193, 0, none⟩ = some (.int .i64 0) := (blk_cell BK193.out 0).trans rfl
 have hfs6 := blk_frozen BK193.out 0
 have hns6_0 := NB192_193.out
 have hns6_2 := NB194_193.out
 have hms6_0 := NB193_192.out
 have hms6_2 := NB193_194.out
 have hs7 : w5.cell? ⟨gb193, 1, none⟩ = some (.int .i64 0) := (blk_cell BK193.out 1).trans rfl
 have hfs7 := blk_frozen BK193.out 1
 have hns7_0 := NB192_193.out
 have hns7_2 := NB194_193.out
 have hms7_0 := NB193_192.out
 have hms7_2 := NB193_194.out
 have hs8 : w5.cell? ⟨gb193, 2, none⟩ = some (.bool false) := (blk_cell BK193.out 2).trans rfl
 have hfs8 := blk_frozen BK193.out 2
 have hns8_0 := NB192_193.out
 have hns8_2 := NB194_193.out
 have hms8_0 := NB193_192.out
 have hms8_2 := NB193_194.out
 have hs9 : w5.cell? ⟨gb193, 3, none⟩ = some (.int .i64 0) := (blk_cell BK193.out 3).trans rfl
 have hfs9 := blk_frozen BK193.out 3
 have hns9_0 := NB192_193.out
 have hns9_2 := NB194_193.out
 have hms9_0 := NB193_192.out
 have hms9_2 := NB193_194.out
 have hs10 : w5.cell? ⟨gb193, 4, none⟩ = some (.bool false) := (blk_cell BK193.out 4).trans rfl
 have hfs10 := blk_frozen BK193.out 4
 have hns10_0 := NB192_193.out
 have hns10_2 := NB194_193.out
 have hms10_0 := NB193_192.out
 have hms10_2 := NB193_194.out
 have hs11 : w5.cell? ⟨gb193, 5, none⟩ = some (.int .i64 0) := (blk_cell BK193.out 5).trans rfl
 have hfs11 := blk_frozen BK193.out 5
 have hns11_0 := NB192_193.out
 have hns11_2 := NB194_193.out
 have hms11_0 := NB193_192.out
 have hms11_2 := NB193_194.out
 have hs12 : w5.cell? ⟨gb193, 6, none⟩ = some (.int .i64 0) := (blk_cell BK193.out 6).trans rfl
 have hfs12 := blk_frozen BK193.out 6
 have hns12_0 := NB192_193.out
 have hns12_2 := NB194_193.out
 have hms12_0 := NB193_192.out
 have hms12_2 := NB193_194.out
 have hs13 : w5.cell? ⟨gb193, 7, none⟩ = some (.string (⟨#[]⟩ : ByteArray)) := (blk_cell BK193.out 7).trans rfl
 have hfs13 := blk_frozen BK193.out 7
 have hns13_0 := NB192_193.out
 have hns13_2 := NB194_193.out
 have hms13_0 := NB193_192.out
 have hms13_2 := NB193_194.out
 refine skip_ (w1 := ?_) (by rfl) rfl ?_ ?_
 rotate_left
 ·go_simp
  rfl
 refine hK.out _ _ ⟨((cell_far (p := ⟨gb193, _, none⟩) NB192_193.out _).trans (((cell_far (p := ⟨gb193, _, none⟩) NB192_193.out _).trans (((cell_far (p := ⟨gb193, _, none⟩) NB192_193.out _).trans (((cell_far (p := ⟨gb193, _, none⟩) NB192_193.out _).trans (((cell_far (p := ⟨gb193, _, none⟩) NB192_193.out _).trans (((cell_far (p := ⟨gb193, _, none⟩) NB192_193.out _).trans (((cell_far (p := ⟨gb193, _, none⟩) NB192_193.out _).trans (((cell_far (p := ⟨gb193, _, none⟩) NB192_193.out _).trans (hHeld.1)))))))))))))))), ((cell_far (p := ⟨gb193, _, none⟩) NB192_193.out _).trans (((cell_far (p := ⟨gb193, _, none⟩) NB192_193.out _).trans (((cell_far (p := ⟨gb193, _, none⟩) NB192_193.out _).trans (((cell_far (p := ⟨gb193, _, none⟩) NB192_193.out _).trans (((cell_far (p := ⟨gb193, _, none⟩) NB192_193.out _).trans (((cell_far (p := ⟨gb193, _, none⟩) NB192_193.out _).trans (((cell_far (p := ⟨gb193, _, none⟩) NB192_193.out _).trans (((cell_far (p := ⟨gb193, _, none⟩) NB192_193.out _).trans (hHeld.2.1)))))))))))))))), ((cell_far (p := ⟨gb193, _, none⟩) NB192_193.out _).trans (((cell_far (p := ⟨gb193, _, none⟩) NB192_193.out _).trans (((cell_far (p := ⟨gb193, _, none⟩) NB192_193.out _).trans (((cell_far (p := ⟨gb193, _, none⟩) NB192_193.out _).trans (((cell_far (p := ⟨gb193, _, none⟩) NB192_193.out _).trans (((cell_far (p := ⟨gb193, _, none⟩) NB192_193.out _).trans (((cell_far (p := ⟨gb193, _, none⟩) NB192_193.out _).trans (((cell_far (p := ⟨gb193, _, none⟩) NB192_193.out _).trans (hHeld.2.2.1)))))))))))))))), ((cell_far (p := ⟨gb193, _, none⟩) NB192_193.out _).trans (((cell_far (p := ⟨gb193, _, none⟩) NB192_193.out _).trans (((cell_far (p := ⟨gb193, _, none⟩) NB192_193.out _).trans (((cell_far (p := ⟨gb193, _, none⟩) NB192_193.out _).trans (((cell_far (p := ⟨gb193, _, none⟩) NB192_193.out _).trans (((cell_far (p := ⟨gb193, _, none⟩) NB192_193.out _).trans (((cell_far (p := ⟨gb193, _, none⟩) NB192_193.out _).trans (((cell_far (p := ⟨gb193, _, none⟩) NB192_193.out _).trans (hHeld.2.2.2.1)))))))))))))))), ((cell_far (p := ⟨gb193, _, none⟩) NB192_193.out _).trans (((cell_far (p := ⟨gb193, _, none⟩) NB192_193.out _).trans (((cell_far (p := ⟨gb193, _, none⟩) NB192_193.out _).trans (((cell_far (p := ⟨gb193, _, none⟩) NB192_193.out _).trans (((cell_far (p := ⟨gb193, _, none⟩) NB192_193.out _).trans (((cell_far (p := ⟨gb193, _, none⟩) NB192_193.out _).trans (((cell_far (p := ⟨gb193, _, none⟩) NB192_193.out _).trans (((cell_far (p := ⟨gb193, _, none⟩) NB192_193.out _).trans (hHeld.2.2.2.2.1)))))))))))))))), ((cell_far (p := ⟨gb193, _, none⟩) NB192_193.out _).trans (((cell_far (p := ⟨gb193, _, none⟩) NB192_193.out _).trans (((cell_far (p := ⟨gb193, _, none⟩) NB192_193.out _).trans (((cell_far (p := ⟨gb193, _, none⟩) NB192_193.out _).trans (((cell_far (p := ⟨gb193, _, none⟩) NB192_193.out _).trans (((cell_far (p := ⟨gb193, _, none⟩) NB192_193.out _).trans (((cell_far (p := ⟨gb193, _, none⟩) NB192_193.out _).trans (((cell_far (p := ⟨gb193, _, none⟩) NB192_193.out _).trans (hHeld.2.2.2.2.2.1)))))))))))))))), ((cell_far (p := ⟨gb193, _, none⟩) NB192_193.out _).trans (((cell_far (p := ⟨gb193, _, none⟩) NB192_193.out _).trans (((cell_far (p := ⟨gb193, _, none⟩) NB192_193.out _).trans (((cell_far (p := ⟨gb193, _, none⟩) NB192_193.out _).trans (((cell_far (p := ⟨gb193, _, none⟩) NB192_193.out _).trans (((cell_far (p := ⟨gb193, _, none⟩) NB192_193.out _).trans (((cell_far (p := ⟨gb193, _, none⟩) NB192_193.out _).trans (((cell_far (p := ⟨gb193, _, none⟩) NB192_193.out _).trans (hHeld.2.2.2.2.2.2.1)))))))))))))))), ((cell_far (p := ⟨gb193, _, none⟩) NB192_193.out _).trans (((cell_far (p := ⟨gb193, _, none⟩) NB192_193.out _).trans (((cell_far (p := ⟨gb193, _, none⟩) NB192_193.out _).trans (((cell_far (p := ⟨gb193, _, none⟩) NB192_193.out _).trans (((cell_far (p := ⟨gb193, _, none⟩) NB192_193.out _).trans (((cell_far (p := ⟨gb193, _, none⟩) NB192_193.out _).trans (((cell_far (p := ⟨gb193, _, none⟩) NB192_193.out _).trans (((cell_far (p := ⟨gb193, _, none⟩) NB192_193.out _).trans (hHeld.2.2.2.2.2.2.2))))))))))))))))⟩ (fun hHeld => ?_)
 clear hK K
 have n0_ : Aside0 (((((((((w5.setCell ⟨gb193, 0, none⟩ (.int .i64 a0_0)).setCell ⟨gb193, 1, none⟩ (.int .i64 a0_1)).setCell ⟨gb193, 2, none⟩ (.bool a0_2)).setCell ⟨gb193, 3, none⟩ (.int .i64 a0_3)).setCell ⟨gb193, 4, none⟩ (.bool a0_4)).setCell ⟨gb193, 5, none⟩ (.int .i64 a0_5)).setCell ⟨gb193, 6, none⟩ (.int .i64 a0_6)).setCell ⟨gb193, 7, none⟩ (.string a0_7)).heap[gb192]? = some (.cells #[.int .i64 a0_0, .int .i64 a0_1, .bool a0_2, .int .i64 a0_3, .bool a0_4, .int .i64 a0_5, .int .i64 a0_6, .string a0_7] 29 (0, 0))) := ⟨by (with_reducible repeat (first | apply blk_drewN | apply blk_drew | apply blk_alloc)); refine blk_far ?_ NB192_193.out _; (with_reducible repeat (first | apply blk_drewN | apply blk_drew | apply blk_alloc)); refine blk_far ?_ NB192_193.out _; (with_reducible repeat (first | apply blk_drewN | apply blk_drew | apply blk_alloc)); refine blk_far ?_ NB192_193.out _; (with_reducible repeat (first | apply blk_drewN | apply blk_drew | apply blk_alloc)); refine blk_far ?_ NB192_193.out _; (with_reducible repeat (first | apply blk_drewN | apply blk_drew | apply blk_alloc)); refine blk_far ?_ NB192_193.out _; (with_reducible repeat (first | apply blk_drewN | apply blk_drew | apply blk_alloc)); refine blk_far ?_ NB192_193.out _; (with_reducible repeat (first | apply blk_drewN | apply blk_drew | apply blk_alloc)); refine blk_far ?_ NB192_193.out _; (with_reducible repeat (first | apply blk_drewN | apply blk_drew | apply blk_alloc)); refine blk_far ?_ NB192_193.out _; (with_reducible repeat (first | apply blk_drewN | apply blk_drew | apply blk_alloc)); exact BK192.out⟩
 have n1_ : Aside0 (((((((((w5.setCell ⟨gb193, 0, none⟩ (.int .i64 a0_0)).setCell ⟨gb193, 1, none⟩ (.int .i64 a0_1)).setCell ⟨gb193, 2, none⟩ (.bool a0_2)).setCell ⟨gb193, 3, none⟩ (.int .i64 a0_3)).setCell ⟨gb193, 4, none⟩ (.bool a0_4)).setCell ⟨gb193, 5, none⟩ (.int .i64 a0_5)).setCell ⟨gb193, 6, none⟩ (.int .i64 a0_6)).setCell ⟨gb193, 7, none⟩ (.string a0_7)).heap[gb193]? = some (.cells #[.int .i64 a0_0, .int .i64 a0_1, .bool a0_2, .int .i64 a0_3, .bool a0_4, .int .i64 a0_5, .int .i64 a0_6, .string a0_7] 33 (0, 0))) := ⟨by (with_reducible repeat (first | apply blk_drewN | apply blk_drew | apply blk_alloc)); refine blk_put (cs := #[.int .i64 a0_0, .int .i64 a0_1, .bool a0_2, .int .i64 a0_3, .bool a0_4, .int .i64 a0_5, .int .i64 a0_6, .string (⟨#[]⟩ : ByteArray)]) ?_ 7 _ rfl; (with_reducible repeat (first | apply blk_drewN | apply blk_drew | apply blk_alloc)); refine blk_put (cs := #[.int .i64 a0_0, .int .i64 a0_1, .bool a0_2, .int .i64 a0_3, .bool a0_4, .int .i64 a0_5, .int .i64 0, .string (⟨#[]⟩ : ByteArray)]) ?_ 6 _ rfl; (with_reducible repeat (first | apply blk_drewN | apply blk_drew | apply blk_alloc)); refine blk_put (cs := #[.int .i64 a0_0, .int .i64 a0_1, .bool a0_2, .int .i64 a0_3, .bool a0_4, .int .i64 0, .int .i64 0, .string (⟨#[]⟩ : ByteArray)]) ?_ 5 _ rfl; (with_reducible repeat (first | apply blk_drewN | apply blk_drew | apply blk_alloc)); refine blk_put (cs := #[.int .i64 a0_0, .int .i64 a0_1, .bool a0_2, .int .i64 a0_3, .bool false, .int .i64 0, .int .i64 0, .string (⟨#[]⟩ : ByteArray)]) ?_ 4 _ rfl; (with_reducible repeat (first | apply blk_drewN | apply blk_drew | apply blk_alloc)); refine blk_put (cs := #[.int .i64 a0_0, .int .i64 a0_1, .bool a0_2, .int .i64 0, .bool false, .int .i64 0, .int .i64 0, .string (⟨#[]⟩ : ByteArray)]) ?_ 3 _ rfl; (with_reducible repeat (first | apply blk_drewN | apply blk_drew | apply blk_alloc)); refine blk_put (cs := #[.int .i64 a0_0, .int .i64 a0_1, .bool false, .int .i64 0, .bool false, .int .i64 0, .int .i64 0, .string (⟨#[]⟩ : ByteArray)]) ?_ 2 _ rfl; (with_reducible repeat (first | apply blk_drewN | apply blk_drew | apply blk_alloc)); refine blk_put (cs := #[.int .i64 a0_0, .int .i64 0, .bool false, .int .i64 0, .bool false, .int .i64 0, .int .i64 0, .string (⟨#[]⟩ : ByteArray)]) ?_ 1 _ rfl; (with_reducible repeat (first | apply blk_drewN | apply blk_drew | apply blk_alloc)); refine blk_put (cs := #[.int .i64 0, .int .i64 0, .bool false, .int .i64 0, .bool false, .int .i64 0, .int .i64 0, .string (⟨#[]⟩ : ByteArray)]) ?_ 0 _ rfl; (with_reducible repeat (first | apply blk_drewN | apply blk_drew | apply blk_alloc)); exact BK193.out⟩
 have n2_ : Aside0 (((((((((w5.setCell ⟨gb193, 0, none⟩ (.int .i64 a0_0)).setCell ⟨gb193, 1, none⟩ (.int .i64 a0_1)).setCell ⟨gb193, 2, none⟩ (.bool a0_2)).setCell ⟨gb193, 3, none⟩ (.int .i64 a0_3)).setCell ⟨gb193, 4, none⟩ (.bool a0_4)).setCell ⟨gb193, 5, none⟩ (.int .i64 a0_5)).setCell ⟨gb193, 6, none⟩ (.int .i64 a0_6)).setCell ⟨gb193, 7, none⟩ (.string a0_7)).heap[gb194]? = some (.cells #[.int .i64 0, .int .i64 0, .bool false, .int .i64 0, .bool false, .int .i64 0, .int .i64 0, .string (⟨#[]⟩ : ByteArray)] 34 (0, 0))) := ⟨by (with_reducible repeat (first | apply blk_drewN | apply blk_drew | apply blk_alloc)); refine blk_far ?_ NB194_193.out _; (with_reducible repeat (first | apply blk_drewN | apply blk_drew | apply blk_alloc)); refine blk_far ?_ NB194_193.out _; (with_reducible repeat (first | apply blk_drewN | apply blk_drew | apply blk_alloc)); refine blk_far ?_ NB194_193.out _; (with_reducible repeat (first | apply blk_drewN | apply blk_drew | apply blk_alloc)); refine blk_far ?_ NB194_193.out _; (with_reducible repeat (first | apply blk_drewN | apply blk_drew | apply blk_alloc)); refine blk_far ?_ NB194_193.out _; (with_reducible repeat (first | apply blk_drewN | apply blk_drew | apply blk_alloc)); refine blk_far ?_ NB194_193.out _; (with_reducible repeat (first | apply blk_drewN | apply blk_drew | apply blk_alloc)); refine blk_far ?_ NB194_193.out _; (with_reducible repeat (first | apply blk_drewN | apply blk_drew | apply blk_alloc)); refine blk_far ?_ NB194_193.out _; (with_reducible repeat (first | apply blk_drewN | apply blk_drew | apply blk_alloc)); exact BK194.out⟩
 have n3_ : Aside0 (Below w.heap.size w ((((((((w5.setCell ⟨gb193, 0, none⟩ (.int .i64 a0_0)).setCell ⟨gb193, 1, none⟩ (.int .i64 a0_1)).setCell ⟨gb193, 2, none⟩ (.bool a0_2)).setCell ⟨gb193, 3, none⟩ (.int .i64 a0_3)).setCell ⟨gb193, 4, none⟩ (.bool a0_4)).setCell ⟨gb193, 5, none⟩ (.int .i64 a0_5)).setCell ⟨gb193, 6, none⟩ (.int .i64 a0_6)).setCell ⟨gb193, 7, none⟩ (.string a0_7))) := ⟨by repeat (first | (with_reducible first | exact HB.out | apply below_alloc | apply pw_below_drewN | apply below_drew1 | refine below_set ?_ GE192.out | refine below_set ?_ GE193.out | refine below_set ?_ GE194.out) | exact HB.out)⟩
 (try clear BK192)
 (try clear BK193)
 (try clear BK194)
 (try clear HB)
 generalize ((((((((w5.setCell ⟨gb193, 0, none⟩ (.int .i64 a0_0)).setCell ⟨gb193, 1, none⟩ (.int .i64 a0_1)).setCell ⟨gb193, 2, none⟩ (.bool a0_2)).setCell ⟨gb193, 3, none⟩ (.int .i64 a0_3)).setCell ⟨gb193, 4, none⟩ (.bool a0_4)).setCell ⟨gb193, 5, none⟩ (.int .i64 a0_5)).setCell ⟨gb193, 6, none⟩ (.int .i64 a0_6)).setCell ⟨gb193, 7, none⟩ (.string a0_7)) = w5s at n0_ n1_ n2_ n3_ hHeld ⊢
 have BK192 := n0_
 have BK193 := n1_
 have BK194 := n2_
 have HB := n3_
 clear n0_ n1_ n2_ n3_
 refine one_ (i := 20) (N := none) #[tT, tT, tT, tT, tT, tT, tT, tT, tT, tT, tT, tT, tT, tT, tT, tT, tT, tT, tT, tT, tT] rfl rfl (one_of HT_.out (by kernel_rfl)) (by decide) (fun K hK => ?_)
 have hs14 : w5s.cell? ⟨gb194, 0, none⟩ = some (.int .i64 0) := (blk_cell BK194.out 0).trans rfl
 have hfs14 := blk_frozen BK194.out 0
 have hns14_0 := NB192_194.out
 have hns14_1 := NB193_194.out
 have hms14_0 := NB194_192.out
 have hms14_1 := NB194_193.out
 have hs15 : w5s.cell? ⟨gb194, 1, none⟩ = some (.int .i64 0) := (blk_cell BK194.out 1).trans rfl
 have hfs15 := blk_frozen BK194.out 1
 have hns15_0 := NB192_194.out
 have hns15_1 := NB193_194.out
 have hms15_0 := NB194_192.out
 have hms15_1 := NB194_193.out
 have hs16 : w5s.cell? ⟨gb194, 2, none⟩ = some (.bool false) := (blk_cell BK194.out 2).trans rfl
 have hfs16 := blk_frozen BK194.out 2
 have hns16_0 := NB192_194.out
 have hns16_1 := NB193_194.out
 have hms16_0 := NB194_192.out
 have hms16_1 := NB194_193.out
 have hs17 : w5s.cell? ⟨gb194, 3, none⟩ = some (.int .i64 0) := (blk_cell BK194.out 3).trans rfl
 have hfs17 := blk_frozen BK194.out 3
 have hns17_0 := NB192_194.out
 have hns17_1 := NB193_194.out
 have hms17_0 := NB194_192.out
 have hms17_1 := NB194_193.out
 have hs18 : w5s.cell? ⟨gb194, 4, none⟩ = some (.bool false) := (blk_cell BK194.out 4).trans rfl
 have hfs18 := blk_frozen BK194.out 4
 have hns18_0 := NB192_194.out
 have hns18_1 := NB193_194.out
 have hms18_0 := NB194_192.out
 have hms18_1 := NB194_193.out
 have hs19 : w5s.cell? ⟨gb194, 5, none⟩ = some (.int .i64 0) := (blk_cell BK194.out 5).trans rfl
 have hfs19 := blk_frozen BK194.out 5
 have hns19_0 := NB192_194.out
 have hns19_1 := NB193_194.out
 have hms19_0 := NB194_192.out
 have hms19_1 := NB194_193.out
 have hs20 : w5s.cell? ⟨gb194, 6, none⟩ = some (.int .i64 0) := (blk_cell BK194.out 6).trans rfl
 have hfs20 := blk_frozen BK194.out 6
 have hns20_0 := NB192_194.out
 have hns20_1 := NB193_194.out
 have hms20_0 := NB194_192.out
 have hms20_1 := NB194_193.out
 have hs21 : w5s.cell? ⟨gb194, 7, none⟩ = some (.string (⟨#[]⟩ : ByteArray)) := (blk_cell BK194.out 7).trans rfl
 have hfs21 := blk_frozen BK194.out 7
 have hns21_0 := NB192_194.out
 have hns21_1 := NB193_194.out
 have hms21_0 := NB194_192.out
 have hms21_1 := NB194_193.out
 refine skip_ (w1 := ?_) (by rfl) rfl ?_ ?_
 rotate_left
 ·go_simp
  rfl
 refine hK.out _ _ ⟨((cell_far (p := ⟨gb194, _, none⟩) NB192_194.out _).trans (((cell_far (p := ⟨gb194, _, none⟩) NB192_194.out _).trans (((cell_far (p := ⟨gb194, _, none⟩) NB192_194.out _).trans (((cell_far (p := ⟨gb194, _, none⟩) NB192_194.out _).trans (((cell_far (p := ⟨gb194, _, none⟩) NB192_194.out _).trans (((cell_far (p := ⟨gb194, _, none⟩) NB192_194.out _).trans (((cell_far (p := ⟨gb194, _, none⟩) NB192_194.out _).trans (((cell_far (p := ⟨gb194, _, none⟩) NB192_194.out _).trans (hHeld.1)))))))))))))))), ((cell_far (p := ⟨gb194, _, none⟩) NB192_194.out _).trans (((cell_far (p := ⟨gb194, _, none⟩) NB192_194.out _).trans (((cell_far (p := ⟨gb194, _, none⟩) NB192_194.out _).trans (((cell_far (p := ⟨gb194, _, none⟩) NB192_194.out _).trans (((cell_far (p := ⟨gb194, _, none⟩) NB192_194.out _).trans (((cell_far (p := ⟨gb194, _, none⟩) NB192_194.out _).trans (((cell_far (p := ⟨gb194, _, none⟩) NB192_194.out _).trans (((cell_far (p := ⟨gb194, _, none⟩) NB192_194.out _).trans (hHeld.2.1)))))))))))))))), ((cell_far (p := ⟨gb194, _, none⟩) NB192_194.out _).trans (((cell_far (p := ⟨gb194, _, none⟩) NB192_194.out _).trans (((cell_far (p := ⟨gb194, _, none⟩) NB192_194.out _).trans (((cell_far (p := ⟨gb194, _, none⟩) NB192_194.out _).trans (((cell_far (p := ⟨gb194, _, none⟩) NB192_194.out _).trans (((cell_far (p := ⟨gb194, _, none⟩) NB192_194.out _).trans (((cell_far (p := ⟨gb194, _, none⟩) NB192_194.out _).trans (((cell_far (p := ⟨gb194, _, none⟩) NB192_194.out _).trans (hHeld.2.2.1)))))))))))))))), ((cell_far (p := ⟨gb194, _, none⟩) NB192_194.out _).trans (((cell_far (p := ⟨gb194, _, none⟩) NB192_194.out _).trans (((cell_far (p := ⟨gb194, _, none⟩) NB192_194.out _).trans (((cell_far (p := ⟨gb194, _, none⟩) NB192_194.out _).trans (((cell_far (p := ⟨gb194, _, none⟩) NB192_194.out _).trans (((cell_far (p := ⟨gb194, _, none⟩) NB192_194.out _).trans (((cell_far (p := ⟨gb194, _, none⟩) NB192_194.out _).trans (((cell_far (p := ⟨gb194, _, none⟩) NB192_194.out _).trans (hHeld.2.2.2.1)))))))))))))))), ((cell_far (p := ⟨gb194, _, none⟩) NB192_194.out _).trans (((cell_far (p := ⟨gb194, _, none⟩) NB192_194.out _).trans (((cell_far (p := ⟨gb194, _, none⟩) NB192_194.out _).trans (((cell_far (p := ⟨gb194, _, none⟩) NB192_194.out _).trans (((cell_far (p := ⟨gb194, _, none⟩) NB192_194.out _).trans (((cell_far (p := ⟨gb194, _, none⟩) NB192_194.out _).trans (((cell_far (p := ⟨gb194, _, none⟩) NB192_194.out _).trans (((cell_far (p := ⟨gb194, _, none⟩) NB192_194.out _).trans (hHeld.2.2.2.2.1)))))))))))))))), ((cell_far (p := ⟨gb194, _, none⟩) NB192_194.out _).trans (((cell_far (p := ⟨gb194, _, none⟩) NB192_194.out _).trans (((cell_far (p := ⟨gb194, _, none⟩) NB192_194.out _).trans (((cell_far (p := ⟨gb194, _, none⟩) NB192_194.out _).trans (((cell_far (p := ⟨gb194, _, none⟩) NB192_194.out _).trans (((cell_far (p := ⟨gb194, _, none⟩) NB192_194.out _).trans (((cell_far (p := ⟨gb194, _, none⟩) NB192_194.out _).trans (((cell_far (p := ⟨gb194, _, none⟩) NB192_194.out _).trans (hHeld.2.2.2.2.2.1)))))))))))))))), ((cell_far (p := ⟨gb194, _, none⟩) NB192_194.out _).trans (((cell_far (p := ⟨gb194, _, none⟩) NB192_194.out _).trans (((cell_far (p := ⟨gb194, _, none⟩) NB192_194.out _).trans (((cell_far (p := ⟨gb194, _, none⟩) NB192_194.out _).trans (((cell_far (p := ⟨gb194, _, none⟩) NB192_194.out _).trans (((cell_far (p := ⟨gb194, _, none⟩) NB192_194.out _).trans (((cell_far (p := ⟨gb194, _, none⟩) NB192_194.out _).trans (((cell_far (p := ⟨gb194, _, none⟩) NB192_194.out _).trans (hHeld.2.2.2.2.2.2.1)))))))))))))))), ((cell_far (p := ⟨gb194, _, none⟩) NB192_194.out _).trans (((cell_far (p := ⟨gb194, _, none⟩) NB192_194.out _).trans (((cell_far (p := ⟨gb194, _, none⟩) NB192_194.out _).trans (((cell_far (p := ⟨gb194, _, none⟩) NB192_194.out _).trans (((cell_far (p := ⟨gb194, _, none⟩) NB192_194.out _).trans (((cell_far (p := ⟨gb194, _, none⟩) NB192_194.out _).trans (((cell_far (p := ⟨gb194, _, none⟩) NB192_194.out _).trans (((cell_far (p := ⟨gb194, _, none⟩) NB192_194.out _).trans (hHeld.2.2.2.2.2.2.2))))))))))))))))⟩ (fun hHeld => ?_)
 clear hK K
 refine done_ (done_of HT_.out (by kernel_rfl)) ?_
 try go_wp2
 refine bodyPost_ret (results_cc rfl _ _ gb193 gb194 33 34 #[.int .i64 a0_0, .int .i64 a0_1, .bool a0_2, .int .i64 a0_3, .bool a0_4, .int .i64 a0_5, .int .i64 a0_6, .string a0_7] #[.int .i64 a0_0, .int .i64 a0_1, .bool a0_2, .int .i64 a0_3, .bool a0_4, .int .i64 a0_5, .int .i64 a0_6, .string a0_7] (0, 0) (0, 0) _ _ rfl (by (with_reducible repeat (first | apply blk_drewN | apply blk_drew | apply blk_alloc)); refine blk_far ?_ NB193_194.out _; (with_reducible repeat (first | apply blk_drewN | apply blk_drew | apply blk_alloc)); refine blk_far ?_ NB193_194.out _; (with_reducible repeat (first | apply blk_drewN | apply blk_drew | apply blk_alloc)); refine blk_far ?_ NB193_194.out _; (with_reducible repeat (first | apply blk_drewN | apply blk_drew | apply blk_alloc)); refine blk_far ?_ NB193_194.out _; (with_reducible repeat (first | apply blk_drewN | apply blk_drew | apply blk_alloc)); refine blk_far ?_ NB193_194.out _; (with_reducible repeat (first | apply blk_drewN | apply blk_drew | apply blk_alloc)); refine blk_far ?_ NB193_194.out _; (with_reducible repeat (first | apply blk_drewN | apply blk_drew | apply blk_alloc)); refine blk_far ?_ NB193_194.out _; (with_reducible repeat (first | apply blk_drewN | apply blk_drew | apply blk_alloc)); refine blk_far ?_ NB193_194.out _; (with_reducible repeat (first | apply blk_drewN | apply blk_drew | apply blk_alloc)); exact BK193.out) Tryd.underlying33 rfl (by kernel_rfl) rfl (by (with_reducible repeat (first | apply blk_drewN | apply blk_drew | apply blk_alloc)); refine blk_put (cs := #[.int .i64 a0_0, .int .i64 a0_1, .bool a0_2, .int .i64 a0_3, .bool a0_4, .int .i64 a0_5, .int .i64 a0_6, .string (⟨#[]⟩ : ByteArray)]) ?_ 7 _ rfl; (with_reducible repeat (first | apply blk_drewN | apply blk_drew | apply blk_alloc)); refine blk_put (cs := #[.int .i64 a0_0, .int .i64 a0_1, .bool a0_2, .int .i64 a0_3, .bool a0_4, .int .i64 a0_5, .int .i64 0, .string (⟨#[]⟩ : ByteArray)]) ?_ 6 _ rfl; (with_reducible repeat (first | apply blk_drewN | apply blk_drew | apply blk_alloc)); refine blk_put (cs := #[.int .i64 a0_0, .int .i64 a0_1, .bool a0_2, .int .i64 a0_3, .bool a0_4, .int .i64 0, .int .i64 0, .string (⟨#[]⟩ : ByteArray)]) ?_ 5 _ rfl; (with_reducible repeat (first | apply blk_drewN | apply blk_drew | apply blk_alloc)); refine blk_put (cs := #[.int .i64 a0_0, .int .i64 a0_1, .bool a0_2, .int .i64 a0_3, .bool false, .int .i64 0, .int .i64 0, .string (⟨#[]⟩ : ByteArray)]) ?_ 4 _ rfl; (with_reducible repeat (first | apply blk_drewN | apply blk_drew | apply blk_alloc)); refine blk_put (cs := #[.int .i64 a0_0, .int .i64 a0_1, .bool a0_2, .int .i64 0, .bool false, .int .i64 0, .int .i64 0, .string (⟨#[]⟩ : ByteArray)]) ?_ 3 _ rfl; (with_reducible repeat (first | apply blk_drewN | apply blk_drew | apply blk_alloc)); refine blk_put (cs := #[.int .i64 a0_0, .int .i64 a0_1, .bool false, .int .i64 0, .bool false, .int .i64 0, .int .i64 0, .string (⟨#[]⟩ : ByteArray)]) ?_ 2 _ rfl; (with_reducible repeat (first | apply blk_drewN | apply blk_drew | apply blk_alloc)); refine blk_put (cs := #[.int .i64 a0_0, .int .i64 0, .bool false, .int .i64 0, .bool false, .int .i64 0, .int .i64 0, .string (⟨#[]⟩ : ByteArray)]) ?_ 1 _ rfl; (with_reducible repeat (first | apply blk_drewN | apply blk_drew | apply blk_alloc)); refine blk_put (cs := #[.int .i64 0, .int .i64 0, .bool false, .int .i64 0, .bool false, .int .i64 0, .int .i64 0, .string (⟨#[]⟩ : ByteArray)]) ?_ 0 _ rfl; (with_reducible repeat (first | apply blk_drewN | apply blk_drew | apply blk_alloc)); exact BK194.out) Tryd.underlying34 rfl (by kernel_rfl)) rfl ?_
 exact ⟨by first | rfl | (simp [errW_none, errW_some] <;> rfl) | (simp [*, errW_none, errW_some] <;> rfl), by repeat (first | (with_reducible first | exact HB.out | apply below_alloc | apply pw_below_drewN | apply below_drew1 | refine below_set ?_ GE192.out | refine below_set ?_ GE193.out | refine below_set ?_ GE194.out) | exact HB.out)⟩

end Go.Proofs.YtdpgdnbknmncfaaDoor.Print
