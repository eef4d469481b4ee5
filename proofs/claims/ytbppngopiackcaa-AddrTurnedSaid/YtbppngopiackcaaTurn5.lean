-- Written by a program of this session's, over the kit's printer turned by wip/tools/mkprint.py. Lean checks it.
import Derived.Test.YtbppngopiackcaaTurn0
import Derived.Test.YtbppngopiackcaaTurn1
import Derived.Test.YtbppngopiackcaaTurn2
import Derived.Test.YtbppngopiackcaaTurn4
namespace Go.Proofs.Ytbppngopiackcaa.Turn
open Go.RowKit Go.Proofs.YtbppngopiackcaaW.PrintWords Go.Proofs.YtbppngopiackcaaW.PrintLast Go.Proofs.YtbppngopiackcaaW.PrintMore
open Go.Proofs.YtbppngopiackcaaW.PrintWords renaming blk_drewN → kN, blk_drew → kD, blk_alloc → kA, below_alloc → bA, pw_below_drewN → bN, below_drew1 → bD, below_set → bS, blk_cell → kC, blk_frozen → kF, blk_put → kP, blk_far → kR, below_step → bT, blk_below → kB
open List renaming setIfInBounds_toArray → sA, set_cons_zero → sB, set_cons_succ → sC
abbrev tT : Bool := true
abbrev tF : Bool := false
attribute [local go_sem] max2_int min2_int max_two min_two max_three min_three max_four min_four   -- for this text's walks alone
set_option linter.unusedVariables false
set_option linter.unusedSimpArgs false
attribute [local go_sem high] YtbppngopiackcaaX.unary_xor_u16 YtbppngopiackcaaX.unary_xor_u8

attribute [local go_sem high] eqA23 eqA25
/-! ### lapwinglaw04_AddrTurned: function 8 -/
def lapwinglaw04_AddrTurned.f (k : Nat) (a0_0 : Int) (a0_1 : Int) (a0_2 : Bool) (a1 : Bool) (a2 : Bool) : Option (Bool) := (addr_Make.f a0_0 a0_1 a1 a2).bind fun bt129 => ((addr_Make.f a0_0 a0_1 (!a1) (!a2)).bind fun bt132 => ((addr_Make.f a0_0 a0_1 (!a1) a2).bind fun bt135 => ((lapwinglaw04_wakes.f k).bind fun t141 => (if t141 = true then (if ((bt129.1 == bt132.1 && (bt129.2.1 == bt132.2.1)) && (bt129.2.2 == bt132.2.2)) = true then (if (bt129.2.2 != bt135.2.2) = true then (if (bt129.1 == a0_0 && (bt129.2.1 == a0_1)) = true then ((addr_Address_Command.f bt129.1 bt129.2.1 bt129.2.2 a2).bind fun t142 => (if (t142 == a1) = true then ((addr_Address_Command.f bt129.1 bt129.2.1 bt129.2.2 (!a2)).bind fun t143 => (some (t143 != a1))) else (some false))) else (some false)) else (some false)) else (some false)) else (some false)))))
theorem lapwinglaw04_AddrTurned.mono : ∀ a0 a1 a2 a3 a4 k, LeO (lapwinglaw04_AddrTurned.f k a0 a1 a2 a3 a4) (lapwinglaw04_AddrTurned.f (k + 1) a0 a1 a2 a3 a4) := by
 intro a0 a1 a2 a3 a4 k
 unfold lapwinglaw04_AddrTurned.f
 repeat' first
   | (with_reducible exact lapwinglaw04_wakes.mono _)
   | (with_reducible exact LeO.refl _)
   | (with_reducible exact LeO.none _)
   | (with_reducible refine LeO.ite ?_ ?_)
   | (with_reducible refine LeO.bind ?_ (fun _ => ?_))
   | exact lapwinglaw04_wakes.mono _
   | exact LeO.none _
   | refine LeO.ite ?_ ?_
   | refine LeO.bind ?_ (fun _ => ?_)
def lapwinglaw04_AddrTurned.T2 : Bool × List (List Nat × List Nat) := (true, [([], []), ([], []), ([], []), ([0, 1, 2], [0, 1, 2]), ([], []), ([], []), ([5], [5]), ([], []), ([7], [7]), ([4, 6, 8, 3], [4, 6, 8]), ([], []), ([], []), ([11], [11]), ([], []), ([10, 12, 13, 9], [10, 12, 13]), ([], []), ([], []), ([], []), ([15, 3, 14, 0, 1, 2, 3, 15, 16, 17], [3, 15]), ([16, 9, 18, 0, 1, 2, 3, 4, 5, 6, 7, 8, 9, 15, 16, 17, 18], [9, 16]), ([17, 14, 19, 0, 1, 2, 3, 4, 5, 6, 7, 8, 9, 10, 11, 12, 13, 14, 15, 16, 17, 18, 19], [14, 17])])
def lapwinglaw04_AddrTurned.B2 : List Nat := [0, 0, 0, 7, 0, 0, 32, 0, 128, 511, 0, 0, 2048, 0, 16383, 0, 0, 0, 262143, 524287, 1048575]
theorem lapwinglaw04_AddrTurned.tab2 : rtab .any (opsOf Try.f8 2) = lapwinglaw04_AddrTurned.T2 := by kernel_rfl
theorem lapwinglaw04_AddrTurned.bits2 : waitsOk lapwinglaw04_AddrTurned.T2.2 lapwinglaw04_AddrTurned.B2 = true := by kernel_rfl
set_option maxHeartbeats 8000000 in
set_option maxRecDepth 100000 in
theorem lapwinglaw04_AddrTurned.calls (k : Nat) (a0_0 : Int) (a0_1 : Int) (a0_2 : Bool) (a1 : Bool) (a2 : Bool) (r : Bool) (w : World) (hr : r = true) (h : lapwinglaw04_AddrTurned.f k a0_0 a0_1 a0_2 a1 a2 = some r) :
  Calls Try.prog 8 #[.agg #[.int .i64 a0_0, .int .i64 a0_1, .bool a0_2], .bool a1, .bool a2] w fun e w' => e = .returned (.bool r) ∧ Below w.heap.size w w' := by
 have hu40 := Try.underlying40
 have hu23 := Try.underlying23
 have hu25 := Try.underlying25
 have HB := Aside0.mk (Below.refl w.heap.size w)
 have H : ((addr_Make.f a0_0 a0_1 a1 a2).bind fun bt129 => ((addr_Make.f a0_0 a0_1 (!a1) (!a2)).bind fun bt132 => ((addr_Make.f a0_0 a0_1 (!a1) a2).bind fun bt135 => ((lapwinglaw04_wakes.f k).bind fun t141 => (if t141 = true then (if ((bt129.1 == bt132.1 && (bt129.2.1 == bt132.2.1)) && (bt129.2.2 == bt132.2.2)) = true then (if (bt129.2.2 != bt135.2.2) = true then (if (bt129.1 == a0_0 && (bt129.2.1 == a0_1)) = true then ((addr_Address_Command.f bt129.1 bt129.2.1 bt129.2.2 a2).bind fun t142 => (if (t142 == a1) = true then ((addr_Address_Command.f bt129.1 bt129.2.1 bt129.2.2 (!a2)).bind fun t143 => (some (t143 != a1))) else (some false))) else (some false)) else (some false)) else (some false)) else (some false)))))) = some r := h
 clear h
 replace H := Option.bind_eq_some_iff.mp H
 obtain ⟨⟨t129, t130, t131⟩, A40, H⟩ := H
 replace H : ((addr_Make.f a0_0 a0_1 (!a1) (!a2)).bind fun bt132 => ((addr_Make.f a0_0 a0_1 (!a1) a2).bind fun bt135 => ((lapwinglaw04_wakes.f k).bind fun t141 => (if t141 = true then (if ((t129 == bt132.1 && (t130 == bt132.2.1)) && (t131 == bt132.2.2)) = true then (if (t131 != bt135.2.2) = true then (if (t129 == a0_0 && (t130 == a0_1)) = true then ((addr_Address_Command.f t129 t130 t131 a2).bind fun t142 => (if (t142 == a1) = true then ((addr_Address_Command.f t129 t130 t131 (!a2)).bind fun t143 => (some (t143 != a1))) else (some false))) else (some false)) else (some false)) else (some false)) else (some false))))) = some r := H
 have A4 := Aside0.mk A40
 clear A40
 replace H := Option.bind_eq_some_iff.mp H
 obtain ⟨⟨t132, t133, t134⟩, A50, H⟩ := H
 replace H : ((addr_Make.f a0_0 a0_1 (!a1) a2).bind fun bt135 => ((lapwinglaw04_wakes.f k).bind fun t141 => (if t141 = true then (if ((t129 == t132 && (t130 == t133)) && (t131 == t134)) = true then (if (t131 != bt135.2.2) = true then (if (t129 == a0_0 && (t130 == a0_1)) = true then ((addr_Address_Command.f t129 t130 t131 a2).bind fun t142 => (if (t142 == a1) = true then ((addr_Address_Command.f t129 t130 t131 (!a2)).bind fun t143 => (some (t143 != a1))) else (some false))) else (some false)) else (some false)) else (some false)) else (some false)))) = some r := H
 have A5 := Aside0.mk A50
 clear A50
 replace H := Option.bind_eq_some_iff.mp H
 obtain ⟨⟨t135, t136, t137⟩, A60, H⟩ := H
 replace H : ((lapwinglaw04_wakes.f k).bind fun t141 => (if t141 = true then (if ((t129 == t132 && (t130 == t133)) && (t131 == t134)) = true then (if (t131 != t137) = true then (if (t129 == a0_0 && (t130 == a0_1)) = true then ((addr_Address_Command.f t129 t130 t131 a2).bind fun t142 => (if (t142 == a1) = true then ((addr_Address_Command.f t129 t130 t131 (!a2)).bind fun t143 => (some (t143 != a1))) else (some false))) else (some false)) else (some false)) else (some false)) else (some false))) = some r := H
 have A6 := Aside0.mk A60
 clear A60
 replace H := Option.bind_eq_some_iff.mp H
 obtain ⟨t141, A70, H⟩ := H
 replace H : (if t141 = true then (if ((t129 == t132 && (t130 == t133)) && (t131 == t134)) = true then (if (t131 != t137) = true then (if (t129 == a0_0 && (t130 == a0_1)) = true then ((addr_Address_Command.f t129 t130 t131 a2).bind fun t142 => (if (t142 == a1) = true then ((addr_Address_Command.f t129 t130 t131 (!a2)).bind fun t143 => (some (t143 != a1))) else (some false))) else (some false)) else (some false)) else (some false)) else (some false)) = some r := H
 have A7 := Aside0.mk A70
 clear A70
 by_cases c8 : t141 = true
 ·subst c8
  have H1 : (if ((t129 == t132 && (t130 == t133)) && (t131 == t134)) = true then (if (t131 != t137) = true then (if (t129 == a0_0 && (t130 == a0_1)) = true then ((addr_Address_Command.f t129 t130 t131 a2).bind fun t142 => (if (t142 == a1) = true then ((addr_Address_Command.f t129 t130 t131 (!a2)).bind fun t143 => (some (t143 != a1))) else (some false))) else (some false)) else (some false)) else (some false)) = some r := by rw [if_pos rfl] at H; exact H
  clear H
  have H := H1
  clear H1
  by_cases c9 : ((t129 == t132 && (t130 == t133)) && (t131 == t134)) = true
  ·rw [if_pos c9] at H
   have c9b0 : ((t129 == t132 && (t130 == t133)) && (t131 == t134)) = true := c9
   clear c9
   by_cases c10 : (t131 != t137) = true
   ·rw [if_pos c10] at H
    have c10b0 : (t131 != t137) = true := c10
    (try (have c10b1 : decide (t131 = t137) = false := by simpa using c10))
    (try (have c10b2 : (t131 == t137) = false := by simpa using c10))
    (try (have c10b3 : ¬ (t131 = t137) := by simpa using c10))
    clear c10
    by_cases c11 : (t129 == a0_0 && (t130 == a0_1)) = true
    ·rw [if_pos c11] at H
     have c11b0 : (t129 == a0_0 && (t130 == a0_1)) = true := c11
     (try (have c11b1 : decide (t129 = a0_0 && (t130 == a0_1)) = true := by simpa using c11))
     (try (have c11b2 : (t129 == a0_0 && (t130 == a0_1)) = true := by simpa using c11))
     clear c11
     replace H := Option.bind_eq_some_iff.mp H
     obtain ⟨t142, A120, H⟩ := H
     replace H : (if (t142 == a1) = true then ((addr_Address_Command.f t129 t130 t131 (!a2)).bind fun t143 => (some (t143 != a1))) else (some false)) = some r := H
     have A12 := Aside0.mk A120
     clear A120
     by_cases c13 : (t142 == a1) = true
     ·rw [if_pos c13] at H
      have c13b0 : (t142 == a1) = true := c13
      (try (have c13b1 : decide (t142 = a1) = true := by simpa using c13))
      (try (have c13b2 : (t142 == a1) = true := by simpa using c13))
      clear c13
      replace H := Option.bind_eq_some_iff.mp H
      obtain ⟨t143, A140, H⟩ := H
      replace H : (some (t143 != a1)) = some r := H
      have A14 := Aside0.mk A140
      clear A140
      obtain rfl := Option.some.inj H
      go_enter Try.func8, Try.ntmps8
      try go_wp2_with (first | ((with_reducible refine gate_dst (N := 3) rfl ?_); refine box_event ?hg (N := 3) ?hd (cs := #[.int .i64 a0_0, .int .i64 a0_1, .bool a0_2]) (t := 40) ?hr ?_; (case hd => rfl); (case hg => rfl); (case hr => first | (go_simp; done) | (go_simp; rfl)); intro gb127 hg w15 hbox hb; have n0_ := Aside0.mk (bT (by repeat (first | (with_reducible first | exact HB.out | apply bA | apply bN | apply bD) | exact HB.out)) hb); have n1_ := Aside0.mk (hbox); have n2_ := Aside0.mk ((by rw [hg]; exact (below_size (by repeat (first | (with_reducible first | exact HB.out | apply bA | apply bN | apply bD) | exact HB.out))) : w.heap.size ≤ gb127)); have n3_ := n2_; clear HB; have HB := n0_; have BK127 := n1_; have GW127 := n2_; have GE127 := n3_; clear n0_ n1_ n2_ n3_; clear hb hbox hg; have hcz16_0 : w15.cell? ⟨gb127, 0, none⟩ = some (.int .i64 a0_0) := (kC BK127.out 0).trans rfl; have hcz16_1 : w15.cell? ⟨gb127, 1, none⟩ = some (.int .i64 a0_1) := (kC BK127.out 1).trans rfl; have hcz16_2 : w15.cell? ⟨gb127, 2, none⟩ = some (.bool a0_2) := (kC BK127.out 2).trans rfl; have hfz16_0 := kF BK127.out 0; have hfz16_1 := kF BK127.out 1; have hfz16_2 := kF BK127.out 2) | ((with_reducible refine gate_dst (N := 7) rfl ?_); refine box_event ?hg (N := 7) ?hd (cs := #[.int .i64 0, .int .i64 0]) (t := 23) ?hr ?_; (case hd => rfl); (case hg => rfl); (case hr => first | (go_simp; done) | (go_simp; rfl)); intro gb128 hg w17 hbox hb; have n0_ := Aside0.mk (kB (g := gb127) (o := .cells #[.int .i64 a0_0, .int .i64 a0_1, .bool a0_2] 40 (0, 0)) (by (with_reducible repeat (first | apply kN | apply kD | apply kA)); exact BK127.out) hb); have n1_ := Aside0.mk (bT (by repeat (first | (with_reducible first | exact HB.out | apply bA | apply bN | apply bD | refine bS ?_ GE127.out) | exact HB.out)) hb); have n2_ := Aside0.mk (hbox); have n3_ := Aside0.mk ((by rw [hg]; exact (below_size (by repeat (first | (with_reducible first | exact HB.out | apply bA | apply bN | apply bD | refine bS ?_ GE127.out) | exact HB.out))) : w.heap.size ≤ gb128)); have n4_ := n3_; have n5_ := Aside0.mk ((by rw [hg]; exact Nat.ne_of_lt (blk_lt (g := gb127) (o := .cells #[.int .i64 a0_0, .int .i64 a0_1, .bool a0_2] 40 (0, 0)) (by (with_reducible repeat (first | apply kN | apply kD | apply kA)); exact BK127.out)) : gb127 ≠ gb128)); have n6_ := Aside0.mk (Ne.symm n5_.out); clear BK127; clear HB; have BK127 := n0_; have HB := n1_; have BK128 := n2_; have GW128 := n3_; have GE128 := n4_; have NB127_128 := n5_; have NB128_127 := n6_; clear n0_ n1_ n2_ n3_ n4_ n5_ n6_; clear hb hbox hg; have hnb18 := NB128_127.out; have hnc18 := NB127_128.out; have hcz19_0 : w17.cell? ⟨gb128, 0, none⟩ = some (.int .i64 0) := (kC BK128.out 0).trans rfl; have hcz19_1 : w17.cell? ⟨gb128, 1, none⟩ = some (.int .i64 0) := (kC BK128.out 1).trans rfl; have hfz19_0 := kF BK128.out 0; have hfz19_1 := kF BK128.out 1))
      have n0_ : Aside0 (((w17.setCell ⟨gb128, 0, none⟩ (.int .i64 a0_0)).setCell ⟨gb128, 1, none⟩ (.int .i64 a0_1)).heap[gb127]? = some (.cells #[.int .i64 a0_0, .int .i64 a0_1, .bool a0_2] 40 (0, 0))) := ⟨by (with_reducible repeat (first | apply kN | apply kD | apply kA)); refine kR ?_ NB127_128.out _; (with_reducible repeat (first | apply kN | apply kD | apply kA)); refine kR ?_ NB127_128.out _; (with_reducible repeat (first | apply kN | apply kD | apply kA)); exact BK127.out⟩
      have n1_ : Aside0 (((w17.setCell ⟨gb128, 0, none⟩ (.int .i64 a0_0)).setCell ⟨gb128, 1, none⟩ (.int .i64 a0_1)).heap[gb128]? = some (.cells #[.int .i64 a0_0, .int .i64 a0_1] 23 (0, 0))) := ⟨by (with_reducible repeat (first | apply kN | apply kD | apply kA)); refine kP (cs := #[.int .i64 a0_0, .int .i64 0]) ?_ 1 _ rfl; (with_reducible repeat (first | apply kN | apply kD | apply kA)); refine kP (cs := #[.int .i64 0, .int .i64 0]) ?_ 0 _ rfl; (with_reducible repeat (first | apply kN | apply kD | apply kA)); exact BK128.out⟩
      have n2_ : Aside0 (Below w.heap.size w ((w17.setCell ⟨gb128, 0, none⟩ (.int .i64 a0_0)).setCell ⟨gb128, 1, none⟩ (.int .i64 a0_1))) := ⟨by repeat (first | (with_reducible first | exact HB.out | apply bA | apply bN | apply bD | refine bS ?_ GE127.out | refine bS ?_ GE128.out) | exact HB.out)⟩
      (try clear BK127)
      (try clear BK128)
      (try clear HB)
      generalize ((w17.setCell ⟨gb128, 0, none⟩ (.int .i64 a0_0)).setCell ⟨gb128, 1, none⟩ (.int .i64 a0_1)) = w20 at n0_ n1_ n2_ ⊢
      have BK127 := n0_
      have BK128 := n1_
      have HB := n2_
      clear n0_ n1_ n2_
      have n0_ := Aside0.mk (kD BK127.out)
      have n1_ := Aside0.mk (kD BK128.out)
      have n2_ := Aside0.mk (bD HB.out)
      clear BK127
      clear BK128
      clear HB
      have BK127 := n0_
      have BK128 := n1_
      have HB := n2_
      clear n0_ n1_ n2_
      refine start_ (n := 21) (S := fun w' => w'.cell? ⟨gb128, 0, none⟩ = some (.int .i64 a0_0) ∧ w'.cell? ⟨gb128, 1, none⟩ = some (.int .i64 a0_1)) (ds := []) #[tF, tF, tF, tF, tF, tF, tF, tF, tF, tF, tF, tF, tF, tF, tF, tF, tF, tF, tF, tF, tF] (by kernel_rfl) rfl rfl ⟨(kC BK128.out 0).trans rfl, (kC BK128.out 1).trans rfl⟩ (fun hHeld => ?_); refine with_tabW lapwinglaw04_AddrTurned.tab2 lapwinglaw04_AddrTurned.bits2 (fun HT_ HW_ => ?_)
      generalize w20.drew = w21 at BK127 BK128 HB hHeld ⊢
      refine pure_ (i := 1) (N := some 17) (v := ?_) (a' := ?_) #[tF, tT, tF, tF, tF, tF, tF, tF, tF, tF, tF, tF, tF, tF, tF, tF, tF, tF, tF, tF, tF] rfl rfl (any_of HT_.out (by kernel_rfl)) (fun _ _ _ h => h) (Or.inl ⟨by rfl, ?_⟩) ?_ ?_
      rotate_left
      ·intro w'
       go_simp
       with_reducible rfl
      rotate_left
      ·simp only [Act.put, sA, sB, sC, i64_w, i32_w]
       rfl
      refine pure_ (i := 2) (N := some 18) (v := ?_) (a' := ?_) #[tF, tT, tT, tF, tF, tF, tF, tF, tF, tF, tF, tF, tF, tF, tF, tF, tF, tF, tF, tF, tF] rfl rfl (any_of HT_.out (by kernel_rfl)) (fun _ _ _ h => h) (Or.inl ⟨by rfl, ?_⟩) ?_ ?_
      rotate_left
      ·intro w'
       go_simp
       with_reducible rfl
      rotate_left
      ·simp only [Act.put, sA, sB, sC, i64_w, i32_w]
       rfl
      refine pure_ (i := 5) (N := some 21) (v := ?_) (a' := ?_) #[tF, tT, tT, tF, tF, tT, tF, tF, tF, tF, tF, tF, tF, tF, tF, tF, tF, tF, tF, tF, tF] rfl rfl (any_of HT_.out (by kernel_rfl)) (fun _ _ _ h => h) (Or.inl ⟨by rfl, ?_⟩) ?_ ?_
      rotate_left
      ·intro w'
       go_simp
       with_reducible rfl
      rotate_left
      ·simp only [Act.put, sA, sB, sC, i64_w, i32_w]
       rfl
      refine pure_ (i := 6) (N := some 22) (v := ?_) (a' := ?_) #[tF, tT, tT, tF, tF, tT, tT, tF, tF, tF, tF, tF, tF, tF, tF, tF, tF, tF, tF, tF, tF] rfl rfl (any_of HT_.out (by kernel_rfl)) (fun _ _ _ h => h) (Or.inl ⟨by rfl, ?_⟩) ?_ ?_
      rotate_left
      ·intro w'
       go_simp
       with_reducible rfl
      rotate_left
      ·simp only [Act.put, sA, sB, sC, i64_w, i32_w]
       rfl
      refine pure_ (i := 7) (N := some 23) (v := ?_) (a' := ?_) #[tF, tT, tT, tF, tF, tT, tT, tT, tF, tF, tF, tF, tF, tF, tF, tF, tF, tF, tF, tF, tF] rfl rfl (any_of HT_.out (by kernel_rfl)) (fun _ _ _ h => h) (Or.inl ⟨by rfl, ?_⟩) ?_ ?_
      rotate_left
      ·intro w'
       go_simp
       with_reducible rfl
      rotate_left
      ·simp only [Act.put, sA, sB, sC, i64_w, i32_w]
       rfl
      refine pure_ (i := 8) (N := some 24) (v := ?_) (a' := ?_) #[tF, tT, tT, tF, tF, tT, tT, tT, tT, tF, tF, tF, tF, tF, tF, tF, tF, tF, tF, tF, tF] rfl rfl (any_of HT_.out (by kernel_rfl)) (fun _ _ _ h => h) (Or.inl ⟨by rfl, ?_⟩) ?_ ?_
      rotate_left
      ·intro w'
       go_simp
       with_reducible rfl
      rotate_left
      ·simp only [Act.put, sA, sB, sC, i64_w, i32_w]
       rfl
      refine pure_ (i := 11) (N := some 27) (v := ?_) (a' := ?_) #[tF, tT, tT, tF, tF, tT, tT, tT, tT, tF, tF, tT, tF, tF, tF, tF, tF, tF, tF, tF, tF] rfl rfl (any_of HT_.out (by kernel_rfl)) (fun _ _ _ h => h) (Or.inl ⟨by rfl, ?_⟩) ?_ ?_
      rotate_left
      ·intro w'
       go_simp
       with_reducible rfl
      rotate_left
      ·simp only [Act.put, sA, sB, sC, i64_w, i32_w]
       rfl
      refine pure_ (i := 12) (N := some 28) (v := ?_) (a' := ?_) #[tF, tT, tT, tF, tF, tT, tT, tT, tT, tF, tF, tT, tT, tF, tF, tF, tF, tF, tF, tF, tF] rfl rfl (any_of HT_.out (by kernel_rfl)) (fun _ _ _ h => h) (Or.inl ⟨by rfl, ?_⟩) ?_ ?_
      rotate_left
      ·intro w'
       go_simp
       with_reducible rfl
      rotate_left
      ·simp only [Act.put, sA, sB, sC, i64_w, i32_w]
       rfl
      refine pure_ (i := 13) (N := some 29) (v := ?_) (a' := ?_) #[tF, tT, tT, tF, tF, tT, tT, tT, tT, tF, tF, tT, tT, tT, tF, tF, tF, tF, tF, tF, tF] rfl rfl (any_of HT_.out (by kernel_rfl)) (fun _ _ _ h => h) (Or.inl ⟨by rfl, ?_⟩) ?_ ?_
      rotate_left
      ·intro w'
       go_simp
       with_reducible rfl
      rotate_left
      ·simp only [Act.put, sA, sB, sC, i64_w, i32_w]
       rfl
      refine take_ (i := 0) (N := some 16) (v := ?_) (a' := ?_) #[tT, tT, tT, tF, tF, tT, tT, tT, tT, tF, tF, tT, tT, tT, tF, tF, tF, tF, tF, tF, tF] rfl rfl (take_ofW HT_.out HW_.out (by kernel_rfl)) (fun _ _ _ h => h) (Or.inl ⟨by rfl, ?_⟩) hHeld ?_ ?_
      rotate_left
      ·rintro w' ⟨s0, s1⟩
       go_simp
       with_reducible rfl
      rotate_left
      ·simp only [Act.put, sA, sB, sC, i64_w, i32_w]
       rfl
      refine take_ (i := 4) (N := some 20) (v := ?_) (a' := ?_) #[tT, tT, tT, tF, tT, tT, tT, tT, tT, tF, tF, tT, tT, tT, tF, tF, tF, tF, tF, tF, tF] rfl rfl (take_ofW HT_.out HW_.out (by kernel_rfl)) (fun _ _ _ h => h) (Or.inl ⟨by rfl, ?_⟩) hHeld ?_ ?_
      rotate_left
      ·rintro w' ⟨s0, s1⟩
       go_simp
       with_reducible rfl
      rotate_left
      ·simp only [Act.put, sA, sB, sC, i64_w, i32_w]
       rfl
      refine take_ (i := 10) (N := some 26) (v := ?_) (a' := ?_) #[tT, tT, tT, tF, tT, tT, tT, tT, tT, tF, tT, tT, tT, tT, tF, tF, tF, tF, tF, tF, tF] rfl rfl (take_ofW HT_.out HW_.out (by kernel_rfl)) (fun _ _ _ h => h) (Or.inl ⟨by rfl, ?_⟩) hHeld ?_ ?_
      rotate_left
      ·rintro w' ⟨s0, s1⟩
       go_simp
       with_reducible rfl
      rotate_left
      ·simp only [Act.put, sA, sB, sC, i64_w, i32_w]
       rfl
      refine join_ (σ := Nat × Nat × Nat) 3 #[tT, tT, tT, tT, tT, tT, tT, tT, tT, tT, tT, tT, tT, tT, tT, tT, tT, tT, tF, tF, tF] (fun s_ => [(19, .agg #[.int .i64 t129, .int .i64 t130, .bool t131]), (25, .agg #[.int .i64 t132, .int .i64 t133, .bool t134]), (30, .agg #[.int .i64 t135, .int .i64 t136, .bool t137]), (8, .pointer (some ⟨s_.1, 0, none⟩)), (9, .pointer (some ⟨s_.2.1, 0, none⟩)), (10, .pointer (some ⟨s_.2.2, 0, none⟩))]) (fun s_ w' => (w'.cell? ⟨gb128, 0, none⟩ = some (.int .i64 a0_0) ∧ w'.cell? ⟨gb128, 1, none⟩ = some (.int .i64 a0_1)) ∧ (w'.heap[gb127]? = some (.cells #[.int .i64 a0_0, .int .i64 a0_1, .bool a0_2] 40 (0, 0))) ∧ (w'.heap[gb128]? = some (.cells #[.int .i64 a0_0, .int .i64 a0_1] 23 (0, 0))) ∧ (w'.heap[s_.1]? = some (.cells #[.int .i64 0, .int .i64 0, .bool false] 25 (0, 0))) ∧ (w'.heap[s_.2.1]? = some (.cells #[.int .i64 0, .int .i64 0, .bool false] 25 (0, 0))) ∧ (w'.heap[s_.2.2]? = some (.cells #[.int .i64 0, .int .i64 0, .bool false] 25 (0, 0))) ∧ (w.heap.size ≤ s_.1) ∧ (w.heap.size ≤ s_.1) ∧ (gb127 ≠ s_.1) ∧ (s_.1 ≠ gb127) ∧ (gb128 ≠ s_.1) ∧ (s_.1 ≠ gb128) ∧ (s_.2.1 ≠ s_.1) ∧ (s_.1 ≠ s_.2.1) ∧ (s_.2.2 ≠ s_.1) ∧ (s_.1 ≠ s_.2.2) ∧ (w.heap.size ≤ s_.2.1) ∧ (w.heap.size ≤ s_.2.1) ∧ (gb127 ≠ s_.2.1) ∧ (s_.2.1 ≠ gb127) ∧ (gb128 ≠ s_.2.1) ∧ (s_.2.1 ≠ gb128) ∧ (s_.2.2 ≠ s_.2.1) ∧ (s_.2.1 ≠ s_.2.2) ∧ (w.heap.size ≤ s_.2.2) ∧ (w.heap.size ≤ s_.2.2) ∧ (gb127 ≠ s_.2.2) ∧ (s_.2.2 ≠ gb127) ∧ (gb128 ≠ s_.2.2) ∧ (s_.2.2 ≠ gb128) ∧ (Below w.heap.size w w')) ?_ ?_
      ·rintro ⟨gb138, gb139, gb140⟩ w28 ⟨hS_, h0_, h1_, h2_, h3_, h4_, h5_, h6_, h7_, h8_, h9_, h10_, h11_, h12_, h13_, h14_, h15_, h16_, h17_, h18_, h19_, h20_, h21_, h22_, h23_, h24_, h25_, h26_, h27_, h28_, h29_⟩
       have n0_ : Aside0 (w28.heap[gb127]? = some (.cells #[.int .i64 a0_0, .int .i64 a0_1, .bool a0_2] 40 (0, 0))) := ⟨h0_⟩
       have n1_ : Aside0 (w28.heap[gb128]? = some (.cells #[.int .i64 a0_0, .int .i64 a0_1] 23 (0, 0))) := ⟨h1_⟩
       have n2_ : Aside0 (w28.heap[gb138]? = some (.cells #[.int .i64 0, .int .i64 0, .bool false] 25 (0, 0))) := ⟨h2_⟩
       have n3_ : Aside0 (w28.heap[gb139]? = some (.cells #[.int .i64 0, .int .i64 0, .bool false] 25 (0, 0))) := ⟨h3_⟩
       have n4_ : Aside0 (w28.heap[gb140]? = some (.cells #[.int .i64 0, .int .i64 0, .bool false] 25 (0, 0))) := ⟨h4_⟩
       have n5_ : Aside0 (w.heap.size ≤ gb138) := ⟨h5_⟩
       have n6_ : Aside0 (w.heap.size ≤ gb138) := ⟨h6_⟩
       have n7_ : Aside0 (gb127 ≠ gb138) := ⟨h7_⟩
       have n8_ : Aside0 (gb138 ≠ gb127) := ⟨h8_⟩
       have n9_ : Aside0 (gb128 ≠ gb138) := ⟨h9_⟩
       have n10_ : Aside0 (gb138 ≠ gb128) := ⟨h10_⟩
       have n11_ : Aside0 (gb139 ≠ gb138) := ⟨h11_⟩
       have n12_ : Aside0 (gb138 ≠ gb139) := ⟨h12_⟩
       have n13_ : Aside0 (gb140 ≠ gb138) := ⟨h13_⟩
       have n14_ : Aside0 (gb138 ≠ gb140) := ⟨h14_⟩
       have n15_ : Aside0 (w.heap.size ≤ gb139) := ⟨h15_⟩
       have n16_ : Aside0 (w.heap.size ≤ gb139) := ⟨h16_⟩
       have n17_ : Aside0 (gb127 ≠ gb139) := ⟨h17_⟩
       have n18_ : Aside0 (gb139 ≠ gb127) := ⟨h18_⟩
       have n19_ : Aside0 (gb128 ≠ gb139) := ⟨h19_⟩
       have n20_ : Aside0 (gb139 ≠ gb128) := ⟨h20_⟩
       have n21_ : Aside0 (gb140 ≠ gb139) := ⟨h21_⟩
       have n22_ : Aside0 (gb139 ≠ gb140) := ⟨h22_⟩
       have n23_ : Aside0 (w.heap.size ≤ gb140) := ⟨h23_⟩
       have n24_ : Aside0 (w.heap.size ≤ gb140) := ⟨h24_⟩
       have n25_ : Aside0 (gb127 ≠ gb140) := ⟨h25_⟩
       have n26_ : Aside0 (gb140 ≠ gb127) := ⟨h26_⟩
       have n27_ : Aside0 (gb128 ≠ gb140) := ⟨h27_⟩
       have n28_ : Aside0 (gb140 ≠ gb128) := ⟨h28_⟩
       have n29_ : Aside0 (Below w.heap.size w w28) := ⟨h29_⟩
       clear BK127
       clear BK128
       clear HB
       clear h0_ h1_ h2_ h3_ h4_ h5_ h6_ h7_ h8_ h9_ h10_ h11_ h12_ h13_ h14_ h15_ h16_ h17_ h18_ h19_ h20_ h21_ h22_ h23_ h24_ h25_ h26_ h27_ h28_ h29_
       have BK127 := n0_
       have BK128 := n1_
       have BK138 := n2_
       have BK139 := n3_
       have BK140 := n4_
       have GW138 := n5_
       have GE138 := n6_
       have NB127_138 := n7_
       have NB138_127 := n8_
       have NB128_138 := n9_
       have NB138_128 := n10_
       have NB139_138 := n11_
       have NB138_139 := n12_
       have NB140_138 := n13_
       have NB138_140 := n14_
       have GW139 := n15_
       have GE139 := n16_
       have NB127_139 := n17_
       have NB139_127 := n18_
       have NB128_139 := n19_
       have NB139_128 := n20_
       have NB140_139 := n21_
       have NB139_140 := n22_
       have GW140 := n23_
       have GE140 := n24_
       have NB127_140 := n25_
       have NB140_127 := n26_
       have NB128_140 := n27_
       have NB140_128 := n28_
       have HB := n29_
       clear n0_ n1_ n2_ n3_ n4_ n5_ n6_ n7_ n8_ n9_ n10_ n11_ n12_ n13_ n14_ n15_ n16_ n17_ n18_ n19_ n20_ n21_ n22_ n23_ n24_ n25_ n26_ n27_ n28_ n29_
       have hHeld : w28.cell? ⟨gb128, 0, none⟩ = some (.int .i64 a0_0) ∧ w28.cell? ⟨gb128, 1, none⟩ = some (.int .i64 a0_1) := hS_
       refine norm_ (a' := ?_) ?_ ?_
       rotate_left
       ·simp only [putAll, Act.put, sA, sB, sC]
        rfl
       refine one_ (i := 18) (N := none) #[tT, tT, tT, tT, tT, tT, tT, tT, tT, tT, tT, tT, tT, tT, tT, tT, tT, tT, tT, tF, tF] rfl rfl (one_of HT_.out (by kernel_rfl)) (by decide) (fun K hK => ?_)
       have hs29 : w28.cell? ⟨gb138, 0, none⟩ = some (.int .i64 0) := (kC BK138.out 0).trans rfl
       have hfs29 := kF BK138.out 0
       have hns29_0 := NB127_138.out
       have hns29_1 := NB128_138.out
       have hns29_3 := NB139_138.out
       have hns29_4 := NB140_138.out
       have hms29_0 := NB138_127.out
       have hms29_1 := NB138_128.out
       have hms29_3 := NB138_139.out
       have hms29_4 := NB138_140.out
       have hs30 : w28.cell? ⟨gb138, 1, none⟩ = some (.int .i64 0) := (kC BK138.out 1).trans rfl
       have hfs30 := kF BK138.out 1
       have hns30_0 := NB127_138.out
       have hns30_1 := NB128_138.out
       have hns30_3 := NB139_138.out
       have hns30_4 := NB140_138.out
       have hms30_0 := NB138_127.out
       have hms30_1 := NB138_128.out
       have hms30_3 := NB138_139.out
       have hms30_4 := NB138_140.out
       have hs31 : w28.cell? ⟨gb138, 2, none⟩ = some (.bool false) := (kC BK138.out 2).trans rfl
       have hfs31 := kF BK138.out 2
       have hns31_0 := NB127_138.out
       have hns31_1 := NB128_138.out
       have hns31_3 := NB139_138.out
       have hns31_4 := NB140_138.out
       have hms31_0 := NB138_127.out
       have hms31_1 := NB138_128.out
       have hms31_3 := NB138_139.out
       have hms31_4 := NB138_140.out
       refine skip_ (w1 := ?_) (by rfl) rfl ?_ ?_
       rotate_left
       ·go_simp
        rfl
       refine hK.out _ _ ⟨((cell_far (p := ⟨gb138, _, none⟩) NB128_138.out _).trans (((cell_far (p := ⟨gb138, _, none⟩) NB128_138.out _).trans (((cell_far (p := ⟨gb138, _, none⟩) NB128_138.out _).trans (hHeld.1)))))), ((cell_far (p := ⟨gb138, _, none⟩) NB128_138.out _).trans (((cell_far (p := ⟨gb138, _, none⟩) NB128_138.out _).trans (((cell_far (p := ⟨gb138, _, none⟩) NB128_138.out _).trans (hHeld.2))))))⟩ (fun hHeld => ?_)
       clear hK K
       refine one_ (i := 19) (N := none) #[tT, tT, tT, tT, tT, tT, tT, tT, tT, tT, tT, tT, tT, tT, tT, tT, tT, tT, tT, tT, tF] rfl rfl (one_of HT_.out (by kernel_rfl)) (by decide) (fun K hK => ?_)
       have hs32 : w28.cell? ⟨gb139, 0, none⟩ = some (.int .i64 0) := (kC BK139.out 0).trans rfl
       have hfs32 := kF BK139.out 0
       have hns32_0 := NB127_139.out
       have hns32_1 := NB128_139.out
       have hns32_2 := NB138_139.out
       have hns32_4 := NB140_139.out
       have hms32_0 := NB139_127.out
       have hms32_1 := NB139_128.out
       have hms32_2 := NB139_138.out
       have hms32_4 := NB139_140.out
       have hs33 : w28.cell? ⟨gb139, 1, none⟩ = some (.int .i64 0) := (kC BK139.out 1).trans rfl
       have hfs33 := kF BK139.out 1
       have hns33_0 := NB127_139.out
       have hns33_1 := NB128_139.out
       have hns33_2 := NB138_139.out
       have hns33_4 := NB140_139.out
       have hms33_0 := NB139_127.out
       have hms33_1 := NB139_128.out
       have hms33_2 := NB139_138.out
       have hms33_4 := NB139_140.out
       have hs34 : w28.cell? ⟨gb139, 2, none⟩ = some (.bool false) := (kC BK139.out 2).trans rfl
       have hfs34 := kF BK139.out 2
       have hns34_0 := NB127_139.out
       have hns34_1 := NB128_139.out
       have hns34_2 := NB138_139.out
       have hns34_4 := NB140_139.out
       have hms34_0 := NB139_127.out
       have hms34_1 := NB139_128.out
       have hms34_2 := NB139_138.out
       have hms34_4 := NB139_140.out
       refine skip_ (w1 := ?_) (by rfl) rfl ?_ ?_
       rotate_left
       ·go_simp
        rfl
       refine hK.out _ _ ⟨((cell_far (p := ⟨gb139, _, none⟩) NB128_139.out _).trans (((cell_far (p := ⟨gb139, _, none⟩) NB128_139.out _).trans (((cell_far (p := ⟨gb139, _, none⟩) NB128_139.out _).trans (hHeld.1)))))), ((cell_far (p := ⟨gb139, _, none⟩) NB128_139.out _).trans (((cell_far (p := ⟨gb139, _, none⟩) NB128_139.out _).trans (((cell_far (p := ⟨gb139, _, none⟩) NB128_139.out _).trans (hHeld.2))))))⟩ (fun hHeld => ?_)
       clear hK K
       refine one_ (i := 20) (N := none) #[tT, tT, tT, tT, tT, tT, tT, tT, tT, tT, tT, tT, tT, tT, tT, tT, tT, tT, tT, tT, tT] rfl rfl (one_of HT_.out (by kernel_rfl)) (by decide) (fun K hK => ?_)
       have hs35 : w28.cell? ⟨gb140, 0, none⟩ = some (.int .i64 0) := (kC BK140.out 0).trans rfl
       have hfs35 := kF BK140.out 0
       have hns35_0 := NB127_140.out
       have hns35_1 := NB128_140.out
       have hns35_2 := NB138_140.out
       have hns35_3 := NB139_140.out
       have hms35_0 := NB140_127.out
       have hms35_1 := NB140_128.out
       have hms35_2 := NB140_138.out
       have hms35_3 := NB140_139.out
       have hs36 : w28.cell? ⟨gb140, 1, none⟩ = some (.int .i64 0) := (kC BK140.out 1).trans rfl
       have hfs36 := kF BK140.out 1
       have hns36_0 := NB127_140.out
       have hns36_1 := NB128_140.out
       have hns36_2 := NB138_140.out
       have hns36_3 := NB139_140.out
       have hms36_0 := NB140_127.out
       have hms36_1 := NB140_128.out
       have hms36_2 := NB140_138.out
       have hms36_3 := NB140_139.out
       have hs37 : w28.cell? ⟨gb140, 2, none⟩ = some (.bool false) := (kC BK140.out 2).trans rfl
       have hfs37 := kF BK140.out 2
       have hns37_0 := NB127_140.out
       have hns37_1 := NB128_140.out
       have hns37_2 := NB138_140.out
       have hns37_3 := NB139_140.out
       have hms37_0 := NB140_127.out
       have hms37_1 := NB140_128.out
       have hms37_2 := NB140_138.out
       have hms37_3 := NB140_139.out
       refine skip_ (w1 := ?_) (by rfl) rfl ?_ ?_
       rotate_left
       ·go_simp
        rfl
       refine hK.out _ _ ⟨((cell_far (p := ⟨gb140, _, none⟩) NB128_140.out _).trans (((cell_far (p := ⟨gb140, _, none⟩) NB128_140.out _).trans (((cell_far (p := ⟨gb140, _, none⟩) NB128_140.out _).trans (hHeld.1)))))), ((cell_far (p := ⟨gb140, _, none⟩) NB128_140.out _).trans (((cell_far (p := ⟨gb140, _, none⟩) NB128_140.out _).trans (((cell_far (p := ⟨gb140, _, none⟩) NB128_140.out _).trans (hHeld.2))))))⟩ (fun hHeld => ?_)
       clear hK K
       refine done_ (done_of HT_.out (by kernel_rfl)) ?_
       try go_wp2_with (first | ((with_reducible refine gate_callee (f := 13) rfl ?_); refine goesL_ (some 31) rfl rfl Try.func13 (by kernel_rfl) rfl #[] rfl (by (try simp only [List.map_toArray, List.map_cons, List.map_nil]); first | done | rfl) ?_; (with_reducible refine (lapwinglaw04_wakes.calls k  true _ A7.out).mono ?_); rintro e w38 ⟨rfl, hb⟩; refine ⟨_, rfl, ?_⟩; have n0_ := Aside0.mk (kB (g := gb127) (o := .cells #[.int .i64 a0_0, .int .i64 a0_1, .bool a0_2] 40 (0, 0)) (by (with_reducible repeat (first | apply kN | apply kD | apply kA)); refine kR ?_ NB127_140.out _; (with_reducible repeat (first | apply kN | apply kD | apply kA)); refine kR ?_ NB127_140.out _; (with_reducible repeat (first | apply kN | apply kD | apply kA)); refine kR ?_ NB127_140.out _; (with_reducible repeat (first | apply kN | apply kD | apply kA)); refine kR ?_ NB127_139.out _; (with_reducible repeat (first | apply kN | apply kD | apply kA)); refine kR ?_ NB127_139.out _; (with_reducible repeat (first | apply kN | apply kD | apply kA)); refine kR ?_ NB127_139.out _; (with_reducible repeat (first | apply kN | apply kD | apply kA)); refine kR ?_ NB127_138.out _; (with_reducible repeat (first | apply kN | apply kD | apply kA)); refine kR ?_ NB127_138.out _; (with_reducible repeat (first | apply kN | apply kD | apply kA)); refine kR ?_ NB127_138.out _; (with_reducible repeat (first | apply kN | apply kD | apply kA)); exact BK127.out) hb); have n1_ := Aside0.mk (kB (g := gb128) (o := .cells #[.int .i64 a0_0, .int .i64 a0_1] 23 (0, 0)) (by (with_reducible repeat (first | apply kN | apply kD | apply kA)); refine kR ?_ NB128_140.out _; (with_reducible repeat (first | apply kN | apply kD | apply kA)); refine kR ?_ NB128_140.out _; (with_reducible repeat (first | apply kN | apply kD | apply kA)); refine kR ?_ NB128_140.out _; (with_reducible repeat (first | apply kN | apply kD | apply kA)); refine kR ?_ NB128_139.out _; (with_reducible repeat (first | apply kN | apply kD | apply kA)); refine kR ?_ NB128_139.out _; (with_reducible repeat (first | apply kN | apply kD | apply kA)); refine kR ?_ NB128_139.out _; (with_reducible repeat (first | apply kN | apply kD | apply kA)); refine kR ?_ NB128_138.out _; (with_reducible repeat (first | apply kN | apply kD | apply kA)); refine kR ?_ NB128_138.out _; (with_reducible repeat (first | apply kN | apply kD | apply kA)); refine kR ?_ NB128_138.out _; (with_reducible repeat (first | apply kN | apply kD | apply kA)); exact BK128.out) hb); have n2_ := Aside0.mk (kB (g := gb138) (o := .cells #[.int .i64 t129, .int .i64 t130, .bool t131] 25 (0, 0)) (by (with_reducible repeat (first | apply kN | apply kD | apply kA)); refine kR ?_ NB138_140.out _; (with_reducible repeat (first | apply kN | apply kD | apply kA)); refine kR ?_ NB138_140.out _; (with_reducible repeat (first | apply kN | apply kD | apply kA)); refine kR ?_ NB138_140.out _; (with_reducible repeat (first | apply kN | apply kD | apply kA)); refine kR ?_ NB138_139.out _; (with_reducible repeat (first | apply kN | apply kD | apply kA)); refine kR ?_ NB138_139.out _; (with_reducible repeat (first | apply kN | apply kD | apply kA)); refine kR ?_ NB138_139.out _; (with_reducible repeat (first | apply kN | apply kD | apply kA)); refine kP (cs := #[.int .i64 t129, .int .i64 t130, .bool false]) ?_ 2 _ rfl; (with_reducible repeat (first | apply kN | apply kD | apply kA)); refine kP (cs := #[.int .i64 t129, .int .i64 0, .bool false]) ?_ 1 _ rfl; (with_reducible repeat (first | apply kN | apply kD | apply kA)); refine kP (cs := #[.int .i64 0, .int .i64 0, .bool false]) ?_ 0 _ rfl; (with_reducible repeat (first | apply kN | apply kD | apply kA)); exact BK138.out) hb); have n3_ := Aside0.mk (kB (g := gb139) (o := .cells #[.int .i64 t132, .int .i64 t133, .bool t134] 25 (0, 0)) (by (with_reducible repeat (first | apply kN | apply kD | apply kA)); refine kR ?_ NB139_140.out _; (with_reducible repeat (first | apply kN | apply kD | apply kA)); refine kR ?_ NB139_140.out _; (with_reducible repeat (first | apply kN | apply kD | apply kA)); refine kR ?_ NB139_140.out _; (with_reducible repeat (first | apply kN | apply kD | apply kA)); refine kP (cs := #[.int .i64 t132, .int .i64 t133, .bool false]) ?_ 2 _ rfl; (with_reducible repeat (first | apply kN | apply kD | apply kA)); refine kP (cs := #[.int .i64 t132, .int .i64 0, .bool false]) ?_ 1 _ rfl; (with_reducible repeat (first | apply kN | apply kD | apply kA)); refine kP (cs := #[.int .i64 0, .int .i64 0, .bool false]) ?_ 0 _ rfl; (with_reducible repeat (first | apply kN | apply kD | apply kA)); refine kR ?_ NB139_138.out _; (with_reducible repeat (first | apply kN | apply kD | apply kA)); refine kR ?_ NB139_138.out _; (with_reducible repeat (first | apply kN | apply kD | apply kA)); refine kR ?_ NB139_138.out _; (with_reducible repeat (first | apply kN | apply kD | apply kA)); exact BK139.out) hb); have n4_ := Aside0.mk (kB (g := gb140) (o := .cells #[.int .i64 t135, .int .i64 t136, .bool t137] 25 (0, 0)) (by (with_reducible repeat (first | apply kN | apply kD | apply kA)); refine kP (cs := #[.int .i64 t135, .int .i64 t136, .bool false]) ?_ 2 _ rfl; (with_reducible repeat (first | apply kN | apply kD | apply kA)); refine kP (cs := #[.int .i64 t135, .int .i64 0, .bool false]) ?_ 1 _ rfl; (with_reducible repeat (first | apply kN | apply kD | apply kA)); refine kP (cs := #[.int .i64 0, .int .i64 0, .bool false]) ?_ 0 _ rfl; (with_reducible repeat (first | apply kN | apply kD | apply kA)); refine kR ?_ NB140_139.out _; (with_reducible repeat (first | apply kN | apply kD | apply kA)); refine kR ?_ NB140_139.out _; (with_reducible repeat (first | apply kN | apply kD | apply kA)); refine kR ?_ NB140_139.out _; (with_reducible repeat (first | apply kN | apply kD | apply kA)); refine kR ?_ NB140_138.out _; (with_reducible repeat (first | apply kN | apply kD | apply kA)); refine kR ?_ NB140_138.out _; (with_reducible repeat (first | apply kN | apply kD | apply kA)); refine kR ?_ NB140_138.out _; (with_reducible repeat (first | apply kN | apply kD | apply kA)); exact BK140.out) hb); have n5_ := Aside0.mk (bT (by repeat (first | (with_reducible first | exact HB.out | apply bA | apply bN | apply bD | refine bS ?_ GE127.out | refine bS ?_ GE128.out | refine bS ?_ GE138.out | refine bS ?_ GE139.out | refine bS ?_ GE140.out) | exact HB.out)) hb); clear BK127; clear BK128; clear BK138; clear BK139; clear BK140; clear HB; have BK127 := n0_; have BK128 := n1_; have BK138 := n2_; have BK139 := n3_; have BK140 := n4_; have HB := n5_; clear n0_ n1_ n2_ n3_ n4_ n5_; (try clear hb); (try clear hb2); (try clear hk); (try clear hi); have hnb39 := NB138_127.out; have hnc39 := NB127_138.out; have hnb40 := NB138_128.out; have hnc40 := NB128_138.out; have hnb41 := NB138_139.out; have hnc41 := NB139_138.out; have hnb42 := NB138_140.out; have hnc42 := NB140_138.out; have hcz43_0 : w38.cell? ⟨gb138, 0, none⟩ = some (.int .i64 t129) := (kC BK138.out 0).trans rfl; have hcz43_1 : w38.cell? ⟨gb138, 1, none⟩ = some (.int .i64 t130) := (kC BK138.out 1).trans rfl; have hcz43_2 : w38.cell? ⟨gb138, 2, none⟩ = some (.bool t131) := (kC BK138.out 2).trans rfl; have hfz43_0 := kF BK138.out 0; have hfz43_1 := kF BK138.out 1; have hfz43_2 := kF BK138.out 2; have hnb44 := NB139_127.out; have hnc44 := NB127_139.out; have hnb45 := NB139_128.out; have hnc45 := NB128_139.out; have hnb46 := NB139_140.out; have hnc46 := NB140_139.out; have hcz47_0 : w38.cell? ⟨gb139, 0, none⟩ = some (.int .i64 t132) := (kC BK139.out 0).trans rfl; have hcz47_1 : w38.cell? ⟨gb139, 1, none⟩ = some (.int .i64 t133) := (kC BK139.out 1).trans rfl; have hcz47_2 : w38.cell? ⟨gb139, 2, none⟩ = some (.bool t134) := (kC BK139.out 2).trans rfl; have hfz47_0 := kF BK139.out 0; have hfz47_1 := kF BK139.out 1; have hfz47_2 := kF BK139.out 2; have hnb48 := NB140_127.out; have hnc48 := NB127_140.out; have hnb49 := NB140_128.out; have hnc49 := NB128_140.out; have hcz50_0 : w38.cell? ⟨gb140, 0, none⟩ = some (.int .i64 t135) := (kC BK140.out 0).trans rfl; have hcz50_1 : w38.cell? ⟨gb140, 1, none⟩ = some (.int .i64 t136) := (kC BK140.out 1).trans rfl; have hcz50_2 : w38.cell? ⟨gb140, 2, none⟩ = some (.bool t137) := (kC BK140.out 2).trans rfl; have hfz50_0 := kF BK140.out 0; have hfz50_1 := kF BK140.out 1; have hfz50_2 := kF BK140.out 2; have hcz51_0 : w38.cell? ⟨gb128, 0, none⟩ = some (.int .i64 a0_0) := (kC BK128.out 0).trans rfl; have hcz51_1 : w38.cell? ⟨gb128, 1, none⟩ = some (.int .i64 a0_1) := (kC BK128.out 1).trans rfl; have hfz51_0 := kF BK128.out 0; have hfz51_1 := kF BK128.out 1) | (go_at_call 20; (with_reducible refine (addr_Address_Command.calls t129 t130 t131 a2 t142 _ A12.out).mono ?_); rintro e w52 ⟨rfl, hb⟩; have n0_ := Aside0.mk (kB (g := gb127) (o := .cells #[.int .i64 a0_0, .int .i64 a0_1, .bool a0_2] 40 (0, 0)) (by (with_reducible repeat (first | apply kN | apply kD | apply kA)); exact BK127.out) hb); have n1_ := Aside0.mk (kB (g := gb128) (o := .cells #[.int .i64 a0_0, .int .i64 a0_1] 23 (0, 0)) (by (with_reducible repeat (first | apply kN | apply kD | apply kA)); exact BK128.out) hb); have n2_ := Aside0.mk (kB (g := gb138) (o := .cells #[.int .i64 t129, .int .i64 t130, .bool t131] 25 (0, 0)) (by (with_reducible repeat (first | apply kN | apply kD | apply kA)); exact BK138.out) hb); have n3_ := Aside0.mk (kB (g := gb139) (o := .cells #[.int .i64 t132, .int .i64 t133, .bool t134] 25 (0, 0)) (by (with_reducible repeat (first | apply kN | apply kD | apply kA)); exact BK139.out) hb); have n4_ := Aside0.mk (kB (g := gb140) (o := .cells #[.int .i64 t135, .int .i64 t136, .bool t137] 25 (0, 0)) (by (with_reducible repeat (first | apply kN | apply kD | apply kA)); exact BK140.out) hb); have n5_ := Aside0.mk (bT (by repeat (first | (with_reducible first | exact HB.out | apply bA | apply bN | apply bD | refine bS ?_ GE127.out | refine bS ?_ GE128.out | refine bS ?_ GE138.out | refine bS ?_ GE139.out | refine bS ?_ GE140.out) | exact HB.out)) hb); clear BK127; clear BK128; clear BK138; clear BK139; clear BK140; clear HB; have BK127 := n0_; have BK128 := n1_; have BK138 := n2_; have BK139 := n3_; have BK140 := n4_; have HB := n5_; clear n0_ n1_ n2_ n3_ n4_ n5_; (try clear hb); (try clear hb2); (try clear hk); (try clear hi); have hcz53_0 : w52.cell? ⟨gb138, 0, none⟩ = some (.int .i64 t129) := (kC BK138.out 0).trans rfl; have hcz53_1 : w52.cell? ⟨gb138, 1, none⟩ = some (.int .i64 t130) := (kC BK138.out 1).trans rfl; have hcz53_2 : w52.cell? ⟨gb138, 2, none⟩ = some (.bool t131) := (kC BK138.out 2).trans rfl; have hfz53_0 := kF BK138.out 0; have hfz53_1 := kF BK138.out 1; have hfz53_2 := kF BK138.out 2) | (go_at_call 20; (with_reducible refine (addr_Address_Command.calls t129 t130 t131 (!a2) t143 _ A14.out).mono ?_); rintro e w54 ⟨rfl, hb⟩; have n0_ := Aside0.mk (kB (g := gb127) (o := .cells #[.int .i64 a0_0, .int .i64 a0_1, .bool a0_2] 40 (0, 0)) (by (with_reducible repeat (first | apply kN | apply kD | apply kA)); exact BK127.out) hb); have n1_ := Aside0.mk (kB (g := gb128) (o := .cells #[.int .i64 a0_0, .int .i64 a0_1] 23 (0, 0)) (by (with_reducible repeat (first | apply kN | apply kD | apply kA)); exact BK128.out) hb); have n2_ := Aside0.mk (kB (g := gb138) (o := .cells #[.int .i64 t129, .int .i64 t130, .bool t131] 25 (0, 0)) (by (with_reducible repeat (first | apply kN | apply kD | apply kA)); exact BK138.out) hb); have n3_ := Aside0.mk (kB (g := gb139) (o := .cells #[.int .i64 t132, .int .i64 t133, .bool t134] 25 (0, 0)) (by (with_reducible repeat (first | apply kN | apply kD | apply kA)); exact BK139.out) hb); have n4_ := Aside0.mk (kB (g := gb140) (o := .cells #[.int .i64 t135, .int .i64 t136, .bool t137] 25 (0, 0)) (by (with_reducible repeat (first | apply kN | apply kD | apply kA)); exact BK140.out) hb); have n5_ := Aside0.mk (bT (by repeat (first | (with_reducible first | exact HB.out | apply bA | apply bN | apply bD | refine bS ?_ GE127.out | refine bS ?_ GE128.out | refine bS ?_ GE138.out | refine bS ?_ GE139.out | refine bS ?_ GE140.out) | exact HB.out)) hb); clear BK127; clear BK128; clear BK138; clear BK139; clear BK140; clear HB; have BK127 := n0_; have BK128 := n1_; have BK138 := n2_; have BK139 := n3_; have BK140 := n4_; have HB := n5_; clear n0_ n1_ n2_ n3_ n4_ n5_; (try clear hb); (try clear hb2); (try clear hk); (try clear hi)))
       go_ret
       exact ⟨by first | rfl | (simp [errW_none, errW_some] <;> rfl) | (simp [*, errW_none, errW_some] <;> rfl), by repeat (first | (with_reducible first | exact HB.out | apply bA | apply bN | apply bD | refine bS ?_ GE127.out | refine bS ?_ GE128.out | refine bS ?_ GE138.out | refine bS ?_ GE139.out | refine bS ?_ GE140.out) | exact HB.out)⟩
      intro hJ3_9_14_15_16_17
      refine join_ (σ := Nat × Nat) 4 #[tT, tT, tT, tT, tT, tT, tT, tT, tT, tT, tT, tT, tT, tT, tT, tT, tT, tF, tF, tF, tF] (fun s_ => [(19, .agg #[.int .i64 t129, .int .i64 t130, .bool t131]), (25, .agg #[.int .i64 t132, .int .i64 t133, .bool t134]), (30, .agg #[.int .i64 t135, .int .i64 t136, .bool t137]), (8, .pointer (some ⟨s_.1, 0, none⟩)), (9, .pointer (some ⟨s_.2, 0, none⟩))]) (fun s_ w' => (w'.cell? ⟨gb128, 0, none⟩ = some (.int .i64 a0_0) ∧ w'.cell? ⟨gb128, 1, none⟩ = some (.int .i64 a0_1)) ∧ (w'.heap[gb127]? = some (.cells #[.int .i64 a0_0, .int .i64 a0_1, .bool a0_2] 40 (0, 0))) ∧ (w'.heap[gb128]? = some (.cells #[.int .i64 a0_0, .int .i64 a0_1] 23 (0, 0))) ∧ (w'.heap[s_.1]? = some (.cells #[.int .i64 0, .int .i64 0, .bool false] 25 (0, 0))) ∧ (w'.heap[s_.2]? = some (.cells #[.int .i64 0, .int .i64 0, .bool false] 25 (0, 0))) ∧ (w.heap.size ≤ s_.1) ∧ (w.heap.size ≤ s_.1) ∧ (gb127 ≠ s_.1) ∧ (s_.1 ≠ gb127) ∧ (gb128 ≠ s_.1) ∧ (s_.1 ≠ gb128) ∧ (s_.2 ≠ s_.1) ∧ (s_.1 ≠ s_.2) ∧ (w.heap.size ≤ s_.2) ∧ (w.heap.size ≤ s_.2) ∧ (gb127 ≠ s_.2) ∧ (s_.2 ≠ gb127) ∧ (gb128 ≠ s_.2) ∧ (s_.2 ≠ gb128) ∧ (Below w.heap.size w w')) ?_ ?_
      ··skip
        rintro ⟨gb138, gb139⟩ w27 ⟨hS_, h0_, h1_, h2_, h3_, h4_, h5_, h6_, h7_, h8_, h9_, h10_, h11_, h12_, h13_, h14_, h15_, h16_, h17_, h18_⟩
        have n0_ : Aside0 (w27.heap[gb127]? = some (.cells #[.int .i64 a0_0, .int .i64 a0_1, .bool a0_2] 40 (0, 0))) := ⟨h0_⟩
        have n1_ : Aside0 (w27.heap[gb128]? = some (.cells #[.int .i64 a0_0, .int .i64 a0_1] 23 (0, 0))) := ⟨h1_⟩
        have n2_ : Aside0 (w27.heap[gb138]? = some (.cells #[.int .i64 0, .int .i64 0, .bool false] 25 (0, 0))) := ⟨h2_⟩
        have n3_ : Aside0 (w27.heap[gb139]? = some (.cells #[.int .i64 0, .int .i64 0, .bool false] 25 (0, 0))) := ⟨h3_⟩
        have n4_ : Aside0 (w.heap.size ≤ gb138) := ⟨h4_⟩
        have n5_ : Aside0 (w.heap.size ≤ gb138) := ⟨h5_⟩
        have n6_ : Aside0 (gb127 ≠ gb138) := ⟨h6_⟩
        have n7_ : Aside0 (gb138 ≠ gb127) := ⟨h7_⟩
        have n8_ : Aside0 (gb128 ≠ gb138) := ⟨h8_⟩
        have n9_ : Aside0 (gb138 ≠ gb128) := ⟨h9_⟩
        have n10_ : Aside0 (gb139 ≠ gb138) := ⟨h10_⟩
        have n11_ : Aside0 (gb138 ≠ gb139) := ⟨h11_⟩
        have n12_ : Aside0 (w.heap.size ≤ gb139) := ⟨h12_⟩
        have n13_ : Aside0 (w.heap.size ≤ gb139) := ⟨h13_⟩
        have n14_ : Aside0 (gb127 ≠ gb139) := ⟨h14_⟩
        have n15_ : Aside0 (gb139 ≠ gb127) := ⟨h15_⟩
        have n16_ : Aside0 (gb128 ≠ gb139) := ⟨h16_⟩
        have n17_ : Aside0 (gb139 ≠ gb128) := ⟨h17_⟩
        have n18_ : Aside0 (Below w.heap.size w w27) := ⟨h18_⟩
        clear BK127
        clear BK128
        clear HB
        clear h0_ h1_ h2_ h3_ h4_ h5_ h6_ h7_ h8_ h9_ h10_ h11_ h12_ h13_ h14_ h15_ h16_ h17_ h18_
        have BK127 := n0_
        have BK128 := n1_
        have BK138 := n2_
        have BK139 := n3_
        have GW138 := n4_
        have GE138 := n5_
        have NB127_138 := n6_
        have NB138_127 := n7_
        have NB128_138 := n8_
        have NB138_128 := n9_
        have NB139_138 := n10_
        have NB138_139 := n11_
        have GW139 := n12_
        have GE139 := n13_
        have NB127_139 := n14_
        have NB139_127 := n15_
        have NB128_139 := n16_
        have NB139_128 := n17_
        have HB := n18_
        clear n0_ n1_ n2_ n3_ n4_ n5_ n6_ n7_ n8_ n9_ n10_ n11_ n12_ n13_ n14_ n15_ n16_ n17_ n18_
        have hHeld : w27.cell? ⟨gb128, 0, none⟩ = some (.int .i64 a0_0) ∧ w27.cell? ⟨gb128, 1, none⟩ = some (.int .i64 a0_1) := hS_
        refine norm_ (a' := ?_) ?_ ?_
        rotate_left
        ·simp only [putAll, Act.put, sA, sB, sC]
         rfl
        refine one_ (i := 17) (N := some 10) #[tT, tT, tT, tT, tT, tT, tT, tT, tT, tT, tT, tT, tT, tT, tT, tT, tT, tT, tF, tF, tF] rfl rfl (one_of HT_.out (by kernel_rfl)) (by decide) (fun K hK => ?_)
        refine box_step ?hg (N := 10) ?hd (cs := #[.int .i64 0, .int .i64 0, .bool false]) (t := 25) ?hr ?_; (case hd => rfl); (case hg => rfl); (case hr => first | (go_simp; done) | (go_simp; rfl))
        intro gb140 hg w28 hbox hb
        have n0_ := Aside0.mk (kB BK127.out hb)
        have n1_ := Aside0.mk (kB BK128.out hb)
        have n2_ := Aside0.mk (kB BK138.out hb)
        have n3_ := Aside0.mk (kB BK139.out hb)
        have n4_ := Aside0.mk (bT HB.out hb)
        have n5_ := Aside0.mk (hbox)
        have n6_ := Aside0.mk ((by rw [hg]; exact (below_size HB.out) : w.heap.size ≤ gb140))
        have n7_ := n6_
        have n8_ := Aside0.mk ((by rw [hg]; exact Nat.ne_of_lt (blk_lt BK127.out) : gb127 ≠ gb140))
        have n9_ := Aside0.mk n8_.out.symm
        have n10_ := Aside0.mk ((by rw [hg]; exact Nat.ne_of_lt (blk_lt BK128.out) : gb128 ≠ gb140))
        have n11_ := Aside0.mk n10_.out.symm
        have n12_ := Aside0.mk ((by rw [hg]; exact Nat.ne_of_lt (blk_lt BK138.out) : gb138 ≠ gb140))
        have n13_ := Aside0.mk n12_.out.symm
        have n14_ := Aside0.mk ((by rw [hg]; exact Nat.ne_of_lt (blk_lt BK139.out) : gb139 ≠ gb140))
        have n15_ := Aside0.mk n14_.out.symm
        clear BK127
        clear BK128
        clear BK138
        clear BK139
        clear HB
        have BK127 := n0_
        have BK128 := n1_
        have BK138 := n2_
        have BK139 := n3_
        have HB := n4_
        have BK140 := n5_
        have GW140 := n6_
        have GE140 := n7_
        have NB127_140 := n8_
        have NB140_127 := n9_
        have NB128_140 := n10_
        have NB140_128 := n11_
        have NB138_140 := n12_
        have NB140_138 := n13_
        have NB139_140 := n14_
        have NB140_139 := n15_
        clear n0_ n1_ n2_ n3_ n4_ n5_ n6_ n7_ n8_ n9_ n10_ n11_ n12_ n13_ n14_ n15_
        clear hb hbox hg
        refine hK.out _ _ ⟨(kC BK128.out 0).trans rfl, (kC BK128.out 1).trans rfl⟩ (fun hHeld => ?_)
        clear hK K
        refine norm_ (a' := ?_) ?_ ?_
        rotate_left
        ·show Act.put _ (some 10) _ = _
         simp only [Act.put, sA, sB, sC, i64_w, i32_w]
         rfl
        exact norm_ (by simp only [putAll, Act.put, sA, sB, sC] <;> rfl) (hJ3_9_14_15_16_17 (gb138, gb139, gb140) _ ⟨hHeld, BK127.out, BK128.out, BK138.out, BK139.out, BK140.out, GW138.out, GE138.out, NB127_138.out, NB138_127.out, NB128_138.out, NB138_128.out, NB139_138.out, NB138_139.out, NB140_138.out, NB138_140.out, GW139.out, GE139.out, NB127_139.out, NB139_127.out, NB128_139.out, NB139_128.out, NB140_139.out, NB139_140.out, GW140.out, GE140.out, NB127_140.out, NB140_127.out, NB128_140.out, NB140_128.out, HB.out⟩)
      intro hJ3_9_14_15_16
      refine join_ (σ := Nat × Nat) 4 #[tT, tT, tT, tT, tT, tT, tT, tT, tT, tT, tT, tT, tT, tT, tT, tT, tF, tT, tF, tF, tF] (fun s_ => [(19, .agg #[.int .i64 t129, .int .i64 t130, .bool t131]), (25, .agg #[.int .i64 t132, .int .i64 t133, .bool t134]), (30, .agg #[.int .i64 t135, .int .i64 t136, .bool t137]), (8, .pointer (some ⟨s_.1, 0, none⟩)), (10, .pointer (some ⟨s_.2, 0, none⟩))]) (fun s_ w' => (w'.cell? ⟨gb128, 0, none⟩ = some (.int .i64 a0_0) ∧ w'.cell? ⟨gb128, 1, none⟩ = some (.int .i64 a0_1)) ∧ (w'.heap[gb127]? = some (.cells #[.int .i64 a0_0, .int .i64 a0_1, .bool a0_2] 40 (0, 0))) ∧ (w'.heap[gb128]? = some (.cells #[.int .i64 a0_0, .int .i64 a0_1] 23 (0, 0))) ∧ (w'.heap[s_.1]? = some (.cells #[.int .i64 0, .int .i64 0, .bool false] 25 (0, 0))) ∧ (w'.heap[s_.2]? = some (.cells #[.int .i64 0, .int .i64 0, .bool false] 25 (0, 0))) ∧ (w.heap.size ≤ s_.1) ∧ (w.heap.size ≤ s_.1) ∧ (gb127 ≠ s_.1) ∧ (s_.1 ≠ gb127) ∧ (gb128 ≠ s_.1) ∧ (s_.1 ≠ gb128) ∧ (s_.2 ≠ s_.1) ∧ (s_.1 ≠ s_.2) ∧ (w.heap.size ≤ s_.2) ∧ (w.heap.size ≤ s_.2) ∧ (gb127 ≠ s_.2) ∧ (s_.2 ≠ gb127) ∧ (gb128 ≠ s_.2) ∧ (s_.2 ≠ gb128) ∧ (Below w.heap.size w w')) ?_ ?_
      ··skip
        rintro ⟨gb138, gb140⟩ w27 ⟨hS_, h0_, h1_, h2_, h3_, h4_, h5_, h6_, h7_, h8_, h9_, h10_, h11_, h12_, h13_, h14_, h15_, h16_, h17_, h18_⟩
        have n0_ : Aside0 (w27.heap[gb127]? = some (.cells #[.int .i64 a0_0, .int .i64 a0_1, .bool a0_2] 40 (0, 0))) := ⟨h0_⟩
        have n1_ : Aside0 (w27.heap[gb128]? = some (.cells #[.int .i64 a0_0, .int .i64 a0_1] 23 (0, 0))) := ⟨h1_⟩
        have n2_ : Aside0 (w27.heap[gb138]? = some (.cells #[.int .i64 0, .int .i64 0, .bool false] 25 (0, 0))) := ⟨h2_⟩
        have n3_ : Aside0 (w27.heap[gb140]? = some (.cells #[.int .i64 0, .int .i64 0, .bool false] 25 (0, 0))) := ⟨h3_⟩
        have n4_ : Aside0 (w.heap.size ≤ gb138) := ⟨h4_⟩
        have n5_ : Aside0 (w.heap.size ≤ gb138) := ⟨h5_⟩
        have n6_ : Aside0 (gb127 ≠ gb138) := ⟨h6_⟩
        have n7_ : Aside0 (gb138 ≠ gb127) := ⟨h7_⟩
        have n8_ : Aside0 (gb128 ≠ gb138) := ⟨h8_⟩
        have n9_ : Aside0 (gb138 ≠ gb128) := ⟨h9_⟩
        have n10_ : Aside0 (gb140 ≠ gb138) := ⟨h10_⟩
        have n11_ : Aside0 (gb138 ≠ gb140) := ⟨h11_⟩
        have n12_ : Aside0 (w.heap.size ≤ gb140) := ⟨h12_⟩
        have n13_ : Aside0 (w.heap.size ≤ gb140) := ⟨h13_⟩
        have n14_ : Aside0 (gb127 ≠ gb140) := ⟨h14_⟩
        have n15_ : Aside0 (gb140 ≠ gb127) := ⟨h15_⟩
        have n16_ : Aside0 (gb128 ≠ gb140) := ⟨h16_⟩
        have n17_ : Aside0 (gb140 ≠ gb128) := ⟨h17_⟩
        have n18_ : Aside0 (Below w.heap.size w w27) := ⟨h18_⟩
        clear BK127
        clear BK128
        clear HB
        clear h0_ h1_ h2_ h3_ h4_ h5_ h6_ h7_ h8_ h9_ h10_ h11_ h12_ h13_ h14_ h15_ h16_ h17_ h18_
        have BK127 := n0_
        have BK128 := n1_
        have BK138 := n2_
        have BK140 := n3_
        have GW138 := n4_
        have GE138 := n5_
        have NB127_138 := n6_
        have NB138_127 := n7_
        have NB128_138 := n8_
        have NB138_128 := n9_
        have NB140_138 := n10_
        have NB138_140 := n11_
        have GW140 := n12_
        have GE140 := n13_
        have NB127_140 := n14_
        have NB140_127 := n15_
        have NB128_140 := n16_
        have NB140_128 := n17_
        have HB := n18_
        clear n0_ n1_ n2_ n3_ n4_ n5_ n6_ n7_ n8_ n9_ n10_ n11_ n12_ n13_ n14_ n15_ n16_ n17_ n18_
        have hHeld : w27.cell? ⟨gb128, 0, none⟩ = some (.int .i64 a0_0) ∧ w27.cell? ⟨gb128, 1, none⟩ = some (.int .i64 a0_1) := hS_
        refine norm_ (a' := ?_) ?_ ?_
        rotate_left
        ·simp only [putAll, Act.put, sA, sB, sC]
         rfl
        refine one_ (i := 16) (N := some 9) #[tT, tT, tT, tT, tT, tT, tT, tT, tT, tT, tT, tT, tT, tT, tT, tT, tT, tT, tF, tF, tF] rfl rfl (one_of HT_.out (by kernel_rfl)) (by decide) (fun K hK => ?_)
        refine box_step ?hg (N := 9) ?hd (cs := #[.int .i64 0, .int .i64 0, .bool false]) (t := 25) ?hr ?_; (case hd => rfl); (case hg => rfl); (case hr => first | (go_simp; done) | (go_simp; rfl))
        intro gb139 hg w28 hbox hb
        have n0_ := Aside0.mk (kB BK127.out hb)
        have n1_ := Aside0.mk (kB BK128.out hb)
        have n2_ := Aside0.mk (kB BK138.out hb)
        have n3_ := Aside0.mk (kB BK140.out hb)
        have n4_ := Aside0.mk (bT HB.out hb)
        have n5_ := Aside0.mk (hbox)
        have n6_ := Aside0.mk ((by rw [hg]; exact (below_size HB.out) : w.heap.size ≤ gb139))
        have n7_ := n6_
        have n8_ := Aside0.mk ((by rw [hg]; exact Nat.ne_of_lt (blk_lt BK127.out) : gb127 ≠ gb139))
        have n9_ := Aside0.mk n8_.out.symm
        have n10_ := Aside0.mk ((by rw [hg]; exact Nat.ne_of_lt (blk_lt BK128.out) : gb128 ≠ gb139))
        have n11_ := Aside0.mk n10_.out.symm
        have n12_ := Aside0.mk ((by rw [hg]; exact Nat.ne_of_lt (blk_lt BK138.out) : gb138 ≠ gb139))
        have n13_ := Aside0.mk n12_.out.symm
        have n14_ := Aside0.mk ((by rw [hg]; exact Nat.ne_of_lt (blk_lt BK140.out) : gb140 ≠ gb139))
        have n15_ := Aside0.mk n14_.out.symm
        clear BK127
        clear BK128
        clear BK138
        clear BK140
        clear HB
        have BK127 := n0_
        have BK128 := n1_
        have BK138 := n2_
        have BK140 := n3_
        have HB := n4_
        have BK139 := n5_
        have GW139 := n6_
        have GE139 := n7_
        have NB127_139 := n8_
        have NB139_127 := n9_
        have NB128_139 := n10_
        have NB139_128 := n11_
        have NB138_139 := n12_
        have NB139_138 := n13_
        have NB140_139 := n14_
        have NB139_140 := n15_
        clear n0_ n1_ n2_ n3_ n4_ n5_ n6_ n7_ n8_ n9_ n10_ n11_ n12_ n13_ n14_ n15_
        clear hb hbox hg
        refine hK.out _ _ ⟨(kC BK128.out 0).trans rfl, (kC BK128.out 1).trans rfl⟩ (fun hHeld => ?_)
        clear hK K
        refine norm_ (a' := ?_) ?_ ?_
        rotate_left
        ·show Act.put _ (some 9) _ = _
         simp only [Act.put, sA, sB, sC, i64_w, i32_w]
         rfl
        exact norm_ (by simp only [putAll, Act.put, sA, sB, sC] <;> rfl) (hJ3_9_14_15_16_17 (gb138, gb139, gb140) _ ⟨hHeld, BK127.out, BK128.out, BK138.out, BK139.out, BK140.out, GW138.out, GE138.out, NB127_138.out, NB138_127.out, NB128_138.out, NB138_128.out, NB139_138.out, NB138_139.out, NB140_138.out, NB138_140.out, GW139.out, GE139.out, NB127_139.out, NB139_127.out, NB128_139.out, NB139_128.out, NB140_139.out, NB139_140.out, GW140.out, GE140.out, NB127_140.out, NB140_127.out, NB128_140.out, NB140_128.out, HB.out⟩)
      intro hJ3_9_14_15_17
      refine join_ (σ := Nat × Nat) 4 #[tT, tT, tT, tT, tT, tT, tT, tT, tT, tT, tT, tT, tT, tT, tT, tF, tT, tT, tF, tF, tF] (fun s_ => [(19, .agg #[.int .i64 t129, .int .i64 t130, .bool t131]), (25, .agg #[.int .i64 t132, .int .i64 t133, .bool t134]), (30, .agg #[.int .i64 t135, .int .i64 t136, .bool t137]), (9, .pointer (some ⟨s_.1, 0, none⟩)), (10, .pointer (some ⟨s_.2, 0, none⟩))]) (fun s_ w' => (w'.cell? ⟨gb128, 0, none⟩ = some (.int .i64 a0_0) ∧ w'.cell? ⟨gb128, 1, none⟩ = some (.int .i64 a0_1)) ∧ (w'.heap[gb127]? = some (.cells #[.int .i64 a0_0, .int .i64 a0_1, .bool a0_2] 40 (0, 0))) ∧ (w'.heap[gb128]? = some (.cells #[.int .i64 a0_0, .int .i64 a0_1] 23 (0, 0))) ∧ (w'.heap[s_.1]? = some (.cells #[.int .i64 0, .int .i64 0, .bool false] 25 (0, 0))) ∧ (w'.heap[s_.2]? = some (.cells #[.int .i64 0, .int .i64 0, .bool false] 25 (0, 0))) ∧ (w.heap.size ≤ s_.1) ∧ (w.heap.size ≤ s_.1) ∧ (gb127 ≠ s_.1) ∧ (s_.1 ≠ gb127) ∧ (gb128 ≠ s_.1) ∧ (s_.1 ≠ gb128) ∧ (s_.2 ≠ s_.1) ∧ (s_.1 ≠ s_.2) ∧ (w.heap.size ≤ s_.2) ∧ (w.heap.size ≤ s_.2) ∧ (gb127 ≠ s_.2) ∧ (s_.2 ≠ gb127) ∧ (gb128 ≠ s_.2) ∧ (s_.2 ≠ gb128) ∧ (Below w.heap.size w w')) ?_ ?_
      ··skip
        rintro ⟨gb139, gb140⟩ w27 ⟨hS_, h0_, h1_, h2_, h3_, h4_, h5_, h6_, h7_, h8_, h9_, h10_, h11_, h12_, h13_, h14_, h15_, h16_, h17_, h18_⟩
        have n0_ : Aside0 (w27.heap[gb127]? = some (.cells #[.int .i64 a0_0, .int .i64 a0_1, .bool a0_2] 40 (0, 0))) := ⟨h0_⟩
        have n1_ : Aside0 (w27.heap[gb128]? = some (.cells #[.int .i64 a0_0, .int .i64 a0_1] 23 (0, 0))) := ⟨h1_⟩
        have n2_ : Aside0 (w27.heap[gb139]? = some (.cells #[.int .i64 0, .int .i64 0, .bool false] 25 (0, 0))) := ⟨h2_⟩
        have n3_ : Aside0 (w27.heap[gb140]? = some (.cells #[.int .i64 0, .int .i64 0, .bool false] 25 (0, 0))) := ⟨h3_⟩
        have n4_ : Aside0 (w.heap.size ≤ gb139) := ⟨h4_⟩
        have n5_ : Aside0 (w.heap.size ≤ gb139) := ⟨h5_⟩
        have n6_ : Aside0 (gb127 ≠ gb139) := ⟨h6_⟩
        have n7_ : Aside0 (gb139 ≠ gb127) := ⟨h7_⟩
        have n8_ : Aside0 (gb128 ≠ gb139) := ⟨h8_⟩
        have n9_ : Aside0 (gb139 ≠ gb128) := ⟨h9_⟩
        have n10_ : Aside0 (gb140 ≠ gb139) := ⟨h10_⟩
        have n11_ : Aside0 (gb139 ≠ gb140) := ⟨h11_⟩
        have n12_ : Aside0 (w.heap.size ≤ gb140) := ⟨h12_⟩
        have n13_ : Aside0 (w.heap.size ≤ gb140) := ⟨h13_⟩
        have n14_ : Aside0 (gb127 ≠ gb140) := ⟨h14_⟩
        have n15_ : Aside0 (gb140 ≠ gb127) := ⟨h15_⟩
        have n16_ : Aside0 (gb128 ≠ gb140) := ⟨h16_⟩
        have n17_ : Aside0 (gb140 ≠ gb128) := ⟨h17_⟩
        have n18_ : Aside0 (Below w.heap.size w w27) := ⟨h18_⟩
        clear BK127
        clear BK128
        clear HB
        clear h0_ h1_ h2_ h3_ h4_ h5_ h6_ h7_ h8_ h9_ h10_ h11_ h12_ h13_ h14_ h15_ h16_ h17_ h18_
        have BK127 := n0_
        have BK128 := n1_
        have BK139 := n2_
        have BK140 := n3_
        have GW139 := n4_
        have GE139 := n5_
        have NB127_139 := n6_
        have NB139_127 := n7_
        have NB128_139 := n8_
        have NB139_128 := n9_
        have NB140_139 := n10_
        have NB139_140 := n11_
        have GW140 := n12_
        have GE140 := n13_
        have NB127_140 := n14_
        have NB140_127 := n15_
        have NB128_140 := n16_
        have NB140_128 := n17_
        have HB := n18_
        clear n0_ n1_ n2_ n3_ n4_ n5_ n6_ n7_ n8_ n9_ n10_ n11_ n12_ n13_ n14_ n15_ n16_ n17_ n18_
        have hHeld : w27.cell? ⟨gb128, 0, none⟩ = some (.int .i64 a0_0) ∧ w27.cell? ⟨gb128, 1, none⟩ = some (.int .i64 a0_1) := hS_
        refine norm_ (a' := ?_) ?_ ?_
        rotate_left
        ·simp only [putAll, Act.put, sA, sB, sC]
         rfl
        refine one_ (i := 15) (N := some 8) #[tT, tT, tT, tT, tT, tT, tT, tT, tT, tT, tT, tT, tT, tT, tT, tT, tT, tT, tF, tF, tF] rfl rfl (one_of HT_.out (by kernel_rfl)) (by decide) (fun K hK => ?_)
        refine box_step ?hg (N := 8) ?hd (cs := #[.int .i64 0, .int .i64 0, .bool false]) (t := 25) ?hr ?_; (case hd => rfl); (case hg => rfl); (case hr => first | (go_simp; done) | (go_simp; rfl))
        intro gb138 hg w28 hbox hb
        have n0_ := Aside0.mk (kB BK127.out hb)
        have n1_ := Aside0.mk (kB BK128.out hb)
        have n2_ := Aside0.mk (kB BK139.out hb)
        have n3_ := Aside0.mk (kB BK140.out hb)
        have n4_ := Aside0.mk (bT HB.out hb)
        have n5_ := Aside0.mk (hbox)
        have n6_ := Aside0.mk ((by rw [hg]; exact (below_size HB.out) : w.heap.size ≤ gb138))
        have n7_ := n6_
        have n8_ := Aside0.mk ((by rw [hg]; exact Nat.ne_of_lt (blk_lt BK127.out) : gb127 ≠ gb138))
        have n9_ := Aside0.mk n8_.out.symm
        have n10_ := Aside0.mk ((by rw [hg]; exact Nat.ne_of_lt (blk_lt BK128.out) : gb128 ≠ gb138))
        have n11_ := Aside0.mk n10_.out.symm
        have n12_ := Aside0.mk ((by rw [hg]; exact Nat.ne_of_lt (blk_lt BK139.out) : gb139 ≠ gb138))
        have n13_ := Aside0.mk n12_.out.symm
        have n14_ := Aside0.mk ((by rw [hg]; exact Nat.ne_of_lt (blk_lt BK140.out) : gb140 ≠ gb138))
        have n15_ := Aside0.mk n14_.out.symm
        clear BK127
        clear BK128
        clear BK139
        clear BK140
        clear HB
        have BK127 := n0_
        have BK128 := n1_
        have BK139 := n2_
        have BK140 := n3_
        have HB := n4_
        have BK138 := n5_
        have GW138 := n6_
        have GE138 := n7_
        have NB127_138 := n8_
        have NB138_127 := n9_
        have NB128_138 := n10_
        have NB138_128 := n11_
        have NB139_138 := n12_
        have NB138_139 := n13_
        have NB140_138 := n14_
        have NB138_140 := n15_
        clear n0_ n1_ n2_ n3_ n4_ n5_ n6_ n7_ n8_ n9_ n10_ n11_ n12_ n13_ n14_ n15_
        clear hb hbox hg
        refine hK.out _ _ ⟨(kC BK128.out 0).trans rfl, (kC BK128.out 1).trans rfl⟩ (fun hHeld => ?_)
        clear hK K
        refine norm_ (a' := ?_) ?_ ?_
        rotate_left
        ·show Act.put _ (some 8) _ = _
         simp only [Act.put, sA, sB, sC, i64_w, i32_w]
         rfl
        exact norm_ (by simp only [putAll, Act.put, sA, sB, sC] <;> rfl) (hJ3_9_14_15_16_17 (gb138, gb139, gb140) _ ⟨hHeld, BK127.out, BK128.out, BK138.out, BK139.out, BK140.out, GW138.out, GE138.out, NB127_138.out, NB138_127.out, NB128_138.out, NB138_128.out, NB139_138.out, NB138_139.out, NB140_138.out, NB138_140.out, GW139.out, GE139.out, NB127_139.out, NB139_127.out, NB128_139.out, NB139_128.out, NB140_139.out, NB139_140.out, GW140.out, GE140.out, NB127_140.out, NB140_127.out, NB128_140.out, NB140_128.out, HB.out⟩)
      intro hJ3_9_14_16_17
      refine join_ (σ := Nat × Nat × Nat) 4 #[tT, tT, tT, tT, tT, tT, tT, tT, tT, tT, tT, tT, tT, tT, tF, tT, tT, tT, tF, tF, tF] (fun s_ => [(19, .agg #[.int .i64 t129, .int .i64 t130, .bool t131]), (25, .agg #[.int .i64 t132, .int .i64 t133, .bool t134]), (8, .pointer (some ⟨s_.1, 0, none⟩)), (9, .pointer (some ⟨s_.2.1, 0, none⟩)), (10, .pointer (some ⟨s_.2.2, 0, none⟩))]) (fun s_ w' => (w'.cell? ⟨gb128, 0, none⟩ = some (.int .i64 a0_0) ∧ w'.cell? ⟨gb128, 1, none⟩ = some (.int .i64 a0_1)) ∧ (w'.heap[gb127]? = some (.cells #[.int .i64 a0_0, .int .i64 a0_1, .bool a0_2] 40 (0, 0))) ∧ (w'.heap[gb128]? = some (.cells #[.int .i64 a0_0, .int .i64 a0_1] 23 (0, 0))) ∧ (w'.heap[s_.1]? = some (.cells #[.int .i64 0, .int .i64 0, .bool false] 25 (0, 0))) ∧ (w'.heap[s_.2.1]? = some (.cells #[.int .i64 0, .int .i64 0, .bool false] 25 (0, 0))) ∧ (w'.heap[s_.2.2]? = some (.cells #[.int .i64 0, .int .i64 0, .bool false] 25 (0, 0))) ∧ (w.heap.size ≤ s_.1) ∧ (w.heap.size ≤ s_.1) ∧ (gb127 ≠ s_.1) ∧ (s_.1 ≠ gb127) ∧ (gb128 ≠ s_.1) ∧ (s_.1 ≠ gb128) ∧ (s_.2.1 ≠ s_.1) ∧ (s_.1 ≠ s_.2.1) ∧ (s_.2.2 ≠ s_.1) ∧ (s_.1 ≠ s_.2.2) ∧ (w.heap.size ≤ s_.2.1) ∧ (w.heap.size ≤ s_.2.1) ∧ (gb127 ≠ s_.2.1) ∧ (s_.2.1 ≠ gb127) ∧ (gb128 ≠ s_.2.1) ∧ (s_.2.1 ≠ gb128) ∧ (s_.2.2 ≠ s_.2.1) ∧ (s_.2.1 ≠ s_.2.2) ∧ (w.heap.size ≤ s_.2.2) ∧ (w.heap.size ≤ s_.2.2) ∧ (gb127 ≠ s_.2.2) ∧ (s_.2.2 ≠ gb127) ∧ (gb128 ≠ s_.2.2) ∧ (s_.2.2 ≠ gb128) ∧ (Below w.heap.size w w')) ?_ ?_
      ··skip
        rintro ⟨gb138, gb139, gb140⟩ w27 ⟨hS_, h0_, h1_, h2_, h3_, h4_, h5_, h6_, h7_, h8_, h9_, h10_, h11_, h12_, h13_, h14_, h15_, h16_, h17_, h18_, h19_, h20_, h21_, h22_, h23_, h24_, h25_, h26_, h27_, h28_, h29_⟩
        have n0_ : Aside0 (w27.heap[gb127]? = some (.cells #[.int .i64 a0_0, .int .i64 a0_1, .bool a0_2] 40 (0, 0))) := ⟨h0_⟩
        have n1_ : Aside0 (w27.heap[gb128]? = some (.cells #[.int .i64 a0_0, .int .i64 a0_1] 23 (0, 0))) := ⟨h1_⟩
        have n2_ : Aside0 (w27.heap[gb138]? = some (.cells #[.int .i64 0, .int .i64 0, .bool false] 25 (0, 0))) := ⟨h2_⟩
        have n3_ : Aside0 (w27.heap[gb139]? = some (.cells #[.int .i64 0, .int .i64 0, .bool false] 25 (0, 0))) := ⟨h3_⟩
        have n4_ : Aside0 (w27.heap[gb140]? = some (.cells #[.int .i64 0, .int .i64 0, .bool false] 25 (0, 0))) := ⟨h4_⟩
        have n5_ : Aside0 (w.heap.size ≤ gb138) := ⟨h5_⟩
        have n6_ : Aside0 (w.heap.size ≤ gb138) := ⟨h6_⟩
        have n7_ : Aside0 (gb127 ≠ gb138) := ⟨h7_⟩
        have n8_ : Aside0 (gb138 ≠ gb127) := ⟨h8_⟩
        have n9_ : Aside0 (gb128 ≠ gb138) := ⟨h9_⟩
        have n10_ : Aside0 (gb138 ≠ gb128) := ⟨h10_⟩
        have n11_ : Aside0 (gb139 ≠ gb138) := ⟨h11_⟩
        have n12_ : Aside0 (gb138 ≠ gb139) := ⟨h12_⟩
        have n13_ : Aside0 (gb140 ≠ gb138) := ⟨h13_⟩
        have n14_ : Aside0 (gb138 ≠ gb140) := ⟨h14_⟩
        have n15_ : Aside0 (w.heap.size ≤ gb139) := ⟨h15_⟩
        have n16_ : Aside0 (w.heap.size ≤ gb139) := ⟨h16_⟩
        have n17_ : Aside0 (gb127 ≠ gb139) := ⟨h17_⟩
        have n18_ : Aside0 (gb139 ≠ gb127) := ⟨h18_⟩
        have n19_ : Aside0 (gb128 ≠ gb139) := ⟨h19_⟩
        have n20_ : Aside0 (gb139 ≠ gb128) := ⟨h20_⟩
        have n21_ : Aside0 (gb140 ≠ gb139) := ⟨h21_⟩
        have n22_ : Aside0 (gb139 ≠ gb140) := ⟨h22_⟩
        have n23_ : Aside0 (w.heap.size ≤ gb140) := ⟨h23_⟩
        have n24_ : Aside0 (w.heap.size ≤ gb140) := ⟨h24_⟩
        have n25_ : Aside0 (gb127 ≠ gb140) := ⟨h25_⟩
        have n26_ : Aside0 (gb140 ≠ gb127) := ⟨h26_⟩
        have n27_ : Aside0 (gb128 ≠ gb140) := ⟨h27_⟩
        have n28_ : Aside0 (gb140 ≠ gb128) := ⟨h28_⟩
        have n29_ : Aside0 (Below w.heap.size w w27) := ⟨h29_⟩
        clear BK127
        clear BK128
        clear HB
        clear h0_ h1_ h2_ h3_ h4_ h5_ h6_ h7_ h8_ h9_ h10_ h11_ h12_ h13_ h14_ h15_ h16_ h17_ h18_ h19_ h20_ h21_ h22_ h23_ h24_ h25_ h26_ h27_ h28_ h29_
        have BK127 := n0_
        have BK128 := n1_
        have BK138 := n2_
        have BK139 := n3_
        have BK140 := n4_
        have GW138 := n5_
        have GE138 := n6_
        have NB127_138 := n7_
        have NB138_127 := n8_
        have NB128_138 := n9_
        have NB138_128 := n10_
        have NB139_138 := n11_
        have NB138_139 := n12_
        have NB140_138 := n13_
        have NB138_140 := n14_
        have GW139 := n15_
        have GE139 := n16_
        have NB127_139 := n17_
        have NB139_127 := n18_
        have NB128_139 := n19_
        have NB139_128 := n20_
        have NB140_139 := n21_
        have NB139_140 := n22_
        have GW140 := n23_
        have GE140 := n24_
        have NB127_140 := n25_
        have NB140_127 := n26_
        have NB128_140 := n27_
        have NB140_128 := n28_
        have HB := n29_
        clear n0_ n1_ n2_ n3_ n4_ n5_ n6_ n7_ n8_ n9_ n10_ n11_ n12_ n13_ n14_ n15_ n16_ n17_ n18_ n19_ n20_ n21_ n22_ n23_ n24_ n25_ n26_ n27_ n28_ n29_
        have hHeld : w27.cell? ⟨gb128, 0, none⟩ = some (.int .i64 a0_0) ∧ w27.cell? ⟨gb128, 1, none⟩ = some (.int .i64 a0_1) := hS_
        refine norm_ (a' := ?_) ?_ ?_
        rotate_left
        ·simp only [putAll, Act.put, sA, sB, sC]
         rfl
        refine one_ (i := 14) (N := some 30) #[tT, tT, tT, tT, tT, tT, tT, tT, tT, tT, tT, tT, tT, tT, tT, tT, tT, tT, tF, tF, tF] rfl rfl (one_of HT_.out (by kernel_rfl)) (by decide) (fun K hK => ?_)
        refine goes_ Try.func18 (by kernel_rfl) rfl #[.agg #[.int .i64 a0_0, .int .i64 a0_1], .bool (!a1), .bool a2] (by rfl) rfl rfl (by (try simp only [List.map_toArray, List.map_cons, List.map_nil]); first | done | rfl) ?_
        with_reducible refine (addr_Make.calls a0_0 a0_1 (!a1) a2 t135 t136 t137 _ A6.out).mono ?_
        rintro e w28 ⟨rfl, hb⟩
        refine ⟨_, rfl, ?_⟩
        have n0_ := Aside0.mk (kB BK127.out hb)
        have n1_ := Aside0.mk (kB BK128.out hb)
        have n2_ := Aside0.mk (kB BK138.out hb)
        have n3_ := Aside0.mk (kB BK139.out hb)
        have n4_ := Aside0.mk (kB BK140.out hb)
        have n5_ := Aside0.mk (bT HB.out hb)
        clear BK127
        clear BK128
        clear BK138
        clear BK139
        clear BK140
        clear HB
        have BK127 := n0_
        have BK128 := n1_
        have BK138 := n2_
        have BK139 := n3_
        have BK140 := n4_
        have HB := n5_
        clear n0_ n1_ n2_ n3_ n4_ n5_
        (try clear hb)
        refine hK.out _ _ ⟨(kC BK128.out 0).trans rfl, (kC BK128.out 1).trans rfl⟩ (fun hHeld => ?_)
        clear hK K
        refine norm_ (a' := ?_) ?_ ?_
        rotate_left
        ·show Act.put _ (some 30) _ = _
         simp only [Act.put, sA, sB, sC, i64_w, i32_w]
         rfl
        exact norm_ (by simp only [putAll, Act.put, sA, sB, sC] <;> rfl) (hJ3_9_14_15_16_17 (gb138, gb139, gb140) _ ⟨hHeld, BK127.out, BK128.out, BK138.out, BK139.out, BK140.out, GW138.out, GE138.out, NB127_138.out, NB138_127.out, NB128_138.out, NB138_128.out, NB139_138.out, NB138_139.out, NB140_138.out, NB138_140.out, GW139.out, GE139.out, NB127_139.out, NB139_127.out, NB128_139.out, NB139_128.out, NB140_139.out, NB139_140.out, GW140.out, GE140.out, NB127_140.out, NB140_127.out, NB128_140.out, NB140_128.out, HB.out⟩)
      intro hJ3_9_15_16_17
      refine join_ (σ := Nat) 5 #[tT, tT, tT, tT, tT, tT, tT, tT, tT, tT, tT, tT, tT, tT, tT, tT, tF, tF, tF, tF, tF] (fun s_ => [(19, .agg #[.int .i64 t129, .int .i64 t130, .bool t131]), (25, .agg #[.int .i64 t132, .int .i64 t133, .bool t134]), (30, .agg #[.int .i64 t135, .int .i64 t136, .bool t137]), (8, .pointer (some ⟨s_, 0, none⟩))]) (fun s_ w' => (w'.cell? ⟨gb128, 0, none⟩ = some (.int .i64 a0_0) ∧ w'.cell? ⟨gb128, 1, none⟩ = some (.int .i64 a0_1)) ∧ (w'.heap[gb127]? = some (.cells #[.int .i64 a0_0, .int .i64 a0_1, .bool a0_2] 40 (0, 0))) ∧ (w'.heap[gb128]? = some (.cells #[.int .i64 a0_0, .int .i64 a0_1] 23 (0, 0))) ∧ (w'.heap[s_]? = some (.cells #[.int .i64 0, .int .i64 0, .bool false] 25 (0, 0))) ∧ (w.heap.size ≤ s_) ∧ (w.heap.size ≤ s_) ∧ (gb127 ≠ s_) ∧ (s_ ≠ gb127) ∧ (gb128 ≠ s_) ∧ (s_ ≠ gb128) ∧ (Below w.heap.size w w')) ?_ ?_
      ··skip
        rintro gb138 w26 ⟨hS_, h0_, h1_, h2_, h3_, h4_, h5_, h6_, h7_, h8_, h9_⟩
        have n0_ : Aside0 (w26.heap[gb127]? = some (.cells #[.int .i64 a0_0, .int .i64 a0_1, .bool a0_2] 40 (0, 0))) := ⟨h0_⟩
        have n1_ : Aside0 (w26.heap[gb128]? = some (.cells #[.int .i64 a0_0, .int .i64 a0_1] 23 (0, 0))) := ⟨h1_⟩
        have n2_ : Aside0 (w26.heap[gb138]? = some (.cells #[.int .i64 0, .int .i64 0, .bool false] 25 (0, 0))) := ⟨h2_⟩
        have n3_ : Aside0 (w.heap.size ≤ gb138) := ⟨h3_⟩
        have n4_ : Aside0 (w.heap.size ≤ gb138) := ⟨h4_⟩
        have n5_ : Aside0 (gb127 ≠ gb138) := ⟨h5_⟩
        have n6_ : Aside0 (gb138 ≠ gb127) := ⟨h6_⟩
        have n7_ : Aside0 (gb128 ≠ gb138) := ⟨h7_⟩
        have n8_ : Aside0 (gb138 ≠ gb128) := ⟨h8_⟩
        have n9_ : Aside0 (Below w.heap.size w w26) := ⟨h9_⟩
        clear BK127
        clear BK128
        clear HB
        clear h0_ h1_ h2_ h3_ h4_ h5_ h6_ h7_ h8_ h9_
        have BK127 := n0_
        have BK128 := n1_
        have BK138 := n2_
        have GW138 := n3_
        have GE138 := n4_
        have NB127_138 := n5_
        have NB138_127 := n6_
        have NB128_138 := n7_
        have NB138_128 := n8_
        have HB := n9_
        clear n0_ n1_ n2_ n3_ n4_ n5_ n6_ n7_ n8_ n9_
        have hHeld : w26.cell? ⟨gb128, 0, none⟩ = some (.int .i64 a0_0) ∧ w26.cell? ⟨gb128, 1, none⟩ = some (.int .i64 a0_1) := hS_
        refine norm_ (a' := ?_) ?_ ?_
        rotate_left
        ·simp only [putAll, Act.put, sA, sB, sC]
         rfl
        refine two_ (i := 16) (j := 17) (Ni := some 9) (Nj := some 10) #[tT, tT, tT, tT, tT, tT, tT, tT, tT, tT, tT, tT, tT, tT, tT, tT, tT, tF, tF, tF, tF] #[tT, tT, tT, tT, tT, tT, tT, tT, tT, tT, tT, tT, tT, tT, tT, tT, tF, tT, tF, tF, tF] rfl rfl rfl rfl (two_of HT_.out (by kernel_rfl)) (by decide) (by decide) (fun K hK => ?_) (fun K hK => ?_)
        ·skip
         refine box_step ?hg (N := 9) ?hd (cs := #[.int .i64 0, .int .i64 0, .bool false]) (t := 25) ?hr ?_; (case hd => rfl); (case hg => rfl); (case hr => first | (go_simp; done) | (go_simp; rfl))
         intro gb139 hg w27 hbox hb
         have n0_ := Aside0.mk (kB BK127.out hb)
         have n1_ := Aside0.mk (kB BK128.out hb)
         have n2_ := Aside0.mk (kB BK138.out hb)
         have n3_ := Aside0.mk (bT HB.out hb)
         have n4_ := Aside0.mk (hbox)
         have n5_ := Aside0.mk ((by rw [hg]; exact (below_size HB.out) : w.heap.size ≤ gb139))
         have n6_ := n5_
         have n7_ := Aside0.mk ((by rw [hg]; exact Nat.ne_of_lt (blk_lt BK127.out) : gb127 ≠ gb139))
         have n8_ := Aside0.mk n7_.out.symm
         have n9_ := Aside0.mk ((by rw [hg]; exact Nat.ne_of_lt (blk_lt BK128.out) : gb128 ≠ gb139))
         have n10_ := Aside0.mk n9_.out.symm
         have n11_ := Aside0.mk ((by rw [hg]; exact Nat.ne_of_lt (blk_lt BK138.out) : gb138 ≠ gb139))
         have n12_ := Aside0.mk n11_.out.symm
         clear BK127
         clear BK128
         clear BK138
         clear HB
         have BK127 := n0_
         have BK128 := n1_
         have BK138 := n2_
         have HB := n3_
         have BK139 := n4_
         have GW139 := n5_
         have GE139 := n6_
         have NB127_139 := n7_
         have NB139_127 := n8_
         have NB128_139 := n9_
         have NB139_128 := n10_
         have NB138_139 := n11_
         have NB139_138 := n12_
         clear n0_ n1_ n2_ n3_ n4_ n5_ n6_ n7_ n8_ n9_ n10_ n11_ n12_
         clear hb hbox hg
         refine hK.out _ _ ⟨(kC BK128.out 0).trans rfl, (kC BK128.out 1).trans rfl⟩ (fun hHeld => ?_)
         clear hK K
         refine norm_ (a' := ?_) ?_ ?_
         rotate_left
         ·show Act.put _ (some 9) _ = _
          simp only [Act.put, sA, sB, sC, i64_w, i32_w]
          rfl
         exact norm_ (by simp only [putAll, Act.put, sA, sB, sC] <;> rfl) (hJ3_9_14_15_16 (gb138, gb139) _ ⟨hHeld, BK127.out, BK128.out, BK138.out, BK139.out, GW138.out, GE138.out, NB127_138.out, NB138_127.out, NB128_138.out, NB138_128.out, NB139_138.out, NB138_139.out, GW139.out, GE139.out, NB127_139.out, NB139_127.out, NB128_139.out, NB139_128.out, HB.out⟩)
        ·skip
         refine box_step ?hg (N := 10) ?hd (cs := #[.int .i64 0, .int .i64 0, .bool false]) (t := 25) ?hr ?_; (case hd => rfl); (case hg => rfl); (case hr => first | (go_simp; done) | (go_simp; rfl))
         intro gb140 hg w27 hbox hb
         have n0_ := Aside0.mk (kB BK127.out hb)
         have n1_ := Aside0.mk (kB BK128.out hb)
         have n2_ := Aside0.mk (kB BK138.out hb)
         have n3_ := Aside0.mk (bT HB.out hb)
         have n4_ := Aside0.mk (hbox)
         have n5_ := Aside0.mk ((by rw [hg]; exact (below_size HB.out) : w.heap.size ≤ gb140))
         have n6_ := n5_
         have n7_ := Aside0.mk ((by rw [hg]; exact Nat.ne_of_lt (blk_lt BK127.out) : gb127 ≠ gb140))
         have n8_ := Aside0.mk n7_.out.symm
         have n9_ := Aside0.mk ((by rw [hg]; exact Nat.ne_of_lt (blk_lt BK128.out) : gb128 ≠ gb140))
         have n10_ := Aside0.mk n9_.out.symm
         have n11_ := Aside0.mk ((by rw [hg]; exact Nat.ne_of_lt (blk_lt BK138.out) : gb138 ≠ gb140))
         have n12_ := Aside0.mk n11_.out.symm
         clear BK127
         clear BK128
         clear BK138
         clear HB
         have BK127 := n0_
         have BK128 := n1_
         have BK138 := n2_
         have HB := n3_
         have BK140 := n4_
         have GW140 := n5_
         have GE140 := n6_
         have NB127_140 := n7_
         have NB140_127 := n8_
         have NB128_140 := n9_
         have NB140_128 := n10_
         have NB138_140 := n11_
         have NB140_138 := n12_
         clear n0_ n1_ n2_ n3_ n4_ n5_ n6_ n7_ n8_ n9_ n10_ n11_ n12_
         clear hb hbox hg
         refine hK.out _ _ ⟨(kC BK128.out 0).trans rfl, (kC BK128.out 1).trans rfl⟩ (fun hHeld => ?_)
         clear hK K
         refine norm_ (a' := ?_) ?_ ?_
         rotate_left
         ·show Act.put _ (some 10) _ = _
          simp only [Act.put, sA, sB, sC, i64_w, i32_w]
          rfl
         exact norm_ (by simp only [putAll, Act.put, sA, sB, sC] <;> rfl) (hJ3_9_14_15_17 (gb138, gb140) _ ⟨hHeld, BK127.out, BK128.out, BK138.out, BK140.out, GW138.out, GE138.out, NB127_138.out, NB138_127.out, NB128_138.out, NB138_128.out, NB140_138.out, NB138_140.out, GW140.out, GE140.out, NB127_140.out, NB140_127.out, NB128_140.out, NB140_128.out, HB.out⟩)
      intro hJ3_9_14_15
      refine join_ (σ := Nat) 5 #[tT, tT, tT, tT, tT, tT, tT, tT, tT, tT, tT, tT, tT, tT, tT, tF, tT, tF, tF, tF, tF] (fun s_ => [(19, .agg #[.int .i64 t129, .int .i64 t130, .bool t131]), (25, .agg #[.int .i64 t132, .int .i64 t133, .bool t134]), (30, .agg #[.int .i64 t135, .int .i64 t136, .bool t137]), (9, .pointer (some ⟨s_, 0, none⟩))]) (fun s_ w' => (w'.cell? ⟨gb128, 0, none⟩ = some (.int .i64 a0_0) ∧ w'.cell? ⟨gb128, 1, none⟩ = some (.int .i64 a0_1)) ∧ (w'.heap[gb127]? = some (.cells #[.int .i64 a0_0, .int .i64 a0_1, .bool a0_2] 40 (0, 0))) ∧ (w'.heap[gb128]? = some (.cells #[.int .i64 a0_0, .int .i64 a0_1] 23 (0, 0))) ∧ (w'.heap[s_]? = some (.cells #[.int .i64 0, .int .i64 0, .bool false] 25 (0, 0))) ∧ (w.heap.size ≤ s_) ∧ (w.heap.size ≤ s_) ∧ (gb127 ≠ s_) ∧ (s_ ≠ gb127) ∧ (gb128 ≠ s_) ∧ (s_ ≠ gb128) ∧ (Below w.heap.size w w')) ?_ ?_
      ··skip
        rintro gb139 w26 ⟨hS_, h0_, h1_, h2_, h3_, h4_, h5_, h6_, h7_, h8_, h9_⟩
        have n0_ : Aside0 (w26.heap[gb127]? = some (.cells #[.int .i64 a0_0, .int .i64 a0_1, .bool a0_2] 40 (0, 0))) := ⟨h0_⟩
        have n1_ : Aside0 (w26.heap[gb128]? = some (.cells #[.int .i64 a0_0, .int .i64 a0_1] 23 (0, 0))) := ⟨h1_⟩
        have n2_ : Aside0 (w26.heap[gb139]? = some (.cells #[.int .i64 0, .int .i64 0, .bool false] 25 (0, 0))) := ⟨h2_⟩
        have n3_ : Aside0 (w.heap.size ≤ gb139) := ⟨h3_⟩
        have n4_ : Aside0 (w.heap.size ≤ gb139) := ⟨h4_⟩
        have n5_ : Aside0 (gb127 ≠ gb139) := ⟨h5_⟩
        have n6_ : Aside0 (gb139 ≠ gb127) := ⟨h6_⟩
        have n7_ : Aside0 (gb128 ≠ gb139) := ⟨h7_⟩
        have n8_ : Aside0 (gb139 ≠ gb128) := ⟨h8_⟩
        have n9_ : Aside0 (Below w.heap.size w w26) := ⟨h9_⟩
        clear BK127
        clear BK128
        clear HB
        clear h0_ h1_ h2_ h3_ h4_ h5_ h6_ h7_ h8_ h9_
        have BK127 := n0_
        have BK128 := n1_
        have BK139 := n2_
        have GW139 := n3_
        have GE139 := n4_
        have NB127_139 := n5_
        have NB139_127 := n6_
        have NB128_139 := n7_
        have NB139_128 := n8_
        have HB := n9_
        clear n0_ n1_ n2_ n3_ n4_ n5_ n6_ n7_ n8_ n9_
        have hHeld : w26.cell? ⟨gb128, 0, none⟩ = some (.int .i64 a0_0) ∧ w26.cell? ⟨gb128, 1, none⟩ = some (.int .i64 a0_1) := hS_
        refine norm_ (a' := ?_) ?_ ?_
        rotate_left
        ·simp only [putAll, Act.put, sA, sB, sC]
         rfl
        refine two_ (i := 15) (j := 17) (Ni := some 8) (Nj := some 10) #[tT, tT, tT, tT, tT, tT, tT, tT, tT, tT, tT, tT, tT, tT, tT, tT, tT, tF, tF, tF, tF] #[tT, tT, tT, tT, tT, tT, tT, tT, tT, tT, tT, tT, tT, tT, tT, tF, tT, tT, tF, tF, tF] rfl rfl rfl rfl (two_of HT_.out (by kernel_rfl)) (by decide) (by decide) (fun K hK => ?_) (fun K hK => ?_)
        ·skip
         refine box_step ?hg (N := 8) ?hd (cs := #[.int .i64 0, .int .i64 0, .bool false]) (t := 25) ?hr ?_; (case hd => rfl); (case hg => rfl); (case hr => first | (go_simp; done) | (go_simp; rfl))
         intro gb138 hg w27 hbox hb
         have n0_ := Aside0.mk (kB BK127.out hb)
         have n1_ := Aside0.mk (kB BK128.out hb)
         have n2_ := Aside0.mk (kB BK139.out hb)
         have n3_ := Aside0.mk (bT HB.out hb)
         have n4_ := Aside0.mk (hbox)
         have n5_ := Aside0.mk ((by rw [hg]; exact (below_size HB.out) : w.heap.size ≤ gb138))
         have n6_ := n5_
         have n7_ := Aside0.mk ((by rw [hg]; exact Nat.ne_of_lt (blk_lt BK127.out) : gb127 ≠ gb138))
         have n8_ := Aside0.mk n7_.out.symm
         have n9_ := Aside0.mk ((by rw [hg]; exact Nat.ne_of_lt (blk_lt BK128.out) : gb128 ≠ gb138))
         have n10_ := Aside0.mk n9_.out.symm
         have n11_ := Aside0.mk ((by rw [hg]; exact Nat.ne_of_lt (blk_lt BK139.out) : gb139 ≠ gb138))
         have n12_ := Aside0.mk n11_.out.symm
         clear BK127
         clear BK128
         clear BK139
         clear HB
         have BK127 := n0_
         have BK128 := n1_
         have BK139 := n2_
         have HB := n3_
         have BK138 := n4_
         have GW138 := n5_
         have GE138 := n6_
         have NB127_138 := n7_
         have NB138_127 := n8_
         have NB128_138 := n9_
         have NB138_128 := n10_
         have NB139_138 := n11_
         have NB138_139 := n12_
         clear n0_ n1_ n2_ n3_ n4_ n5_ n6_ n7_ n8_ n9_ n10_ n11_ n12_
         clear hb hbox hg
         refine hK.out _ _ ⟨(kC BK128.out 0).trans rfl, (kC BK128.out 1).trans rfl⟩ (fun hHeld => ?_)
         clear hK K
         refine norm_ (a' := ?_) ?_ ?_
         rotate_left
         ·show Act.put _ (some 8) _ = _
          simp only [Act.put, sA, sB, sC, i64_w, i32_w]
          rfl
         exact norm_ (by simp only [putAll, Act.put, sA, sB, sC] <;> rfl) (hJ3_9_14_15_16 (gb138, gb139) _ ⟨hHeld, BK127.out, BK128.out, BK138.out, BK139.out, GW138.out, GE138.out, NB127_138.out, NB138_127.out, NB128_138.out, NB138_128.out, NB139_138.out, NB138_139.out, GW139.out, GE139.out, NB127_139.out, NB139_127.out, NB128_139.out, NB139_128.out, HB.out⟩)
        ·skip
         refine box_step ?hg (N := 10) ?hd (cs := #[.int .i64 0, .int .i64 0, .bool false]) (t := 25) ?hr ?_; (case hd => rfl); (case hg => rfl); (case hr => first | (go_simp; done) | (go_simp; rfl))
         intro gb140 hg w27 hbox hb
         have n0_ := Aside0.mk (kB BK127.out hb)
         have n1_ := Aside0.mk (kB BK128.out hb)
         have n2_ := Aside0.mk (kB BK139.out hb)
         have n3_ := Aside0.mk (bT HB.out hb)
         have n4_ := Aside0.mk (hbox)
         have n5_ := Aside0.mk ((by rw [hg]; exact (below_size HB.out) : w.heap.size ≤ gb140))
         have n6_ := n5_
         have n7_ := Aside0.mk ((by rw [hg]; exact Nat.ne_of_lt (blk_lt BK127.out) : gb127 ≠ gb140))
         have n8_ := Aside0.mk n7_.out.symm
         have n9_ := Aside0.mk ((by rw [hg]; exact Nat.ne_of_lt (blk_lt BK128.out) : gb128 ≠ gb140))
         have n10_ := Aside0.mk n9_.out.symm
         have n11_ := Aside0.mk ((by rw [hg]; exact Nat.ne_of_lt (blk_lt BK139.out) : gb139 ≠ gb140))
         have n12_ := Aside0.mk n11_.out.symm
         clear BK127
         clear BK128
         clear BK139
         clear HB
         have BK127 := n0_
         have BK128 := n1_
         have BK139 := n2_
         have HB := n3_
         have BK140 := n4_
         have GW140 := n5_
         have GE140 := n6_
         have NB127_140 := n7_
         have NB140_127 := n8_
         have NB128_140 := n9_
         have NB140_128 := n10_
         have NB139_140 := n11_
         have NB140_139 := n12_
         clear n0_ n1_ n2_ n3_ n4_ n5_ n6_ n7_ n8_ n9_ n10_ n11_ n12_
         clear hb hbox hg
         refine hK.out _ _ ⟨(kC BK128.out 0).trans rfl, (kC BK128.out 1).trans rfl⟩ (fun hHeld => ?_)
         clear hK K
         refine norm_ (a' := ?_) ?_ ?_
         rotate_left
         ·show Act.put _ (some 10) _ = _
          simp only [Act.put, sA, sB, sC, i64_w, i32_w]
          rfl
         exact norm_ (by simp only [putAll, Act.put, sA, sB, sC] <;> rfl) (hJ3_9_14_16_17 (gb139, gb140) _ ⟨hHeld, BK127.out, BK128.out, BK139.out, BK140.out, GW139.out, GE139.out, NB127_139.out, NB139_127.out, NB128_139.out, NB139_128.out, NB140_139.out, NB139_140.out, GW140.out, GE140.out, NB127_140.out, NB140_127.out, NB128_140.out, NB140_128.out, HB.out⟩)
      intro hJ3_9_14_16
      refine join_ (σ := Nat) 5 #[tT, tT, tT, tT, tT, tT, tT, tT, tT, tT, tT, tT, tT, tT, tT, tF, tF, tT, tF, tF, tF] (fun s_ => [(19, .agg #[.int .i64 t129, .int .i64 t130, .bool t131]), (25, .agg #[.int .i64 t132, .int .i64 t133, .bool t134]), (30, .agg #[.int .i64 t135, .int .i64 t136, .bool t137]), (10, .pointer (some ⟨s_, 0, none⟩))]) (fun s_ w' => (w'.cell? ⟨gb128, 0, none⟩ = some (.int .i64 a0_0) ∧ w'.cell? ⟨gb128, 1, none⟩ = some (.int .i64 a0_1)) ∧ (w'.heap[gb127]? = some (.cells #[.int .i64 a0_0, .int .i64 a0_1, .bool a0_2] 40 (0, 0))) ∧ (w'.heap[gb128]? = some (.cells #[.int .i64 a0_0, .int .i64 a0_1] 23 (0, 0))) ∧ (w'.heap[s_]? = some (.cells #[.int .i64 0, .int .i64 0, .bool false] 25 (0, 0))) ∧ (w.heap.size ≤ s_) ∧ (w.heap.size ≤ s_) ∧ (gb127 ≠ s_) ∧ (s_ ≠ gb127) ∧ (gb128 ≠ s_) ∧ (s_ ≠ gb128) ∧ (Below w.heap.size w w')) ?_ ?_
      ··skip
        rintro gb140 w26 ⟨hS_, h0_, h1_, h2_, h3_, h4_, h5_, h6_, h7_, h8_, h9_⟩
        have n0_ : Aside0 (w26.heap[gb127]? = some (.cells #[.int .i64 a0_0, .int .i64 a0_1, .bool a0_2] 40 (0, 0))) := ⟨h0_⟩
        have n1_ : Aside0 (w26.heap[gb128]? = some (.cells #[.int .i64 a0_0, .int .i64 a0_1] 23 (0, 0))) := ⟨h1_⟩
        have n2_ : Aside0 (w26.heap[gb140]? = some (.cells #[.int .i64 0, .int .i64 0, .bool false] 25 (0, 0))) := ⟨h2_⟩
        have n3_ : Aside0 (w.heap.size ≤ gb140) := ⟨h3_⟩
        have n4_ : Aside0 (w.heap.size ≤ gb140) := ⟨h4_⟩
        have n5_ : Aside0 (gb127 ≠ gb140) := ⟨h5_⟩
        have n6_ : Aside0 (gb140 ≠ gb127) := ⟨h6_⟩
        have n7_ : Aside0 (gb128 ≠ gb140) := ⟨h7_⟩
        have n8_ : Aside0 (gb140 ≠ gb128) := ⟨h8_⟩
        have n9_ : Aside0 (Below w.heap.size w w26) := ⟨h9_⟩
        clear BK127
        clear BK128
        clear HB
        clear h0_ h1_ h2_ h3_ h4_ h5_ h6_ h7_ h8_ h9_
        have BK127 := n0_
        have BK128 := n1_
        have BK140 := n2_
        have GW140 := n3_
        have GE140 := n4_
        have NB127_140 := n5_
        have NB140_127 := n6_
        have NB128_140 := n7_
        have NB140_128 := n8_
        have HB := n9_
        clear n0_ n1_ n2_ n3_ n4_ n5_ n6_ n7_ n8_ n9_
        have hHeld : w26.cell? ⟨gb128, 0, none⟩ = some (.int .i64 a0_0) ∧ w26.cell? ⟨gb128, 1, none⟩ = some (.int .i64 a0_1) := hS_
        refine norm_ (a' := ?_) ?_ ?_
        rotate_left
        ·simp only [putAll, Act.put, sA, sB, sC]
         rfl
        refine two_ (i := 15) (j := 16) (Ni := some 8) (Nj := some 9) #[tT, tT, tT, tT, tT, tT, tT, tT, tT, tT, tT, tT, tT, tT, tT, tT, tF, tT, tF, tF, tF] #[tT, tT, tT, tT, tT, tT, tT, tT, tT, tT, tT, tT, tT, tT, tT, tF, tT, tT, tF, tF, tF] rfl rfl rfl rfl (two_of HT_.out (by kernel_rfl)) (by decide) (by decide) (fun K hK => ?_) (fun K hK => ?_)
        ·skip
         refine box_step ?hg (N := 8) ?hd (cs := #[.int .i64 0, .int .i64 0, .bool false]) (t := 25) ?hr ?_; (case hd => rfl); (case hg => rfl); (case hr => first | (go_simp; done) | (go_simp; rfl))
         intro gb138 hg w27 hbox hb
         have n0_ := Aside0.mk (kB BK127.out hb)
         have n1_ := Aside0.mk (kB BK128.out hb)
         have n2_ := Aside0.mk (kB BK140.out hb)
         have n3_ := Aside0.mk (bT HB.out hb)
         have n4_ := Aside0.mk (hbox)
         have n5_ := Aside0.mk ((by rw [hg]; exact (below_size HB.out) : w.heap.size ≤ gb138))
         have n6_ := n5_
         have n7_ := Aside0.mk ((by rw [hg]; exact Nat.ne_of_lt (blk_lt BK127.out) : gb127 ≠ gb138))
         have n8_ := Aside0.mk n7_.out.symm
         have n9_ := Aside0.mk ((by rw [hg]; exact Nat.ne_of_lt (blk_lt BK128.out) : gb128 ≠ gb138))
         have n10_ := Aside0.mk n9_.out.symm
         have n11_ := Aside0.mk ((by rw [hg]; exact Nat.ne_of_lt (blk_lt BK140.out) : gb140 ≠ gb138))
         have n12_ := Aside0.mk n11_.out.symm
         clear BK127
         clear BK128
         clear BK140
         clear HB
         have BK127 := n0_
         have BK128 := n1_
         have BK140 := n2_
         have HB := n3_
         have BK138 := n4_
         have GW138 := n5_
         have GE138 := n6_
         have NB127_138 := n7_
         have NB138_127 := n8_
         have NB128_138 := n9_
         have NB138_128 := n10_
         have NB140_138 := n11_
         have NB138_140 := n12_
         clear n0_ n1_ n2_ n3_ n4_ n5_ n6_ n7_ n8_ n9_ n10_ n11_ n12_
         clear hb hbox hg
         refine hK.out _ _ ⟨(kC BK128.out 0).trans rfl, (kC BK128.out 1).trans rfl⟩ (fun hHeld => ?_)
         clear hK K
         refine norm_ (a' := ?_) ?_ ?_
         rotate_left
         ·show Act.put _ (some 8) _ = _
          simp only [Act.put, sA, sB, sC, i64_w, i32_w]
          rfl
         exact norm_ (by simp only [putAll, Act.put, sA, sB, sC] <;> rfl) (hJ3_9_14_15_17 (gb138, gb140) _ ⟨hHeld, BK127.out, BK128.out, BK138.out, BK140.out, GW138.out, GE138.out, NB127_138.out, NB138_127.out, NB128_138.out, NB138_128.out, NB140_138.out, NB138_140.out, GW140.out, GE140.out, NB127_140.out, NB140_127.out, NB128_140.out, NB140_128.out, HB.out⟩)
        ·skip
         refine box_step ?hg (N := 9) ?hd (cs := #[.int .i64 0, .int .i64 0, .bool false]) (t := 25) ?hr ?_; (case hd => rfl); (case hg => rfl); (case hr => first | (go_simp; done) | (go_simp; rfl))
         intro gb139 hg w27 hbox hb
         have n0_ := Aside0.mk (kB BK127.out hb)
         have n1_ := Aside0.mk (kB BK128.out hb)
         have n2_ := Aside0.mk (kB BK140.out hb)
         have n3_ := Aside0.mk (bT HB.out hb)
         have n4_ := Aside0.mk (hbox)
         have n5_ := Aside0.mk ((by rw [hg]; exact (below_size HB.out) : w.heap.size ≤ gb139))
         have n6_ := n5_
         have n7_ := Aside0.mk ((by rw [hg]; exact Nat.ne_of_lt (blk_lt BK127.out) : gb127 ≠ gb139))
         have n8_ := Aside0.mk n7_.out.symm
         have n9_ := Aside0.mk ((by rw [hg]; exact Nat.ne_of_lt (blk_lt BK128.out) : gb128 ≠ gb139))
         have n10_ := Aside0.mk n9_.out.symm
         have n11_ := Aside0.mk ((by rw [hg]; exact Nat.ne_of_lt (blk_lt BK140.out) : gb140 ≠ gb139))
         have n12_ := Aside0.mk n11_.out.symm
         clear BK127
         clear BK128
         clear BK140
         clear HB
         have BK127 := n0_
         have BK128 := n1_
         have BK140 := n2_
         have HB := n3_
         have BK139 := n4_
         have GW139 := n5_
         have GE139 := n6_
         have NB127_139 := n7_
         have NB139_127 := n8_
         have NB128_139 := n9_
         have NB139_128 := n10_
         have NB140_139 := n11_
         have NB139_140 := n12_
         clear n0_ n1_ n2_ n3_ n4_ n5_ n6_ n7_ n8_ n9_ n10_ n11_ n12_
         clear hb hbox hg
         refine hK.out _ _ ⟨(kC BK128.out 0).trans rfl, (kC BK128.out 1).trans rfl⟩ (fun hHeld => ?_)
         clear hK K
         refine norm_ (a' := ?_) ?_ ?_
         rotate_left
         ·show Act.put _ (some 9) _ = _
          simp only [Act.put, sA, sB, sC, i64_w, i32_w]
          rfl
         exact norm_ (by simp only [putAll, Act.put, sA, sB, sC] <;> rfl) (hJ3_9_14_16_17 (gb139, gb140) _ ⟨hHeld, BK127.out, BK128.out, BK139.out, BK140.out, GW139.out, GE139.out, NB127_139.out, NB139_127.out, NB128_139.out, NB139_128.out, NB140_139.out, NB139_140.out, GW140.out, GE140.out, NB127_140.out, NB140_127.out, NB128_140.out, NB140_128.out, HB.out⟩)
      intro hJ3_9_14_17
      refine join_ (σ := Nat × Nat) 5 #[tT, tT, tT, tT, tT, tT, tT, tT, tT, tT, tT, tT, tT, tT, tF, tT, tT, tF, tF, tF, tF] (fun s_ => [(19, .agg #[.int .i64 t129, .int .i64 t130, .bool t131]), (25, .agg #[.int .i64 t132, .int .i64 t133, .bool t134]), (8, .pointer (some ⟨s_.1, 0, none⟩)), (9, .pointer (some ⟨s_.2, 0, none⟩))]) (fun s_ w' => (w'.cell? ⟨gb128, 0, none⟩ = some (.int .i64 a0_0) ∧ w'.cell? ⟨gb128, 1, none⟩ = some (.int .i64 a0_1)) ∧ (w'.heap[gb127]? = some (.cells #[.int .i64 a0_0, .int .i64 a0_1, .bool a0_2] 40 (0, 0))) ∧ (w'.heap[gb128]? = some (.cells #[.int .i64 a0_0, .int .i64 a0_1] 23 (0, 0))) ∧ (w'.heap[s_.1]? = some (.cells #[.int .i64 0, .int .i64 0, .bool false] 25 (0, 0))) ∧ (w'.heap[s_.2]? = some (.cells #[.int .i64 0, .int .i64 0, .bool false] 25 (0, 0))) ∧ (w.heap.size ≤ s_.1) ∧ (w.heap.size ≤ s_.1) ∧ (gb127 ≠ s_.1) ∧ (s_.1 ≠ gb127) ∧ (gb128 ≠ s_.1) ∧ (s_.1 ≠ gb128) ∧ (s_.2 ≠ s_.1) ∧ (s_.1 ≠ s_.2) ∧ (w.heap.size ≤ s_.2) ∧ (w.heap.size ≤ s_.2) ∧ (gb127 ≠ s_.2) ∧ (s_.2 ≠ gb127) ∧ (gb128 ≠ s_.2) ∧ (s_.2 ≠ gb128) ∧ (Below w.heap.size w w')) ?_ ?_
      ··skip
        rintro ⟨gb138, gb139⟩ w26 ⟨hS_, h0_, h1_, h2_, h3_, h4_, h5_, h6_, h7_, h8_, h9_, h10_, h11_, h12_, h13_, h14_, h15_, h16_, h17_, h18_⟩
        have n0_ : Aside0 (w26.heap[gb127]? = some (.cells #[.int .i64 a0_0, .int .i64 a0_1, .bool a0_2] 40 (0, 0))) := ⟨h0_⟩
        have n1_ : Aside0 (w26.heap[gb128]? = some (.cells #[.int .i64 a0_0, .int .i64 a0_1] 23 (0, 0))) := ⟨h1_⟩
        have n2_ : Aside0 (w26.heap[gb138]? = some (.cells #[.int .i64 0, .int .i64 0, .bool false] 25 (0, 0))) := ⟨h2_⟩
        have n3_ : Aside0 (w26.heap[gb139]? = some (.cells #[.int .i64 0, .int .i64 0, .bool false] 25 (0, 0))) := ⟨h3_⟩
        have n4_ : Aside0 (w.heap.size ≤ gb138) := ⟨h4_⟩
        have n5_ : Aside0 (w.heap.size ≤ gb138) := ⟨h5_⟩
        have n6_ : Aside0 (gb127 ≠ gb138) := ⟨h6_⟩
        have n7_ : Aside0 (gb138 ≠ gb127) := ⟨h7_⟩
        have n8_ : Aside0 (gb128 ≠ gb138) := ⟨h8_⟩
        have n9_ : Aside0 (gb138 ≠ gb128) := ⟨h9_⟩
        have n10_ : Aside0 (gb139 ≠ gb138) := ⟨h10_⟩
        have n11_ : Aside0 (gb138 ≠ gb139) := ⟨h11_⟩
        have n12_ : Aside0 (w.heap.size ≤ gb139) := ⟨h12_⟩
        have n13_ : Aside0 (w.heap.size ≤ gb139) := ⟨h13_⟩
        have n14_ : Aside0 (gb127 ≠ gb139) := ⟨h14_⟩
        have n15_ : Aside0 (gb139 ≠ gb127) := ⟨h15_⟩
        have n16_ : Aside0 (gb128 ≠ gb139) := ⟨h16_⟩
        have n17_ : Aside0 (gb139 ≠ gb128) := ⟨h17_⟩
        have n18_ : Aside0 (Below w.heap.size w w26) := ⟨h18_⟩
        clear BK127
        clear BK128
        clear HB
        clear h0_ h1_ h2_ h3_ h4_ h5_ h6_ h7_ h8_ h9_ h10_ h11_ h12_ h13_ h14_ h15_ h16_ h17_ h18_
        have BK127 := n0_
        have BK128 := n1_
        have BK138 := n2_
        have BK139 := n3_
        have GW138 := n4_
        have GE138 := n5_
        have NB127_138 := n6_
        have NB138_127 := n7_
        have NB128_138 := n8_
        have NB138_128 := n9_
        have NB139_138 := n10_
        have NB138_139 := n11_
        have GW139 := n12_
        have GE139 := n13_
        have NB127_139 := n14_
        have NB139_127 := n15_
        have NB128_139 := n16_
        have NB139_128 := n17_
        have HB := n18_
        clear n0_ n1_ n2_ n3_ n4_ n5_ n6_ n7_ n8_ n9_ n10_ n11_ n12_ n13_ n14_ n15_ n16_ n17_ n18_
        have hHeld : w26.cell? ⟨gb128, 0, none⟩ = some (.int .i64 a0_0) ∧ w26.cell? ⟨gb128, 1, none⟩ = some (.int .i64 a0_1) := hS_
        refine norm_ (a' := ?_) ?_ ?_
        rotate_left
        ·simp only [putAll, Act.put, sA, sB, sC]
         rfl
        refine two_ (i := 14) (j := 17) (Ni := some 30) (Nj := some 10) #[tT, tT, tT, tT, tT, tT, tT, tT, tT, tT, tT, tT, tT, tT, tT, tT, tT, tF, tF, tF, tF] #[tT, tT, tT, tT, tT, tT, tT, tT, tT, tT, tT, tT, tT, tT, tF, tT, tT, tT, tF, tF, tF] rfl rfl rfl rfl (two_of HT_.out (by kernel_rfl)) (by decide) (by decide) (fun K hK => ?_) (fun K hK => ?_)
        ·skip
         refine goes_ Try.func18 (by kernel_rfl) rfl #[.agg #[.int .i64 a0_0, .int .i64 a0_1], .bool (!a1), .bool a2] (by rfl) rfl rfl (by (try simp only [List.map_toArray, List.map_cons, List.map_nil]); first | done | rfl) ?_
         with_reducible refine (addr_Make.calls a0_0 a0_1 (!a1) a2 t135 t136 t137 _ A6.out).mono ?_
         rintro e w27 ⟨rfl, hb⟩
         refine ⟨_, rfl, ?_⟩
         have n0_ := Aside0.mk (kB BK127.out hb)
         have n1_ := Aside0.mk (kB BK128.out hb)
         have n2_ := Aside0.mk (kB BK138.out hb)
         have n3_ := Aside0.mk (kB BK139.out hb)
         have n4_ := Aside0.mk (bT HB.out hb)
         clear BK127
         clear BK128
         clear BK138
         clear BK139
         clear HB
         have BK127 := n0_
         have BK128 := n1_
         have BK138 := n2_
         have BK139 := n3_
         have HB := n4_
         clear n0_ n1_ n2_ n3_ n4_
         (try clear hb)
         refine hK.out _ _ ⟨(kC BK128.out 0).trans rfl, (kC BK128.out 1).trans rfl⟩ (fun hHeld => ?_)
         clear hK K
         refine norm_ (a' := ?_) ?_ ?_
         rotate_left
         ·show Act.put _ (some 30) _ = _
          simp only [Act.put, sA, sB, sC, i64_w, i32_w]
          rfl
         exact norm_ (by simp only [putAll, Act.put, sA, sB, sC] <;> rfl) (hJ3_9_14_15_16 (gb138, gb139) _ ⟨hHeld, BK127.out, BK128.out, BK138.out, BK139.out, GW138.out, GE138.out, NB127_138.out, NB138_127.out, NB128_138.out, NB138_128.out, NB139_138.out, NB138_139.out, GW139.out, GE139.out, NB127_139.out, NB139_127.out, NB128_139.out, NB139_128.out, HB.out⟩)
        ·skip
         refine box_step ?hg (N := 10) ?hd (cs := #[.int .i64 0, .int .i64 0, .bool false]) (t := 25) ?hr ?_; (case hd => rfl); (case hg => rfl); (case hr => first | (go_simp; done) | (go_simp; rfl))
         intro gb140 hg w27 hbox hb
         have n0_ := Aside0.mk (kB BK127.out hb)
         have n1_ := Aside0.mk (kB BK128.out hb)
         have n2_ := Aside0.mk (kB BK138.out hb)
         have n3_ := Aside0.mk (kB BK139.out hb)
         have n4_ := Aside0.mk (bT HB.out hb)
         have n5_ := Aside0.mk (hbox)
         have n6_ := Aside0.mk ((by rw [hg]; exact (below_size HB.out) : w.heap.size ≤ gb140))
         have n7_ := n6_
         have n8_ := Aside0.mk ((by rw [hg]; exact Nat.ne_of_lt (blk_lt BK127.out) : gb127 ≠ gb140))
         have n9_ := Aside0.mk n8_.out.symm
         have n10_ := Aside0.mk ((by rw [hg]; exact Nat.ne_of_lt (blk_lt BK128.out) : gb128 ≠ gb140))
         have n11_ := Aside0.mk n10_.out.symm
         have n12_ := Aside0.mk ((by rw [hg]; exact Nat.ne_of_lt (blk_lt BK138.out) : gb138 ≠ gb140))
         have n13_ := Aside0.mk n12_.out.symm
         have n14_ := Aside0.mk ((by rw [hg]; exact Nat.ne_of_lt (blk_lt BK139.out) : gb139 ≠ gb140))
         have n15_ := Aside0.mk n14_.out.symm
         clear BK127
         clear BK128
         clear BK138
         clear BK139
         clear HB
         have BK127 := n0_
         have BK128 := n1_
         have BK138 := n2_
         have BK139 := n3_
         have HB := n4_
         have BK140 := n5_
         have GW140 := n6_
         have GE140 := n7_
         have NB127_140 := n8_
         have NB140_127 := n9_
         have NB128_140 := n10_
         have NB140_128 := n11_
         have NB138_140 := n12_
         have NB140_138 := n13_
         have NB139_140 := n14_
         have NB140_139 := n15_
         clear n0_ n1_ n2_ n3_ n4_ n5_ n6_ n7_ n8_ n9_ n10_ n11_ n12_ n13_ n14_ n15_
         clear hb hbox hg
         refine hK.out _ _ ⟨(kC BK128.out 0).trans rfl, (kC BK128.out 1).trans rfl⟩ (fun hHeld => ?_)
         clear hK K
         refine norm_ (a' := ?_) ?_ ?_
         rotate_left
         ·show Act.put _ (some 10) _ = _
          simp only [Act.put, sA, sB, sC, i64_w, i32_w]
          rfl
         exact norm_ (by simp only [putAll, Act.put, sA, sB, sC] <;> rfl) (hJ3_9_15_16_17 (gb138, gb139, gb140) _ ⟨hHeld, BK127.out, BK128.out, BK138.out, BK139.out, BK140.out, GW138.out, GE138.out, NB127_138.out, NB138_127.out, NB128_138.out, NB138_128.out, NB139_138.out, NB138_139.out, NB140_138.out, NB138_140.out, GW139.out, GE139.out, NB127_139.out, NB139_127.out, NB128_139.out, NB139_128.out, NB140_139.out, NB139_140.out, GW140.out, GE140.out, NB127_140.out, NB140_127.out, NB128_140.out, NB140_128.out, HB.out⟩)
      intro hJ3_9_15_16
      refine join_ (σ := Nat × Nat) 5 #[tT, tT, tT, tT, tT, tT, tT, tT, tT, tT, tT, tT, tT, tT, tF, tT, tF, tT, tF, tF, tF] (fun s_ => [(19, .agg #[.int .i64 t129, .int .i64 t130, .bool t131]), (25, .agg #[.int .i64 t132, .int .i64 t133, .bool t134]), (8, .pointer (some ⟨s_.1, 0, none⟩)), (10, .pointer (some ⟨s_.2, 0, none⟩))]) (fun s_ w' => (w'.cell? ⟨gb128, 0, none⟩ = some (.int .i64 a0_0) ∧ w'.cell? ⟨gb128, 1, none⟩ = some (.int .i64 a0_1)) ∧ (w'.heap[gb127]? = some (.cells #[.int .i64 a0_0, .int .i64 a0_1, .bool a0_2] 40 (0, 0))) ∧ (w'.heap[gb128]? = some (.cells #[.int .i64 a0_0, .int .i64 a0_1] 23 (0, 0))) ∧ (w'.heap[s_.1]? = some (.cells #[.int .i64 0, .int .i64 0, .bool false] 25 (0, 0))) ∧ (w'.heap[s_.2]? = some (.cells #[.int .i64 0, .int .i64 0, .bool false] 25 (0, 0))) ∧ (w.heap.size ≤ s_.1) ∧ (w.heap.size ≤ s_.1) ∧ (gb127 ≠ s_.1) ∧ (s_.1 ≠ gb127) ∧ (gb128 ≠ s_.1) ∧ (s_.1 ≠ gb128) ∧ (s_.2 ≠ s_.1) ∧ (s_.1 ≠ s_.2) ∧ (w.heap.size ≤ s_.2) ∧ (w.heap.size ≤ s_.2) ∧ (gb127 ≠ s_.2) ∧ (s_.2 ≠ gb127) ∧ (gb128 ≠ s_.2) ∧ (s_.2 ≠ gb128) ∧ (Below w.heap.size w w')) ?_ ?_
      ··skip
        rintro ⟨gb138, gb140⟩ w26 ⟨hS_, h0_, h1_, h2_, h3_, h4_, h5_, h6_, h7_, h8_, h9_, h10_, h11_, h12_, h13_, h14_, h15_, h16_, h17_, h18_⟩
        have n0_ : Aside0 (w26.heap[gb127]? = some (.cells #[.int .i64 a0_0, .int .i64 a0_1, .bool a0_2] 40 (0, 0))) := ⟨h0_⟩
        have n1_ : Aside0 (w26.heap[gb128]? = some (.cells #[.int .i64 a0_0, .int .i64 a0_1] 23 (0, 0))) := ⟨h1_⟩
        have n2_ : Aside0 (w26.heap[gb138]? = some (.cells #[.int .i64 0, .int .i64 0, .bool false] 25 (0, 0))) := ⟨h2_⟩
        have n3_ : Aside0 (w26.heap[gb140]? = some (.cells #[.int .i64 0, .int .i64 0, .bool false] 25 (0, 0))) := ⟨h3_⟩
        have n4_ : Aside0 (w.heap.size ≤ gb138) := ⟨h4_⟩
        have n5_ : Aside0 (w.heap.size ≤ gb138) := ⟨h5_⟩
        have n6_ : Aside0 (gb127 ≠ gb138) := ⟨h6_⟩
        have n7_ : Aside0 (gb138 ≠ gb127) := ⟨h7_⟩
        have n8_ : Aside0 (gb128 ≠ gb138) := ⟨h8_⟩
        have n9_ : Aside0 (gb138 ≠ gb128) := ⟨h9_⟩
        have n10_ : Aside0 (gb140 ≠ gb138) := ⟨h10_⟩
        have n11_ : Aside0 (gb138 ≠ gb140) := ⟨h11_⟩
        have n12_ : Aside0 (w.heap.size ≤ gb140) := ⟨h12_⟩
        have n13_ : Aside0 (w.heap.size ≤ gb140) := ⟨h13_⟩
        have n14_ : Aside0 (gb127 ≠ gb140) := ⟨h14_⟩
        have n15_ : Aside0 (gb140 ≠ gb127) := ⟨h15_⟩
        have n16_ : Aside0 (gb128 ≠ gb140) := ⟨h16_⟩
        have n17_ : Aside0 (gb140 ≠ gb128) := ⟨h17_⟩
        have n18_ : Aside0 (Below w.heap.size w w26) := ⟨h18_⟩
        clear BK127
        clear BK128
        clear HB
        clear h0_ h1_ h2_ h3_ h4_ h5_ h6_ h7_ h8_ h9_ h10_ h11_ h12_ h13_ h14_ h15_ h16_ h17_ h18_
        have BK127 := n0_
        have BK128 := n1_
        have BK138 := n2_
        have BK140 := n3_
        have GW138 := n4_
        have GE138 := n5_
        have NB127_138 := n6_
        have NB138_127 := n7_
        have NB128_138 := n8_
        have NB138_128 := n9_
        have NB140_138 := n10_
        have NB138_140 := n11_
        have GW140 := n12_
        have GE140 := n13_
        have NB127_140 := n14_
        have NB140_127 := n15_
        have NB128_140 := n16_
        have NB140_128 := n17_
        have HB := n18_
        clear n0_ n1_ n2_ n3_ n4_ n5_ n6_ n7_ n8_ n9_ n10_ n11_ n12_ n13_ n14_ n15_ n16_ n17_ n18_
        have hHeld : w26.cell? ⟨gb128, 0, none⟩ = some (.int .i64 a0_0) ∧ w26.cell? ⟨gb128, 1, none⟩ = some (.int .i64 a0_1) := hS_
        refine norm_ (a' := ?_) ?_ ?_
        rotate_left
        ·simp only [putAll, Act.put, sA, sB, sC]
         rfl
        refine two_ (i := 14) (j := 16) (Ni := some 30) (Nj := some 9) #[tT, tT, tT, tT, tT, tT, tT, tT, tT, tT, tT, tT, tT, tT, tT, tT, tF, tT, tF, tF, tF] #[tT, tT, tT, tT, tT, tT, tT, tT, tT, tT, tT, tT, tT, tT, tF, tT, tT, tT, tF, tF, tF] rfl rfl rfl rfl (two_of HT_.out (by kernel_rfl)) (by decide) (by decide) (fun K hK => ?_) (fun K hK => ?_)
        ·skip
         refine goes_ Try.func18 (by kernel_rfl) rfl #[.agg #[.int .i64 a0_0, .int .i64 a0_1], .bool (!a1), .bool a2] (by rfl) rfl rfl (by (try simp only [List.map_toArray, List.map_cons, List.map_nil]); first | done | rfl) ?_
         with_reducible refine (addr_Make.calls a0_0 a0_1 (!a1) a2 t135 t136 t137 _ A6.out).mono ?_
         rintro e w27 ⟨rfl, hb⟩
         refine ⟨_, rfl, ?_⟩
         have n0_ := Aside0.mk (kB BK127.out hb)
         have n1_ := Aside0.mk (kB BK128.out hb)
         have n2_ := Aside0.mk (kB BK138.out hb)
         have n3_ := Aside0.mk (kB BK140.out hb)
         have n4_ := Aside0.mk (bT HB.out hb)
         clear BK127
         clear BK128
         clear BK138
         clear BK140
         clear HB
         have BK127 := n0_
         have BK128 := n1_
         have BK138 := n2_
         have BK140 := n3_
         have HB := n4_
         clear n0_ n1_ n2_ n3_ n4_
         (try clear hb)
         refine hK.out _ _ ⟨(kC BK128.out 0).trans rfl, (kC BK128.out 1).trans rfl⟩ (fun hHeld => ?_)
         clear hK K
         refine norm_ (a' := ?_) ?_ ?_
         rotate_left
         ·show Act.put _ (some 30) _ = _
          simp only [Act.put, sA, sB, sC, i64_w, i32_w]
          rfl
         exact norm_ (by simp only [putAll, Act.put, sA, sB, sC] <;> rfl) (hJ3_9_14_15_17 (gb138, gb140) _ ⟨hHeld, BK127.out, BK128.out, BK138.out, BK140.out, GW138.out, GE138.out, NB127_138.out, NB138_127.out, NB128_138.out, NB138_128.out, NB140_138.out, NB138_140.out, GW140.out, GE140.out, NB127_140.out, NB140_127.out, NB128_140.out, NB140_128.out, HB.out⟩)
        ·skip
         refine box_step ?hg (N := 9) ?hd (cs := #[.int .i64 0, .int .i64 0, .bool false]) (t := 25) ?hr ?_; (case hd => rfl); (case hg => rfl); (case hr => first | (go_simp; done) | (go_simp; rfl))
         intro gb139 hg w27 hbox hb
         have n0_ := Aside0.mk (kB BK127.out hb)
         have n1_ := Aside0.mk (kB BK128.out hb)
         have n2_ := Aside0.mk (kB BK138.out hb)
         have n3_ := Aside0.mk (kB BK140.out hb)
         have n4_ := Aside0.mk (bT HB.out hb)
         have n5_ := Aside0.mk (hbox)
         have n6_ := Aside0.mk ((by rw [hg]; exact (below_size HB.out) : w.heap.size ≤ gb139))
         have n7_ := n6_
         have n8_ := Aside0.mk ((by rw [hg]; exact Nat.ne_of_lt (blk_lt BK127.out) : gb127 ≠ gb139))
         have n9_ := Aside0.mk n8_.out.symm
         have n10_ := Aside0.mk ((by rw [hg]; exact Nat.ne_of_lt (blk_lt BK128.out) : gb128 ≠ gb139))
         have n11_ := Aside0.mk n10_.out.symm
         have n12_ := Aside0.mk ((by rw [hg]; exact Nat.ne_of_lt (blk_lt BK138.out) : gb138 ≠ gb139))
         have n13_ := Aside0.mk n12_.out.symm
         have n14_ := Aside0.mk ((by rw [hg]; exact Nat.ne_of_lt (blk_lt BK140.out) : gb140 ≠ gb139))
         have n15_ := Aside0.mk n14_.out.symm
         clear BK127
         clear BK128
         clear BK138
         clear BK140
         clear HB
         have BK127 := n0_
         have BK128 := n1_
         have BK138 := n2_
         have BK140 := n3_
         have HB := n4_
         have BK139 := n5_
         have GW139 := n6_
         have GE139 := n7_
         have NB127_139 := n8_
         have NB139_127 := n9_
         have NB128_139 := n10_
         have NB139_128 := n11_
         have NB138_139 := n12_
         have NB139_138 := n13_
         have NB140_139 := n14_
         have NB139_140 := n15_
         clear n0_ n1_ n2_ n3_ n4_ n5_ n6_ n7_ n8_ n9_ n10_ n11_ n12_ n13_ n14_ n15_
         clear hb hbox hg
         refine hK.out _ _ ⟨(kC BK128.out 0).trans rfl, (kC BK128.out 1).trans rfl⟩ (fun hHeld => ?_)
         clear hK K
         refine norm_ (a' := ?_) ?_ ?_
         rotate_left
         ·show Act.put _ (some 9) _ = _
          simp only [Act.put, sA, sB, sC, i64_w, i32_w]
          rfl
         exact norm_ (by simp only [putAll, Act.put, sA, sB, sC] <;> rfl) (hJ3_9_15_16_17 (gb138, gb139, gb140) _ ⟨hHeld, BK127.out, BK128.out, BK138.out, BK139.out, BK140.out, GW138.out, GE138.out, NB127_138.out, NB138_127.out, NB128_138.out, NB138_128.out, NB139_138.out, NB138_139.out, NB140_138.out, NB138_140.out, GW139.out, GE139.out, NB127_139.out, NB139_127.out, NB128_139.out, NB139_128.out, NB140_139.out, NB139_140.out, GW140.out, GE140.out, NB127_140.out, NB140_127.out, NB128_140.out, NB140_128.out, HB.out⟩)
      intro hJ3_9_15_17
      refine join_ (σ := Nat × Nat) 5 #[tT, tT, tT, tT, tT, tT, tT, tT, tT, tT, tT, tT, tT, tT, tF, tF, tT, tT, tF, tF, tF] (fun s_ => [(19, .agg #[.int .i64 t129, .int .i64 t130, .bool t131]), (25, .agg #[.int .i64 t132, .int .i64 t133, .bool t134]), (9, .pointer (some ⟨s_.1, 0, none⟩)), (10, .pointer (some ⟨s_.2, 0, none⟩))]) (fun s_ w' => (w'.cell? ⟨gb128, 0, none⟩ = some (.int .i64 a0_0) ∧ w'.cell? ⟨gb128, 1, none⟩ = some (.int .i64 a0_1)) ∧ (w'.heap[gb127]? = some (.cells #[.int .i64 a0_0, .int .i64 a0_1, .bool a0_2] 40 (0, 0))) ∧ (w'.heap[gb128]? = some (.cells #[.int .i64 a0_0, .int .i64 a0_1] 23 (0, 0))) ∧ (w'.heap[s_.1]? = some (.cells #[.int .i64 0, .int .i64 0, .bool false] 25 (0, 0))) ∧ (w'.heap[s_.2]? = some (.cells #[.int .i64 0, .int .i64 0, .bool false] 25 (0, 0))) ∧ (w.heap.size ≤ s_.1) ∧ (w.heap.size ≤ s_.1) ∧ (gb127 ≠ s_.1) ∧ (s_.1 ≠ gb127) ∧ (gb128 ≠ s_.1) ∧ (s_.1 ≠ gb128) ∧ (s_.2 ≠ s_.1) ∧ (s_.1 ≠ s_.2) ∧ (w.heap.size ≤ s_.2) ∧ (w.heap.size ≤ s_.2) ∧ (gb127 ≠ s_.2) ∧ (s_.2 ≠ gb127) ∧ (gb128 ≠ s_.2) ∧ (s_.2 ≠ gb128) ∧ (Below w.heap.size w w')) ?_ ?_
      ··skip
        rintro ⟨gb139, gb140⟩ w26 ⟨hS_, h0_, h1_, h2_, h3_, h4_, h5_, h6_, h7_, h8_, h9_, h10_, h11_, h12_, h13_, h14_, h15_, h16_, h17_, h18_⟩
        have n0_ : Aside0 (w26.heap[gb127]? = some (.cells #[.int .i64 a0_0, .int .i64 a0_1, .bool a0_2] 40 (0, 0))) := ⟨h0_⟩
        have n1_ : Aside0 (w26.heap[gb128]? = some (.cells #[.int .i64 a0_0, .int .i64 a0_1] 23 (0, 0))) := ⟨h1_⟩
        have n2_ : Aside0 (w26.heap[gb139]? = some (.cells #[.int .i64 0, .int .i64 0, .bool false] 25 (0, 0))) := ⟨h2_⟩
        have n3_ : Aside0 (w26.heap[gb140]? = some (.cells #[.int .i64 0, .int .i64 0, .bool false] 25 (0, 0))) := ⟨h3_⟩
        have n4_ : Aside0 (w.heap.size ≤ gb139) := ⟨h4_⟩
        have n5_ : Aside0 (w.heap.size ≤ gb139) := ⟨h5_⟩
        have n6_ : Aside0 (gb127 ≠ gb139) := ⟨h6_⟩
        have n7_ : Aside0 (gb139 ≠ gb127) := ⟨h7_⟩
        have n8_ : Aside0 (gb128 ≠ gb139) := ⟨h8_⟩
        have n9_ : Aside0 (gb139 ≠ gb128) := ⟨h9_⟩
        have n10_ : Aside0 (gb140 ≠ gb139) := ⟨h10_⟩
        have n11_ : Aside0 (gb139 ≠ gb140) := ⟨h11_⟩
        have n12_ : Aside0 (w.heap.size ≤ gb140) := ⟨h12_⟩
        have n13_ : Aside0 (w.heap.size ≤ gb140) := ⟨h13_⟩
        have n14_ : Aside0 (gb127 ≠ gb140) := ⟨h14_⟩
        have n15_ : Aside0 (gb140 ≠ gb127) := ⟨h15_⟩
        have n16_ : Aside0 (gb128 ≠ gb140) := ⟨h16_⟩
        have n17_ : Aside0 (gb140 ≠ gb128) := ⟨h17_⟩
        have n18_ : Aside0 (Below w.heap.size w w26) := ⟨h18_⟩
        clear BK127
        clear BK128
        clear HB
        clear h0_ h1_ h2_ h3_ h4_ h5_ h6_ h7_ h8_ h9_ h10_ h11_ h12_ h13_ h14_ h15_ h16_ h17_ h18_
        have BK127 := n0_
        have BK128 := n1_
        have BK139 := n2_
        have BK140 := n3_
        have GW139 := n4_
        have GE139 := n5_
        have NB127_139 := n6_
        have NB139_127 := n7_
        have NB128_139 := n8_
        have NB139_128 := n9_
        have NB140_139 := n10_
        have NB139_140 := n11_
        have GW140 := n12_
        have GE140 := n13_
        have NB127_140 := n14_
        have NB140_127 := n15_
        have NB128_140 := n16_
        have NB140_128 := n17_
        have HB := n18_
        clear n0_ n1_ n2_ n3_ n4_ n5_ n6_ n7_ n8_ n9_ n10_ n11_ n12_ n13_ n14_ n15_ n16_ n17_ n18_
        have hHeld : w26.cell? ⟨gb128, 0, none⟩ = some (.int .i64 a0_0) ∧ w26.cell? ⟨gb128, 1, none⟩ = some (.int .i64 a0_1) := hS_
        refine norm_ (a' := ?_) ?_ ?_
        rotate_left
        ·simp only [putAll, Act.put, sA, sB, sC]
         rfl
        refine two_ (i := 14) (j := 15) (Ni := some 30) (Nj := some 8) #[tT, tT, tT, tT, tT, tT, tT, tT, tT, tT, tT, tT, tT, tT, tT, tF, tT, tT, tF, tF, tF] #[tT, tT, tT, tT, tT, tT, tT, tT, tT, tT, tT, tT, tT, tT, tF, tT, tT, tT, tF, tF, tF] rfl rfl rfl rfl (two_of HT_.out (by kernel_rfl)) (by decide) (by decide) (fun K hK => ?_) (fun K hK => ?_)
        ·skip
         refine goes_ Try.func18 (by kernel_rfl) rfl #[.agg #[.int .i64 a0_0, .int .i64 a0_1], .bool (!a1), .bool a2] (by rfl) rfl rfl (by (try simp only [List.map_toArray, List.map_cons, List.map_nil]); first | done | rfl) ?_
         with_reducible refine (addr_Make.calls a0_0 a0_1 (!a1) a2 t135 t136 t137 _ A6.out).mono ?_
         rintro e w27 ⟨rfl, hb⟩
         refine ⟨_, rfl, ?_⟩
         have n0_ := Aside0.mk (kB BK127.out hb)
         have n1_ := Aside0.mk (kB BK128.out hb)
         have n2_ := Aside0.mk (kB BK139.out hb)
         have n3_ := Aside0.mk (kB BK140.out hb)
         have n4_ := Aside0.mk (bT HB.out hb)
         clear BK127
         clear BK128
         clear BK139
         clear BK140
         clear HB
         have BK127 := n0_
         have BK128 := n1_
         have BK139 := n2_
         have BK140 := n3_
         have HB := n4_
         clear n0_ n1_ n2_ n3_ n4_
         (try clear hb)
         refine hK.out _ _ ⟨(kC BK128.out 0).trans rfl, (kC BK128.out 1).trans rfl⟩ (fun hHeld => ?_)
         clear hK K
         refine norm_ (a' := ?_) ?_ ?_
         rotate_left
         ·show Act.put _ (some 30) _ = _
          simp only [Act.put, sA, sB, sC, i64_w, i32_w]
          rfl
         exact norm_ (by simp only [putAll, Act.put, sA, sB, sC] <;> rfl) (hJ3_9_14_16_17 (gb139, gb140) _ ⟨hHeld, BK127.out, BK128.out, BK139.out, BK140.out, GW139.out, GE139.out, NB127_139.out, NB139_127.out, NB128_139.out, NB139_128.out, NB140_139.out, NB139_140.out, GW140.out, GE140.out, NB127_140.out, NB140_127.out, NB128_140.out, NB140_128.out, HB.out⟩)
        ·skip
         refine box_step ?hg (N := 8) ?hd (cs := #[.int .i64 0, .int .i64 0, .bool false]) (t := 25) ?hr ?_; (case hd => rfl); (case hg => rfl); (case hr => first | (go_simp; done) | (go_simp; rfl))
         intro gb138 hg w27 hbox hb
         have n0_ := Aside0.mk (kB BK127.out hb)
         have n1_ := Aside0.mk (kB BK128.out hb)
         have n2_ := Aside0.mk (kB BK139.out hb)
         have n3_ := Aside0.mk (kB BK140.out hb)
         have n4_ := Aside0.mk (bT HB.out hb)
         have n5_ := Aside0.mk (hbox)
         have n6_ := Aside0.mk ((by rw [hg]; exact (below_size HB.out) : w.heap.size ≤ gb138))
         have n7_ := n6_
         have n8_ := Aside0.mk ((by rw [hg]; exact Nat.ne_of_lt (blk_lt BK127.out) : gb127 ≠ gb138))
         have n9_ := Aside0.mk n8_.out.symm
         have n10_ := Aside0.mk ((by rw [hg]; exact Nat.ne_of_lt (blk_lt BK128.out) : gb128 ≠ gb138))
         have n11_ := Aside0.mk n10_.out.symm
         have n12_ := Aside0.mk ((by rw [hg]; exact Nat.ne_of_lt (blk_lt BK139.out) : gb139 ≠ gb138))
         have n13_ := Aside0.mk n12_.out.symm
         have n14_ := Aside0.mk ((by rw [hg]; exact Nat.ne_of_lt (blk_lt BK140.out) : gb140 ≠ gb138))
         have n15_ := Aside0.mk n14_.out.symm
         clear BK127
         clear BK128
         clear BK139
         clear BK140
         clear HB
         have BK127 := n0_
         have BK128 := n1_
         have BK139 := n2_
         have BK140 := n3_
         have HB := n4_
         have BK138 := n5_
         have GW138 := n6_
         have GE138 := n7_
         have NB127_138 := n8_
         have NB138_127 := n9_
         have NB128_138 := n10_
         have NB138_128 := n11_
         have NB139_138 := n12_
         have NB138_139 := n13_
         have NB140_138 := n14_
         have NB138_140 := n15_
         clear n0_ n1_ n2_ n3_ n4_ n5_ n6_ n7_ n8_ n9_ n10_ n11_ n12_ n13_ n14_ n15_
         clear hb hbox hg
         refine hK.out _ _ ⟨(kC BK128.out 0).trans rfl, (kC BK128.out 1).trans rfl⟩ (fun hHeld => ?_)
         clear hK K
         refine norm_ (a' := ?_) ?_ ?_
         rotate_left
         ·show Act.put _ (some 8) _ = _
          simp only [Act.put, sA, sB, sC, i64_w, i32_w]
          rfl
         exact norm_ (by simp only [putAll, Act.put, sA, sB, sC] <;> rfl) (hJ3_9_15_16_17 (gb138, gb139, gb140) _ ⟨hHeld, BK127.out, BK128.out, BK138.out, BK139.out, BK140.out, GW138.out, GE138.out, NB127_138.out, NB138_127.out, NB128_138.out, NB138_128.out, NB139_138.out, NB138_139.out, NB140_138.out, NB138_140.out, GW139.out, GE139.out, NB127_139.out, NB139_127.out, NB128_139.out, NB139_128.out, NB140_139.out, NB139_140.out, GW140.out, GE140.out, NB127_140.out, NB140_127.out, NB128_140.out, NB140_128.out, HB.out⟩)
      intro hJ3_9_16_17
      refine join_ (σ := Nat × Nat × Nat) 5 #[tT, tT, tT, tT, tT, tT, tT, tT, tT, tF, tT, tT, tT, tT, tF, tT, tT, tT, tF, tF, tF] (fun s_ => [(19, .agg #[.int .i64 t129, .int .i64 t130, .bool t131]), (8, .pointer (some ⟨s_.1, 0, none⟩)), (9, .pointer (some ⟨s_.2.1, 0, none⟩)), (10, .pointer (some ⟨s_.2.2, 0, none⟩))]) (fun s_ w' => (w'.cell? ⟨gb128, 0, none⟩ = some (.int .i64 a0_0) ∧ w'.cell? ⟨gb128, 1, none⟩ = some (.int .i64 a0_1)) ∧ (w'.heap[gb127]? = some (.cells #[.int .i64 a0_0, .int .i64 a0_1, .bool a0_2] 40 (0, 0))) ∧ (w'.heap[gb128]? = some (.cells #[.int .i64 a0_0, .int .i64 a0_1] 23 (0, 0))) ∧ (w'.heap[s_.1]? = some (.cells #[.int .i64 0, .int .i64 0, .bool false] 25 (0, 0))) ∧ (w'.heap[s_.2.1]? = some (.cells #[.int .i64 0, .int .i64 0, .bool false] 25 (0, 0))) ∧ (w'.heap[s_.2.2]? = some (.cells #[.int .i64 0, .int .i64 0, .bool false] 25 (0, 0))) ∧ (w.heap.size ≤ s_.1) ∧ (w.heap.size ≤ s_.1) ∧ (gb127 ≠ s_.1) ∧ (s_.1 ≠ gb127) ∧ (gb128 ≠ s_.1) ∧ (s_.1 ≠ gb128) ∧ (s_.2.1 ≠ s_.1) ∧ (s_.1 ≠ s_.2.1) ∧ (s_.2.2 ≠ s_.1) ∧ (s_.1 ≠ s_.2.2) ∧ (w.heap.size ≤ s_.2.1) ∧ (w.heap.size ≤ s_.2.1) ∧ (gb127 ≠ s_.2.1) ∧ (s_.2.1 ≠ gb127) ∧ (gb128 ≠ s_.2.1) ∧ (s_.2.1 ≠ gb128) ∧ (s_.2.2 ≠ s_.2.1) ∧ (s_.2.1 ≠ s_.2.2) ∧ (w.heap.size ≤ s_.2.2) ∧ (w.heap.size ≤ s_.2.2) ∧ (gb127 ≠ s_.2.2) ∧ (s_.2.2 ≠ gb127) ∧ (gb128 ≠ s_.2.2) ∧ (s_.2.2 ≠ gb128) ∧ (Below w.heap.size w w')) ?_ ?_
      ··skip
        rintro ⟨gb138, gb139, gb140⟩ w26 ⟨hS_, h0_, h1_, h2_, h3_, h4_, h5_, h6_, h7_, h8_, h9_, h10_, h11_, h12_, h13_, h14_, h15_, h16_, h17_, h18_, h19_, h20_, h21_, h22_, h23_, h24_, h25_, h26_, h27_, h28_, h29_⟩
        have n0_ : Aside0 (w26.heap[gb127]? = some (.cells #[.int .i64 a0_0, .int .i64 a0_1, .bool a0_2] 40 (0, 0))) := ⟨h0_⟩
        have n1_ : Aside0 (w26.heap[gb128]? = some (.cells #[.int .i64 a0_0, .int .i64 a0_1] 23 (0, 0))) := ⟨h1_⟩
        have n2_ : Aside0 (w26.heap[gb138]? = some (.cells #[.int .i64 0, .int .i64 0, .bool false] 25 (0, 0))) := ⟨h2_⟩
        have n3_ : Aside0 (w26.heap[gb139]? = some (.cells #[.int .i64 0, .int .i64 0, .bool false] 25 (0, 0))) := ⟨h3_⟩
        have n4_ : Aside0 (w26.heap[gb140]? = some (.cells #[.int .i64 0, .int .i64 0, .bool false] 25 (0, 0))) := ⟨h4_⟩
        have n5_ : Aside0 (w.heap.size ≤ gb138) := ⟨h5_⟩
        have n6_ : Aside0 (w.heap.size ≤ gb138) := ⟨h6_⟩
        have n7_ : Aside0 (gb127 ≠ gb138) := ⟨h7_⟩
        have n8_ : Aside0 (gb138 ≠ gb127) := ⟨h8_⟩
        have n9_ : Aside0 (gb128 ≠ gb138) := ⟨h9_⟩
        have n10_ : Aside0 (gb138 ≠ gb128) := ⟨h10_⟩
        have n11_ : Aside0 (gb139 ≠ gb138) := ⟨h11_⟩
        have n12_ : Aside0 (gb138 ≠ gb139) := ⟨h12_⟩
        have n13_ : Aside0 (gb140 ≠ gb138) := ⟨h13_⟩
        have n14_ : Aside0 (gb138 ≠ gb140) := ⟨h14_⟩
        have n15_ : Aside0 (w.heap.size ≤ gb139) := ⟨h15_⟩
        have n16_ : Aside0 (w.heap.size ≤ gb139) := ⟨h16_⟩
        have n17_ : Aside0 (gb127 ≠ gb139) := ⟨h17_⟩
        have n18_ : Aside0 (gb139 ≠ gb127) := ⟨h18_⟩
        have n19_ : Aside0 (gb128 ≠ gb139) := ⟨h19_⟩
        have n20_ : Aside0 (gb139 ≠ gb128) := ⟨h20_⟩
        have n21_ : Aside0 (gb140 ≠ gb139) := ⟨h21_⟩
        have n22_ : Aside0 (gb139 ≠ gb140) := ⟨h22_⟩
        have n23_ : Aside0 (w.heap.size ≤ gb140) := ⟨h23_⟩
        have n24_ : Aside0 (w.heap.size ≤ gb140) := ⟨h24_⟩
        have n25_ : Aside0 (gb127 ≠ gb140) := ⟨h25_⟩
        have n26_ : Aside0 (gb140 ≠ gb127) := ⟨h26_⟩
        have n27_ : Aside0 (gb128 ≠ gb140) := ⟨h27_⟩
        have n28_ : Aside0 (gb140 ≠ gb128) := ⟨h28_⟩
        have n29_ : Aside0 (Below w.heap.size w w26) := ⟨h29_⟩
        clear BK127
        clear BK128
        clear HB
        clear h0_ h1_ h2_ h3_ h4_ h5_ h6_ h7_ h8_ h9_ h10_ h11_ h12_ h13_ h14_ h15_ h16_ h17_ h18_ h19_ h20_ h21_ h22_ h23_ h24_ h25_ h26_ h27_ h28_ h29_
        have BK127 := n0_
        have BK128 := n1_
        have BK138 := n2_
        have BK139 := n3_
        have BK140 := n4_
        have GW138 := n5_
        have GE138 := n6_
        have NB127_138 := n7_
        have NB138_127 := n8_
        have NB128_138 := n9_
        have NB138_128 := n10_
        have NB139_138 := n11_
        have NB138_139 := n12_
        have NB140_138 := n13_
        have NB138_140 := n14_
        have GW139 := n15_
        have GE139 := n16_
        have NB127_139 := n17_
        have NB139_127 := n18_
        have NB128_139 := n19_
        have NB139_128 := n20_
        have NB140_139 := n21_
        have NB139_140 := n22_
        have GW140 := n23_
        have GE140 := n24_
        have NB127_140 := n25_
        have NB140_127 := n26_
        have NB128_140 := n27_
        have NB140_128 := n28_
        have HB := n29_
        clear n0_ n1_ n2_ n3_ n4_ n5_ n6_ n7_ n8_ n9_ n10_ n11_ n12_ n13_ n14_ n15_ n16_ n17_ n18_ n19_ n20_ n21_ n22_ n23_ n24_ n25_ n26_ n27_ n28_ n29_
        have hHeld : w26.cell? ⟨gb128, 0, none⟩ = some (.int .i64 a0_0) ∧ w26.cell? ⟨gb128, 1, none⟩ = some (.int .i64 a0_1) := hS_
        refine norm_ (a' := ?_) ?_ ?_
        rotate_left
        ·simp only [putAll, Act.put, sA, sB, sC]
         rfl
        refine one_ (i := 9) (N := some 25) #[tT, tT, tT, tT, tT, tT, tT, tT, tT, tT, tT, tT, tT, tT, tF, tT, tT, tT, tF, tF, tF] rfl rfl (one_of HT_.out (by kernel_rfl)) (by decide) (fun K hK => ?_)
        refine goes_ Try.func18 (by kernel_rfl) rfl #[.agg #[.int .i64 a0_0, .int .i64 a0_1], .bool (!a1), .bool (!a2)] (by rfl) rfl rfl (by (try simp only [List.map_toArray, List.map_cons, List.map_nil]); first | done | rfl) ?_
        with_reducible refine (addr_Make.calls a0_0 a0_1 (!a1) (!a2) t132 t133 t134 _ A5.out).mono ?_
        rintro e w27 ⟨rfl, hb⟩
        refine ⟨_, rfl, ?_⟩
        have n0_ := Aside0.mk (kB BK127.out hb)
        have n1_ := Aside0.mk (kB BK128.out hb)
        have n2_ := Aside0.mk (kB BK138.out hb)
        have n3_ := Aside0.mk (kB BK139.out hb)
        have n4_ := Aside0.mk (kB BK140.out hb)
        have n5_ := Aside0.mk (bT HB.out hb)
        clear BK127
        clear BK128
        clear BK138
        clear BK139
        clear BK140
        clear HB
        have BK127 := n0_
        have BK128 := n1_
        have BK138 := n2_
        have BK139 := n3_
        have BK140 := n4_
        have HB := n5_
        clear n0_ n1_ n2_ n3_ n4_ n5_
        (try clear hb)
        refine hK.out _ _ ⟨(kC BK128.out 0).trans rfl, (kC BK128.out 1).trans rfl⟩ (fun hHeld => ?_)
        clear hK K
        refine norm_ (a' := ?_) ?_ ?_
        rotate_left
        ·show Act.put _ (some 25) _ = _
         simp only [Act.put, sA, sB, sC, i64_w, i32_w]
         rfl
        exact norm_ (by simp only [putAll, Act.put, sA, sB, sC] <;> rfl) (hJ3_9_15_16_17 (gb138, gb139, gb140) _ ⟨hHeld, BK127.out, BK128.out, BK138.out, BK139.out, BK140.out, GW138.out, GE138.out, NB127_138.out, NB138_127.out, NB128_138.out, NB138_128.out, NB139_138.out, NB138_139.out, NB140_138.out, NB138_140.out, GW139.out, GE139.out, NB127_139.out, NB139_127.out, NB128_139.out, NB139_128.out, NB140_139.out, NB139_140.out, GW140.out, GE140.out, NB127_140.out, NB140_127.out, NB128_140.out, NB140_128.out, HB.out⟩)
      intro hJ3_15_16_17
      refine join_ (σ := Unit) 6 #[tT, tT, tT, tT, tT, tT, tT, tT, tT, tT, tT, tT, tT, tT, tT, tF, tF, tF, tF, tF, tF] (fun s_ => [(19, .agg #[.int .i64 t129, .int .i64 t130, .bool t131]), (25, .agg #[.int .i64 t132, .int .i64 t133, .bool t134]), (30, .agg #[.int .i64 t135, .int .i64 t136, .bool t137])]) (fun s_ w' => (w'.cell? ⟨gb128, 0, none⟩ = some (.int .i64 a0_0) ∧ w'.cell? ⟨gb128, 1, none⟩ = some (.int .i64 a0_1)) ∧ (w'.heap[gb127]? = some (.cells #[.int .i64 a0_0, .int .i64 a0_1, .bool a0_2] 40 (0, 0))) ∧ (w'.heap[gb128]? = some (.cells #[.int .i64 a0_0, .int .i64 a0_1] 23 (0, 0))) ∧ (Below w.heap.size w w')) ?_ ?_
      ··skip
        rintro _ w25 ⟨hS_, h0_, h1_, h2_⟩
        have n0_ : Aside0 (w25.heap[gb127]? = some (.cells #[.int .i64 a0_0, .int .i64 a0_1, .bool a0_2] 40 (0, 0))) := ⟨h0_⟩
        have n1_ : Aside0 (w25.heap[gb128]? = some (.cells #[.int .i64 a0_0, .int .i64 a0_1] 23 (0, 0))) := ⟨h1_⟩
        have n2_ : Aside0 (Below w.heap.size w w25) := ⟨h2_⟩
        clear BK127
        clear BK128
        clear HB
        clear h0_ h1_ h2_
        have BK127 := n0_
        have BK128 := n1_
        have HB := n2_
        clear n0_ n1_ n2_
        have hHeld : w25.cell? ⟨gb128, 0, none⟩ = some (.int .i64 a0_0) ∧ w25.cell? ⟨gb128, 1, none⟩ = some (.int .i64 a0_1) := hS_
        refine norm_ (a' := ?_) ?_ ?_
        rotate_left
        ·simp only [putAll, Act.put, sA, sB, sC]
         rfl
        refine three_ (i := 15) (j := 16) (k := 17) (Ni := some 8) (Nj := some 9) (Nk := some 10) #[tT, tT, tT, tT, tT, tT, tT, tT, tT, tT, tT, tT, tT, tT, tT, tT, tF, tF, tF, tF, tF] #[tT, tT, tT, tT, tT, tT, tT, tT, tT, tT, tT, tT, tT, tT, tT, tF, tT, tF, tF, tF, tF] #[tT, tT, tT, tT, tT, tT, tT, tT, tT, tT, tT, tT, tT, tT, tT, tF, tF, tT, tF, tF, tF] rfl rfl rfl rfl rfl rfl (three_of HT_.out (by kernel_rfl)) (by decide) (by decide) (by decide) (fun K hK => ?_) (fun K hK => ?_) (fun K hK => ?_)
        ·skip
         refine box_step ?hg (N := 8) ?hd (cs := #[.int .i64 0, .int .i64 0, .bool false]) (t := 25) ?hr ?_; (case hd => rfl); (case hg => rfl); (case hr => first | (go_simp; done) | (go_simp; rfl))
         intro gb138 hg w26 hbox hb
         have n0_ := Aside0.mk (kB BK127.out hb)
         have n1_ := Aside0.mk (kB BK128.out hb)
         have n2_ := Aside0.mk (bT HB.out hb)
         have n3_ := Aside0.mk (hbox)
         have n4_ := Aside0.mk ((by rw [hg]; exact (below_size HB.out) : w.heap.size ≤ gb138))
         have n5_ := n4_
         have n6_ := Aside0.mk ((by rw [hg]; exact Nat.ne_of_lt (blk_lt BK127.out) : gb127 ≠ gb138))
         have n7_ := Aside0.mk n6_.out.symm
         have n8_ := Aside0.mk ((by rw [hg]; exact Nat.ne_of_lt (blk_lt BK128.out) : gb128 ≠ gb138))
         have n9_ := Aside0.mk n8_.out.symm
         clear BK127
         clear BK128
         clear HB
         have BK127 := n0_
         have BK128 := n1_
         have HB := n2_
         have BK138 := n3_
         have GW138 := n4_
         have GE138 := n5_
         have NB127_138 := n6_
         have NB138_127 := n7_
         have NB128_138 := n8_
         have NB138_128 := n9_
         clear n0_ n1_ n2_ n3_ n4_ n5_ n6_ n7_ n8_ n9_
         clear hb hbox hg
         refine hK.out _ _ ⟨(kC BK128.out 0).trans rfl, (kC BK128.out 1).trans rfl⟩ (fun hHeld => ?_)
         clear hK K
         refine norm_ (a' := ?_) ?_ ?_
         rotate_left
         ·show Act.put _ (some 8) _ = _
          simp only [Act.put, sA, sB, sC, i64_w, i32_w]
          rfl
         exact norm_ (by simp only [putAll, Act.put, sA, sB, sC] <;> rfl) (hJ3_9_14_15 (gb138) _ ⟨hHeld, BK127.out, BK128.out, BK138.out, GW138.out, GE138.out, NB127_138.out, NB138_127.out, NB128_138.out, NB138_128.out, HB.out⟩)
        ·skip
         refine box_step ?hg (N := 9) ?hd (cs := #[.int .i64 0, .int .i64 0, .bool false]) (t := 25) ?hr ?_; (case hd => rfl); (case hg => rfl); (case hr => first | (go_simp; done) | (go_simp; rfl))
         intro gb139 hg w26 hbox hb
         have n0_ := Aside0.mk (kB BK127.out hb)
         have n1_ := Aside0.mk (kB BK128.out hb)
         have n2_ := Aside0.mk (bT HB.out hb)
         have n3_ := Aside0.mk (hbox)
         have n4_ := Aside0.mk ((by rw [hg]; exact (below_size HB.out) : w.heap.size ≤ gb139))
         have n5_ := n4_
         have n6_ := Aside0.mk ((by rw [hg]; exact Nat.ne_of_lt (blk_lt BK127.out) : gb127 ≠ gb139))
         have n7_ := Aside0.mk n6_.out.symm
         have n8_ := Aside0.mk ((by rw [hg]; exact Nat.ne_of_lt (blk_lt BK128.out) : gb128 ≠ gb139))
         have n9_ := Aside0.mk n8_.out.symm
         clear BK127
         clear BK128
         clear HB
         have BK127 := n0_
         have BK128 := n1_
         have HB := n2_
         have BK139 := n3_
         have GW139 := n4_
         have GE139 := n5_
         have NB127_139 := n6_
         have NB139_127 := n7_
         have NB128_139 := n8_
         have NB139_128 := n9_
         clear n0_ n1_ n2_ n3_ n4_ n5_ n6_ n7_ n8_ n9_
         clear hb hbox hg
         refine hK.out _ _ ⟨(kC BK128.out 0).trans rfl, (kC BK128.out 1).trans rfl⟩ (fun hHeld => ?_)
         clear hK K
         refine norm_ (a' := ?_) ?_ ?_
         rotate_left
         ·show Act.put _ (some 9) _ = _
          simp only [Act.put, sA, sB, sC, i64_w, i32_w]
          rfl
         exact norm_ (by simp only [putAll, Act.put, sA, sB, sC] <;> rfl) (hJ3_9_14_16 (gb139) _ ⟨hHeld, BK127.out, BK128.out, BK139.out, GW139.out, GE139.out, NB127_139.out, NB139_127.out, NB128_139.out, NB139_128.out, HB.out⟩)
        ·skip
         refine box_step ?hg (N := 10) ?hd (cs := #[.int .i64 0, .int .i64 0, .bool false]) (t := 25) ?hr ?_; (case hd => rfl); (case hg => rfl); (case hr => first | (go_simp; done) | (go_simp; rfl))
         intro gb140 hg w26 hbox hb
         have n0_ := Aside0.mk (kB BK127.out hb)
         have n1_ := Aside0.mk (kB BK128.out hb)
         have n2_ := Aside0.mk (bT HB.out hb)
         have n3_ := Aside0.mk (hbox)
         have n4_ := Aside0.mk ((by rw [hg]; exact (below_size HB.out) : w.heap.size ≤ gb140))
         have n5_ := n4_
         have n6_ := Aside0.mk ((by rw [hg]; exact Nat.ne_of_lt (blk_lt BK127.out) : gb127 ≠ gb140))
         have n7_ := Aside0.mk n6_.out.symm
         have n8_ := Aside0.mk ((by rw [hg]; exact Nat.ne_of_lt (blk_lt BK128.out) : gb128 ≠ gb140))
         have n9_ := Aside0.mk n8_.out.symm
         clear BK127
         clear BK128
         clear HB
         have BK127 := n0_
         have BK128 := n1_
         have HB := n2_
         have BK140 := n3_
         have GW140 := n4_
         have GE140 := n5_
         have NB127_140 := n6_
         have NB140_127 := n7_
         have NB128_140 := n8_
         have NB140_128 := n9_
         clear n0_ n1_ n2_ n3_ n4_ n5_ n6_ n7_ n8_ n9_
         clear hb hbox hg
         refine hK.out _ _ ⟨(kC BK128.out 0).trans rfl, (kC BK128.out 1).trans rfl⟩ (fun hHeld => ?_)
         clear hK K
         refine norm_ (a' := ?_) ?_ ?_
         rotate_left
         ·show Act.put _ (some 10) _ = _
          simp only [Act.put, sA, sB, sC, i64_w, i32_w]
          rfl
         exact norm_ (by simp only [putAll, Act.put, sA, sB, sC] <;> rfl) (hJ3_9_14_17 (gb140) _ ⟨hHeld, BK127.out, BK128.out, BK140.out, GW140.out, GE140.out, NB127_140.out, NB140_127.out, NB128_140.out, NB140_128.out, HB.out⟩)
      intro hJ3_9_14
      refine join_ (σ := Nat) 6 #[tT, tT, tT, tT, tT, tT, tT, tT, tT, tT, tT, tT, tT, tT, tF, tT, tF, tF, tF, tF, tF] (fun s_ => [(19, .agg #[.int .i64 t129, .int .i64 t130, .bool t131]), (25, .agg #[.int .i64 t132, .int .i64 t133, .bool t134]), (8, .pointer (some ⟨s_, 0, none⟩))]) (fun s_ w' => (w'.cell? ⟨gb128, 0, none⟩ = some (.int .i64 a0_0) ∧ w'.cell? ⟨gb128, 1, none⟩ = some (.int .i64 a0_1)) ∧ (w'.heap[gb127]? = some (.cells #[.int .i64 a0_0, .int .i64 a0_1, .bool a0_2] 40 (0, 0))) ∧ (w'.heap[gb128]? = some (.cells #[.int .i64 a0_0, .int .i64 a0_1] 23 (0, 0))) ∧ (w'.heap[s_]? = some (.cells #[.int .i64 0, .int .i64 0, .bool false] 25 (0, 0))) ∧ (w.heap.size ≤ s_) ∧ (w.heap.size ≤ s_) ∧ (gb127 ≠ s_) ∧ (s_ ≠ gb127) ∧ (gb128 ≠ s_) ∧ (s_ ≠ gb128) ∧ (Below w.heap.size w w')) ?_ ?_
      ··skip
        rintro gb138 w25 ⟨hS_, h0_, h1_, h2_, h3_, h4_, h5_, h6_, h7_, h8_, h9_⟩
        have n0_ : Aside0 (w25.heap[gb127]? = some (.cells #[.int .i64 a0_0, .int .i64 a0_1, .bool a0_2] 40 (0, 0))) := ⟨h0_⟩
        have n1_ : Aside0 (w25.heap[gb128]? = some (.cells #[.int .i64 a0_0, .int .i64 a0_1] 23 (0, 0))) := ⟨h1_⟩
        have n2_ : Aside0 (w25.heap[gb138]? = some (.cells #[.int .i64 0, .int .i64 0, .bool false] 25 (0, 0))) := ⟨h2_⟩
        have n3_ : Aside0 (w.heap.size ≤ gb138) := ⟨h3_⟩
        have n4_ : Aside0 (w.heap.size ≤ gb138) := ⟨h4_⟩
        have n5_ : Aside0 (gb127 ≠ gb138) := ⟨h5_⟩
        have n6_ : Aside0 (gb138 ≠ gb127) := ⟨h6_⟩
        have n7_ : Aside0 (gb128 ≠ gb138) := ⟨h7_⟩
        have n8_ : Aside0 (gb138 ≠ gb128) := ⟨h8_⟩
        have n9_ : Aside0 (Below w.heap.size w w25) := ⟨h9_⟩
        clear BK127
        clear BK128
        clear HB
        clear h0_ h1_ h2_ h3_ h4_ h5_ h6_ h7_ h8_ h9_
        have BK127 := n0_
        have BK128 := n1_
        have BK138 := n2_
        have GW138 := n3_
        have GE138 := n4_
        have NB127_138 := n5_
        have NB138_127 := n6_
        have NB128_138 := n7_
        have NB138_128 := n8_
        have HB := n9_
        clear n0_ n1_ n2_ n3_ n4_ n5_ n6_ n7_ n8_ n9_
        have hHeld : w25.cell? ⟨gb128, 0, none⟩ = some (.int .i64 a0_0) ∧ w25.cell? ⟨gb128, 1, none⟩ = some (.int .i64 a0_1) := hS_
        refine norm_ (a' := ?_) ?_ ?_
        rotate_left
        ·simp only [putAll, Act.put, sA, sB, sC]
         rfl
        refine three_ (i := 14) (j := 16) (k := 17) (Ni := some 30) (Nj := some 9) (Nk := some 10) #[tT, tT, tT, tT, tT, tT, tT, tT, tT, tT, tT, tT, tT, tT, tT, tT, tF, tF, tF, tF, tF] #[tT, tT, tT, tT, tT, tT, tT, tT, tT, tT, tT, tT, tT, tT, tF, tT, tT, tF, tF, tF, tF] #[tT, tT, tT, tT, tT, tT, tT, tT, tT, tT, tT, tT, tT, tT, tF, tT, tF, tT, tF, tF, tF] rfl rfl rfl rfl rfl rfl (three_of HT_.out (by kernel_rfl)) (by decide) (by decide) (by decide) (fun K hK => ?_) (fun K hK => ?_) (fun K hK => ?_)
        ·skip
         refine goes_ Try.func18 (by kernel_rfl) rfl #[.agg #[.int .i64 a0_0, .int .i64 a0_1], .bool (!a1), .bool a2] (by rfl) rfl rfl (by (try simp only [List.map_toArray, List.map_cons, List.map_nil]); first | done | rfl) ?_
         with_reducible refine (addr_Make.calls a0_0 a0_1 (!a1) a2 t135 t136 t137 _ A6.out).mono ?_
         rintro e w26 ⟨rfl, hb⟩
         refine ⟨_, rfl, ?_⟩
         have n0_ := Aside0.mk (kB BK127.out hb)
         have n1_ := Aside0.mk (kB BK128.out hb)
         have n2_ := Aside0.mk (kB BK138.out hb)
         have n3_ := Aside0.mk (bT HB.out hb)
         clear BK127
         clear BK128
         clear BK138
         clear HB
         have BK127 := n0_
         have BK128 := n1_
         have BK138 := n2_
         have HB := n3_
         clear n0_ n1_ n2_ n3_
         (try clear hb)
         refine hK.out _ _ ⟨(kC BK128.out 0).trans rfl, (kC BK128.out 1).trans rfl⟩ (fun hHeld => ?_)
         clear hK K
         refine norm_ (a' := ?_) ?_ ?_
         rotate_left
         ·show Act.put _ (some 30) _ = _
          simp only [Act.put, sA, sB, sC, i64_w, i32_w]
          rfl
         exact norm_ (by simp only [putAll, Act.put, sA, sB, sC] <;> rfl) (hJ3_9_14_15 (gb138) _ ⟨hHeld, BK127.out, BK128.out, BK138.out, GW138.out, GE138.out, NB127_138.out, NB138_127.out, NB128_138.out, NB138_128.out, HB.out⟩)
        ·skip
         refine box_step ?hg (N := 9) ?hd (cs := #[.int .i64 0, .int .i64 0, .bool false]) (t := 25) ?hr ?_; (case hd => rfl); (case hg => rfl); (case hr => first | (go_simp; done) | (go_simp; rfl))
         intro gb139 hg w26 hbox hb
         have n0_ := Aside0.mk (kB BK127.out hb)
         have n1_ := Aside0.mk (kB BK128.out hb)
         have n2_ := Aside0.mk (kB BK138.out hb)
         have n3_ := Aside0.mk (bT HB.out hb)
         have n4_ := Aside0.mk (hbox)
         have n5_ := Aside0.mk ((by rw [hg]; exact (below_size HB.out) : w.heap.size ≤ gb139))
         have n6_ := n5_
         have n7_ := Aside0.mk ((by rw [hg]; exact Nat.ne_of_lt (blk_lt BK127.out) : gb127 ≠ gb139))
         have n8_ := Aside0.mk n7_.out.symm
         have n9_ := Aside0.mk ((by rw [hg]; exact Nat.ne_of_lt (blk_lt BK128.out) : gb128 ≠ gb139))
         have n10_ := Aside0.mk n9_.out.symm
         have n11_ := Aside0.mk ((by rw [hg]; exact Nat.ne_of_lt (blk_lt BK138.out) : gb138 ≠ gb139))
         have n12_ := Aside0.mk n11_.out.symm
         clear BK127
         clear BK128
         clear BK138
         clear HB
         have BK127 := n0_
         have BK128 := n1_
         have BK138 := n2_
         have HB := n3_
         have BK139 := n4_
         have GW139 := n5_
         have GE139 := n6_
         have NB127_139 := n7_
         have NB139_127 := n8_
         have NB128_139 := n9_
         have NB139_128 := n10_
         have NB138_139 := n11_
         have NB139_138 := n12_
         clear n0_ n1_ n2_ n3_ n4_ n5_ n6_ n7_ n8_ n9_ n10_ n11_ n12_
         clear hb hbox hg
         refine hK.out _ _ ⟨(kC BK128.out 0).trans rfl, (kC BK128.out 1).trans rfl⟩ (fun hHeld => ?_)
         clear hK K
         refine norm_ (a' := ?_) ?_ ?_
         rotate_left
         ·show Act.put _ (some 9) _ = _
          simp only [Act.put, sA, sB, sC, i64_w, i32_w]
          rfl
         exact norm_ (by simp only [putAll, Act.put, sA, sB, sC] <;> rfl) (hJ3_9_15_16 (gb138, gb139) _ ⟨hHeld, BK127.out, BK128.out, BK138.out, BK139.out, GW138.out, GE138.out, NB127_138.out, NB138_127.out, NB128_138.out, NB138_128.out, NB139_138.out, NB138_139.out, GW139.out, GE139.out, NB127_139.out, NB139_127.out, NB128_139.out, NB139_128.out, HB.out⟩)
        ·skip
         refine box_step ?hg (N := 10) ?hd (cs := #[.int .i64 0, .int .i64 0, .bool false]) (t := 25) ?hr ?_; (case hd => rfl); (case hg => rfl); (case hr => first | (go_simp; done) | (go_simp; rfl))
         intro gb140 hg w26 hbox hb
         have n0_ := Aside0.mk (kB BK127.out hb)
         have n1_ := Aside0.mk (kB BK128.out hb)
         have n2_ := Aside0.mk (kB BK138.out hb)
         have n3_ := Aside0.mk (bT HB.out hb)
         have n4_ := Aside0.mk (hbox)
         have n5_ := Aside0.mk ((by rw [hg]; exact (below_size HB.out) : w.heap.size ≤ gb140))
         have n6_ := n5_
         have n7_ := Aside0.mk ((by rw [hg]; exact Nat.ne_of_lt (blk_lt BK127.out) : gb127 ≠ gb140))
         have n8_ := Aside0.mk n7_.out.symm
         have n9_ := Aside0.mk ((by rw [hg]; exact Nat.ne_of_lt (blk_lt BK128.out) : gb128 ≠ gb140))
         have n10_ := Aside0.mk n9_.out.symm
         have n11_ := Aside0.mk ((by rw [hg]; exact Nat.ne_of_lt (blk_lt BK138.out) : gb138 ≠ gb140))
         have n12_ := Aside0.mk n11_.out.symm
         clear BK127
         clear BK128
         clear BK138
         clear HB
         have BK127 := n0_
         have BK128 := n1_
         have BK138 := n2_
         have HB := n3_
         have BK140 := n4_
         have GW140 := n5_
         have GE140 := n6_
         have NB127_140 := n7_
         have NB140_127 := n8_
         have NB128_140 := n9_
         have NB140_128 := n10_
         have NB138_140 := n11_
         have NB140_138 := n12_
         clear n0_ n1_ n2_ n3_ n4_ n5_ n6_ n7_ n8_ n9_ n10_ n11_ n12_
         clear hb hbox hg
         refine hK.out _ _ ⟨(kC BK128.out 0).trans rfl, (kC BK128.out 1).trans rfl⟩ (fun hHeld => ?_)
         clear hK K
         refine norm_ (a' := ?_) ?_ ?_
         rotate_left
         ·show Act.put _ (some 10) _ = _
          simp only [Act.put, sA, sB, sC, i64_w, i32_w]
          rfl
         exact norm_ (by simp only [putAll, Act.put, sA, sB, sC] <;> rfl) (hJ3_9_15_17 (gb138, gb140) _ ⟨hHeld, BK127.out, BK128.out, BK138.out, BK140.out, GW138.out, GE138.out, NB127_138.out, NB138_127.out, NB128_138.out, NB138_128.out, NB140_138.out, NB138_140.out, GW140.out, GE140.out, NB127_140.out, NB140_127.out, NB128_140.out, NB140_128.out, HB.out⟩)
      intro hJ3_9_15
      refine join_ (σ := Nat) 6 #[tT, tT, tT, tT, tT, tT, tT, tT, tT, tT, tT, tT, tT, tT, tF, tF, tT, tF, tF, tF, tF] (fun s_ => [(19, .agg #[.int .i64 t129, .int .i64 t130, .bool t131]), (25, .agg #[.int .i64 t132, .int .i64 t133, .bool t134]), (9, .pointer (some ⟨s_, 0, none⟩))]) (fun s_ w' => (w'.cell? ⟨gb128, 0, none⟩ = some (.int .i64 a0_0) ∧ w'.cell? ⟨gb128, 1, none⟩ = some (.int .i64 a0_1)) ∧ (w'.heap[gb127]? = some (.cells #[.int .i64 a0_0, .int .i64 a0_1, .bool a0_2] 40 (0, 0))) ∧ (w'.heap[gb128]? = some (.cells #[.int .i64 a0_0, .int .i64 a0_1] 23 (0, 0))) ∧ (w'.heap[s_]? = some (.cells #[.int .i64 0, .int .i64 0, .bool false] 25 (0, 0))) ∧ (w.heap.size ≤ s_) ∧ (w.heap.size ≤ s_) ∧ (gb127 ≠ s_) ∧ (s_ ≠ gb127) ∧ (gb128 ≠ s_) ∧ (s_ ≠ gb128) ∧ (Below w.heap.size w w')) ?_ ?_
      ··skip
        rintro gb139 w25 ⟨hS_, h0_, h1_, h2_, h3_, h4_, h5_, h6_, h7_, h8_, h9_⟩
        have n0_ : Aside0 (w25.heap[gb127]? = some (.cells #[.int .i64 a0_0, .int .i64 a0_1, .bool a0_2] 40 (0, 0))) := ⟨h0_⟩
        have n1_ : Aside0 (w25.heap[gb128]? = some (.cells #[.int .i64 a0_0, .int .i64 a0_1] 23 (0, 0))) := ⟨h1_⟩
        have n2_ : Aside0 (w25.heap[gb139]? = some (.cells #[.int .i64 0, .int .i64 0, .bool false] 25 (0, 0))) := ⟨h2_⟩
        have n3_ : Aside0 (w.heap.size ≤ gb139) := ⟨h3_⟩
        have n4_ : Aside0 (w.heap.size ≤ gb139) := ⟨h4_⟩
        have n5_ : Aside0 (gb127 ≠ gb139) := ⟨h5_⟩
        have n6_ : Aside0 (gb139 ≠ gb127) := ⟨h6_⟩
        have n7_ : Aside0 (gb128 ≠ gb139) := ⟨h7_⟩
        have n8_ : Aside0 (gb139 ≠ gb128) := ⟨h8_⟩
        have n9_ : Aside0 (Below w.heap.size w w25) := ⟨h9_⟩
        clear BK127
        clear BK128
        clear HB
        clear h0_ h1_ h2_ h3_ h4_ h5_ h6_ h7_ h8_ h9_
        have BK127 := n0_
        have BK128 := n1_
        have BK139 := n2_
        have GW139 := n3_
        have GE139 := n4_
        have NB127_139 := n5_
        have NB139_127 := n6_
        have NB128_139 := n7_
        have NB139_128 := n8_
        have HB := n9_
        clear n0_ n1_ n2_ n3_ n4_ n5_ n6_ n7_ n8_ n9_
        have hHeld : w25.cell? ⟨gb128, 0, none⟩ = some (.int .i64 a0_0) ∧ w25.cell? ⟨gb128, 1, none⟩ = some (.int .i64 a0_1) := hS_
        refine norm_ (a' := ?_) ?_ ?_
        rotate_left
        ·simp only [putAll, Act.put, sA, sB, sC]
         rfl
        refine three_ (i := 14) (j := 15) (k := 17) (Ni := some 30) (Nj := some 8) (Nk := some 10) #[tT, tT, tT, tT, tT, tT, tT, tT, tT, tT, tT, tT, tT, tT, tT, tF, tT, tF, tF, tF, tF] #[tT, tT, tT, tT, tT, tT, tT, tT, tT, tT, tT, tT, tT, tT, tF, tT, tT, tF, tF, tF, tF] #[tT, tT, tT, tT, tT, tT, tT, tT, tT, tT, tT, tT, tT, tT, tF, tF, tT, tT, tF, tF, tF] rfl rfl rfl rfl rfl rfl (three_of HT_.out (by kernel_rfl)) (by decide) (by decide) (by decide) (fun K hK => ?_) (fun K hK => ?_) (fun K hK => ?_)
        ·skip
         refine goes_ Try.func18 (by kernel_rfl) rfl #[.agg #[.int .i64 a0_0, .int .i64 a0_1], .bool (!a1), .bool a2] (by rfl) rfl rfl (by (try simp only [List.map_toArray, List.map_cons, List.map_nil]); first | done | rfl) ?_
         with_reducible refine (addr_Make.calls a0_0 a0_1 (!a1) a2 t135 t136 t137 _ A6.out).mono ?_
         rintro e w26 ⟨rfl, hb⟩
         refine ⟨_, rfl, ?_⟩
         have n0_ := Aside0.mk (kB BK127.out hb)
         have n1_ := Aside0.mk (kB BK128.out hb)
         have n2_ := Aside0.mk (kB BK139.out hb)
         have n3_ := Aside0.mk (bT HB.out hb)
         clear BK127
         clear BK128
         clear BK139
         clear HB
         have BK127 := n0_
         have BK128 := n1_
         have BK139 := n2_
         have HB := n3_
         clear n0_ n1_ n2_ n3_
         (try clear hb)
         refine hK.out _ _ ⟨(kC BK128.out 0).trans rfl, (kC BK128.out 1).trans rfl⟩ (fun hHeld => ?_)
         clear hK K
         refine norm_ (a' := ?_) ?_ ?_
         rotate_left
         ·show Act.put _ (some 30) _ = _
          simp only [Act.put, sA, sB, sC, i64_w, i32_w]
          rfl
         exact norm_ (by simp only [putAll, Act.put, sA, sB, sC] <;> rfl) (hJ3_9_14_16 (gb139) _ ⟨hHeld, BK127.out, BK128.out, BK139.out, GW139.out, GE139.out, NB127_139.out, NB139_127.out, NB128_139.out, NB139_128.out, HB.out⟩)
        ·skip
         refine box_step ?hg (N := 8) ?hd (cs := #[.int .i64 0, .int .i64 0, .bool false]) (t := 25) ?hr ?_; (case hd => rfl); (case hg => rfl); (case hr => first | (go_simp; done) | (go_simp; rfl))
         intro gb138 hg w26 hbox hb
         have n0_ := Aside0.mk (kB BK127.out hb)
         have n1_ := Aside0.mk (kB BK128.out hb)
         have n2_ := Aside0.mk (kB BK139.out hb)
         have n3_ := Aside0.mk (bT HB.out hb)
         have n4_ := Aside0.mk (hbox)
         have n5_ := Aside0.mk ((by rw [hg]; exact (below_size HB.out) : w.heap.size ≤ gb138))
         have n6_ := n5_
         have n7_ := Aside0.mk ((by rw [hg]; exact Nat.ne_of_lt (blk_lt BK127.out) : gb127 ≠ gb138))
         have n8_ := Aside0.mk n7_.out.symm
         have n9_ := Aside0.mk ((by rw [hg]; exact Nat.ne_of_lt (blk_lt BK128.out) : gb128 ≠ gb138))
         have n10_ := Aside0.mk n9_.out.symm
         have n11_ := Aside0.mk ((by rw [hg]; exact Nat.ne_of_lt (blk_lt BK139.out) : gb139 ≠ gb138))
         have n12_ := Aside0.mk n11_.out.symm
         clear BK127
         clear BK128
         clear BK139
         clear HB
         have BK127 := n0_
         have BK128 := n1_
         have BK139 := n2_
         have HB := n3_
         have BK138 := n4_
         have GW138 := n5_
         have GE138 := n6_
         have NB127_138 := n7_
         have NB138_127 := n8_
         have NB128_138 := n9_
         have NB138_128 := n10_
         have NB139_138 := n11_
         have NB138_139 := n12_
         clear n0_ n1_ n2_ n3_ n4_ n5_ n6_ n7_ n8_ n9_ n10_ n11_ n12_
         clear hb hbox hg
         refine hK.out _ _ ⟨(kC BK128.out 0).trans rfl, (kC BK128.out 1).trans rfl⟩ (fun hHeld => ?_)
         clear hK K
         refine norm_ (a' := ?_) ?_ ?_
         rotate_left
         ·show Act.put _ (some 8) _ = _
          simp only [Act.put, sA, sB, sC, i64_w, i32_w]
          rfl
         exact norm_ (by simp only [putAll, Act.put, sA, sB, sC] <;> rfl) (hJ3_9_15_16 (gb138, gb139) _ ⟨hHeld, BK127.out, BK128.out, BK138.out, BK139.out, GW138.out, GE138.out, NB127_138.out, NB138_127.out, NB128_138.out, NB138_128.out, NB139_138.out, NB138_139.out, GW139.out, GE139.out, NB127_139.out, NB139_127.out, NB128_139.out, NB139_128.out, HB.out⟩)
        ·skip
         refine box_step ?hg (N := 10) ?hd (cs := #[.int .i64 0, .int .i64 0, .bool false]) (t := 25) ?hr ?_; (case hd => rfl); (case hg => rfl); (case hr => first | (go_simp; done) | (go_simp; rfl))
         intro gb140 hg w26 hbox hb
         have n0_ := Aside0.mk (kB BK127.out hb)
         have n1_ := Aside0.mk (kB BK128.out hb)
         have n2_ := Aside0.mk (kB BK139.out hb)
         have n3_ := Aside0.mk (bT HB.out hb)
         have n4_ := Aside0.mk (hbox)
         have n5_ := Aside0.mk ((by rw [hg]; exact (below_size HB.out) : w.heap.size ≤ gb140))
         have n6_ := n5_
         have n7_ := Aside0.mk ((by rw [hg]; exact Nat.ne_of_lt (blk_lt BK127.out) : gb127 ≠ gb140))
         have n8_ := Aside0.mk n7_.out.symm
         have n9_ := Aside0.mk ((by rw [hg]; exact Nat.ne_of_lt (blk_lt BK128.out) : gb128 ≠ gb140))
         have n10_ := Aside0.mk n9_.out.symm
         have n11_ := Aside0.mk ((by rw [hg]; exact Nat.ne_of_lt (blk_lt BK139.out) : gb139 ≠ gb140))
         have n12_ := Aside0.mk n11_.out.symm
         clear BK127
         clear BK128
         clear BK139
         clear HB
         have BK127 := n0_
         have BK128 := n1_
         have BK139 := n2_
         have HB := n3_
         have BK140 := n4_
         have GW140 := n5_
         have GE140 := n6_
         have NB127_140 := n7_
         have NB140_127 := n8_
         have NB128_140 := n9_
         have NB140_128 := n10_
         have NB139_140 := n11_
         have NB140_139 := n12_
         clear n0_ n1_ n2_ n3_ n4_ n5_ n6_ n7_ n8_ n9_ n10_ n11_ n12_
         clear hb hbox hg
         refine hK.out _ _ ⟨(kC BK128.out 0).trans rfl, (kC BK128.out 1).trans rfl⟩ (fun hHeld => ?_)
         clear hK K
         refine norm_ (a' := ?_) ?_ ?_
         rotate_left
         ·show Act.put _ (some 10) _ = _
          simp only [Act.put, sA, sB, sC, i64_w, i32_w]
          rfl
         exact norm_ (by simp only [putAll, Act.put, sA, sB, sC] <;> rfl) (hJ3_9_16_17 (gb139, gb140) _ ⟨hHeld, BK127.out, BK128.out, BK139.out, BK140.out, GW139.out, GE139.out, NB127_139.out, NB139_127.out, NB128_139.out, NB139_128.out, NB140_139.out, NB139_140.out, GW140.out, GE140.out, NB127_140.out, NB140_127.out, NB128_140.out, NB140_128.out, HB.out⟩)
      intro hJ3_9_16
      refine join_ (σ := Nat) 6 #[tT, tT, tT, tT, tT, tT, tT, tT, tT, tT, tT, tT, tT, tT, tF, tF, tF, tT, tF, tF, tF] (fun s_ => [(19, .agg #[.int .i64 t129, .int .i64 t130, .bool t131]), (25, .agg #[.int .i64 t132, .int .i64 t133, .bool t134]), (10, .pointer (some ⟨s_, 0, none⟩))]) (fun s_ w' => (w'.cell? ⟨gb128, 0, none⟩ = some (.int .i64 a0_0) ∧ w'.cell? ⟨gb128, 1, none⟩ = some (.int .i64 a0_1)) ∧ (w'.heap[gb127]? = some (.cells #[.int .i64 a0_0, .int .i64 a0_1, .bool a0_2] 40 (0, 0))) ∧ (w'.heap[gb128]? = some (.cells #[.int .i64 a0_0, .int .i64 a0_1] 23 (0, 0))) ∧ (w'.heap[s_]? = some (.cells #[.int .i64 0, .int .i64 0, .bool false] 25 (0, 0))) ∧ (w.heap.size ≤ s_) ∧ (w.heap.size ≤ s_) ∧ (gb127 ≠ s_) ∧ (s_ ≠ gb127) ∧ (gb128 ≠ s_) ∧ (s_ ≠ gb128) ∧ (Below w.heap.size w w')) ?_ ?_
      ··skip
        rintro gb140 w25 ⟨hS_, h0_, h1_, h2_, h3_, h4_, h5_, h6_, h7_, h8_, h9_⟩
        have n0_ : Aside0 (w25.heap[gb127]? = some (.cells #[.int .i64 a0_0, .int .i64 a0_1, .bool a0_2] 40 (0, 0))) := ⟨h0_⟩
        have n1_ : Aside0 (w25.heap[gb128]? = some (.cells #[.int .i64 a0_0, .int .i64 a0_1] 23 (0, 0))) := ⟨h1_⟩
        have n2_ : Aside0 (w25.heap[gb140]? = some (.cells #[.int .i64 0, .int .i64 0, .bool false] 25 (0, 0))) := ⟨h2_⟩
        have n3_ : Aside0 (w.heap.size ≤ gb140) := ⟨h3_⟩
        have n4_ : Aside0 (w.heap.size ≤ gb140) := ⟨h4_⟩
        have n5_ : Aside0 (gb127 ≠ gb140) := ⟨h5_⟩
        have n6_ : Aside0 (gb140 ≠ gb127) := ⟨h6_⟩
        have n7_ : Aside0 (gb128 ≠ gb140) := ⟨h7_⟩
        have n8_ : Aside0 (gb140 ≠ gb128) := ⟨h8_⟩
        have n9_ : Aside0 (Below w.heap.size w w25) := ⟨h9_⟩
        clear BK127
        clear BK128
        clear HB
        clear h0_ h1_ h2_ h3_ h4_ h5_ h6_ h7_ h8_ h9_
        have BK127 := n0_
        have BK128 := n1_
        have BK140 := n2_
        have GW140 := n3_
        have GE140 := n4_
        have NB127_140 := n5_
        have NB140_127 := n6_
        have NB128_140 := n7_
        have NB140_128 := n8_
        have HB := n9_
        clear n0_ n1_ n2_ n3_ n4_ n5_ n6_ n7_ n8_ n9_
        have hHeld : w25.cell? ⟨gb128, 0, none⟩ = some (.int .i64 a0_0) ∧ w25.cell? ⟨gb128, 1, none⟩ = some (.int .i64 a0_1) := hS_
        refine norm_ (a' := ?_) ?_ ?_
        rotate_left
        ·simp only [putAll, Act.put, sA, sB, sC]
         rfl
        refine three_ (i := 14) (j := 15) (k := 16) (Ni := some 30) (Nj := some 8) (Nk := some 9) #[tT, tT, tT, tT, tT, tT, tT, tT, tT, tT, tT, tT, tT, tT, tT, tF, tF, tT, tF, tF, tF] #[tT, tT, tT, tT, tT, tT, tT, tT, tT, tT, tT, tT, tT, tT, tF, tT, tF, tT, tF, tF, tF] #[tT, tT, tT, tT, tT, tT, tT, tT, tT, tT, tT, tT, tT, tT, tF, tF, tT, tT, tF, tF, tF] rfl rfl rfl rfl rfl rfl (three_of HT_.out (by kernel_rfl)) (by decide) (by decide) (by decide) (fun K hK => ?_) (fun K hK => ?_) (fun K hK => ?_)
        ·skip
         refine goes_ Try.func18 (by kernel_rfl) rfl #[.agg #[.int .i64 a0_0, .int .i64 a0_1], .bool (!a1), .bool a2] (by rfl) rfl rfl (by (try simp only [List.map_toArray, List.map_cons, List.map_nil]); first | done | rfl) ?_
         with_reducible refine (addr_Make.calls a0_0 a0_1 (!a1) a2 t135 t136 t137 _ A6.out).mono ?_
         rintro e w26 ⟨rfl, hb⟩
         refine ⟨_, rfl, ?_⟩
         have n0_ := Aside0.mk (kB BK127.out hb)
         have n1_ := Aside0.mk (kB BK128.out hb)
         have n2_ := Aside0.mk (kB BK140.out hb)
         have n3_ := Aside0.mk (bT HB.out hb)
         clear BK127
         clear BK128
         clear BK140
         clear HB
         have BK127 := n0_
         have BK128 := n1_
         have BK140 := n2_
         have HB := n3_
         clear n0_ n1_ n2_ n3_
         (try clear hb)
         refine hK.out _ _ ⟨(kC BK128.out 0).trans rfl, (kC BK128.out 1).trans rfl⟩ (fun hHeld => ?_)
         clear hK K
         refine norm_ (a' := ?_) ?_ ?_
         rotate_left
         ·show Act.put _ (some 30) _ = _
          simp only [Act.put, sA, sB, sC, i64_w, i32_w]
          rfl
         exact norm_ (by simp only [putAll, Act.put, sA, sB, sC] <;> rfl) (hJ3_9_14_17 (gb140) _ ⟨hHeld, BK127.out, BK128.out, BK140.out, GW140.out, GE140.out, NB127_140.out, NB140_127.out, NB128_140.out, NB140_128.out, HB.out⟩)
        ·skip
         refine box_step ?hg (N := 8) ?hd (cs := #[.int .i64 0, .int .i64 0, .bool false]) (t := 25) ?hr ?_; (case hd => rfl); (case hg => rfl); (case hr => first | (go_simp; done) | (go_simp; rfl))
         intro gb138 hg w26 hbox hb
         have n0_ := Aside0.mk (kB BK127.out hb)
         have n1_ := Aside0.mk (kB BK128.out hb)
         have n2_ := Aside0.mk (kB BK140.out hb)
         have n3_ := Aside0.mk (bT HB.out hb)
         have n4_ := Aside0.mk (hbox)
         have n5_ := Aside0.mk ((by rw [hg]; exact (below_size HB.out) : w.heap.size ≤ gb138))
         have n6_ := n5_
         have n7_ := Aside0.mk ((by rw [hg]; exact Nat.ne_of_lt (blk_lt BK127.out) : gb127 ≠ gb138))
         have n8_ := Aside0.mk n7_.out.symm
         have n9_ := Aside0.mk ((by rw [hg]; exact Nat.ne_of_lt (blk_lt BK128.out) : gb128 ≠ gb138))
         have n10_ := Aside0.mk n9_.out.symm
         have n11_ := Aside0.mk ((by rw [hg]; exact Nat.ne_of_lt (blk_lt BK140.out) : gb140 ≠ gb138))
         have n12_ := Aside0.mk n11_.out.symm
         clear BK127
         clear BK128
         clear BK140
         clear HB
         have BK127 := n0_
         have BK128 := n1_
         have BK140 := n2_
         have HB := n3_
         have BK138 := n4_
         have GW138 := n5_
         have GE138 := n6_
         have NB127_138 := n7_
         have NB138_127 := n8_
         have NB128_138 := n9_
         have NB138_128 := n10_
         have NB140_138 := n11_
         have NB138_140 := n12_
         clear n0_ n1_ n2_ n3_ n4_ n5_ n6_ n7_ n8_ n9_ n10_ n11_ n12_
         clear hb hbox hg
         refine hK.out _ _ ⟨(kC BK128.out 0).trans rfl, (kC BK128.out 1).trans rfl⟩ (fun hHeld => ?_)
         clear hK K
         refine norm_ (a' := ?_) ?_ ?_
         rotate_left
         ·show Act.put _ (some 8) _ = _
          simp only [Act.put, sA, sB, sC, i64_w, i32_w]
          rfl
         exact norm_ (by simp only [putAll, Act.put, sA, sB, sC] <;> rfl) (hJ3_9_15_17 (gb138, gb140) _ ⟨hHeld, BK127.out, BK128.out, BK138.out, BK140.out, GW138.out, GE138.out, NB127_138.out, NB138_127.out, NB128_138.out, NB138_128.out, NB140_138.out, NB138_140.out, GW140.out, GE140.out, NB127_140.out, NB140_127.out, NB128_140.out, NB140_128.out, HB.out⟩)
        ·skip
         refine box_step ?hg (N := 9) ?hd (cs := #[.int .i64 0, .int .i64 0, .bool false]) (t := 25) ?hr ?_; (case hd => rfl); (case hg => rfl); (case hr => first | (go_simp; done) | (go_simp; rfl))
         intro gb139 hg w26 hbox hb
         have n0_ := Aside0.mk (kB BK127.out hb)
         have n1_ := Aside0.mk (kB BK128.out hb)
         have n2_ := Aside0.mk (kB BK140.out hb)
         have n3_ := Aside0.mk (bT HB.out hb)
         have n4_ := Aside0.mk (hbox)
         have n5_ := Aside0.mk ((by rw [hg]; exact (below_size HB.out) : w.heap.size ≤ gb139))
         have n6_ := n5_
         have n7_ := Aside0.mk ((by rw [hg]; exact Nat.ne_of_lt (blk_lt BK127.out) : gb127 ≠ gb139))
         have n8_ := Aside0.mk n7_.out.symm
         have n9_ := Aside0.mk ((by rw [hg]; exact Nat.ne_of_lt (blk_lt BK128.out) : gb128 ≠ gb139))
         have n10_ := Aside0.mk n9_.out.symm
         have n11_ := Aside0.mk ((by rw [hg]; exact Nat.ne_of_lt (blk_lt BK140.out) : gb140 ≠ gb139))
         have n12_ := Aside0.mk n11_.out.symm
         clear BK127
         clear BK128
         clear BK140
         clear HB
         have BK127 := n0_
         have BK128 := n1_
         have BK140 := n2_
         have HB := n3_
         have BK139 := n4_
         have GW139 := n5_
         have GE139 := n6_
         have NB127_139 := n7_
         have NB139_127 := n8_
         have NB128_139 := n9_
         have NB139_128 := n10_
         have NB140_139 := n11_
         have NB139_140 := n12_
         clear n0_ n1_ n2_ n3_ n4_ n5_ n6_ n7_ n8_ n9_ n10_ n11_ n12_
         clear hb hbox hg
         refine hK.out _ _ ⟨(kC BK128.out 0).trans rfl, (kC BK128.out 1).trans rfl⟩ (fun hHeld => ?_)
         clear hK K
         refine norm_ (a' := ?_) ?_ ?_
         rotate_left
         ·show Act.put _ (some 9) _ = _
          simp only [Act.put, sA, sB, sC, i64_w, i32_w]
          rfl
         exact norm_ (by simp only [putAll, Act.put, sA, sB, sC] <;> rfl) (hJ3_9_16_17 (gb139, gb140) _ ⟨hHeld, BK127.out, BK128.out, BK139.out, BK140.out, GW139.out, GE139.out, NB127_139.out, NB139_127.out, NB128_139.out, NB139_128.out, NB140_139.out, NB139_140.out, GW140.out, GE140.out, NB127_140.out, NB140_127.out, NB128_140.out, NB140_128.out, HB.out⟩)
      intro hJ3_9_17
      refine join_ (σ := Nat × Nat) 6 #[tT, tT, tT, tT, tT, tT, tT, tT, tT, tF, tT, tT, tT, tT, tF, tT, tT, tF, tF, tF, tF] (fun s_ => [(19, .agg #[.int .i64 t129, .int .i64 t130, .bool t131]), (8, .pointer (some ⟨s_.1, 0, none⟩)), (9, .pointer (some ⟨s_.2, 0, none⟩))]) (fun s_ w' => (w'.cell? ⟨gb128, 0, none⟩ = some (.int .i64 a0_0) ∧ w'.cell? ⟨gb128, 1, none⟩ = some (.int .i64 a0_1)) ∧ (w'.heap[gb127]? = some (.cells #[.int .i64 a0_0, .int .i64 a0_1, .bool a0_2] 40 (0, 0))) ∧ (w'.heap[gb128]? = some (.cells #[.int .i64 a0_0, .int .i64 a0_1] 23 (0, 0))) ∧ (w'.heap[s_.1]? = some (.cells #[.int .i64 0, .int .i64 0, .bool false] 25 (0, 0))) ∧ (w'.heap[s_.2]? = some (.cells #[.int .i64 0, .int .i64 0, .bool false] 25 (0, 0))) ∧ (w.heap.size ≤ s_.1) ∧ (w.heap.size ≤ s_.1) ∧ (gb127 ≠ s_.1) ∧ (s_.1 ≠ gb127) ∧ (gb128 ≠ s_.1) ∧ (s_.1 ≠ gb128) ∧ (s_.2 ≠ s_.1) ∧ (s_.1 ≠ s_.2) ∧ (w.heap.size ≤ s_.2) ∧ (w.heap.size ≤ s_.2) ∧ (gb127 ≠ s_.2) ∧ (s_.2 ≠ gb127) ∧ (gb128 ≠ s_.2) ∧ (s_.2 ≠ gb128) ∧ (Below w.heap.size w w')) ?_ ?_
      ··skip
        rintro ⟨gb138, gb139⟩ w25 ⟨hS_, h0_, h1_, h2_, h3_, h4_, h5_, h6_, h7_, h8_, h9_, h10_, h11_, h12_, h13_, h14_, h15_, h16_, h17_, h18_⟩
        have n0_ : Aside0 (w25.heap[gb127]? = some (.cells #[.int .i64 a0_0, .int .i64 a0_1, .bool a0_2] 40 (0, 0))) := ⟨h0_⟩
        have n1_ : Aside0 (w25.heap[gb128]? = some (.cells #[.int .i64 a0_0, .int .i64 a0_1] 23 (0, 0))) := ⟨h1_⟩
        have n2_ : Aside0 (w25.heap[gb138]? = some (.cells #[.int .i64 0, .int .i64 0, .bool false] 25 (0, 0))) := ⟨h2_⟩
        have n3_ : Aside0 (w25.heap[gb139]? = some (.cells #[.int .i64 0, .int .i64 0, .bool false] 25 (0, 0))) := ⟨h3_⟩
        have n4_ : Aside0 (w.heap.size ≤ gb138) := ⟨h4_⟩
        have n5_ : Aside0 (w.heap.size ≤ gb138) := ⟨h5_⟩
        have n6_ : Aside0 (gb127 ≠ gb138) := ⟨h6_⟩
        have n7_ : Aside0 (gb138 ≠ gb127) := ⟨h7_⟩
        have n8_ : Aside0 (gb128 ≠ gb138) := ⟨h8_⟩
        have n9_ : Aside0 (gb138 ≠ gb128) := ⟨h9_⟩
        have n10_ : Aside0 (gb139 ≠ gb138) := ⟨h10_⟩
        have n11_ : Aside0 (gb138 ≠ gb139) := ⟨h11_⟩
        have n12_ : Aside0 (w.heap.size ≤ gb139) := ⟨h12_⟩
        have n13_ : Aside0 (w.heap.size ≤ gb139) := ⟨h13_⟩
        have n14_ : Aside0 (gb127 ≠ gb139) := ⟨h14_⟩
        have n15_ : Aside0 (gb139 ≠ gb127) := ⟨h15_⟩
        have n16_ : Aside0 (gb128 ≠ gb139) := ⟨h16_⟩
        have n17_ : Aside0 (gb139 ≠ gb128) := ⟨h17_⟩
        have n18_ : Aside0 (Below w.heap.size w w25) := ⟨h18_⟩
        clear BK127
        clear BK128
        clear HB
        clear h0_ h1_ h2_ h3_ h4_ h5_ h6_ h7_ h8_ h9_ h10_ h11_ h12_ h13_ h14_ h15_ h16_ h17_ h18_
        have BK127 := n0_
        have BK128 := n1_
        have BK138 := n2_
        have BK139 := n3_
        have GW138 := n4_
        have GE138 := n5_
        have NB127_138 := n6_
        have NB138_127 := n7_
        have NB128_138 := n8_
        have NB138_128 := n9_
        have NB139_138 := n10_
        have NB138_139 := n11_
        have GW139 := n12_
        have GE139 := n13_
        have NB127_139 := n14_
        have NB139_127 := n15_
        have NB128_139 := n16_
        have NB139_128 := n17_
        have HB := n18_
        clear n0_ n1_ n2_ n3_ n4_ n5_ n6_ n7_ n8_ n9_ n10_ n11_ n12_ n13_ n14_ n15_ n16_ n17_ n18_
        have hHeld : w25.cell? ⟨gb128, 0, none⟩ = some (.int .i64 a0_0) ∧ w25.cell? ⟨gb128, 1, none⟩ = some (.int .i64 a0_1) := hS_
        refine norm_ (a' := ?_) ?_ ?_
        rotate_left
        ·simp only [putAll, Act.put, sA, sB, sC]
         rfl
        refine two_ (i := 9) (j := 17) (Ni := some 25) (Nj := some 10) #[tT, tT, tT, tT, tT, tT, tT, tT, tT, tT, tT, tT, tT, tT, tF, tT, tT, tF, tF, tF, tF] #[tT, tT, tT, tT, tT, tT, tT, tT, tT, tF, tT, tT, tT, tT, tF, tT, tT, tT, tF, tF, tF] rfl rfl rfl rfl (two_of HT_.out (by kernel_rfl)) (by decide) (by decide) (fun K hK => ?_) (fun K hK => ?_)
        ·skip
         refine goes_ Try.func18 (by kernel_rfl) rfl #[.agg #[.int .i64 a0_0, .int .i64 a0_1], .bool (!a1), .bool (!a2)] (by rfl) rfl rfl (by (try simp only [List.map_toArray, List.map_cons, List.map_nil]); first | done | rfl) ?_
         with_reducible refine (addr_Make.calls a0_0 a0_1 (!a1) (!a2) t132 t133 t134 _ A5.out).mono ?_
         rintro e w26 ⟨rfl, hb⟩
         refine ⟨_, rfl, ?_⟩
         have n0_ := Aside0.mk (kB BK127.out hb)
         have n1_ := Aside0.mk (kB BK128.out hb)
         have n2_ := Aside0.mk (kB BK138.out hb)
         have n3_ := Aside0.mk (kB BK139.out hb)
         have n4_ := Aside0.mk (bT HB.out hb)
         clear BK127
         clear BK128
         clear BK138
         clear BK139
         clear HB
         have BK127 := n0_
         have BK128 := n1_
         have BK138 := n2_
         have BK139 := n3_
         have HB := n4_
         clear n0_ n1_ n2_ n3_ n4_
         (try clear hb)
         refine hK.out _ _ ⟨(kC BK128.out 0).trans rfl, (kC BK128.out 1).trans rfl⟩ (fun hHeld => ?_)
         clear hK K
         refine norm_ (a' := ?_) ?_ ?_
         rotate_left
         ·show Act.put _ (some 25) _ = _
          simp only [Act.put, sA, sB, sC, i64_w, i32_w]
          rfl
         exact norm_ (by simp only [putAll, Act.put, sA, sB, sC] <;> rfl) (hJ3_9_15_16 (gb138, gb139) _ ⟨hHeld, BK127.out, BK128.out, BK138.out, BK139.out, GW138.out, GE138.out, NB127_138.out, NB138_127.out, NB128_138.out, NB138_128.out, NB139_138.out, NB138_139.out, GW139.out, GE139.out, NB127_139.out, NB139_127.out, NB128_139.out, NB139_128.out, HB.out⟩)
        ·skip
         refine box_step ?hg (N := 10) ?hd (cs := #[.int .i64 0, .int .i64 0, .bool false]) (t := 25) ?hr ?_; (case hd => rfl); (case hg => rfl); (case hr => first | (go_simp; done) | (go_simp; rfl))
         intro gb140 hg w26 hbox hb
         have n0_ := Aside0.mk (kB BK127.out hb)
         have n1_ := Aside0.mk (kB BK128.out hb)
         have n2_ := Aside0.mk (kB BK138.out hb)
         have n3_ := Aside0.mk (kB BK139.out hb)
         have n4_ := Aside0.mk (bT HB.out hb)
         have n5_ := Aside0.mk (hbox)
         have n6_ := Aside0.mk ((by rw [hg]; exact (below_size HB.out) : w.heap.size ≤ gb140))
         have n7_ := n6_
         have n8_ := Aside0.mk ((by rw [hg]; exact Nat.ne_of_lt (blk_lt BK127.out) : gb127 ≠ gb140))
         have n9_ := Aside0.mk n8_.out.symm
         have n10_ := Aside0.mk ((by rw [hg]; exact Nat.ne_of_lt (blk_lt BK128.out) : gb128 ≠ gb140))
         have n11_ := Aside0.mk n10_.out.symm
         have n12_ := Aside0.mk ((by rw [hg]; exact Nat.ne_of_lt (blk_lt BK138.out) : gb138 ≠ gb140))
         have n13_ := Aside0.mk n12_.out.symm
         have n14_ := Aside0.mk ((by rw [hg]; exact Nat.ne_of_lt (blk_lt BK139.out) : gb139 ≠ gb140))
         have n15_ := Aside0.mk n14_.out.symm
         clear BK127
         clear BK128
         clear BK138
         clear BK139
         clear HB
         have BK127 := n0_
         have BK128 := n1_
         have BK138 := n2_
         have BK139 := n3_
         have HB := n4_
         have BK140 := n5_
         have GW140 := n6_
         have GE140 := n7_
         have NB127_140 := n8_
         have NB140_127 := n9_
         have NB128_140 := n10_
         have NB140_128 := n11_
         have NB138_140 := n12_
         have NB140_138 := n13_
         have NB139_140 := n14_
         have NB140_139 := n15_
         clear n0_ n1_ n2_ n3_ n4_ n5_ n6_ n7_ n8_ n9_ n10_ n11_ n12_ n13_ n14_ n15_
         clear hb hbox hg
         refine hK.out _ _ ⟨(kC BK128.out 0).trans rfl, (kC BK128.out 1).trans rfl⟩ (fun hHeld => ?_)
         clear hK K
         refine norm_ (a' := ?_) ?_ ?_
         rotate_left
         ·show Act.put _ (some 10) _ = _
          simp only [Act.put, sA, sB, sC, i64_w, i32_w]
          rfl
         exact norm_ (by simp only [putAll, Act.put, sA, sB, sC] <;> rfl) (hJ3_15_16_17 (gb138, gb139, gb140) _ ⟨hHeld, BK127.out, BK128.out, BK138.out, BK139.out, BK140.out, GW138.out, GE138.out, NB127_138.out, NB138_127.out, NB128_138.out, NB138_128.out, NB139_138.out, NB138_139.out, NB140_138.out, NB138_140.out, GW139.out, GE139.out, NB127_139.out, NB139_127.out, NB128_139.out, NB139_128.out, NB140_139.out, NB139_140.out, GW140.out, GE140.out, NB127_140.out, NB140_127.out, NB128_140.out, NB140_128.out, HB.out⟩)
      intro hJ3_15_16
      refine join_ (σ := Nat × Nat) 6 #[tT, tT, tT, tT, tT, tT, tT, tT, tT, tF, tT, tT, tT, tT, tF, tT, tF, tT, tF, tF, tF] (fun s_ => [(19, .agg #[.int .i64 t129, .int .i64 t130, .bool t131]), (8, .pointer (some ⟨s_.1, 0, none⟩)), (10, .pointer (some ⟨s_.2, 0, none⟩))]) (fun s_ w' => (w'.cell? ⟨gb128, 0, none⟩ = some (.int .i64 a0_0) ∧ w'.cell? ⟨gb128, 1, none⟩ = some (.int .i64 a0_1)) ∧ (w'.heap[gb127]? = some (.cells #[.int .i64 a0_0, .int .i64 a0_1, .bool a0_2] 40 (0, 0))) ∧ (w'.heap[gb128]? = some (.cells #[.int .i64 a0_0, .int .i64 a0_1] 23 (0, 0))) ∧ (w'.heap[s_.1]? = some (.cells #[.int .i64 0, .int .i64 0, .bool false] 25 (0, 0))) ∧ (w'.heap[s_.2]? = some (.cells #[.int .i64 0, .int .i64 0, .bool false] 25 (0, 0))) ∧ (w.heap.size ≤ s_.1) ∧ (w.heap.size ≤ s_.1) ∧ (gb127 ≠ s_.1) ∧ (s_.1 ≠ gb127) ∧ (gb128 ≠ s_.1) ∧ (s_.1 ≠ gb128) ∧ (s_.2 ≠ s_.1) ∧ (s_.1 ≠ s_.2) ∧ (w.heap.size ≤ s_.2) ∧ (w.heap.size ≤ s_.2) ∧ (gb127 ≠ s_.2) ∧ (s_.2 ≠ gb127) ∧ (gb128 ≠ s_.2) ∧ (s_.2 ≠ gb128) ∧ (Below w.heap.size w w')) ?_ ?_
      ··skip
        rintro ⟨gb138, gb140⟩ w25 ⟨hS_, h0_, h1_, h2_, h3_, h4_, h5_, h6_, h7_, h8_, h9_, h10_, h11_, h12_, h13_, h14_, h15_, h16_, h17_, h18_⟩
        have n0_ : Aside0 (w25.heap[gb127]? = some (.cells #[.int .i64 a0_0, .int .i64 a0_1, .bool a0_2] 40 (0, 0))) := ⟨h0_⟩
        have n1_ : Aside0 (w25.heap[gb128]? = some (.cells #[.int .i64 a0_0, .int .i64 a0_1] 23 (0, 0))) := ⟨h1_⟩
        have n2_ : Aside0 (w25.heap[gb138]? = some (.cells #[.int .i64 0, .int .i64 0, .bool false] 25 (0, 0))) := ⟨h2_⟩
        have n3_ : Aside0 (w25.heap[gb140]? = some (.cells #[.int .i64 0, .int .i64 0, .bool false] 25 (0, 0))) := ⟨h3_⟩
        have n4_ : Aside0 (w.heap.size ≤ gb138) := ⟨h4_⟩
        have n5_ : Aside0 (w.heap.size ≤ gb138) := ⟨h5_⟩
        have n6_ : Aside0 (gb127 ≠ gb138) := ⟨h6_⟩
        have n7_ : Aside0 (gb138 ≠ gb127) := ⟨h7_⟩
        have n8_ : Aside0 (gb128 ≠ gb138) := ⟨h8_⟩
        have n9_ : Aside0 (gb138 ≠ gb128) := ⟨h9_⟩
        have n10_ : Aside0 (gb140 ≠ gb138) := ⟨h10_⟩
        have n11_ : Aside0 (gb138 ≠ gb140) := ⟨h11_⟩
        have n12_ : Aside0 (w.heap.size ≤ gb140) := ⟨h12_⟩
        have n13_ : Aside0 (w.heap.size ≤ gb140) := ⟨h13_⟩
        have n14_ : Aside0 (gb127 ≠ gb140) := ⟨h14_⟩
        have n15_ : Aside0 (gb140 ≠ gb127) := ⟨h15_⟩
        have n16_ : Aside0 (gb128 ≠ gb140) := ⟨h16_⟩
        have n17_ : Aside0 (gb140 ≠ gb128) := ⟨h17_⟩
        have n18_ : Aside0 (Below w.heap.size w w25) := ⟨h18_⟩
        clear BK127
        clear BK128
        clear HB
        clear h0_ h1_ h2_ h3_ h4_ h5_ h6_ h7_ h8_ h9_ h10_ h11_ h12_ h13_ h14_ h15_ h16_ h17_ h18_
        have BK127 := n0_
        have BK128 := n1_
        have BK138 := n2_
        have BK140 := n3_
        have GW138 := n4_
        have GE138 := n5_
        have NB127_138 := n6_
        have NB138_127 := n7_
        have NB128_138 := n8_
        have NB138_128 := n9_
        have NB140_138 := n10_
        have NB138_140 := n11_
        have GW140 := n12_
        have GE140 := n13_
        have NB127_140 := n14_
        have NB140_127 := n15_
        have NB128_140 := n16_
        have NB140_128 := n17_
        have HB := n18_
        clear n0_ n1_ n2_ n3_ n4_ n5_ n6_ n7_ n8_ n9_ n10_ n11_ n12_ n13_ n14_ n15_ n16_ n17_ n18_
        have hHeld : w25.cell? ⟨gb128, 0, none⟩ = some (.int .i64 a0_0) ∧ w25.cell? ⟨gb128, 1, none⟩ = some (.int .i64 a0_1) := hS_
        refine norm_ (a' := ?_) ?_ ?_
        rotate_left
        ·simp only [putAll, Act.put, sA, sB, sC]
         rfl
        refine two_ (i := 9) (j := 16) (Ni := some 25) (Nj := some 9) #[tT, tT, tT, tT, tT, tT, tT, tT, tT, tT, tT, tT, tT, tT, tF, tT, tF, tT, tF, tF, tF] #[tT, tT, tT, tT, tT, tT, tT, tT, tT, tF, tT, tT, tT, tT, tF, tT, tT, tT, tF, tF, tF] rfl rfl rfl rfl (two_of HT_.out (by kernel_rfl)) (by decide) (by decide) (fun K hK => ?_) (fun K hK => ?_)
        ·skip
         refine goes_ Try.func18 (by kernel_rfl) rfl #[.agg #[.int .i64 a0_0, .int .i64 a0_1], .bool (!a1), .bool (!a2)] (by rfl) rfl rfl (by (try simp only [List.map_toArray, List.map_cons, List.map_nil]); first | done | rfl) ?_
         with_reducible refine (addr_Make.calls a0_0 a0_1 (!a1) (!a2) t132 t133 t134 _ A5.out).mono ?_
         rintro e w26 ⟨rfl, hb⟩
         refine ⟨_, rfl, ?_⟩
         have n0_ := Aside0.mk (kB BK127.out hb)
         have n1_ := Aside0.mk (kB BK128.out hb)
         have n2_ := Aside0.mk (kB BK138.out hb)
         have n3_ := Aside0.mk (kB BK140.out hb)
         have n4_ := Aside0.mk (bT HB.out hb)
         clear BK127
         clear BK128
         clear BK138
         clear BK140
         clear HB
         have BK127 := n0_
         have BK128 := n1_
         have BK138 := n2_
         have BK140 := n3_
         have HB := n4_
         clear n0_ n1_ n2_ n3_ n4_
         (try clear hb)
         refine hK.out _ _ ⟨(kC BK128.out 0).trans rfl, (kC BK128.out 1).trans rfl⟩ (fun hHeld => ?_)
         clear hK K
         refine norm_ (a' := ?_) ?_ ?_
         rotate_left
         ·show Act.put _ (some 25) _ = _
          simp only [Act.put, sA, sB, sC, i64_w, i32_w]
          rfl
         exact norm_ (by simp only [putAll, Act.put, sA, sB, sC] <;> rfl) (hJ3_9_15_17 (gb138, gb140) _ ⟨hHeld, BK127.out, BK128.out, BK138.out, BK140.out, GW138.out, GE138.out, NB127_138.out, NB138_127.out, NB128_138.out, NB138_128.out, NB140_138.out, NB138_140.out, GW140.out, GE140.out, NB127_140.out, NB140_127.out, NB128_140.out, NB140_128.out, HB.out⟩)
        ·skip
         refine box_step ?hg (N := 9) ?hd (cs := #[.int .i64 0, .int .i64 0, .bool false]) (t := 25) ?hr ?_; (case hd => rfl); (case hg => rfl); (case hr => first | (go_simp; done) | (go_simp; rfl))
         intro gb139 hg w26 hbox hb
         have n0_ := Aside0.mk (kB BK127.out hb)
         have n1_ := Aside0.mk (kB BK128.out hb)
         have n2_ := Aside0.mk (kB BK138.out hb)
         have n3_ := Aside0.mk (kB BK140.out hb)
         have n4_ := Aside0.mk (bT HB.out hb)
         have n5_ := Aside0.mk (hbox)
         have n6_ := Aside0.mk ((by rw [hg]; exact (below_size HB.out) : w.heap.size ≤ gb139))
         have n7_ := n6_
         have n8_ := Aside0.mk ((by rw [hg]; exact Nat.ne_of_lt (blk_lt BK127.out) : gb127 ≠ gb139))
         have n9_ := Aside0.mk n8_.out.symm
         have n10_ := Aside0.mk ((by rw [hg]; exact Nat.ne_of_lt (blk_lt BK128.out) : gb128 ≠ gb139))
         have n11_ := Aside0.mk n10_.out.symm
         have n12_ := Aside0.mk ((by rw [hg]; exact Nat.ne_of_lt (blk_lt BK138.out) : gb138 ≠ gb139))
         have n13_ := Aside0.mk n12_.out.symm
         have n14_ := Aside0.mk ((by rw [hg]; exact Nat.ne_of_lt (blk_lt BK140.out) : gb140 ≠ gb139))
         have n15_ := Aside0.mk n14_.out.symm
         clear BK127
         clear BK128
         clear BK138
         clear BK140
         clear HB
         have BK127 := n0_
         have BK128 := n1_
         have BK138 := n2_
         have BK140 := n3_
         have HB := n4_
         have BK139 := n5_
         have GW139 := n6_
         have GE139 := n7_
         have NB127_139 := n8_
         have NB139_127 := n9_
         have NB128_139 := n10_
         have NB139_128 := n11_
         have NB138_139 := n12_
         have NB139_138 := n13_
         have NB140_139 := n14_
         have NB139_140 := n15_
         clear n0_ n1_ n2_ n3_ n4_ n5_ n6_ n7_ n8_ n9_ n10_ n11_ n12_ n13_ n14_ n15_
         clear hb hbox hg
         refine hK.out _ _ ⟨(kC BK128.out 0).trans rfl, (kC BK128.out 1).trans rfl⟩ (fun hHeld => ?_)
         clear hK K
         refine norm_ (a' := ?_) ?_ ?_
         rotate_left
         ·show Act.put _ (some 9) _ = _
          simp only [Act.put, sA, sB, sC, i64_w, i32_w]
          rfl
         exact norm_ (by simp only [putAll, Act.put, sA, sB, sC] <;> rfl) (hJ3_15_16_17 (gb138, gb139, gb140) _ ⟨hHeld, BK127.out, BK128.out, BK138.out, BK139.out, BK140.out, GW138.out, GE138.out, NB127_138.out, NB138_127.out, NB128_138.out, NB138_128.out, NB139_138.out, NB138_139.out, NB140_138.out, NB138_140.out, GW139.out, GE139.out, NB127_139.out, NB139_127.out, NB128_139.out, NB139_128.out, NB140_139.out, NB139_140.out, GW140.out, GE140.out, NB127_140.out, NB140_127.out, NB128_140.out, NB140_128.out, HB.out⟩)
      intro hJ3_15_17
      refine join_ (σ := Nat × Nat) 6 #[tT, tT, tT, tT, tT, tT, tT, tT, tT, tF, tT, tT, tT, tT, tF, tF, tT, tT, tF, tF, tF] (fun s_ => [(19, .agg #[.int .i64 t129, .int .i64 t130, .bool t131]), (9, .pointer (some ⟨s_.1, 0, none⟩)), (10, .pointer (some ⟨s_.2, 0, none⟩))]) (fun s_ w' => (w'.cell? ⟨gb128, 0, none⟩ = some (.int .i64 a0_0) ∧ w'.cell? ⟨gb128, 1, none⟩ = some (.int .i64 a0_1)) ∧ (w'.heap[gb127]? = some (.cells #[.int .i64 a0_0, .int .i64 a0_1, .bool a0_2] 40 (0, 0))) ∧ (w'.heap[gb128]? = some (.cells #[.int .i64 a0_0, .int .i64 a0_1] 23 (0, 0))) ∧ (w'.heap[s_.1]? = some (.cells #[.int .i64 0, .int .i64 0, .bool false] 25 (0, 0))) ∧ (w'.heap[s_.2]? = some (.cells #[.int .i64 0, .int .i64 0, .bool false] 25 (0, 0))) ∧ (w.heap.size ≤ s_.1) ∧ (w.heap.size ≤ s_.1) ∧ (gb127 ≠ s_.1) ∧ (s_.1 ≠ gb127) ∧ (gb128 ≠ s_.1) ∧ (s_.1 ≠ gb128) ∧ (s_.2 ≠ s_.1) ∧ (s_.1 ≠ s_.2) ∧ (w.heap.size ≤ s_.2) ∧ (w.heap.size ≤ s_.2) ∧ (gb127 ≠ s_.2) ∧ (s_.2 ≠ gb127) ∧ (gb128 ≠ s_.2) ∧ (s_.2 ≠ gb128) ∧ (Below w.heap.size w w')) ?_ ?_
      ··skip
        rintro ⟨gb139, gb140⟩ w25 ⟨hS_, h0_, h1_, h2_, h3_, h4_, h5_, h6_, h7_, h8_, h9_, h10_, h11_, h12_, h13_, h14_, h15_, h16_, h17_, h18_⟩
        have n0_ : Aside0 (w25.heap[gb127]? = some (.cells #[.int .i64 a0_0, .int .i64 a0_1, .bool a0_2] 40 (0, 0))) := ⟨h0_⟩
        have n1_ : Aside0 (w25.heap[gb128]? = some (.cells #[.int .i64 a0_0, .int .i64 a0_1] 23 (0, 0))) := ⟨h1_⟩
        have n2_ : Aside0 (w25.heap[gb139]? = some (.cells #[.int .i64 0, .int .i64 0, .bool false] 25 (0, 0))) := ⟨h2_⟩
        have n3_ : Aside0 (w25.heap[gb140]? = some (.cells #[.int .i64 0, .int .i64 0, .bool false] 25 (0, 0))) := ⟨h3_⟩
        have n4_ : Aside0 (w.heap.size ≤ gb139) := ⟨h4_⟩
        have n5_ : Aside0 (w.heap.size ≤ gb139) := ⟨h5_⟩
        have n6_ : Aside0 (gb127 ≠ gb139) := ⟨h6_⟩
        have n7_ : Aside0 (gb139 ≠ gb127) := ⟨h7_⟩
        have n8_ : Aside0 (gb128 ≠ gb139) := ⟨h8_⟩
        have n9_ : Aside0 (gb139 ≠ gb128) := ⟨h9_⟩
        have n10_ : Aside0 (gb140 ≠ gb139) := ⟨h10_⟩
        have n11_ : Aside0 (gb139 ≠ gb140) := ⟨h11_⟩
        have n12_ : Aside0 (w.heap.size ≤ gb140) := ⟨h12_⟩
        have n13_ : Aside0 (w.heap.size ≤ gb140) := ⟨h13_⟩
        have n14_ : Aside0 (gb127 ≠ gb140) := ⟨h14_⟩
        have n15_ : Aside0 (gb140 ≠ gb127) := ⟨h15_⟩
        have n16_ : Aside0 (gb128 ≠ gb140) := ⟨h16_⟩
        have n17_ : Aside0 (gb140 ≠ gb128) := ⟨h17_⟩
        have n18_ : Aside0 (Below w.heap.size w w25) := ⟨h18_⟩
        clear BK127
        clear BK128
        clear HB
        clear h0_ h1_ h2_ h3_ h4_ h5_ h6_ h7_ h8_ h9_ h10_ h11_ h12_ h13_ h14_ h15_ h16_ h17_ h18_
        have BK127 := n0_
        have BK128 := n1_
        have BK139 := n2_
        have BK140 := n3_
        have GW139 := n4_
        have GE139 := n5_
        have NB127_139 := n6_
        have NB139_127 := n7_
        have NB128_139 := n8_
        have NB139_128 := n9_
        have NB140_139 := n10_
        have NB139_140 := n11_
        have GW140 := n12_
        have GE140 := n13_
        have NB127_140 := n14_
        have NB140_127 := n15_
        have NB128_140 := n16_
        have NB140_128 := n17_
        have HB := n18_
        clear n0_ n1_ n2_ n3_ n4_ n5_ n6_ n7_ n8_ n9_ n10_ n11_ n12_ n13_ n14_ n15_ n16_ n17_ n18_
        have hHeld : w25.cell? ⟨gb128, 0, none⟩ = some (.int .i64 a0_0) ∧ w25.cell? ⟨gb128, 1, none⟩ = some (.int .i64 a0_1) := hS_
        refine norm_ (a' := ?_) ?_ ?_
        rotate_left
        ·simp only [putAll, Act.put, sA, sB, sC]
         rfl
        refine two_ (i := 9) (j := 15) (Ni := some 25) (Nj := some 8) #[tT, tT, tT, tT, tT, tT, tT, tT, tT, tT, tT, tT, tT, tT, tF, tF, tT, tT, tF, tF, tF] #[tT, tT, tT, tT, tT, tT, tT, tT, tT, tF, tT, tT, tT, tT, tF, tT, tT, tT, tF, tF, tF] rfl rfl rfl rfl (two_of HT_.out (by kernel_rfl)) (by decide) (by decide) (fun K hK => ?_) (fun K hK => ?_)
        ·skip
         refine goes_ Try.func18 (by kernel_rfl) rfl #[.agg #[.int .i64 a0_0, .int .i64 a0_1], .bool (!a1), .bool (!a2)] (by rfl) rfl rfl (by (try simp only [List.map_toArray, List.map_cons, List.map_nil]); first | done | rfl) ?_
         with_reducible refine (addr_Make.calls a0_0 a0_1 (!a1) (!a2) t132 t133 t134 _ A5.out).mono ?_
         rintro e w26 ⟨rfl, hb⟩
         refine ⟨_, rfl, ?_⟩
         have n0_ := Aside0.mk (kB BK127.out hb)
         have n1_ := Aside0.mk (kB BK128.out hb)
         have n2_ := Aside0.mk (kB BK139.out hb)
         have n3_ := Aside0.mk (kB BK140.out hb)
         have n4_ := Aside0.mk (bT HB.out hb)
         clear BK127
         clear BK128
         clear BK139
         clear BK140
         clear HB
         have BK127 := n0_
         have BK128 := n1_
         have BK139 := n2_
         have BK140 := n3_
         have HB := n4_
         clear n0_ n1_ n2_ n3_ n4_
         (try clear hb)
         refine hK.out _ _ ⟨(kC BK128.out 0).trans rfl, (kC BK128.out 1).trans rfl⟩ (fun hHeld => ?_)
         clear hK K
         refine norm_ (a' := ?_) ?_ ?_
         rotate_left
         ·show Act.put _ (some 25) _ = _
          simp only [Act.put, sA, sB, sC, i64_w, i32_w]
          rfl
         exact norm_ (by simp only [putAll, Act.put, sA, sB, sC] <;> rfl) (hJ3_9_16_17 (gb139, gb140) _ ⟨hHeld, BK127.out, BK128.out, BK139.out, BK140.out, GW139.out, GE139.out, NB127_139.out, NB139_127.out, NB128_139.out, NB139_128.out, NB140_139.out, NB139_140.out, GW140.out, GE140.out, NB127_140.out, NB140_127.out, NB128_140.out, NB140_128.out, HB.out⟩)
        ·skip
         refine box_step ?hg (N := 8) ?hd (cs := #[.int .i64 0, .int .i64 0, .bool false]) (t := 25) ?hr ?_; (case hd => rfl); (case hg => rfl); (case hr => first | (go_simp; done) | (go_simp; rfl))
         intro gb138 hg w26 hbox hb
         have n0_ := Aside0.mk (kB BK127.out hb)
         have n1_ := Aside0.mk (kB BK128.out hb)
         have n2_ := Aside0.mk (kB BK139.out hb)
         have n3_ := Aside0.mk (kB BK140.out hb)
         have n4_ := Aside0.mk (bT HB.out hb)
         have n5_ := Aside0.mk (hbox)
         have n6_ := Aside0.mk ((by rw [hg]; exact (below_size HB.out) : w.heap.size ≤ gb138))
         have n7_ := n6_
         have n8_ := Aside0.mk ((by rw [hg]; exact Nat.ne_of_lt (blk_lt BK127.out) : gb127 ≠ gb138))
         have n9_ := Aside0.mk n8_.out.symm
         have n10_ := Aside0.mk ((by rw [hg]; exact Nat.ne_of_lt (blk_lt BK128.out) : gb128 ≠ gb138))
         have n11_ := Aside0.mk n10_.out.symm
         have n12_ := Aside0.mk ((by rw [hg]; exact Nat.ne_of_lt (blk_lt BK139.out) : gb139 ≠ gb138))
         have n13_ := Aside0.mk n12_.out.symm
         have n14_ := Aside0.mk ((by rw [hg]; exact Nat.ne_of_lt (blk_lt BK140.out) : gb140 ≠ gb138))
         have n15_ := Aside0.mk n14_.out.symm
         clear BK127
         clear BK128
         clear BK139
         clear BK140
         clear HB
         have BK127 := n0_
         have BK128 := n1_
         have BK139 := n2_
         have BK140 := n3_
         have HB := n4_
         have BK138 := n5_
         have GW138 := n6_
         have GE138 := n7_
         have NB127_138 := n8_
         have NB138_127 := n9_
         have NB128_138 := n10_
         have NB138_128 := n11_
         have NB139_138 := n12_
         have NB138_139 := n13_
         have NB140_138 := n14_
         have NB138_140 := n15_
         clear n0_ n1_ n2_ n3_ n4_ n5_ n6_ n7_ n8_ n9_ n10_ n11_ n12_ n13_ n14_ n15_
         clear hb hbox hg
         refine hK.out _ _ ⟨(kC BK128.out 0).trans rfl, (kC BK128.out 1).trans rfl⟩ (fun hHeld => ?_)
         clear hK K
         refine norm_ (a' := ?_) ?_ ?_
         rotate_left
         ·show Act.put _ (some 8) _ = _
          simp only [Act.put, sA, sB, sC, i64_w, i32_w]
          rfl
         exact norm_ (by simp only [putAll, Act.put, sA, sB, sC] <;> rfl) (hJ3_15_16_17 (gb138, gb139, gb140) _ ⟨hHeld, BK127.out, BK128.out, BK138.out, BK139.out, BK140.out, GW138.out, GE138.out, NB127_138.out, NB138_127.out, NB128_138.out, NB138_128.out, NB139_138.out, NB138_139.out, NB140_138.out, NB138_140.out, GW139.out, GE139.out, NB127_139.out, NB139_127.out, NB128_139.out, NB139_128.out, NB140_139.out, NB139_140.out, GW140.out, GE140.out, NB127_140.out, NB140_127.out, NB128_140.out, NB140_128.out, HB.out⟩)
      intro hJ3_16_17
      refine join_ (σ := Nat × Nat × Nat) 6 #[tT, tT, tT, tF, tT, tT, tT, tT, tT, tF, tT, tT, tT, tT, tF, tT, tT, tT, tF, tF, tF] (fun s_ => [(8, .pointer (some ⟨s_.1, 0, none⟩)), (9, .pointer (some ⟨s_.2.1, 0, none⟩)), (10, .pointer (some ⟨s_.2.2, 0, none⟩))]) (fun s_ w' => (w'.cell? ⟨gb128, 0, none⟩ = some (.int .i64 a0_0) ∧ w'.cell? ⟨gb128, 1, none⟩ = some (.int .i64 a0_1)) ∧ (w'.heap[gb127]? = some (.cells #[.int .i64 a0_0, .int .i64 a0_1, .bool a0_2] 40 (0, 0))) ∧ (w'.heap[gb128]? = some (.cells #[.int .i64 a0_0, .int .i64 a0_1] 23 (0, 0))) ∧ (w'.heap[s_.1]? = some (.cells #[.int .i64 0, .int .i64 0, .bool false] 25 (0, 0))) ∧ (w'.heap[s_.2.1]? = some (.cells #[.int .i64 0, .int .i64 0, .bool false] 25 (0, 0))) ∧ (w'.heap[s_.2.2]? = some (.cells #[.int .i64 0, .int .i64 0, .bool false] 25 (0, 0))) ∧ (w.heap.size ≤ s_.1) ∧ (w.heap.size ≤ s_.1) ∧ (gb127 ≠ s_.1) ∧ (s_.1 ≠ gb127) ∧ (gb128 ≠ s_.1) ∧ (s_.1 ≠ gb128) ∧ (s_.2.1 ≠ s_.1) ∧ (s_.1 ≠ s_.2.1) ∧ (s_.2.2 ≠ s_.1) ∧ (s_.1 ≠ s_.2.2) ∧ (w.heap.size ≤ s_.2.1) ∧ (w.heap.size ≤ s_.2.1) ∧ (gb127 ≠ s_.2.1) ∧ (s_.2.1 ≠ gb127) ∧ (gb128 ≠ s_.2.1) ∧ (s_.2.1 ≠ gb128) ∧ (s_.2.2 ≠ s_.2.1) ∧ (s_.2.1 ≠ s_.2.2) ∧ (w.heap.size ≤ s_.2.2) ∧ (w.heap.size ≤ s_.2.2) ∧ (gb127 ≠ s_.2.2) ∧ (s_.2.2 ≠ gb127) ∧ (gb128 ≠ s_.2.2) ∧ (s_.2.2 ≠ gb128) ∧ (Below w.heap.size w w')) ?_ ?_
      ··skip
        rintro ⟨gb138, gb139, gb140⟩ w25 ⟨hS_, h0_, h1_, h2_, h3_, h4_, h5_, h6_, h7_, h8_, h9_, h10_, h11_, h12_, h13_, h14_, h15_, h16_, h17_, h18_, h19_, h20_, h21_, h22_, h23_, h24_, h25_, h26_, h27_, h28_, h29_⟩
        have n0_ : Aside0 (w25.heap[gb127]? = some (.cells #[.int .i64 a0_0, .int .i64 a0_1, .bool a0_2] 40 (0, 0))) := ⟨h0_⟩
        have n1_ : Aside0 (w25.heap[gb128]? = some (.cells #[.int .i64 a0_0, .int .i64 a0_1] 23 (0, 0))) := ⟨h1_⟩
        have n2_ : Aside0 (w25.heap[gb138]? = some (.cells #[.int .i64 0, .int .i64 0, .bool false] 25 (0, 0))) := ⟨h2_⟩
        have n3_ : Aside0 (w25.heap[gb139]? = some (.cells #[.int .i64 0, .int .i64 0, .bool false] 25 (0, 0))) := ⟨h3_⟩
        have n4_ : Aside0 (w25.heap[gb140]? = some (.cells #[.int .i64 0, .int .i64 0, .bool false] 25 (0, 0))) := ⟨h4_⟩
        have n5_ : Aside0 (w.heap.size ≤ gb138) := ⟨h5_⟩
        have n6_ : Aside0 (w.heap.size ≤ gb138) := ⟨h6_⟩
        have n7_ : Aside0 (gb127 ≠ gb138) := ⟨h7_⟩
        have n8_ : Aside0 (gb138 ≠ gb127) := ⟨h8_⟩
        have n9_ : Aside0 (gb128 ≠ gb138) := ⟨h9_⟩
        have n10_ : Aside0 (gb138 ≠ gb128) := ⟨h10_⟩
        have n11_ : Aside0 (gb139 ≠ gb138) := ⟨h11_⟩
        have n12_ : Aside0 (gb138 ≠ gb139) := ⟨h12_⟩
        have n13_ : Aside0 (gb140 ≠ gb138) := ⟨h13_⟩
        have n14_ : Aside0 (gb138 ≠ gb140) := ⟨h14_⟩
        have n15_ : Aside0 (w.heap.size ≤ gb139) := ⟨h15_⟩
        have n16_ : Aside0 (w.heap.size ≤ gb139) := ⟨h16_⟩
        have n17_ : Aside0 (gb127 ≠ gb139) := ⟨h17_⟩
        have n18_ : Aside0 (gb139 ≠ gb127) := ⟨h18_⟩
        have n19_ : Aside0 (gb128 ≠ gb139) := ⟨h19_⟩
        have n20_ : Aside0 (gb139 ≠ gb128) := ⟨h20_⟩
        have n21_ : Aside0 (gb140 ≠ gb139) := ⟨h21_⟩
        have n22_ : Aside0 (gb139 ≠ gb140) := ⟨h22_⟩
        have n23_ : Aside0 (w.heap.size ≤ gb140) := ⟨h23_⟩
        have n24_ : Aside0 (w.heap.size ≤ gb140) := ⟨h24_⟩
        have n25_ : Aside0 (gb127 ≠ gb140) := ⟨h25_⟩
        have n26_ : Aside0 (gb140 ≠ gb127) := ⟨h26_⟩
        have n27_ : Aside0 (gb128 ≠ gb140) := ⟨h27_⟩
        have n28_ : Aside0 (gb140 ≠ gb128) := ⟨h28_⟩
        have n29_ : Aside0 (Below w.heap.size w w25) := ⟨h29_⟩
        clear BK127
        clear BK128
        clear HB
        clear h0_ h1_ h2_ h3_ h4_ h5_ h6_ h7_ h8_ h9_ h10_ h11_ h12_ h13_ h14_ h15_ h16_ h17_ h18_ h19_ h20_ h21_ h22_ h23_ h24_ h25_ h26_ h27_ h28_ h29_
        have BK127 := n0_
        have BK128 := n1_
        have BK138 := n2_
        have BK139 := n3_
        have BK140 := n4_
        have GW138 := n5_
        have GE138 := n6_
        have NB127_138 := n7_
        have NB138_127 := n8_
        have NB128_138 := n9_
        have NB138_128 := n10_
        have NB139_138 := n11_
        have NB138_139 := n12_
        have NB140_138 := n13_
        have NB138_140 := n14_
        have GW139 := n15_
        have GE139 := n16_
        have NB127_139 := n17_
        have NB139_127 := n18_
        have NB128_139 := n19_
        have NB139_128 := n20_
        have NB140_139 := n21_
        have NB139_140 := n22_
        have GW140 := n23_
        have GE140 := n24_
        have NB127_140 := n25_
        have NB140_127 := n26_
        have NB128_140 := n27_
        have NB140_128 := n28_
        have HB := n29_
        clear n0_ n1_ n2_ n3_ n4_ n5_ n6_ n7_ n8_ n9_ n10_ n11_ n12_ n13_ n14_ n15_ n16_ n17_ n18_ n19_ n20_ n21_ n22_ n23_ n24_ n25_ n26_ n27_ n28_ n29_
        have hHeld : w25.cell? ⟨gb128, 0, none⟩ = some (.int .i64 a0_0) ∧ w25.cell? ⟨gb128, 1, none⟩ = some (.int .i64 a0_1) := hS_
        refine norm_ (a' := ?_) ?_ ?_
        rotate_left
        ·simp only [putAll, Act.put, sA, sB, sC]
         rfl
        refine one_ (i := 3) (N := some 19) #[tT, tT, tT, tT, tT, tT, tT, tT, tT, tF, tT, tT, tT, tT, tF, tT, tT, tT, tF, tF, tF] rfl rfl (one_of HT_.out (by kernel_rfl)) (by decide) (fun K hK => ?_)
        refine goes_ Try.func18 (by kernel_rfl) rfl #[.agg #[.int .i64 a0_0, .int .i64 a0_1], .bool a1, .bool a2] (by rfl) rfl rfl (by (try simp only [List.map_toArray, List.map_cons, List.map_nil]); first | done | rfl) ?_
        with_reducible refine (addr_Make.calls a0_0 a0_1 a1 a2 t129 t130 t131 _ A4.out).mono ?_
        rintro e w26 ⟨rfl, hb⟩
        refine ⟨_, rfl, ?_⟩
        have n0_ := Aside0.mk (kB BK127.out hb)
        have n1_ := Aside0.mk (kB BK128.out hb)
        have n2_ := Aside0.mk (kB BK138.out hb)
        have n3_ := Aside0.mk (kB BK139.out hb)
        have n4_ := Aside0.mk (kB BK140.out hb)
        have n5_ := Aside0.mk (bT HB.out hb)
        clear BK127
        clear BK128
        clear BK138
        clear BK139
        clear BK140
        clear HB
        have BK127 := n0_
        have BK128 := n1_
        have BK138 := n2_
        have BK139 := n3_
        have BK140 := n4_
        have HB := n5_
        clear n0_ n1_ n2_ n3_ n4_ n5_
        (try clear hb)
        refine hK.out _ _ ⟨(kC BK128.out 0).trans rfl, (kC BK128.out 1).trans rfl⟩ (fun hHeld => ?_)
        clear hK K
        refine norm_ (a' := ?_) ?_ ?_
        rotate_left
        ·show Act.put _ (some 19) _ = _
         simp only [Act.put, sA, sB, sC, i64_w, i32_w]
         rfl
        exact norm_ (by simp only [putAll, Act.put, sA, sB, sC] <;> rfl) (hJ3_15_16_17 (gb138, gb139, gb140) _ ⟨hHeld, BK127.out, BK128.out, BK138.out, BK139.out, BK140.out, GW138.out, GE138.out, NB127_138.out, NB138_127.out, NB128_138.out, NB138_128.out, NB139_138.out, NB138_139.out, NB140_138.out, NB138_140.out, GW139.out, GE139.out, NB127_139.out, NB139_127.out, NB128_139.out, NB139_128.out, NB140_139.out, NB139_140.out, GW140.out, GE140.out, NB127_140.out, NB140_127.out, NB128_140.out, NB140_128.out, HB.out⟩)
      intro hJ15_16_17
      refine join_ (σ := Unit) 7 #[tT, tT, tT, tT, tT, tT, tT, tT, tT, tT, tT, tT, tT, tT, tF, tF, tF, tF, tF, tF, tF] (fun s_ => [(19, .agg #[.int .i64 t129, .int .i64 t130, .bool t131]), (25, .agg #[.int .i64 t132, .int .i64 t133, .bool t134])]) (fun s_ w' => (w'.cell? ⟨gb128, 0, none⟩ = some (.int .i64 a0_0) ∧ w'.cell? ⟨gb128, 1, none⟩ = some (.int .i64 a0_1)) ∧ (w'.heap[gb127]? = some (.cells #[.int .i64 a0_0, .int .i64 a0_1, .bool a0_2] 40 (0, 0))) ∧ (w'.heap[gb128]? = some (.cells #[.int .i64 a0_0, .int .i64 a0_1] 23 (0, 0))) ∧ (Below w.heap.size w w')) ?_ ?_
      ··skip
        rintro _ w24 ⟨hS_, h0_, h1_, h2_⟩
        have n0_ : Aside0 (w24.heap[gb127]? = some (.cells #[.int .i64 a0_0, .int .i64 a0_1, .bool a0_2] 40 (0, 0))) := ⟨h0_⟩
        have n1_ : Aside0 (w24.heap[gb128]? = some (.cells #[.int .i64 a0_0, .int .i64 a0_1] 23 (0, 0))) := ⟨h1_⟩
        have n2_ : Aside0 (Below w.heap.size w w24) := ⟨h2_⟩
        clear BK127
        clear BK128
        clear HB
        clear h0_ h1_ h2_
        have BK127 := n0_
        have BK128 := n1_
        have HB := n2_
        clear n0_ n1_ n2_
        have hHeld : w24.cell? ⟨gb128, 0, none⟩ = some (.int .i64 a0_0) ∧ w24.cell? ⟨gb128, 1, none⟩ = some (.int .i64 a0_1) := hS_
        refine norm_ (a' := ?_) ?_ ?_
        rotate_left
        ·simp only [putAll, Act.put, sA, sB, sC]
         rfl
        refine four_ (i := 14) (j := 15) (k := 16) (m := 17) (Ni := some 30) (Nj := some 8) (Nk := some 9) (Nm := some 10) #[tT, tT, tT, tT, tT, tT, tT, tT, tT, tT, tT, tT, tT, tT, tT, tF, tF, tF, tF, tF, tF] #[tT, tT, tT, tT, tT, tT, tT, tT, tT, tT, tT, tT, tT, tT, tF, tT, tF, tF, tF, tF, tF] #[tT, tT, tT, tT, tT, tT, tT, tT, tT, tT, tT, tT, tT, tT, tF, tF, tT, tF, tF, tF, tF] #[tT, tT, tT, tT, tT, tT, tT, tT, tT, tT, tT, tT, tT, tT, tF, tF, tF, tT, tF, tF, tF] rfl rfl rfl rfl rfl rfl rfl rfl (four_of HT_.out (by kernel_rfl)) (by decide) (by decide) (by decide) (by decide) (fun K hK => ?_) (fun K hK => ?_) (fun K hK => ?_) (fun K hK => ?_)
        ·skip
         refine goes_ Try.func18 (by kernel_rfl) rfl #[.agg #[.int .i64 a0_0, .int .i64 a0_1], .bool (!a1), .bool a2] (by rfl) rfl rfl (by (try simp only [List.map_toArray, List.map_cons, List.map_nil]); first | done | rfl) ?_
         with_reducible refine (addr_Make.calls a0_0 a0_1 (!a1) a2 t135 t136 t137 _ A6.out).mono ?_
         rintro e w25 ⟨rfl, hb⟩
         refine ⟨_, rfl, ?_⟩
         have n0_ := Aside0.mk (kB BK127.out hb)
         have n1_ := Aside0.mk (kB BK128.out hb)
         have n2_ := Aside0.mk (bT HB.out hb)
         clear BK127
         clear BK128
         clear HB
         have BK127 := n0_
         have BK128 := n1_
         have HB := n2_
         clear n0_ n1_ n2_
         (try clear hb)
         refine hK.out _ _ ⟨(kC BK128.out 0).trans rfl, (kC BK128.out 1).trans rfl⟩ (fun hHeld => ?_)
         clear hK K
         refine norm_ (a' := ?_) ?_ ?_
         rotate_left
         ·show Act.put _ (some 30) _ = _
          simp only [Act.put, sA, sB, sC, i64_w, i32_w]
          rfl
         exact norm_ (by simp only [putAll, Act.put, sA, sB, sC] <;> rfl) (hJ3_9_14 () _ ⟨hHeld, BK127.out, BK128.out, HB.out⟩)
        ·skip
         refine box_step ?hg (N := 8) ?hd (cs := #[.int .i64 0, .int .i64 0, .bool false]) (t := 25) ?hr ?_; (case hd => rfl); (case hg => rfl); (case hr => first | (go_simp; done) | (go_simp; rfl))
         intro gb138 hg w25 hbox hb
         have n0_ := Aside0.mk (kB BK127.out hb)
         have n1_ := Aside0.mk (kB BK128.out hb)
         have n2_ := Aside0.mk (bT HB.out hb)
         have n3_ := Aside0.mk (hbox)
         have n4_ := Aside0.mk ((by rw [hg]; exact (below_size HB.out) : w.heap.size ≤ gb138))
         have n5_ := n4_
         have n6_ := Aside0.mk ((by rw [hg]; exact Nat.ne_of_lt (blk_lt BK127.out) : gb127 ≠ gb138))
         have n7_ := Aside0.mk n6_.out.symm
         have n8_ := Aside0.mk ((by rw [hg]; exact Nat.ne_of_lt (blk_lt BK128.out) : gb128 ≠ gb138))
         have n9_ := Aside0.mk n8_.out.symm
         clear BK127
         clear BK128
         clear HB
         have BK127 := n0_
         have BK128 := n1_
         have HB := n2_
         have BK138 := n3_
         have GW138 := n4_
         have GE138 := n5_
         have NB127_138 := n6_
         have NB138_127 := n7_
         have NB128_138 := n8_
         have NB138_128 := n9_
         clear n0_ n1_ n2_ n3_ n4_ n5_ n6_ n7_ n8_ n9_
         clear hb hbox hg
         refine hK.out _ _ ⟨(kC BK128.out 0).trans rfl, (kC BK128.out 1).trans rfl⟩ (fun hHeld => ?_)
         clear hK K
         refine norm_ (a' := ?_) ?_ ?_
         rotate_left
         ·show Act.put _ (some 8) _ = _
          simp only [Act.put, sA, sB, sC, i64_w, i32_w]
          rfl
         exact norm_ (by simp only [putAll, Act.put, sA, sB, sC] <;> rfl) (hJ3_9_15 (gb138) _ ⟨hHeld, BK127.out, BK128.out, BK138.out, GW138.out, GE138.out, NB127_138.out, NB138_127.out, NB128_138.out, NB138_128.out, HB.out⟩)
        ·skip
         refine box_step ?hg (N := 9) ?hd (cs := #[.int .i64 0, .int .i64 0, .bool false]) (t := 25) ?hr ?_; (case hd => rfl); (case hg => rfl); (case hr => first | (go_simp; done) | (go_simp; rfl))
         intro gb139 hg w25 hbox hb
         have n0_ := Aside0.mk (kB BK127.out hb)
         have n1_ := Aside0.mk (kB BK128.out hb)
         have n2_ := Aside0.mk (bT HB.out hb)
         have n3_ := Aside0.mk (hbox)
         have n4_ := Aside0.mk ((by rw [hg]; exact (below_size HB.out) : w.heap.size ≤ gb139))
         have n5_ := n4_
         have n6_ := Aside0.mk ((by rw [hg]; exact Nat.ne_of_lt (blk_lt BK127.out) : gb127 ≠ gb139))
         have n7_ := Aside0.mk n6_.out.symm
         have n8_ := Aside0.mk ((by rw [hg]; exact Nat.ne_of_lt (blk_lt BK128.out) : gb128 ≠ gb139))
         have n9_ := Aside0.mk n8_.out.symm
         clear BK127
         clear BK128
         clear HB
         have BK127 := n0_
         have BK128 := n1_
         have HB := n2_
         have BK139 := n3_
         have GW139 := n4_
         have GE139 := n5_
         have NB127_139 := n6_
         have NB139_127 := n7_
         have NB128_139 := n8_
         have NB139_128 := n9_
         clear n0_ n1_ n2_ n3_ n4_ n5_ n6_ n7_ n8_ n9_
         clear hb hbox hg
         refine hK.out _ _ ⟨(kC BK128.out 0).trans rfl, (kC BK128.out 1).trans rfl⟩ (fun hHeld => ?_)
         clear hK K
         refine norm_ (a' := ?_) ?_ ?_
         rotate_left
         ·show Act.put _ (some 9) _ = _
          simp only [Act.put, sA, sB, sC, i64_w, i32_w]
          rfl
         exact norm_ (by simp only [putAll, Act.put, sA, sB, sC] <;> rfl) (hJ3_9_16 (gb139) _ ⟨hHeld, BK127.out, BK128.out, BK139.out, GW139.out, GE139.out, NB127_139.out, NB139_127.out, NB128_139.out, NB139_128.out, HB.out⟩)
        ·skip
         refine box_step ?hg (N := 10) ?hd (cs := #[.int .i64 0, .int .i64 0, .bool false]) (t := 25) ?hr ?_; (case hd => rfl); (case hg => rfl); (case hr => first | (go_simp; done) | (go_simp; rfl))
         intro gb140 hg w25 hbox hb
         have n0_ := Aside0.mk (kB BK127.out hb)
         have n1_ := Aside0.mk (kB BK128.out hb)
         have n2_ := Aside0.mk (bT HB.out hb)
         have n3_ := Aside0.mk (hbox)
         have n4_ := Aside0.mk ((by rw [hg]; exact (below_size HB.out) : w.heap.size ≤ gb140))
         have n5_ := n4_
         have n6_ := Aside0.mk ((by rw [hg]; exact Nat.ne_of_lt (blk_lt BK127.out) : gb127 ≠ gb140))
         have n7_ := Aside0.mk n6_.out.symm
         have n8_ := Aside0.mk ((by rw [hg]; exact Nat.ne_of_lt (blk_lt BK128.out) : gb128 ≠ gb140))
         have n9_ := Aside0.mk n8_.out.symm
         clear BK127
         clear BK128
         clear HB
         have BK127 := n0_
         have BK128 := n1_
         have HB := n2_
         have BK140 := n3_
         have GW140 := n4_
         have GE140 := n5_
         have NB127_140 := n6_
         have NB140_127 := n7_
         have NB128_140 := n8_
         have NB140_128 := n9_
         clear n0_ n1_ n2_ n3_ n4_ n5_ n6_ n7_ n8_ n9_
         clear hb hbox hg
         refine hK.out _ _ ⟨(kC BK128.out 0).trans rfl, (kC BK128.out 1).trans rfl⟩ (fun hHeld => ?_)
         clear hK K
         refine norm_ (a' := ?_) ?_ ?_
         rotate_left
         ·show Act.put _ (some 10) _ = _
          simp only [Act.put, sA, sB, sC, i64_w, i32_w]
          rfl
         exact norm_ (by simp only [putAll, Act.put, sA, sB, sC] <;> rfl) (hJ3_9_17 (gb140) _ ⟨hHeld, BK127.out, BK128.out, BK140.out, GW140.out, GE140.out, NB127_140.out, NB140_127.out, NB128_140.out, NB140_128.out, HB.out⟩)
      intro hJ3_9
      refine join_ (σ := Nat) 7 #[tT, tT, tT, tT, tT, tT, tT, tT, tT, tF, tT, tT, tT, tT, tF, tT, tF, tF, tF, tF, tF] (fun s_ => [(19, .agg #[.int .i64 t129, .int .i64 t130, .bool t131]), (8, .pointer (some ⟨s_, 0, none⟩))]) (fun s_ w' => (w'.cell? ⟨gb128, 0, none⟩ = some (.int .i64 a0_0) ∧ w'.cell? ⟨gb128, 1, none⟩ = some (.int .i64 a0_1)) ∧ (w'.heap[gb127]? = some (.cells #[.int .i64 a0_0, .int .i64 a0_1, .bool a0_2] 40 (0, 0))) ∧ (w'.heap[gb128]? = some (.cells #[.int .i64 a0_0, .int .i64 a0_1] 23 (0, 0))) ∧ (w'.heap[s_]? = some (.cells #[.int .i64 0, .int .i64 0, .bool false] 25 (0, 0))) ∧ (w.heap.size ≤ s_) ∧ (w.heap.size ≤ s_) ∧ (gb127 ≠ s_) ∧ (s_ ≠ gb127) ∧ (gb128 ≠ s_) ∧ (s_ ≠ gb128) ∧ (Below w.heap.size w w')) ?_ ?_
      ··skip
        rintro gb138 w24 ⟨hS_, h0_, h1_, h2_, h3_, h4_, h5_, h6_, h7_, h8_, h9_⟩
        have n0_ : Aside0 (w24.heap[gb127]? = some (.cells #[.int .i64 a0_0, .int .i64 a0_1, .bool a0_2] 40 (0, 0))) := ⟨h0_⟩
        have n1_ : Aside0 (w24.heap[gb128]? = some (.cells #[.int .i64 a0_0, .int .i64 a0_1] 23 (0, 0))) := ⟨h1_⟩
        have n2_ : Aside0 (w24.heap[gb138]? = some (.cells #[.int .i64 0, .int .i64 0, .bool false] 25 (0, 0))) := ⟨h2_⟩
        have n3_ : Aside0 (w.heap.size ≤ gb138) := ⟨h3_⟩
        have n4_ : Aside0 (w.heap.size ≤ gb138) := ⟨h4_⟩
        have n5_ : Aside0 (gb127 ≠ gb138) := ⟨h5_⟩
        have n6_ : Aside0 (gb138 ≠ gb127) := ⟨h6_⟩
        have n7_ : Aside0 (gb128 ≠ gb138) := ⟨h7_⟩
        have n8_ : Aside0 (gb138 ≠ gb128) := ⟨h8_⟩
        have n9_ : Aside0 (Below w.heap.size w w24) := ⟨h9_⟩
        clear BK127
        clear BK128
        clear HB
        clear h0_ h1_ h2_ h3_ h4_ h5_ h6_ h7_ h8_ h9_
        have BK127 := n0_
        have BK128 := n1_
        have BK138 := n2_
        have GW138 := n3_
        have GE138 := n4_
        have NB127_138 := n5_
        have NB138_127 := n6_
        have NB128_138 := n7_
        have NB138_128 := n8_
        have HB := n9_
        clear n0_ n1_ n2_ n3_ n4_ n5_ n6_ n7_ n8_ n9_
        have hHeld : w24.cell? ⟨gb128, 0, none⟩ = some (.int .i64 a0_0) ∧ w24.cell? ⟨gb128, 1, none⟩ = some (.int .i64 a0_1) := hS_
        refine norm_ (a' := ?_) ?_ ?_
        rotate_left
        ·simp only [putAll, Act.put, sA, sB, sC]
         rfl
        refine three_ (i := 9) (j := 16) (k := 17) (Ni := some 25) (Nj := some 9) (Nk := some 10) #[tT, tT, tT, tT, tT, tT, tT, tT, tT, tT, tT, tT, tT, tT, tF, tT, tF, tF, tF, tF, tF] #[tT, tT, tT, tT, tT, tT, tT, tT, tT, tF, tT, tT, tT, tT, tF, tT, tT, tF, tF, tF, tF] #[tT, tT, tT, tT, tT, tT, tT, tT, tT, tF, tT, tT, tT, tT, tF, tT, tF, tT, tF, tF, tF] rfl rfl rfl rfl rfl rfl (three_of HT_.out (by kernel_rfl)) (by decide) (by decide) (by decide) (fun K hK => ?_) (fun K hK => ?_) (fun K hK => ?_)
        ·skip
         refine goes_ Try.func18 (by kernel_rfl) rfl #[.agg #[.int .i64 a0_0, .int .i64 a0_1], .bool (!a1), .bool (!a2)] (by rfl) rfl rfl (by (try simp only [List.map_toArray, List.map_cons, List.map_nil]); first | done | rfl) ?_
         with_reducible refine (addr_Make.calls a0_0 a0_1 (!a1) (!a2) t132 t133 t134 _ A5.out).mono ?_
         rintro e w25 ⟨rfl, hb⟩
         refine ⟨_, rfl, ?_⟩
         have n0_ := Aside0.mk (kB BK127.out hb)
         have n1_ := Aside0.mk (kB BK128.out hb)
         have n2_ := Aside0.mk (kB BK138.out hb)
         have n3_ := Aside0.mk (bT HB.out hb)
         clear BK127
         clear BK128
         clear BK138
         clear HB
         have BK127 := n0_
         have BK128 := n1_
         have BK138 := n2_
         have HB := n3_
         clear n0_ n1_ n2_ n3_
         (try clear hb)
         refine hK.out _ _ ⟨(kC BK128.out 0).trans rfl, (kC BK128.out 1).trans rfl⟩ (fun hHeld => ?_)
         clear hK K
         refine norm_ (a' := ?_) ?_ ?_
         rotate_left
         ·show Act.put _ (some 25) _ = _
          simp only [Act.put, sA, sB, sC, i64_w, i32_w]
          rfl
         exact norm_ (by simp only [putAll, Act.put, sA, sB, sC] <;> rfl) (hJ3_9_15 (gb138) _ ⟨hHeld, BK127.out, BK128.out, BK138.out, GW138.out, GE138.out, NB127_138.out, NB138_127.out, NB128_138.out, NB138_128.out, HB.out⟩)
        ·skip
         refine box_step ?hg (N := 9) ?hd (cs := #[.int .i64 0, .int .i64 0, .bool false]) (t := 25) ?hr ?_; (case hd => rfl); (case hg => rfl); (case hr => first | (go_simp; done) | (go_simp; rfl))
         intro gb139 hg w25 hbox hb
         have n0_ := Aside0.mk (kB BK127.out hb)
         have n1_ := Aside0.mk (kB BK128.out hb)
         have n2_ := Aside0.mk (kB BK138.out hb)
         have n3_ := Aside0.mk (bT HB.out hb)
         have n4_ := Aside0.mk (hbox)
         have n5_ := Aside0.mk ((by rw [hg]; exact (below_size HB.out) : w.heap.size ≤ gb139))
         have n6_ := n5_
         have n7_ := Aside0.mk ((by rw [hg]; exact Nat.ne_of_lt (blk_lt BK127.out) : gb127 ≠ gb139))
         have n8_ := Aside0.mk n7_.out.symm
         have n9_ := Aside0.mk ((by rw [hg]; exact Nat.ne_of_lt (blk_lt BK128.out) : gb128 ≠ gb139))
         have n10_ := Aside0.mk n9_.out.symm
         have n11_ := Aside0.mk ((by rw [hg]; exact Nat.ne_of_lt (blk_lt BK138.out) : gb138 ≠ gb139))
         have n12_ := Aside0.mk n11_.out.symm
         clear BK127
         clear BK128
         clear BK138
         clear HB
         have BK127 := n0_
         have BK128 := n1_
         have BK138 := n2_
         have HB := n3_
         have BK139 := n4_
         have GW139 := n5_
         have GE139 := n6_
         have NB127_139 := n7_
         have NB139_127 := n8_
         have NB128_139 := n9_
         have NB139_128 := n10_
         have NB138_139 := n11_
         have NB139_138 := n12_
         clear n0_ n1_ n2_ n3_ n4_ n5_ n6_ n7_ n8_ n9_ n10_ n11_ n12_
         clear hb hbox hg
         refine hK.out _ _ ⟨(kC BK128.out 0).trans rfl, (kC BK128.out 1).trans rfl⟩ (fun hHeld => ?_)
         clear hK K
         refine norm_ (a' := ?_) ?_ ?_
         rotate_left
         ·show Act.put _ (some 9) _ = _
          simp only [Act.put, sA, sB, sC, i64_w, i32_w]
          rfl
         exact norm_ (by simp only [putAll, Act.put, sA, sB, sC] <;> rfl) (hJ3_15_16 (gb138, gb139) _ ⟨hHeld, BK127.out, BK128.out, BK138.out, BK139.out, GW138.out, GE138.out, NB127_138.out, NB138_127.out, NB128_138.out, NB138_128.out, NB139_138.out, NB138_139.out, GW139.out, GE139.out, NB127_139.out, NB139_127.out, NB128_139.out, NB139_128.out, HB.out⟩)
        ·skip
         refine box_step ?hg (N := 10) ?hd (cs := #[.int .i64 0, .int .i64 0, .bool false]) (t := 25) ?hr ?_; (case hd => rfl); (case hg => rfl); (case hr => first | (go_simp; done) | (go_simp; rfl))
         intro gb140 hg w25 hbox hb
         have n0_ := Aside0.mk (kB BK127.out hb)
         have n1_ := Aside0.mk (kB BK128.out hb)
         have n2_ := Aside0.mk (kB BK138.out hb)
         have n3_ := Aside0.mk (bT HB.out hb)
         have n4_ := Aside0.mk (hbox)
         have n5_ := Aside0.mk ((by rw [hg]; exact (below_size HB.out) : w.heap.size ≤ gb140))
         have n6_ := n5_
         have n7_ := Aside0.mk ((by rw [hg]; exact Nat.ne_of_lt (blk_lt BK127.out) : gb127 ≠ gb140))
         have n8_ := Aside0.mk n7_.out.symm
         have n9_ := Aside0.mk ((by rw [hg]; exact Nat.ne_of_lt (blk_lt BK128.out) : gb128 ≠ gb140))
         have n10_ := Aside0.mk n9_.out.symm
         have n11_ := Aside0.mk ((by rw [hg]; exact Nat.ne_of_lt (blk_lt BK138.out) : gb138 ≠ gb140))
         have n12_ := Aside0.mk n11_.out.symm
         clear BK127
         clear BK128
         clear BK138
         clear HB
         have BK127 := n0_
         have BK128 := n1_
         have BK138 := n2_
         have HB := n3_
         have BK140 := n4_
         have GW140 := n5_
         have GE140 := n6_
         have NB127_140 := n7_
         have NB140_127 := n8_
         have NB128_140 := n9_
         have NB140_128 := n10_
         have NB138_140 := n11_
         have NB140_138 := n12_
         clear n0_ n1_ n2_ n3_ n4_ n5_ n6_ n7_ n8_ n9_ n10_ n11_ n12_
         clear hb hbox hg
         refine hK.out _ _ ⟨(kC BK128.out 0).trans rfl, (kC BK128.out 1).trans rfl⟩ (fun hHeld => ?_)
         clear hK K
         refine norm_ (a' := ?_) ?_ ?_
         rotate_left
         ·show Act.put _ (some 10) _ = _
          simp only [Act.put, sA, sB, sC, i64_w, i32_w]
          rfl
         exact norm_ (by simp only [putAll, Act.put, sA, sB, sC] <;> rfl) (hJ3_15_17 (gb138, gb140) _ ⟨hHeld, BK127.out, BK128.out, BK138.out, BK140.out, GW138.out, GE138.out, NB127_138.out, NB138_127.out, NB128_138.out, NB138_128.out, NB140_138.out, NB138_140.out, GW140.out, GE140.out, NB127_140.out, NB140_127.out, NB128_140.out, NB140_128.out, HB.out⟩)
      intro hJ3_15
      refine join_ (σ := Nat) 7 #[tT, tT, tT, tT, tT, tT, tT, tT, tT, tF, tT, tT, tT, tT, tF, tF, tT, tF, tF, tF, tF] (fun s_ => [(19, .agg #[.int .i64 t129, .int .i64 t130, .bool t131]), (9, .pointer (some ⟨s_, 0, none⟩))]) (fun s_ w' => (w'.cell? ⟨gb128, 0, none⟩ = some (.int .i64 a0_0) ∧ w'.cell? ⟨gb128, 1, none⟩ = some (.int .i64 a0_1)) ∧ (w'.heap[gb127]? = some (.cells #[.int .i64 a0_0, .int .i64 a0_1, .bool a0_2] 40 (0, 0))) ∧ (w'.heap[gb128]? = some (.cells #[.int .i64 a0_0, .int .i64 a0_1] 23 (0, 0))) ∧ (w'.heap[s_]? = some (.cells #[.int .i64 0, .int .i64 0, .bool false] 25 (0, 0))) ∧ (w.heap.size ≤ s_) ∧ (w.heap.size ≤ s_) ∧ (gb127 ≠ s_) ∧ (s_ ≠ gb127) ∧ (gb128 ≠ s_) ∧ (s_ ≠ gb128) ∧ (Below w.heap.size w w')) ?_ ?_
      ··skip
        rintro gb139 w24 ⟨hS_, h0_, h1_, h2_, h3_, h4_, h5_, h6_, h7_, h8_, h9_⟩
        have n0_ : Aside0 (w24.heap[gb127]? = some (.cells #[.int .i64 a0_0, .int .i64 a0_1, .bool a0_2] 40 (0, 0))) := ⟨h0_⟩
        have n1_ : Aside0 (w24.heap[gb128]? = some (.cells #[.int .i64 a0_0, .int .i64 a0_1] 23 (0, 0))) := ⟨h1_⟩
        have n2_ : Aside0 (w24.heap[gb139]? = some (.cells #[.int .i64 0, .int .i64 0, .bool false] 25 (0, 0))) := ⟨h2_⟩
        have n3_ : Aside0 (w.heap.size ≤ gb139) := ⟨h3_⟩
        have n4_ : Aside0 (w.heap.size ≤ gb139) := ⟨h4_⟩
        have n5_ : Aside0 (gb127 ≠ gb139) := ⟨h5_⟩
        have n6_ : Aside0 (gb139 ≠ gb127) := ⟨h6_⟩
        have n7_ : Aside0 (gb128 ≠ gb139) := ⟨h7_⟩
        have n8_ : Aside0 (gb139 ≠ gb128) := ⟨h8_⟩
        have n9_ : Aside0 (Below w.heap.size w w24) := ⟨h9_⟩
        clear BK127
        clear BK128
        clear HB
        clear h0_ h1_ h2_ h3_ h4_ h5_ h6_ h7_ h8_ h9_
        have BK127 := n0_
        have BK128 := n1_
        have BK139 := n2_
        have GW139 := n3_
        have GE139 := n4_
        have NB127_139 := n5_
        have NB139_127 := n6_
        have NB128_139 := n7_
        have NB139_128 := n8_
        have HB := n9_
        clear n0_ n1_ n2_ n3_ n4_ n5_ n6_ n7_ n8_ n9_
        have hHeld : w24.cell? ⟨gb128, 0, none⟩ = some (.int .i64 a0_0) ∧ w24.cell? ⟨gb128, 1, none⟩ = some (.int .i64 a0_1) := hS_
        refine norm_ (a' := ?_) ?_ ?_
        rotate_left
        ·simp only [putAll, Act.put, sA, sB, sC]
         rfl
        refine three_ (i := 9) (j := 15) (k := 17) (Ni := some 25) (Nj := some 8) (Nk := some 10) #[tT, tT, tT, tT, tT, tT, tT, tT, tT, tT, tT, tT, tT, tT, tF, tF, tT, tF, tF, tF, tF] #[tT, tT, tT, tT, tT, tT, tT, tT, tT, tF, tT, tT, tT, tT, tF, tT, tT, tF, tF, tF, tF] #[tT, tT, tT, tT, tT, tT, tT, tT, tT, tF, tT, tT, tT, tT, tF, tF, tT, tT, tF, tF, tF] rfl rfl rfl rfl rfl rfl (three_of HT_.out (by kernel_rfl)) (by decide) (by decide) (by decide) (fun K hK => ?_) (fun K hK => ?_) (fun K hK => ?_)
        ·skip
         refine goes_ Try.func18 (by kernel_rfl) rfl #[.agg #[.int .i64 a0_0, .int .i64 a0_1], .bool (!a1), .bool (!a2)] (by rfl) rfl rfl (by (try simp only [List.map_toArray, List.map_cons, List.map_nil]); first | done | rfl) ?_
         with_reducible refine (addr_Make.calls a0_0 a0_1 (!a1) (!a2) t132 t133 t134 _ A5.out).mono ?_
         rintro e w25 ⟨rfl, hb⟩
         refine ⟨_, rfl, ?_⟩
         have n0_ := Aside0.mk (kB BK127.out hb)
         have n1_ := Aside0.mk (kB BK128.out hb)
         have n2_ := Aside0.mk (kB BK139.out hb)
         have n3_ := Aside0.mk (bT HB.out hb)
         clear BK127
         clear BK128
         clear BK139
         clear HB
         have BK127 := n0_
         have BK128 := n1_
         have BK139 := n2_
         have HB := n3_
         clear n0_ n1_ n2_ n3_
         (try clear hb)
         refine hK.out _ _ ⟨(kC BK128.out 0).trans rfl, (kC BK128.out 1).trans rfl⟩ (fun hHeld => ?_)
         clear hK K
         refine norm_ (a' := ?_) ?_ ?_
         rotate_left
         ·show Act.put _ (some 25) _ = _
          simp only [Act.put, sA, sB, sC, i64_w, i32_w]
          rfl
         exact norm_ (by simp only [putAll, Act.put, sA, sB, sC] <;> rfl) (hJ3_9_16 (gb139) _ ⟨hHeld, BK127.out, BK128.out, BK139.out, GW139.out, GE139.out, NB127_139.out, NB139_127.out, NB128_139.out, NB139_128.out, HB.out⟩)
        ·skip
         refine box_step ?hg (N := 8) ?hd (cs := #[.int .i64 0, .int .i64 0, .bool false]) (t := 25) ?hr ?_; (case hd => rfl); (case hg => rfl); (case hr => first | (go_simp; done) | (go_simp; rfl))
         intro gb138 hg w25 hbox hb
         have n0_ := Aside0.mk (kB BK127.out hb)
         have n1_ := Aside0.mk (kB BK128.out hb)
         have n2_ := Aside0.mk (kB BK139.out hb)
         have n3_ := Aside0.mk (bT HB.out hb)
         have n4_ := Aside0.mk (hbox)
         have n5_ := Aside0.mk ((by rw [hg]; exact (below_size HB.out) : w.heap.size ≤ gb138))
         have n6_ := n5_
         have n7_ := Aside0.mk ((by rw [hg]; exact Nat.ne_of_lt (blk_lt BK127.out) : gb127 ≠ gb138))
         have n8_ := Aside0.mk n7_.out.symm
         have n9_ := Aside0.mk ((by rw [hg]; exact Nat.ne_of_lt (blk_lt BK128.out) : gb128 ≠ gb138))
         have n10_ := Aside0.mk n9_.out.symm
         have n11_ := Aside0.mk ((by rw [hg]; exact Nat.ne_of_lt (blk_lt BK139.out) : gb139 ≠ gb138))
         have n12_ := Aside0.mk n11_.out.symm
         clear BK127
         clear BK128
         clear BK139
         clear HB
         have BK127 := n0_
         have BK128 := n1_
         have BK139 := n2_
         have HB := n3_
         have BK138 := n4_
         have GW138 := n5_
         have GE138 := n6_
         have NB127_138 := n7_
         have NB138_127 := n8_
         have NB128_138 := n9_
         have NB138_128 := n10_
         have NB139_138 := n11_
         have NB138_139 := n12_
         clear n0_ n1_ n2_ n3_ n4_ n5_ n6_ n7_ n8_ n9_ n10_ n11_ n12_
         clear hb hbox hg
         refine hK.out _ _ ⟨(kC BK128.out 0).trans rfl, (kC BK128.out 1).trans rfl⟩ (fun hHeld => ?_)
         clear hK K
         refine norm_ (a' := ?_) ?_ ?_
         rotate_left
         ·show Act.put _ (some 8) _ = _
          simp only [Act.put, sA, sB, sC, i64_w, i32_w]
          rfl
         exact norm_ (by simp only [putAll, Act.put, sA, sB, sC] <;> rfl) (hJ3_15_16 (gb138, gb139) _ ⟨hHeld, BK127.out, BK128.out, BK138.out, BK139.out, GW138.out, GE138.out, NB127_138.out, NB138_127.out, NB128_138.out, NB138_128.out, NB139_138.out, NB138_139.out, GW139.out, GE139.out, NB127_139.out, NB139_127.out, NB128_139.out, NB139_128.out, HB.out⟩)
        ·skip
         refine box_step ?hg (N := 10) ?hd (cs := #[.int .i64 0, .int .i64 0, .bool false]) (t := 25) ?hr ?_; (case hd => rfl); (case hg => rfl); (case hr => first | (go_simp; done) | (go_simp; rfl))
         intro gb140 hg w25 hbox hb
         have n0_ := Aside0.mk (kB BK127.out hb)
         have n1_ := Aside0.mk (kB BK128.out hb)
         have n2_ := Aside0.mk (kB BK139.out hb)
         have n3_ := Aside0.mk (bT HB.out hb)
         have n4_ := Aside0.mk (hbox)
         have n5_ := Aside0.mk ((by rw [hg]; exact (below_size HB.out) : w.heap.size ≤ gb140))
         have n6_ := n5_
         have n7_ := Aside0.mk ((by rw [hg]; exact Nat.ne_of_lt (blk_lt BK127.out) : gb127 ≠ gb140))
         have n8_ := Aside0.mk n7_.out.symm
         have n9_ := Aside0.mk ((by rw [hg]; exact Nat.ne_of_lt (blk_lt BK128.out) : gb128 ≠ gb140))
         have n10_ := Aside0.mk n9_.out.symm
         have n11_ := Aside0.mk ((by rw [hg]; exact Nat.ne_of_lt (blk_lt BK139.out) : gb139 ≠ gb140))
         have n12_ := Aside0.mk n11_.out.symm
         clear BK127
         clear BK128
         clear BK139
         clear HB
         have BK127 := n0_
         have BK128 := n1_
         have BK139 := n2_
         have HB := n3_
         have BK140 := n4_
         have GW140 := n5_
         have GE140 := n6_
         have NB127_140 := n7_
         have NB140_127 := n8_
         have NB128_140 := n9_
         have NB140_128 := n10_
         have NB139_140 := n11_
         have NB140_139 := n12_
         clear n0_ n1_ n2_ n3_ n4_ n5_ n6_ n7_ n8_ n9_ n10_ n11_ n12_
         clear hb hbox hg
         refine hK.out _ _ ⟨(kC BK128.out 0).trans rfl, (kC BK128.out 1).trans rfl⟩ (fun hHeld => ?_)
         clear hK K
         refine norm_ (a' := ?_) ?_ ?_
         rotate_left
         ·show Act.put _ (some 10) _ = _
          simp only [Act.put, sA, sB, sC, i64_w, i32_w]
          rfl
         exact norm_ (by simp only [putAll, Act.put, sA, sB, sC] <;> rfl) (hJ3_16_17 (gb139, gb140) _ ⟨hHeld, BK127.out, BK128.out, BK139.out, BK140.out, GW139.out, GE139.out, NB127_139.out, NB139_127.out, NB128_139.out, NB139_128.out, NB140_139.out, NB139_140.out, GW140.out, GE140.out, NB127_140.out, NB140_127.out, NB128_140.out, NB140_128.out, HB.out⟩)
      intro hJ3_16
      refine join_ (σ := Nat) 7 #[tT, tT, tT, tT, tT, tT, tT, tT, tT, tF, tT, tT, tT, tT, tF, tF, tF, tT, tF, tF, tF] (fun s_ => [(19, .agg #[.int .i64 t129, .int .i64 t130, .bool t131]), (10, .pointer (some ⟨s_, 0, none⟩))]) (fun s_ w' => (w'.cell? ⟨gb128, 0, none⟩ = some (.int .i64 a0_0) ∧ w'.cell? ⟨gb128, 1, none⟩ = some (.int .i64 a0_1)) ∧ (w'.heap[gb127]? = some (.cells #[.int .i64 a0_0, .int .i64 a0_1, .bool a0_2] 40 (0, 0))) ∧ (w'.heap[gb128]? = some (.cells #[.int .i64 a0_0, .int .i64 a0_1] 23 (0, 0))) ∧ (w'.heap[s_]? = some (.cells #[.int .i64 0, .int .i64 0, .bool false] 25 (0, 0))) ∧ (w.heap.size ≤ s_) ∧ (w.heap.size ≤ s_) ∧ (gb127 ≠ s_) ∧ (s_ ≠ gb127) ∧ (gb128 ≠ s_) ∧ (s_ ≠ gb128) ∧ (Below w.heap.size w w')) ?_ ?_
      ··skip
        rintro gb140 w24 ⟨hS_, h0_, h1_, h2_, h3_, h4_, h5_, h6_, h7_, h8_, h9_⟩
        have n0_ : Aside0 (w24.heap[gb127]? = some (.cells #[.int .i64 a0_0, .int .i64 a0_1, .bool a0_2] 40 (0, 0))) := ⟨h0_⟩
        have n1_ : Aside0 (w24.heap[gb128]? = some (.cells #[.int .i64 a0_0, .int .i64 a0_1] 23 (0, 0))) := ⟨h1_⟩
        have n2_ : Aside0 (w24.heap[gb140]? = some (.cells #[.int .i64 0, .int .i64 0, .bool false] 25 (0, 0))) := ⟨h2_⟩
        have n3_ : Aside0 (w.heap.size ≤ gb140) := ⟨h3_⟩
        have n4_ : Aside0 (w.heap.size ≤ gb140) := ⟨h4_⟩
        have n5_ : Aside0 (gb127 ≠ gb140) := ⟨h5_⟩
        have n6_ : Aside0 (gb140 ≠ gb127) := ⟨h6_⟩
        have n7_ : Aside0 (gb128 ≠ gb140) := ⟨h7_⟩
        have n8_ : Aside0 (gb140 ≠ gb128) := ⟨h8_⟩
        have n9_ : Aside0 (Below w.heap.size w w24) := ⟨h9_⟩
        clear BK127
        clear BK128
        clear HB
        clear h0_ h1_ h2_ h3_ h4_ h5_ h6_ h7_ h8_ h9_
        have BK127 := n0_
        have BK128 := n1_
        have BK140 := n2_
        have GW140 := n3_
        have GE140 := n4_
        have NB127_140 := n5_
        have NB140_127 := n6_
        have NB128_140 := n7_
        have NB140_128 := n8_
        have HB := n9_
        clear n0_ n1_ n2_ n3_ n4_ n5_ n6_ n7_ n8_ n9_
        have hHeld : w24.cell? ⟨gb128, 0, none⟩ = some (.int .i64 a0_0) ∧ w24.cell? ⟨gb128, 1, none⟩ = some (.int .i64 a0_1) := hS_
        refine norm_ (a' := ?_) ?_ ?_
        rotate_left
        ·simp only [putAll, Act.put, sA, sB, sC]
         rfl
        refine three_ (i := 9) (j := 15) (k := 16) (Ni := some 25) (Nj := some 8) (Nk := some 9) #[tT, tT, tT, tT, tT, tT, tT, tT, tT, tT, tT, tT, tT, tT, tF, tF, tF, tT, tF, tF, tF] #[tT, tT, tT, tT, tT, tT, tT, tT, tT, tF, tT, tT, tT, tT, tF, tT, tF, tT, tF, tF, tF] #[tT, tT, tT, tT, tT, tT, tT, tT, tT, tF, tT, tT, tT, tT, tF, tF, tT, tT, tF, tF, tF] rfl rfl rfl rfl rfl rfl (three_of HT_.out (by kernel_rfl)) (by decide) (by decide) (by decide) (fun K hK => ?_) (fun K hK => ?_) (fun K hK => ?_)
        ·skip
         refine goes_ Try.func18 (by kernel_rfl) rfl #[.agg #[.int .i64 a0_0, .int .i64 a0_1], .bool (!a1), .bool (!a2)] (by rfl) rfl rfl (by (try simp only [List.map_toArray, List.map_cons, List.map_nil]); first | done | rfl) ?_
         with_reducible refine (addr_Make.calls a0_0 a0_1 (!a1) (!a2) t132 t133 t134 _ A5.out).mono ?_
         rintro e w25 ⟨rfl, hb⟩
         refine ⟨_, rfl, ?_⟩
         have n0_ := Aside0.mk (kB BK127.out hb)
         have n1_ := Aside0.mk (kB BK128.out hb)
         have n2_ := Aside0.mk (kB BK140.out hb)
         have n3_ := Aside0.mk (bT HB.out hb)
         clear BK127
         clear BK128
         clear BK140
         clear HB
         have BK127 := n0_
         have BK128 := n1_
         have BK140 := n2_
         have HB := n3_
         clear n0_ n1_ n2_ n3_
         (try clear hb)
         refine hK.out _ _ ⟨(kC BK128.out 0).trans rfl, (kC BK128.out 1).trans rfl⟩ (fun hHeld => ?_)
         clear hK K
         refine norm_ (a' := ?_) ?_ ?_
         rotate_left
         ·show Act.put _ (some 25) _ = _
          simp only [Act.put, sA, sB, sC, i64_w, i32_w]
          rfl
         exact norm_ (by simp only [putAll, Act.put, sA, sB, sC] <;> rfl) (hJ3_9_17 (gb140) _ ⟨hHeld, BK127.out, BK128.out, BK140.out, GW140.out, GE140.out, NB127_140.out, NB140_127.out, NB128_140.out, NB140_128.out, HB.out⟩)
        ·skip
         refine box_step ?hg (N := 8) ?hd (cs := #[.int .i64 0, .int .i64 0, .bool false]) (t := 25) ?hr ?_; (case hd => rfl); (case hg => rfl); (case hr => first | (go_simp; done) | (go_simp; rfl))
         intro gb138 hg w25 hbox hb
         have n0_ := Aside0.mk (kB BK127.out hb)
         have n1_ := Aside0.mk (kB BK128.out hb)
         have n2_ := Aside0.mk (kB BK140.out hb)
         have n3_ := Aside0.mk (bT HB.out hb)
         have n4_ := Aside0.mk (hbox)
         have n5_ := Aside0.mk ((by rw [hg]; exact (below_size HB.out) : w.heap.size ≤ gb138))
         have n6_ := n5_
         have n7_ := Aside0.mk ((by rw [hg]; exact Nat.ne_of_lt (blk_lt BK127.out) : gb127 ≠ gb138))
         have n8_ := Aside0.mk n7_.out.symm
         have n9_ := Aside0.mk ((by rw [hg]; exact Nat.ne_of_lt (blk_lt BK128.out) : gb128 ≠ gb138))
         have n10_ := Aside0.mk n9_.out.symm
         have n11_ := Aside0.mk ((by rw [hg]; exact Nat.ne_of_lt (blk_lt BK140.out) : gb140 ≠ gb138))
         have n12_ := Aside0.mk n11_.out.symm
         clear BK127
         clear BK128
         clear BK140
         clear HB
         have BK127 := n0_
         have BK128 := n1_
         have BK140 := n2_
         have HB := n3_
         have BK138 := n4_
         have GW138 := n5_
         have GE138 := n6_
         have NB127_138 := n7_
         have NB138_127 := n8_
         have NB128_138 := n9_
         have NB138_128 := n10_
         have NB140_138 := n11_
         have NB138_140 := n12_
         clear n0_ n1_ n2_ n3_ n4_ n5_ n6_ n7_ n8_ n9_ n10_ n11_ n12_
         clear hb hbox hg
         refine hK.out _ _ ⟨(kC BK128.out 0).trans rfl, (kC BK128.out 1).trans rfl⟩ (fun hHeld => ?_)
         clear hK K
         refine norm_ (a' := ?_) ?_ ?_
         rotate_left
         ·show Act.put _ (some 8) _ = _
          simp only [Act.put, sA, sB, sC, i64_w, i32_w]
          rfl
         exact norm_ (by simp only [putAll, Act.put, sA, sB, sC] <;> rfl) (hJ3_15_17 (gb138, gb140) _ ⟨hHeld, BK127.out, BK128.out, BK138.out, BK140.out, GW138.out, GE138.out, NB127_138.out, NB138_127.out, NB128_138.out, NB138_128.out, NB140_138.out, NB138_140.out, GW140.out, GE140.out, NB127_140.out, NB140_127.out, NB128_140.out, NB140_128.out, HB.out⟩)
        ·skip
         refine box_step ?hg (N := 9) ?hd (cs := #[.int .i64 0, .int .i64 0, .bool false]) (t := 25) ?hr ?_; (case hd => rfl); (case hg => rfl); (case hr => first | (go_simp; done) | (go_simp; rfl))
         intro gb139 hg w25 hbox hb
         have n0_ := Aside0.mk (kB BK127.out hb)
         have n1_ := Aside0.mk (kB BK128.out hb)
         have n2_ := Aside0.mk (kB BK140.out hb)
         have n3_ := Aside0.mk (bT HB.out hb)
         have n4_ := Aside0.mk (hbox)
         have n5_ := Aside0.mk ((by rw [hg]; exact (below_size HB.out) : w.heap.size ≤ gb139))
         have n6_ := n5_
         have n7_ := Aside0.mk ((by rw [hg]; exact Nat.ne_of_lt (blk_lt BK127.out) : gb127 ≠ gb139))
         have n8_ := Aside0.mk n7_.out.symm
         have n9_ := Aside0.mk ((by rw [hg]; exact Nat.ne_of_lt (blk_lt BK128.out) : gb128 ≠ gb139))
         have n10_ := Aside0.mk n9_.out.symm
         have n11_ := Aside0.mk ((by rw [hg]; exact Nat.ne_of_lt (blk_lt BK140.out) : gb140 ≠ gb139))
         have n12_ := Aside0.mk n11_.out.symm
         clear BK127
         clear BK128
         clear BK140
         clear HB
         have BK127 := n0_
         have BK128 := n1_
         have BK140 := n2_
         have HB := n3_
         have BK139 := n4_
         have GW139 := n5_
         have GE139 := n6_
         have NB127_139 := n7_
         have NB139_127 := n8_
         have NB128_139 := n9_
         have NB139_128 := n10_
         have NB140_139 := n11_
         have NB139_140 := n12_
         clear n0_ n1_ n2_ n3_ n4_ n5_ n6_ n7_ n8_ n9_ n10_ n11_ n12_
         clear hb hbox hg
         refine hK.out _ _ ⟨(kC BK128.out 0).trans rfl, (kC BK128.out 1).trans rfl⟩ (fun hHeld => ?_)
         clear hK K
         refine norm_ (a' := ?_) ?_ ?_
         rotate_left
         ·show Act.put _ (some 9) _ = _
          simp only [Act.put, sA, sB, sC, i64_w, i32_w]
          rfl
         exact norm_ (by simp only [putAll, Act.put, sA, sB, sC] <;> rfl) (hJ3_16_17 (gb139, gb140) _ ⟨hHeld, BK127.out, BK128.out, BK139.out, BK140.out, GW139.out, GE139.out, NB127_139.out, NB139_127.out, NB128_139.out, NB139_128.out, NB140_139.out, NB139_140.out, GW140.out, GE140.out, NB127_140.out, NB140_127.out, NB128_140.out, NB140_128.out, HB.out⟩)
      intro hJ3_17
      refine join_ (σ := Nat × Nat) 7 #[tT, tT, tT, tF, tT, tT, tT, tT, tT, tF, tT, tT, tT, tT, tF, tT, tT, tF, tF, tF, tF] (fun s_ => [(8, .pointer (some ⟨s_.1, 0, none⟩)), (9, .pointer (some ⟨s_.2, 0, none⟩))]) (fun s_ w' => (w'.cell? ⟨gb128, 0, none⟩ = some (.int .i64 a0_0) ∧ w'.cell? ⟨gb128, 1, none⟩ = some (.int .i64 a0_1)) ∧ (w'.heap[gb127]? = some (.cells #[.int .i64 a0_0, .int .i64 a0_1, .bool a0_2] 40 (0, 0))) ∧ (w'.heap[gb128]? = some (.cells #[.int .i64 a0_0, .int .i64 a0_1] 23 (0, 0))) ∧ (w'.heap[s_.1]? = some (.cells #[.int .i64 0, .int .i64 0, .bool false] 25 (0, 0))) ∧ (w'.heap[s_.2]? = some (.cells #[.int .i64 0, .int .i64 0, .bool false] 25 (0, 0))) ∧ (w.heap.size ≤ s_.1) ∧ (w.heap.size ≤ s_.1) ∧ (gb127 ≠ s_.1) ∧ (s_.1 ≠ gb127) ∧ (gb128 ≠ s_.1) ∧ (s_.1 ≠ gb128) ∧ (s_.2 ≠ s_.1) ∧ (s_.1 ≠ s_.2) ∧ (w.heap.size ≤ s_.2) ∧ (w.heap.size ≤ s_.2) ∧ (gb127 ≠ s_.2) ∧ (s_.2 ≠ gb127) ∧ (gb128 ≠ s_.2) ∧ (s_.2 ≠ gb128) ∧ (Below w.heap.size w w')) ?_ ?_
      ··skip
        rintro ⟨gb138, gb139⟩ w24 ⟨hS_, h0_, h1_, h2_, h3_, h4_, h5_, h6_, h7_, h8_, h9_, h10_, h11_, h12_, h13_, h14_, h15_, h16_, h17_, h18_⟩
        have n0_ : Aside0 (w24.heap[gb127]? = some (.cells #[.int .i64 a0_0, .int .i64 a0_1, .bool a0_2] 40 (0, 0))) := ⟨h0_⟩
        have n1_ : Aside0 (w24.heap[gb128]? = some (.cells #[.int .i64 a0_0, .int .i64 a0_1] 23 (0, 0))) := ⟨h1_⟩
        have n2_ : Aside0 (w24.heap[gb138]? = some (.cells #[.int .i64 0, .int .i64 0, .bool false] 25 (0, 0))) := ⟨h2_⟩
        have n3_ : Aside0 (w24.heap[gb139]? = some (.cells #[.int .i64 0, .int .i64 0, .bool false] 25 (0, 0))) := ⟨h3_⟩
        have n4_ : Aside0 (w.heap.size ≤ gb138) := ⟨h4_⟩
        have n5_ : Aside0 (w.heap.size ≤ gb138) := ⟨h5_⟩
        have n6_ : Aside0 (gb127 ≠ gb138) := ⟨h6_⟩
        have n7_ : Aside0 (gb138 ≠ gb127) := ⟨h7_⟩
        have n8_ : Aside0 (gb128 ≠ gb138) := ⟨h8_⟩
        have n9_ : Aside0 (gb138 ≠ gb128) := ⟨h9_⟩
        have n10_ : Aside0 (gb139 ≠ gb138) := ⟨h10_⟩
        have n11_ : Aside0 (gb138 ≠ gb139) := ⟨h11_⟩
        have n12_ : Aside0 (w.heap.size ≤ gb139) := ⟨h12_⟩
        have n13_ : Aside0 (w.heap.size ≤ gb139) := ⟨h13_⟩
        have n14_ : Aside0 (gb127 ≠ gb139) := ⟨h14_⟩
        have n15_ : Aside0 (gb139 ≠ gb127) := ⟨h15_⟩
        have n16_ : Aside0 (gb128 ≠ gb139) := ⟨h16_⟩
        have n17_ : Aside0 (gb139 ≠ gb128) := ⟨h17_⟩
        have n18_ : Aside0 (Below w.heap.size w w24) := ⟨h18_⟩
        clear BK127
        clear BK128
        clear HB
        clear h0_ h1_ h2_ h3_ h4_ h5_ h6_ h7_ h8_ h9_ h10_ h11_ h12_ h13_ h14_ h15_ h16_ h17_ h18_
        have BK127 := n0_
        have BK128 := n1_
        have BK138 := n2_
        have BK139 := n3_
        have GW138 := n4_
        have GE138 := n5_
        have NB127_138 := n6_
        have NB138_127 := n7_
        have NB128_138 := n8_
        have NB138_128 := n9_
        have NB139_138 := n10_
        have NB138_139 := n11_
        have GW139 := n12_
        have GE139 := n13_
        have NB127_139 := n14_
        have NB139_127 := n15_
        have NB128_139 := n16_
        have NB139_128 := n17_
        have HB := n18_
        clear n0_ n1_ n2_ n3_ n4_ n5_ n6_ n7_ n8_ n9_ n10_ n11_ n12_ n13_ n14_ n15_ n16_ n17_ n18_
        have hHeld : w24.cell? ⟨gb128, 0, none⟩ = some (.int .i64 a0_0) ∧ w24.cell? ⟨gb128, 1, none⟩ = some (.int .i64 a0_1) := hS_
        refine norm_ (a' := ?_) ?_ ?_
        rotate_left
        ·simp only [putAll, Act.put, sA, sB, sC]
         rfl
        refine two_ (i := 3) (j := 17) (Ni := some 19) (Nj := some 10) #[tT, tT, tT, tT, tT, tT, tT, tT, tT, tF, tT, tT, tT, tT, tF, tT, tT, tF, tF, tF, tF] #[tT, tT, tT, tF, tT, tT, tT, tT, tT, tF, tT, tT, tT, tT, tF, tT, tT, tT, tF, tF, tF] rfl rfl rfl rfl (two_of HT_.out (by kernel_rfl)) (by decide) (by decide) (fun K hK => ?_) (fun K hK => ?_)
        ·skip
         refine goes_ Try.func18 (by kernel_rfl) rfl #[.agg #[.int .i64 a0_0, .int .i64 a0_1], .bool a1, .bool a2] (by rfl) rfl rfl (by (try simp only [List.map_toArray, List.map_cons, List.map_nil]); first | done | rfl) ?_
         with_reducible refine (addr_Make.calls a0_0 a0_1 a1 a2 t129 t130 t131 _ A4.out).mono ?_
         rintro e w25 ⟨rfl, hb⟩
         refine ⟨_, rfl, ?_⟩
         have n0_ := Aside0.mk (kB BK127.out hb)
         have n1_ := Aside0.mk (kB BK128.out hb)
         have n2_ := Aside0.mk (kB BK138.out hb)
         have n3_ := Aside0.mk (kB BK139.out hb)
         have n4_ := Aside0.mk (bT HB.out hb)
         clear BK127
         clear BK128
         clear BK138
         clear BK139
         clear HB
         have BK127 := n0_
         have BK128 := n1_
         have BK138 := n2_
         have BK139 := n3_
         have HB := n4_
         clear n0_ n1_ n2_ n3_ n4_
         (try clear hb)
         refine hK.out _ _ ⟨(kC BK128.out 0).trans rfl, (kC BK128.out 1).trans rfl⟩ (fun hHeld => ?_)
         clear hK K
         refine norm_ (a' := ?_) ?_ ?_
         rotate_left
         ·show Act.put _ (some 19) _ = _
          simp only [Act.put, sA, sB, sC, i64_w, i32_w]
          rfl
         exact norm_ (by simp only [putAll, Act.put, sA, sB, sC] <;> rfl) (hJ3_15_16 (gb138, gb139) _ ⟨hHeld, BK127.out, BK128.out, BK138.out, BK139.out, GW138.out, GE138.out, NB127_138.out, NB138_127.out, NB128_138.out, NB138_128.out, NB139_138.out, NB138_139.out, GW139.out, GE139.out, NB127_139.out, NB139_127.out, NB128_139.out, NB139_128.out, HB.out⟩)
        ·skip
         refine box_step ?hg (N := 10) ?hd (cs := #[.int .i64 0, .int .i64 0, .bool false]) (t := 25) ?hr ?_; (case hd => rfl); (case hg => rfl); (case hr => first | (go_simp; done) | (go_simp; rfl))
         intro gb140 hg w25 hbox hb
         have n0_ := Aside0.mk (kB BK127.out hb)
         have n1_ := Aside0.mk (kB BK128.out hb)
         have n2_ := Aside0.mk (kB BK138.out hb)
         have n3_ := Aside0.mk (kB BK139.out hb)
         have n4_ := Aside0.mk (bT HB.out hb)
         have n5_ := Aside0.mk (hbox)
         have n6_ := Aside0.mk ((by rw [hg]; exact (below_size HB.out) : w.heap.size ≤ gb140))
         have n7_ := n6_
         have n8_ := Aside0.mk ((by rw [hg]; exact Nat.ne_of_lt (blk_lt BK127.out) : gb127 ≠ gb140))
         have n9_ := Aside0.mk n8_.out.symm
         have n10_ := Aside0.mk ((by rw [hg]; exact Nat.ne_of_lt (blk_lt BK128.out) : gb128 ≠ gb140))
         have n11_ := Aside0.mk n10_.out.symm
         have n12_ := Aside0.mk ((by rw [hg]; exact Nat.ne_of_lt (blk_lt BK138.out) : gb138 ≠ gb140))
         have n13_ := Aside0.mk n12_.out.symm
         have n14_ := Aside0.mk ((by rw [hg]; exact Nat.ne_of_lt (blk_lt BK139.out) : gb139 ≠ gb140))
         have n15_ := Aside0.mk n14_.out.symm
         clear BK127
         clear BK128
         clear BK138
         clear BK139
         clear HB
         have BK127 := n0_
         have BK128 := n1_
         have BK138 := n2_
         have BK139 := n3_
         have HB := n4_
         have BK140 := n5_
         have GW140 := n6_
         have GE140 := n7_
         have NB127_140 := n8_
         have NB140_127 := n9_
         have NB128_140 := n10_
         have NB140_128 := n11_
         have NB138_140 := n12_
         have NB140_138 := n13_
         have NB139_140 := n14_
         have NB140_139 := n15_
         clear n0_ n1_ n2_ n3_ n4_ n5_ n6_ n7_ n8_ n9_ n10_ n11_ n12_ n13_ n14_ n15_
         clear hb hbox hg
         refine hK.out _ _ ⟨(kC BK128.out 0).trans rfl, (kC BK128.out 1).trans rfl⟩ (fun hHeld => ?_)
         clear hK K
         refine norm_ (a' := ?_) ?_ ?_
         rotate_left
         ·show Act.put _ (some 10) _ = _
          simp only [Act.put, sA, sB, sC, i64_w, i32_w]
          rfl
         exact norm_ (by simp only [putAll, Act.put, sA, sB, sC] <;> rfl) (hJ15_16_17 (gb138, gb139, gb140) _ ⟨hHeld, BK127.out, BK128.out, BK138.out, BK139.out, BK140.out, GW138.out, GE138.out, NB127_138.out, NB138_127.out, NB128_138.out, NB138_128.out, NB139_138.out, NB138_139.out, NB140_138.out, NB138_140.out, GW139.out, GE139.out, NB127_139.out, NB139_127.out, NB128_139.out, NB139_128.out, NB140_139.out, NB139_140.out, GW140.out, GE140.out, NB127_140.out, NB140_127.out, NB128_140.out, NB140_128.out, HB.out⟩)
      intro hJ15_16
      refine join_ (σ := Nat × Nat) 7 #[tT, tT, tT, tF, tT, tT, tT, tT, tT, tF, tT, tT, tT, tT, tF, tT, tF, tT, tF, tF, tF] (fun s_ => [(8, .pointer (some ⟨s_.1, 0, none⟩)), (10, .pointer (some ⟨s_.2, 0, none⟩))]) (fun s_ w' => (w'.cell? ⟨gb128, 0, none⟩ = some (.int .i64 a0_0) ∧ w'.cell? ⟨gb128, 1, none⟩ = some (.int .i64 a0_1)) ∧ (w'.heap[gb127]? = some (.cells #[.int .i64 a0_0, .int .i64 a0_1, .bool a0_2] 40 (0, 0))) ∧ (w'.heap[gb128]? = some (.cells #[.int .i64 a0_0, .int .i64 a0_1] 23 (0, 0))) ∧ (w'.heap[s_.1]? = some (.cells #[.int .i64 0, .int .i64 0, .bool false] 25 (0, 0))) ∧ (w'.heap[s_.2]? = some (.cells #[.int .i64 0, .int .i64 0, .bool false] 25 (0, 0))) ∧ (w.heap.size ≤ s_.1) ∧ (w.heap.size ≤ s_.1) ∧ (gb127 ≠ s_.1) ∧ (s_.1 ≠ gb127) ∧ (gb128 ≠ s_.1) ∧ (s_.1 ≠ gb128) ∧ (s_.2 ≠ s_.1) ∧ (s_.1 ≠ s_.2) ∧ (w.heap.size ≤ s_.2) ∧ (w.heap.size ≤ s_.2) ∧ (gb127 ≠ s_.2) ∧ (s_.2 ≠ gb127) ∧ (gb128 ≠ s_.2) ∧ (s_.2 ≠ gb128) ∧ (Below w.heap.size w w')) ?_ ?_
      ··skip
        rintro ⟨gb138, gb140⟩ w24 ⟨hS_, h0_, h1_, h2_, h3_, h4_, h5_, h6_, h7_, h8_, h9_, h10_, h11_, h12_, h13_, h14_, h15_, h16_, h17_, h18_⟩
        have n0_ : Aside0 (w24.heap[gb127]? = some (.cells #[.int .i64 a0_0, .int .i64 a0_1, .bool a0_2] 40 (0, 0))) := ⟨h0_⟩
        have n1_ : Aside0 (w24.heap[gb128]? = some (.cells #[.int .i64 a0_0, .int .i64 a0_1] 23 (0, 0))) := ⟨h1_⟩
        have n2_ : Aside0 (w24.heap[gb138]? = some (.cells #[.int .i64 0, .int .i64 0, .bool false] 25 (0, 0))) := ⟨h2_⟩
        have n3_ : Aside0 (w24.heap[gb140]? = some (.cells #[.int .i64 0, .int .i64 0, .bool false] 25 (0, 0))) := ⟨h3_⟩
        have n4_ : Aside0 (w.heap.size ≤ gb138) := ⟨h4_⟩
        have n5_ : Aside0 (w.heap.size ≤ gb138) := ⟨h5_⟩
        have n6_ : Aside0 (gb127 ≠ gb138) := ⟨h6_⟩
        have n7_ : Aside0 (gb138 ≠ gb127) := ⟨h7_⟩
        have n8_ : Aside0 (gb128 ≠ gb138) := ⟨h8_⟩
        have n9_ : Aside0 (gb138 ≠ gb128) := ⟨h9_⟩
        have n10_ : Aside0 (gb140 ≠ gb138) := ⟨h10_⟩
        have n11_ : Aside0 (gb138 ≠ gb140) := ⟨h11_⟩
        have n12_ : Aside0 (w.heap.size ≤ gb140) := ⟨h12_⟩
        have n13_ : Aside0 (w.heap.size ≤ gb140) := ⟨h13_⟩
        have n14_ : Aside0 (gb127 ≠ gb140) := ⟨h14_⟩
        have n15_ : Aside0 (gb140 ≠ gb127) := ⟨h15_⟩
        have n16_ : Aside0 (gb128 ≠ gb140) := ⟨h16_⟩
        have n17_ : Aside0 (gb140 ≠ gb128) := ⟨h17_⟩
        have n18_ : Aside0 (Below w.heap.size w w24) := ⟨h18_⟩
        clear BK127
        clear BK128
        clear HB
        clear h0_ h1_ h2_ h3_ h4_ h5_ h6_ h7_ h8_ h9_ h10_ h11_ h12_ h13_ h14_ h15_ h16_ h17_ h18_
        have BK127 := n0_
        have BK128 := n1_
        have BK138 := n2_
        have BK140 := n3_
        have GW138 := n4_
        have GE138 := n5_
        have NB127_138 := n6_
        have NB138_127 := n7_
        have NB128_138 := n8_
        have NB138_128 := n9_
        have NB140_138 := n10_
        have NB138_140 := n11_
        have GW140 := n12_
        have GE140 := n13_
        have NB127_140 := n14_
        have NB140_127 := n15_
        have NB128_140 := n16_
        have NB140_128 := n17_
        have HB := n18_
        clear n0_ n1_ n2_ n3_ n4_ n5_ n6_ n7_ n8_ n9_ n10_ n11_ n12_ n13_ n14_ n15_ n16_ n17_ n18_
        have hHeld : w24.cell? ⟨gb128, 0, none⟩ = some (.int .i64 a0_0) ∧ w24.cell? ⟨gb128, 1, none⟩ = some (.int .i64 a0_1) := hS_
        refine norm_ (a' := ?_) ?_ ?_
        rotate_left
        ·simp only [putAll, Act.put, sA, sB, sC]
         rfl
        refine two_ (i := 3) (j := 16) (Ni := some 19) (Nj := some 9) #[tT, tT, tT, tT, tT, tT, tT, tT, tT, tF, tT, tT, tT, tT, tF, tT, tF, tT, tF, tF, tF] #[tT, tT, tT, tF, tT, tT, tT, tT, tT, tF, tT, tT, tT, tT, tF, tT, tT, tT, tF, tF, tF] rfl rfl rfl rfl (two_of HT_.out (by kernel_rfl)) (by decide) (by decide) (fun K hK => ?_) (fun K hK => ?_)
        ·skip
         refine goes_ Try.func18 (by kernel_rfl) rfl #[.agg #[.int .i64 a0_0, .int .i64 a0_1], .bool a1, .bool a2] (by rfl) rfl rfl (by (try simp only [List.map_toArray, List.map_cons, List.map_nil]); first | done | rfl) ?_
         with_reducible refine (addr_Make.calls a0_0 a0_1 a1 a2 t129 t130 t131 _ A4.out).mono ?_
         rintro e w25 ⟨rfl, hb⟩
         refine ⟨_, rfl, ?_⟩
         have n0_ := Aside0.mk (kB BK127.out hb)
         have n1_ := Aside0.mk (kB BK128.out hb)
         have n2_ := Aside0.mk (kB BK138.out hb)
         have n3_ := Aside0.mk (kB BK140.out hb)
         have n4_ := Aside0.mk (bT HB.out hb)
         clear BK127
         clear BK128
         clear BK138
         clear BK140
         clear HB
         have BK127 := n0_
         have BK128 := n1_
         have BK138 := n2_
         have BK140 := n3_
         have HB := n4_
         clear n0_ n1_ n2_ n3_ n4_
         (try clear hb)
         refine hK.out _ _ ⟨(kC BK128.out 0).trans rfl, (kC BK128.out 1).trans rfl⟩ (fun hHeld => ?_)
         clear hK K
         refine norm_ (a' := ?_) ?_ ?_
         rotate_left
         ·show Act.put _ (some 19) _ = _
          simp only [Act.put, sA, sB, sC, i64_w, i32_w]
          rfl
         exact norm_ (by simp only [putAll, Act.put, sA, sB, sC] <;> rfl) (hJ3_15_17 (gb138, gb140) _ ⟨hHeld, BK127.out, BK128.out, BK138.out, BK140.out, GW138.out, GE138.out, NB127_138.out, NB138_127.out, NB128_138.out, NB138_128.out, NB140_138.out, NB138_140.out, GW140.out, GE140.out, NB127_140.out, NB140_127.out, NB128_140.out, NB140_128.out, HB.out⟩)
        ·skip
         refine box_step ?hg (N := 9) ?hd (cs := #[.int .i64 0, .int .i64 0, .bool false]) (t := 25) ?hr ?_; (case hd => rfl); (case hg => rfl); (case hr => first | (go_simp; done) | (go_simp; rfl))
         intro gb139 hg w25 hbox hb
         have n0_ := Aside0.mk (kB BK127.out hb)
         have n1_ := Aside0.mk (kB BK128.out hb)
         have n2_ := Aside0.mk (kB BK138.out hb)
         have n3_ := Aside0.mk (kB BK140.out hb)
         have n4_ := Aside0.mk (bT HB.out hb)
         have n5_ := Aside0.mk (hbox)
         have n6_ := Aside0.mk ((by rw [hg]; exact (below_size HB.out) : w.heap.size ≤ gb139))
         have n7_ := n6_
         have n8_ := Aside0.mk ((by rw [hg]; exact Nat.ne_of_lt (blk_lt BK127.out) : gb127 ≠ gb139))
         have n9_ := Aside0.mk n8_.out.symm
         have n10_ := Aside0.mk ((by rw [hg]; exact Nat.ne_of_lt (blk_lt BK128.out) : gb128 ≠ gb139))
         have n11_ := Aside0.mk n10_.out.symm
         have n12_ := Aside0.mk ((by rw [hg]; exact Nat.ne_of_lt (blk_lt BK138.out) : gb138 ≠ gb139))
         have n13_ := Aside0.mk n12_.out.symm
         have n14_ := Aside0.mk ((by rw [hg]; exact Nat.ne_of_lt (blk_lt BK140.out) : gb140 ≠ gb139))
         have n15_ := Aside0.mk n14_.out.symm
         clear BK127
         clear BK128
         clear BK138
         clear BK140
         clear HB
         have BK127 := n0_
         have BK128 := n1_
         have BK138 := n2_
         have BK140 := n3_
         have HB := n4_
         have BK139 := n5_
         have GW139 := n6_
         have GE139 := n7_
         have NB127_139 := n8_
         have NB139_127 := n9_
         have NB128_139 := n10_
         have NB139_128 := n11_
         have NB138_139 := n12_
         have NB139_138 := n13_
         have NB140_139 := n14_
         have NB139_140 := n15_
         clear n0_ n1_ n2_ n3_ n4_ n5_ n6_ n7_ n8_ n9_ n10_ n11_ n12_ n13_ n14_ n15_
         clear hb hbox hg
         refine hK.out _ _ ⟨(kC BK128.out 0).trans rfl, (kC BK128.out 1).trans rfl⟩ (fun hHeld => ?_)
         clear hK K
         refine norm_ (a' := ?_) ?_ ?_
         rotate_left
         ·show Act.put _ (some 9) _ = _
          simp only [Act.put, sA, sB, sC, i64_w, i32_w]
          rfl
         exact norm_ (by simp only [putAll, Act.put, sA, sB, sC] <;> rfl) (hJ15_16_17 (gb138, gb139, gb140) _ ⟨hHeld, BK127.out, BK128.out, BK138.out, BK139.out, BK140.out, GW138.out, GE138.out, NB127_138.out, NB138_127.out, NB128_138.out, NB138_128.out, NB139_138.out, NB138_139.out, NB140_138.out, NB138_140.out, GW139.out, GE139.out, NB127_139.out, NB139_127.out, NB128_139.out, NB139_128.out, NB140_139.out, NB139_140.out, GW140.out, GE140.out, NB127_140.out, NB140_127.out, NB128_140.out, NB140_128.out, HB.out⟩)
      intro hJ15_17
      refine join_ (σ := Nat × Nat) 7 #[tT, tT, tT, tF, tT, tT, tT, tT, tT, tF, tT, tT, tT, tT, tF, tF, tT, tT, tF, tF, tF] (fun s_ => [(9, .pointer (some ⟨s_.1, 0, none⟩)), (10, .pointer (some ⟨s_.2, 0, none⟩))]) (fun s_ w' => (w'.cell? ⟨gb128, 0, none⟩ = some (.int .i64 a0_0) ∧ w'.cell? ⟨gb128, 1, none⟩ = some (.int .i64 a0_1)) ∧ (w'.heap[gb127]? = some (.cells #[.int .i64 a0_0, .int .i64 a0_1, .bool a0_2] 40 (0, 0))) ∧ (w'.heap[gb128]? = some (.cells #[.int .i64 a0_0, .int .i64 a0_1] 23 (0, 0))) ∧ (w'.heap[s_.1]? = some (.cells #[.int .i64 0, .int .i64 0, .bool false] 25 (0, 0))) ∧ (w'.heap[s_.2]? = some (.cells #[.int .i64 0, .int .i64 0, .bool false] 25 (0, 0))) ∧ (w.heap.size ≤ s_.1) ∧ (w.heap.size ≤ s_.1) ∧ (gb127 ≠ s_.1) ∧ (s_.1 ≠ gb127) ∧ (gb128 ≠ s_.1) ∧ (s_.1 ≠ gb128) ∧ (s_.2 ≠ s_.1) ∧ (s_.1 ≠ s_.2) ∧ (w.heap.size ≤ s_.2) ∧ (w.heap.size ≤ s_.2) ∧ (gb127 ≠ s_.2) ∧ (s_.2 ≠ gb127) ∧ (gb128 ≠ s_.2) ∧ (s_.2 ≠ gb128) ∧ (Below w.heap.size w w')) ?_ ?_
      ··skip
        rintro ⟨gb139, gb140⟩ w24 ⟨hS_, h0_, h1_, h2_, h3_, h4_, h5_, h6_, h7_, h8_, h9_, h10_, h11_, h12_, h13_, h14_, h15_, h16_, h17_, h18_⟩
        have n0_ : Aside0 (w24.heap[gb127]? = some (.cells #[.int .i64 a0_0, .int .i64 a0_1, .bool a0_2] 40 (0, 0))) := ⟨h0_⟩
        have n1_ : Aside0 (w24.heap[gb128]? = some (.cells #[.int .i64 a0_0, .int .i64 a0_1] 23 (0, 0))) := ⟨h1_⟩
        have n2_ : Aside0 (w24.heap[gb139]? = some (.cells #[.int .i64 0, .int .i64 0, .bool false] 25 (0, 0))) := ⟨h2_⟩
        have n3_ : Aside0 (w24.heap[gb140]? = some (.cells #[.int .i64 0, .int .i64 0, .bool false] 25 (0, 0))) := ⟨h3_⟩
        have n4_ : Aside0 (w.heap.size ≤ gb139) := ⟨h4_⟩
        have n5_ : Aside0 (w.heap.size ≤ gb139) := ⟨h5_⟩
        have n6_ : Aside0 (gb127 ≠ gb139) := ⟨h6_⟩
        have n7_ : Aside0 (gb139 ≠ gb127) := ⟨h7_⟩
        have n8_ : Aside0 (gb128 ≠ gb139) := ⟨h8_⟩
        have n9_ : Aside0 (gb139 ≠ gb128) := ⟨h9_⟩
        have n10_ : Aside0 (gb140 ≠ gb139) := ⟨h10_⟩
        have n11_ : Aside0 (gb139 ≠ gb140) := ⟨h11_⟩
        have n12_ : Aside0 (w.heap.size ≤ gb140) := ⟨h12_⟩
        have n13_ : Aside0 (w.heap.size ≤ gb140) := ⟨h13_⟩
        have n14_ : Aside0 (gb127 ≠ gb140) := ⟨h14_⟩
        have n15_ : Aside0 (gb140 ≠ gb127) := ⟨h15_⟩
        have n16_ : Aside0 (gb128 ≠ gb140) := ⟨h16_⟩
        have n17_ : Aside0 (gb140 ≠ gb128) := ⟨h17_⟩
        have n18_ : Aside0 (Below w.heap.size w w24) := ⟨h18_⟩
        clear BK127
        clear BK128
        clear HB
        clear h0_ h1_ h2_ h3_ h4_ h5_ h6_ h7_ h8_ h9_ h10_ h11_ h12_ h13_ h14_ h15_ h16_ h17_ h18_
        have BK127 := n0_
        have BK128 := n1_
        have BK139 := n2_
        have BK140 := n3_
        have GW139 := n4_
        have GE139 := n5_
        have NB127_139 := n6_
        have NB139_127 := n7_
        have NB128_139 := n8_
        have NB139_128 := n9_
        have NB140_139 := n10_
        have NB139_140 := n11_
        have GW140 := n12_
        have GE140 := n13_
        have NB127_140 := n14_
        have NB140_127 := n15_
        have NB128_140 := n16_
        have NB140_128 := n17_
        have HB := n18_
        clear n0_ n1_ n2_ n3_ n4_ n5_ n6_ n7_ n8_ n9_ n10_ n11_ n12_ n13_ n14_ n15_ n16_ n17_ n18_
        have hHeld : w24.cell? ⟨gb128, 0, none⟩ = some (.int .i64 a0_0) ∧ w24.cell? ⟨gb128, 1, none⟩ = some (.int .i64 a0_1) := hS_
        refine norm_ (a' := ?_) ?_ ?_
        rotate_left
        ·simp only [putAll, Act.put, sA, sB, sC]
         rfl
        refine two_ (i := 3) (j := 15) (Ni := some 19) (Nj := some 8) #[tT, tT, tT, tT, tT, tT, tT, tT, tT, tF, tT, tT, tT, tT, tF, tF, tT, tT, tF, tF, tF] #[tT, tT, tT, tF, tT, tT, tT, tT, tT, tF, tT, tT, tT, tT, tF, tT, tT, tT, tF, tF, tF] rfl rfl rfl rfl (two_of HT_.out (by kernel_rfl)) (by decide) (by decide) (fun K hK => ?_) (fun K hK => ?_)
        ·skip
         refine goes_ Try.func18 (by kernel_rfl) rfl #[.agg #[.int .i64 a0_0, .int .i64 a0_1], .bool a1, .bool a2] (by rfl) rfl rfl (by (try simp only [List.map_toArray, List.map_cons, List.map_nil]); first | done | rfl) ?_
         with_reducible refine (addr_Make.calls a0_0 a0_1 a1 a2 t129 t130 t131 _ A4.out).mono ?_
         rintro e w25 ⟨rfl, hb⟩
         refine ⟨_, rfl, ?_⟩
         have n0_ := Aside0.mk (kB BK127.out hb)
         have n1_ := Aside0.mk (kB BK128.out hb)
         have n2_ := Aside0.mk (kB BK139.out hb)
         have n3_ := Aside0.mk (kB BK140.out hb)
         have n4_ := Aside0.mk (bT HB.out hb)
         clear BK127
         clear BK128
         clear BK139
         clear BK140
         clear HB
         have BK127 := n0_
         have BK128 := n1_
         have BK139 := n2_
         have BK140 := n3_
         have HB := n4_
         clear n0_ n1_ n2_ n3_ n4_
         (try clear hb)
         refine hK.out _ _ ⟨(kC BK128.out 0).trans rfl, (kC BK128.out 1).trans rfl⟩ (fun hHeld => ?_)
         clear hK K
         refine norm_ (a' := ?_) ?_ ?_
         rotate_left
         ·show Act.put _ (some 19) _ = _
          simp only [Act.put, sA, sB, sC, i64_w, i32_w]
          rfl
         exact norm_ (by simp only [putAll, Act.put, sA, sB, sC] <;> rfl) (hJ3_16_17 (gb139, gb140) _ ⟨hHeld, BK127.out, BK128.out, BK139.out, BK140.out, GW139.out, GE139.out, NB127_139.out, NB139_127.out, NB128_139.out, NB139_128.out, NB140_139.out, NB139_140.out, GW140.out, GE140.out, NB127_140.out, NB140_127.out, NB128_140.out, NB140_128.out, HB.out⟩)
        ·skip
         refine box_step ?hg (N := 8) ?hd (cs := #[.int .i64 0, .int .i64 0, .bool false]) (t := 25) ?hr ?_; (case hd => rfl); (case hg => rfl); (case hr => first | (go_simp; done) | (go_simp; rfl))
         intro gb138 hg w25 hbox hb
         have n0_ := Aside0.mk (kB BK127.out hb)
         have n1_ := Aside0.mk (kB BK128.out hb)
         have n2_ := Aside0.mk (kB BK139.out hb)
         have n3_ := Aside0.mk (kB BK140.out hb)
         have n4_ := Aside0.mk (bT HB.out hb)
         have n5_ := Aside0.mk (hbox)
         have n6_ := Aside0.mk ((by rw [hg]; exact (below_size HB.out) : w.heap.size ≤ gb138))
         have n7_ := n6_
         have n8_ := Aside0.mk ((by rw [hg]; exact Nat.ne_of_lt (blk_lt BK127.out) : gb127 ≠ gb138))
         have n9_ := Aside0.mk n8_.out.symm
         have n10_ := Aside0.mk ((by rw [hg]; exact Nat.ne_of_lt (blk_lt BK128.out) : gb128 ≠ gb138))
         have n11_ := Aside0.mk n10_.out.symm
         have n12_ := Aside0.mk ((by rw [hg]; exact Nat.ne_of_lt (blk_lt BK139.out) : gb139 ≠ gb138))
         have n13_ := Aside0.mk n12_.out.symm
         have n14_ := Aside0.mk ((by rw [hg]; exact Nat.ne_of_lt (blk_lt BK140.out) : gb140 ≠ gb138))
         have n15_ := Aside0.mk n14_.out.symm
         clear BK127
         clear BK128
         clear BK139
         clear BK140
         clear HB
         have BK127 := n0_
         have BK128 := n1_
         have BK139 := n2_
         have BK140 := n3_
         have HB := n4_
         have BK138 := n5_
         have GW138 := n6_
         have GE138 := n7_
         have NB127_138 := n8_
         have NB138_127 := n9_
         have NB128_138 := n10_
         have NB138_128 := n11_
         have NB139_138 := n12_
         have NB138_139 := n13_
         have NB140_138 := n14_
         have NB138_140 := n15_
         clear n0_ n1_ n2_ n3_ n4_ n5_ n6_ n7_ n8_ n9_ n10_ n11_ n12_ n13_ n14_ n15_
         clear hb hbox hg
         refine hK.out _ _ ⟨(kC BK128.out 0).trans rfl, (kC BK128.out 1).trans rfl⟩ (fun hHeld => ?_)
         clear hK K
         refine norm_ (a' := ?_) ?_ ?_
         rotate_left
         ·show Act.put _ (some 8) _ = _
          simp only [Act.put, sA, sB, sC, i64_w, i32_w]
          rfl
         exact norm_ (by simp only [putAll, Act.put, sA, sB, sC] <;> rfl) (hJ15_16_17 (gb138, gb139, gb140) _ ⟨hHeld, BK127.out, BK128.out, BK138.out, BK139.out, BK140.out, GW138.out, GE138.out, NB127_138.out, NB138_127.out, NB128_138.out, NB138_128.out, NB139_138.out, NB138_139.out, NB140_138.out, NB138_140.out, GW139.out, GE139.out, NB127_139.out, NB139_127.out, NB128_139.out, NB139_128.out, NB140_139.out, NB139_140.out, GW140.out, GE140.out, NB127_140.out, NB140_127.out, NB128_140.out, NB140_128.out, HB.out⟩)
      intro hJ16_17
      refine join_ (σ := Unit) 8 #[tT, tT, tT, tT, tT, tT, tT, tT, tT, tF, tT, tT, tT, tT, tF, tF, tF, tF, tF, tF, tF] (fun s_ => [(19, .agg #[.int .i64 t129, .int .i64 t130, .bool t131])]) (fun s_ w' => (w'.cell? ⟨gb128, 0, none⟩ = some (.int .i64 a0_0) ∧ w'.cell? ⟨gb128, 1, none⟩ = some (.int .i64 a0_1)) ∧ (w'.heap[gb127]? = some (.cells #[.int .i64 a0_0, .int .i64 a0_1, .bool a0_2] 40 (0, 0))) ∧ (w'.heap[gb128]? = some (.cells #[.int .i64 a0_0, .int .i64 a0_1] 23 (0, 0))) ∧ (Below w.heap.size w w')) ?_ ?_
      ··skip
        rintro _ w23 ⟨hS_, h0_, h1_, h2_⟩
        have n0_ : Aside0 (w23.heap[gb127]? = some (.cells #[.int .i64 a0_0, .int .i64 a0_1, .bool a0_2] 40 (0, 0))) := ⟨h0_⟩
        have n1_ : Aside0 (w23.heap[gb128]? = some (.cells #[.int .i64 a0_0, .int .i64 a0_1] 23 (0, 0))) := ⟨h1_⟩
        have n2_ : Aside0 (Below w.heap.size w w23) := ⟨h2_⟩
        clear BK127
        clear BK128
        clear HB
        clear h0_ h1_ h2_
        have BK127 := n0_
        have BK128 := n1_
        have HB := n2_
        clear n0_ n1_ n2_
        have hHeld : w23.cell? ⟨gb128, 0, none⟩ = some (.int .i64 a0_0) ∧ w23.cell? ⟨gb128, 1, none⟩ = some (.int .i64 a0_1) := hS_
        refine norm_ (a' := ?_) ?_ ?_
        rotate_left
        ·simp only [putAll, Act.put, sA, sB, sC]
         rfl
        refine four_ (i := 9) (j := 15) (k := 16) (m := 17) (Ni := some 25) (Nj := some 8) (Nk := some 9) (Nm := some 10) #[tT, tT, tT, tT, tT, tT, tT, tT, tT, tT, tT, tT, tT, tT, tF, tF, tF, tF, tF, tF, tF] #[tT, tT, tT, tT, tT, tT, tT, tT, tT, tF, tT, tT, tT, tT, tF, tT, tF, tF, tF, tF, tF] #[tT, tT, tT, tT, tT, tT, tT, tT, tT, tF, tT, tT, tT, tT, tF, tF, tT, tF, tF, tF, tF] #[tT, tT, tT, tT, tT, tT, tT, tT, tT, tF, tT, tT, tT, tT, tF, tF, tF, tT, tF, tF, tF] rfl rfl rfl rfl rfl rfl rfl rfl (four_of HT_.out (by kernel_rfl)) (by decide) (by decide) (by decide) (by decide) (fun K hK => ?_) (fun K hK => ?_) (fun K hK => ?_) (fun K hK => ?_)
        ·skip
         refine goes_ Try.func18 (by kernel_rfl) rfl #[.agg #[.int .i64 a0_0, .int .i64 a0_1], .bool (!a1), .bool (!a2)] (by rfl) rfl rfl (by (try simp only [List.map_toArray, List.map_cons, List.map_nil]); first | done | rfl) ?_
         with_reducible refine (addr_Make.calls a0_0 a0_1 (!a1) (!a2) t132 t133 t134 _ A5.out).mono ?_
         rintro e w24 ⟨rfl, hb⟩
         refine ⟨_, rfl, ?_⟩
         have n0_ := Aside0.mk (kB BK127.out hb)
         have n1_ := Aside0.mk (kB BK128.out hb)
         have n2_ := Aside0.mk (bT HB.out hb)
         clear BK127
         clear BK128
         clear HB
         have BK127 := n0_
         have BK128 := n1_
         have HB := n2_
         clear n0_ n1_ n2_
         (try clear hb)
         refine hK.out _ _ ⟨(kC BK128.out 0).trans rfl, (kC BK128.out 1).trans rfl⟩ (fun hHeld => ?_)
         clear hK K
         refine norm_ (a' := ?_) ?_ ?_
         rotate_left
         ·show Act.put _ (some 25) _ = _
          simp only [Act.put, sA, sB, sC, i64_w, i32_w]
          rfl
         exact norm_ (by simp only [putAll, Act.put, sA, sB, sC] <;> rfl) (hJ3_9 () _ ⟨hHeld, BK127.out, BK128.out, HB.out⟩)
        ·skip
         refine box_step ?hg (N := 8) ?hd (cs := #[.int .i64 0, .int .i64 0, .bool false]) (t := 25) ?hr ?_; (case hd => rfl); (case hg => rfl); (case hr => first | (go_simp; done) | (go_simp; rfl))
         intro gb138 hg w24 hbox hb
         have n0_ := Aside0.mk (kB BK127.out hb)
         have n1_ := Aside0.mk (kB BK128.out hb)
         have n2_ := Aside0.mk (bT HB.out hb)
         have n3_ := Aside0.mk (hbox)
         have n4_ := Aside0.mk ((by rw [hg]; exact (below_size HB.out) : w.heap.size ≤ gb138))
         have n5_ := n4_
         have n6_ := Aside0.mk ((by rw [hg]; exact Nat.ne_of_lt (blk_lt BK127.out) : gb127 ≠ gb138))
         have n7_ := Aside0.mk n6_.out.symm
         have n8_ := Aside0.mk ((by rw [hg]; exact Nat.ne_of_lt (blk_lt BK128.out) : gb128 ≠ gb138))
         have n9_ := Aside0.mk n8_.out.symm
         clear BK127
         clear BK128
         clear HB
         have BK127 := n0_
         have BK128 := n1_
         have HB := n2_
         have BK138 := n3_
         have GW138 := n4_
         have GE138 := n5_
         have NB127_138 := n6_
         have NB138_127 := n7_
         have NB128_138 := n8_
         have NB138_128 := n9_
         clear n0_ n1_ n2_ n3_ n4_ n5_ n6_ n7_ n8_ n9_
         clear hb hbox hg
         refine hK.out _ _ ⟨(kC BK128.out 0).trans rfl, (kC BK128.out 1).trans rfl⟩ (fun hHeld => ?_)
         clear hK K
         refine norm_ (a' := ?_) ?_ ?_
         rotate_left
         ·show Act.put _ (some 8) _ = _
          simp only [Act.put, sA, sB, sC, i64_w, i32_w]
          rfl
         exact norm_ (by simp only [putAll, Act.put, sA, sB, sC] <;> rfl) (hJ3_15 (gb138) _ ⟨hHeld, BK127.out, BK128.out, BK138.out, GW138.out, GE138.out, NB127_138.out, NB138_127.out, NB128_138.out, NB138_128.out, HB.out⟩)
        ·skip
         refine box_step ?hg (N := 9) ?hd (cs := #[.int .i64 0, .int .i64 0, .bool false]) (t := 25) ?hr ?_; (case hd => rfl); (case hg => rfl); (case hr => first | (go_simp; done) | (go_simp; rfl))
         intro gb139 hg w24 hbox hb
         have n0_ := Aside0.mk (kB BK127.out hb)
         have n1_ := Aside0.mk (kB BK128.out hb)
         have n2_ := Aside0.mk (bT HB.out hb)
         have n3_ := Aside0.mk (hbox)
         have n4_ := Aside0.mk ((by rw [hg]; exact (below_size HB.out) : w.heap.size ≤ gb139))
         have n5_ := n4_
         have n6_ := Aside0.mk ((by rw [hg]; exact Nat.ne_of_lt (blk_lt BK127.out) : gb127 ≠ gb139))
         have n7_ := Aside0.mk n6_.out.symm
         have n8_ := Aside0.mk ((by rw [hg]; exact Nat.ne_of_lt (blk_lt BK128.out) : gb128 ≠ gb139))
         have n9_ := Aside0.mk n8_.out.symm
         clear BK127
         clear BK128
         clear HB
         have BK127 := n0_
         have BK128 := n1_
         have HB := n2_
         have BK139 := n3_
         have GW139 := n4_
         have GE139 := n5_
         have NB127_139 := n6_
         have NB139_127 := n7_
         have NB128_139 := n8_
         have NB139_128 := n9_
         clear n0_ n1_ n2_ n3_ n4_ n5_ n6_ n7_ n8_ n9_
         clear hb hbox hg
         refine hK.out _ _ ⟨(kC BK128.out 0).trans rfl, (kC BK128.out 1).trans rfl⟩ (fun hHeld => ?_)
         clear hK K
         refine norm_ (a' := ?_) ?_ ?_
         rotate_left
         ·show Act.put _ (some 9) _ = _
          simp only [Act.put, sA, sB, sC, i64_w, i32_w]
          rfl
         exact norm_ (by simp only [putAll, Act.put, sA, sB, sC] <;> rfl) (hJ3_16 (gb139) _ ⟨hHeld, BK127.out, BK128.out, BK139.out, GW139.out, GE139.out, NB127_139.out, NB139_127.out, NB128_139.out, NB139_128.out, HB.out⟩)
        ·skip
         refine box_step ?hg (N := 10) ?hd (cs := #[.int .i64 0, .int .i64 0, .bool false]) (t := 25) ?hr ?_; (case hd => rfl); (case hg => rfl); (case hr => first | (go_simp; done) | (go_simp; rfl))
         intro gb140 hg w24 hbox hb
         have n0_ := Aside0.mk (kB BK127.out hb)
         have n1_ := Aside0.mk (kB BK128.out hb)
         have n2_ := Aside0.mk (bT HB.out hb)
         have n3_ := Aside0.mk (hbox)
         have n4_ := Aside0.mk ((by rw [hg]; exact (below_size HB.out) : w.heap.size ≤ gb140))
         have n5_ := n4_
         have n6_ := Aside0.mk ((by rw [hg]; exact Nat.ne_of_lt (blk_lt BK127.out) : gb127 ≠ gb140))
         have n7_ := Aside0.mk n6_.out.symm
         have n8_ := Aside0.mk ((by rw [hg]; exact Nat.ne_of_lt (blk_lt BK128.out) : gb128 ≠ gb140))
         have n9_ := Aside0.mk n8_.out.symm
         clear BK127
         clear BK128
         clear HB
         have BK127 := n0_
         have BK128 := n1_
         have HB := n2_
         have BK140 := n3_
         have GW140 := n4_
         have GE140 := n5_
         have NB127_140 := n6_
         have NB140_127 := n7_
         have NB128_140 := n8_
         have NB140_128 := n9_
         clear n0_ n1_ n2_ n3_ n4_ n5_ n6_ n7_ n8_ n9_
         clear hb hbox hg
         refine hK.out _ _ ⟨(kC BK128.out 0).trans rfl, (kC BK128.out 1).trans rfl⟩ (fun hHeld => ?_)
         clear hK K
         refine norm_ (a' := ?_) ?_ ?_
         rotate_left
         ·show Act.put _ (some 10) _ = _
          simp only [Act.put, sA, sB, sC, i64_w, i32_w]
          rfl
         exact norm_ (by simp only [putAll, Act.put, sA, sB, sC] <;> rfl) (hJ3_17 (gb140) _ ⟨hHeld, BK127.out, BK128.out, BK140.out, GW140.out, GE140.out, NB127_140.out, NB140_127.out, NB128_140.out, NB140_128.out, HB.out⟩)
      intro hJ3
      refine join_ (σ := Nat) 8 #[tT, tT, tT, tF, tT, tT, tT, tT, tT, tF, tT, tT, tT, tT, tF, tT, tF, tF, tF, tF, tF] (fun s_ => [(8, .pointer (some ⟨s_, 0, none⟩))]) (fun s_ w' => (w'.cell? ⟨gb128, 0, none⟩ = some (.int .i64 a0_0) ∧ w'.cell? ⟨gb128, 1, none⟩ = some (.int .i64 a0_1)) ∧ (w'.heap[gb127]? = some (.cells #[.int .i64 a0_0, .int .i64 a0_1, .bool a0_2] 40 (0, 0))) ∧ (w'.heap[gb128]? = some (.cells #[.int .i64 a0_0, .int .i64 a0_1] 23 (0, 0))) ∧ (w'.heap[s_]? = some (.cells #[.int .i64 0, .int .i64 0, .bool false] 25 (0, 0))) ∧ (w.heap.size ≤ s_) ∧ (w.heap.size ≤ s_) ∧ (gb127 ≠ s_) ∧ (s_ ≠ gb127) ∧ (gb128 ≠ s_) ∧ (s_ ≠ gb128) ∧ (Below w.heap.size w w')) ?_ ?_
      ··skip
        rintro gb138 w23 ⟨hS_, h0_, h1_, h2_, h3_, h4_, h5_, h6_, h7_, h8_, h9_⟩
        have n0_ : Aside0 (w23.heap[gb127]? = some (.cells #[.int .i64 a0_0, .int .i64 a0_1, .bool a0_2] 40 (0, 0))) := ⟨h0_⟩
        have n1_ : Aside0 (w23.heap[gb128]? = some (.cells #[.int .i64 a0_0, .int .i64 a0_1] 23 (0, 0))) := ⟨h1_⟩
        have n2_ : Aside0 (w23.heap[gb138]? = some (.cells #[.int .i64 0, .int .i64 0, .bool false] 25 (0, 0))) := ⟨h2_⟩
        have n3_ : Aside0 (w.heap.size ≤ gb138) := ⟨h3_⟩
        have n4_ : Aside0 (w.heap.size ≤ gb138) := ⟨h4_⟩
        have n5_ : Aside0 (gb127 ≠ gb138) := ⟨h5_⟩
        have n6_ : Aside0 (gb138 ≠ gb127) := ⟨h6_⟩
        have n7_ : Aside0 (gb128 ≠ gb138) := ⟨h7_⟩
        have n8_ : Aside0 (gb138 ≠ gb128) := ⟨h8_⟩
        have n9_ : Aside0 (Below w.heap.size w w23) := ⟨h9_⟩
        clear BK127
        clear BK128
        clear HB
        clear h0_ h1_ h2_ h3_ h4_ h5_ h6_ h7_ h8_ h9_
        have BK127 := n0_
        have BK128 := n1_
        have BK138 := n2_
        have GW138 := n3_
        have GE138 := n4_
        have NB127_138 := n5_
        have NB138_127 := n6_
        have NB128_138 := n7_
        have NB138_128 := n8_
        have HB := n9_
        clear n0_ n1_ n2_ n3_ n4_ n5_ n6_ n7_ n8_ n9_
        have hHeld : w23.cell? ⟨gb128, 0, none⟩ = some (.int .i64 a0_0) ∧ w23.cell? ⟨gb128, 1, none⟩ = some (.int .i64 a0_1) := hS_
        refine norm_ (a' := ?_) ?_ ?_
        rotate_left
        ·simp only [putAll, Act.put, sA, sB, sC]
         rfl
        refine three_ (i := 3) (j := 16) (k := 17) (Ni := some 19) (Nj := some 9) (Nk := some 10) #[tT, tT, tT, tT, tT, tT, tT, tT, tT, tF, tT, tT, tT, tT, tF, tT, tF, tF, tF, tF, tF] #[tT, tT, tT, tF, tT, tT, tT, tT, tT, tF, tT, tT, tT, tT, tF, tT, tT, tF, tF, tF, tF] #[tT, tT, tT, tF, tT, tT, tT, tT, tT, tF, tT, tT, tT, tT, tF, tT, tF, tT, tF, tF, tF] rfl rfl rfl rfl rfl rfl (three_of HT_.out (by kernel_rfl)) (by decide) (by decide) (by decide) (fun K hK => ?_) (fun K hK => ?_) (fun K hK => ?_)
        ·skip
         refine goes_ Try.func18 (by kernel_rfl) rfl #[.agg #[.int .i64 a0_0, .int .i64 a0_1], .bool a1, .bool a2] (by rfl) rfl rfl (by (try simp only [List.map_toArray, List.map_cons, List.map_nil]); first | done | rfl) ?_
         with_reducible refine (addr_Make.calls a0_0 a0_1 a1 a2 t129 t130 t131 _ A4.out).mono ?_
         rintro e w24 ⟨rfl, hb⟩
         refine ⟨_, rfl, ?_⟩
         have n0_ := Aside0.mk (kB BK127.out hb)
         have n1_ := Aside0.mk (kB BK128.out hb)
         have n2_ := Aside0.mk (kB BK138.out hb)
         have n3_ := Aside0.mk (bT HB.out hb)
         clear BK127
         clear BK128
         clear BK138
         clear HB
         have BK127 := n0_
         have BK128 := n1_
         have BK138 := n2_
         have HB := n3_
         clear n0_ n1_ n2_ n3_
         (try clear hb)
         refine hK.out _ _ ⟨(kC BK128.out 0).trans rfl, (kC BK128.out 1).trans rfl⟩ (fun hHeld => ?_)
         clear hK K
         refine norm_ (a' := ?_) ?_ ?_
         rotate_left
         ·show Act.put _ (some 19) _ = _
          simp only [Act.put, sA, sB, sC, i64_w, i32_w]
          rfl
         exact norm_ (by simp only [putAll, Act.put, sA, sB, sC] <;> rfl) (hJ3_15 (gb138) _ ⟨hHeld, BK127.out, BK128.out, BK138.out, GW138.out, GE138.out, NB127_138.out, NB138_127.out, NB128_138.out, NB138_128.out, HB.out⟩)
        ·skip
         refine box_step ?hg (N := 9) ?hd (cs := #[.int .i64 0, .int .i64 0, .bool false]) (t := 25) ?hr ?_; (case hd => rfl); (case hg => rfl); (case hr => first | (go_simp; done) | (go_simp; rfl))
         intro gb139 hg w24 hbox hb
         have n0_ := Aside0.mk (kB BK127.out hb)
         have n1_ := Aside0.mk (kB BK128.out hb)
         have n2_ := Aside0.mk (kB BK138.out hb)
         have n3_ := Aside0.mk (bT HB.out hb)
         have n4_ := Aside0.mk (hbox)
         have n5_ := Aside0.mk ((by rw [hg]; exact (below_size HB.out) : w.heap.size ≤ gb139))
         have n6_ := n5_
         have n7_ := Aside0.mk ((by rw [hg]; exact Nat.ne_of_lt (blk_lt BK127.out) : gb127 ≠ gb139))
         have n8_ := Aside0.mk n7_.out.symm
         have n9_ := Aside0.mk ((by rw [hg]; exact Nat.ne_of_lt (blk_lt BK128.out) : gb128 ≠ gb139))
         have n10_ := Aside0.mk n9_.out.symm
         have n11_ := Aside0.mk ((by rw [hg]; exact Nat.ne_of_lt (blk_lt BK138.out) : gb138 ≠ gb139))
         have n12_ := Aside0.mk n11_.out.symm
         clear BK127
         clear BK128
         clear BK138
         clear HB
         have BK127 := n0_
         have BK128 := n1_
         have BK138 := n2_
         have HB := n3_
         have BK139 := n4_
         have GW139 := n5_
         have GE139 := n6_
         have NB127_139 := n7_
         have NB139_127 := n8_
         have NB128_139 := n9_
         have NB139_128 := n10_
         have NB138_139 := n11_
         have NB139_138 := n12_
         clear n0_ n1_ n2_ n3_ n4_ n5_ n6_ n7_ n8_ n9_ n10_ n11_ n12_
         clear hb hbox hg
         refine hK.out _ _ ⟨(kC BK128.out 0).trans rfl, (kC BK128.out 1).trans rfl⟩ (fun hHeld => ?_)
         clear hK K
         refine norm_ (a' := ?_) ?_ ?_
         rotate_left
         ·show Act.put _ (some 9) _ = _
          simp only [Act.put, sA, sB, sC, i64_w, i32_w]
          rfl
         exact norm_ (by simp only [putAll, Act.put, sA, sB, sC] <;> rfl) (hJ15_16 (gb138, gb139) _ ⟨hHeld, BK127.out, BK128.out, BK138.out, BK139.out, GW138.out, GE138.out, NB127_138.out, NB138_127.out, NB128_138.out, NB138_128.out, NB139_138.out, NB138_139.out, GW139.out, GE139.out, NB127_139.out, NB139_127.out, NB128_139.out, NB139_128.out, HB.out⟩)
        ·skip
         refine box_step ?hg (N := 10) ?hd (cs := #[.int .i64 0, .int .i64 0, .bool false]) (t := 25) ?hr ?_; (case hd => rfl); (case hg => rfl); (case hr => first | (go_simp; done) | (go_simp; rfl))
         intro gb140 hg w24 hbox hb
         have n0_ := Aside0.mk (kB BK127.out hb)
         have n1_ := Aside0.mk (kB BK128.out hb)
         have n2_ := Aside0.mk (kB BK138.out hb)
         have n3_ := Aside0.mk (bT HB.out hb)
         have n4_ := Aside0.mk (hbox)
         have n5_ := Aside0.mk ((by rw [hg]; exact (below_size HB.out) : w.heap.size ≤ gb140))
         have n6_ := n5_
         have n7_ := Aside0.mk ((by rw [hg]; exact Nat.ne_of_lt (blk_lt BK127.out) : gb127 ≠ gb140))
         have n8_ := Aside0.mk n7_.out.symm
         have n9_ := Aside0.mk ((by rw [hg]; exact Nat.ne_of_lt (blk_lt BK128.out) : gb128 ≠ gb140))
         have n10_ := Aside0.mk n9_.out.symm
         have n11_ := Aside0.mk ((by rw [hg]; exact Nat.ne_of_lt (blk_lt BK138.out) : gb138 ≠ gb140))
         have n12_ := Aside0.mk n11_.out.symm
         clear BK127
         clear BK128
         clear BK138
         clear HB
         have BK127 := n0_
         have BK128 := n1_
         have BK138 := n2_
         have HB := n3_
         have BK140 := n4_
         have GW140 := n5_
         have GE140 := n6_
         have NB127_140 := n7_
         have NB140_127 := n8_
         have NB128_140 := n9_
         have NB140_128 := n10_
         have NB138_140 := n11_
         have NB140_138 := n12_
         clear n0_ n1_ n2_ n3_ n4_ n5_ n6_ n7_ n8_ n9_ n10_ n11_ n12_
         clear hb hbox hg
         refine hK.out _ _ ⟨(kC BK128.out 0).trans rfl, (kC BK128.out 1).trans rfl⟩ (fun hHeld => ?_)
         clear hK K
         refine norm_ (a' := ?_) ?_ ?_
         rotate_left
         ·show Act.put _ (some 10) _ = _
          simp only [Act.put, sA, sB, sC, i64_w, i32_w]
          rfl
         exact norm_ (by simp only [putAll, Act.put, sA, sB, sC] <;> rfl) (hJ15_17 (gb138, gb140) _ ⟨hHeld, BK127.out, BK128.out, BK138.out, BK140.out, GW138.out, GE138.out, NB127_138.out, NB138_127.out, NB128_138.out, NB138_128.out, NB140_138.out, NB138_140.out, GW140.out, GE140.out, NB127_140.out, NB140_127.out, NB128_140.out, NB140_128.out, HB.out⟩)
      intro hJ15
      refine join_ (σ := Nat) 8 #[tT, tT, tT, tF, tT, tT, tT, tT, tT, tF, tT, tT, tT, tT, tF, tF, tT, tF, tF, tF, tF] (fun s_ => [(9, .pointer (some ⟨s_, 0, none⟩))]) (fun s_ w' => (w'.cell? ⟨gb128, 0, none⟩ = some (.int .i64 a0_0) ∧ w'.cell? ⟨gb128, 1, none⟩ = some (.int .i64 a0_1)) ∧ (w'.heap[gb127]? = some (.cells #[.int .i64 a0_0, .int .i64 a0_1, .bool a0_2] 40 (0, 0))) ∧ (w'.heap[gb128]? = some (.cells #[.int .i64 a0_0, .int .i64 a0_1] 23 (0, 0))) ∧ (w'.heap[s_]? = some (.cells #[.int .i64 0, .int .i64 0, .bool false] 25 (0, 0))) ∧ (w.heap.size ≤ s_) ∧ (w.heap.size ≤ s_) ∧ (gb127 ≠ s_) ∧ (s_ ≠ gb127) ∧ (gb128 ≠ s_) ∧ (s_ ≠ gb128) ∧ (Below w.heap.size w w')) ?_ ?_
      ··skip
        rintro gb139 w23 ⟨hS_, h0_, h1_, h2_, h3_, h4_, h5_, h6_, h7_, h8_, h9_⟩
        have n0_ : Aside0 (w23.heap[gb127]? = some (.cells #[.int .i64 a0_0, .int .i64 a0_1, .bool a0_2] 40 (0, 0))) := ⟨h0_⟩
        have n1_ : Aside0 (w23.heap[gb128]? = some (.cells #[.int .i64 a0_0, .int .i64 a0_1] 23 (0, 0))) := ⟨h1_⟩
        have n2_ : Aside0 (w23.heap[gb139]? = some (.cells #[.int .i64 0, .int .i64 0, .bool false] 25 (0, 0))) := ⟨h2_⟩
        have n3_ : Aside0 (w.heap.size ≤ gb139) := ⟨h3_⟩
        have n4_ : Aside0 (w.heap.size ≤ gb139) := ⟨h4_⟩
        have n5_ : Aside0 (gb127 ≠ gb139) := ⟨h5_⟩
        have n6_ : Aside0 (gb139 ≠ gb127) := ⟨h6_⟩
        have n7_ : Aside0 (gb128 ≠ gb139) := ⟨h7_⟩
        have n8_ : Aside0 (gb139 ≠ gb128) := ⟨h8_⟩
        have n9_ : Aside0 (Below w.heap.size w w23) := ⟨h9_⟩
        clear BK127
        clear BK128
        clear HB
        clear h0_ h1_ h2_ h3_ h4_ h5_ h6_ h7_ h8_ h9_
        have BK127 := n0_
        have BK128 := n1_
        have BK139 := n2_
        have GW139 := n3_
        have GE139 := n4_
        have NB127_139 := n5_
        have NB139_127 := n6_
        have NB128_139 := n7_
        have NB139_128 := n8_
        have HB := n9_
        clear n0_ n1_ n2_ n3_ n4_ n5_ n6_ n7_ n8_ n9_
        have hHeld : w23.cell? ⟨gb128, 0, none⟩ = some (.int .i64 a0_0) ∧ w23.cell? ⟨gb128, 1, none⟩ = some (.int .i64 a0_1) := hS_
        refine norm_ (a' := ?_) ?_ ?_
        rotate_left
        ·simp only [putAll, Act.put, sA, sB, sC]
         rfl
        refine three_ (i := 3) (j := 15) (k := 17) (Ni := some 19) (Nj := some 8) (Nk := some 10) #[tT, tT, tT, tT, tT, tT, tT, tT, tT, tF, tT, tT, tT, tT, tF, tF, tT, tF, tF, tF, tF] #[tT, tT, tT, tF, tT, tT, tT, tT, tT, tF, tT, tT, tT, tT, tF, tT, tT, tF, tF, tF, tF] #[tT, tT, tT, tF, tT, tT, tT, tT, tT, tF, tT, tT, tT, tT, tF, tF, tT, tT, tF, tF, tF] rfl rfl rfl rfl rfl rfl (three_of HT_.out (by kernel_rfl)) (by decide) (by decide) (by decide) (fun K hK => ?_) (fun K hK => ?_) (fun K hK => ?_)
        ·skip
         refine goes_ Try.func18 (by kernel_rfl) rfl #[.agg #[.int .i64 a0_0, .int .i64 a0_1], .bool a1, .bool a2] (by rfl) rfl rfl (by (try simp only [List.map_toArray, List.map_cons, List.map_nil]); first | done | rfl) ?_
         with_reducible refine (addr_Make.calls a0_0 a0_1 a1 a2 t129 t130 t131 _ A4.out).mono ?_
         rintro e w24 ⟨rfl, hb⟩
         refine ⟨_, rfl, ?_⟩
         have n0_ := Aside0.mk (kB BK127.out hb)
         have n1_ := Aside0.mk (kB BK128.out hb)
         have n2_ := Aside0.mk (kB BK139.out hb)
         have n3_ := Aside0.mk (bT HB.out hb)
         clear BK127
         clear BK128
         clear BK139
         clear HB
         have BK127 := n0_
         have BK128 := n1_
         have BK139 := n2_
         have HB := n3_
         clear n0_ n1_ n2_ n3_
         (try clear hb)
         refine hK.out _ _ ⟨(kC BK128.out 0).trans rfl, (kC BK128.out 1).trans rfl⟩ (fun hHeld => ?_)
         clear hK K
         refine norm_ (a' := ?_) ?_ ?_
         rotate_left
         ·show Act.put _ (some 19) _ = _
          simp only [Act.put, sA, sB, sC, i64_w, i32_w]
          rfl
         exact norm_ (by simp only [putAll, Act.put, sA, sB, sC] <;> rfl) (hJ3_16 (gb139) _ ⟨hHeld, BK127.out, BK128.out, BK139.out, GW139.out, GE139.out, NB127_139.out, NB139_127.out, NB128_139.out, NB139_128.out, HB.out⟩)
        ·skip
         refine box_step ?hg (N := 8) ?hd (cs := #[.int .i64 0, .int .i64 0, .bool false]) (t := 25) ?hr ?_; (case hd => rfl); (case hg => rfl); (case hr => first | (go_simp; done) | (go_simp; rfl))
         intro gb138 hg w24 hbox hb
         have n0_ := Aside0.mk (kB BK127.out hb)
         have n1_ := Aside0.mk (kB BK128.out hb)
         have n2_ := Aside0.mk (kB BK139.out hb)
         have n3_ := Aside0.mk (bT HB.out hb)
         have n4_ := Aside0.mk (hbox)
         have n5_ := Aside0.mk ((by rw [hg]; exact (below_size HB.out) : w.heap.size ≤ gb138))
         have n6_ := n5_
         have n7_ := Aside0.mk ((by rw [hg]; exact Nat.ne_of_lt (blk_lt BK127.out) : gb127 ≠ gb138))
         have n8_ := Aside0.mk n7_.out.symm
         have n9_ := Aside0.mk ((by rw [hg]; exact Nat.ne_of_lt (blk_lt BK128.out) : gb128 ≠ gb138))
         have n10_ := Aside0.mk n9_.out.symm
         have n11_ := Aside0.mk ((by rw [hg]; exact Nat.ne_of_lt (blk_lt BK139.out) : gb139 ≠ gb138))
         have n12_ := Aside0.mk n11_.out.symm
         clear BK127
         clear BK128
         clear BK139
         clear HB
         have BK127 := n0_
         have BK128 := n1_
         have BK139 := n2_
         have HB := n3_
         have BK138 := n4_
         have GW138 := n5_
         have GE138 := n6_
         have NB127_138 := n7_
         have NB138_127 := n8_
         have NB128_138 := n9_
         have NB138_128 := n10_
         have NB139_138 := n11_
         have NB138_139 := n12_
         clear n0_ n1_ n2_ n3_ n4_ n5_ n6_ n7_ n8_ n9_ n10_ n11_ n12_
         clear hb hbox hg
         refine hK.out _ _ ⟨(kC BK128.out 0).trans rfl, (kC BK128.out 1).trans rfl⟩ (fun hHeld => ?_)
         clear hK K
         refine norm_ (a' := ?_) ?_ ?_
         rotate_left
         ·show Act.put _ (some 8) _ = _
          simp only [Act.put, sA, sB, sC, i64_w, i32_w]
          rfl
         exact norm_ (by simp only [putAll, Act.put, sA, sB, sC] <;> rfl) (hJ15_16 (gb138, gb139) _ ⟨hHeld, BK127.out, BK128.out, BK138.out, BK139.out, GW138.out, GE138.out, NB127_138.out, NB138_127.out, NB128_138.out, NB138_128.out, NB139_138.out, NB138_139.out, GW139.out, GE139.out, NB127_139.out, NB139_127.out, NB128_139.out, NB139_128.out, HB.out⟩)
        ·skip
         refine box_step ?hg (N := 10) ?hd (cs := #[.int .i64 0, .int .i64 0, .bool false]) (t := 25) ?hr ?_; (case hd => rfl); (case hg => rfl); (case hr => first | (go_simp; done) | (go_simp; rfl))
         intro gb140 hg w24 hbox hb
         have n0_ := Aside0.mk (kB BK127.out hb)
         have n1_ := Aside0.mk (kB BK128.out hb)
         have n2_ := Aside0.mk (kB BK139.out hb)
         have n3_ := Aside0.mk (bT HB.out hb)
         have n4_ := Aside0.mk (hbox)
         have n5_ := Aside0.mk ((by rw [hg]; exact (below_size HB.out) : w.heap.size ≤ gb140))
         have n6_ := n5_
         have n7_ := Aside0.mk ((by rw [hg]; exact Nat.ne_of_lt (blk_lt BK127.out) : gb127 ≠ gb140))
         have n8_ := Aside0.mk n7_.out.symm
         have n9_ := Aside0.mk ((by rw [hg]; exact Nat.ne_of_lt (blk_lt BK128.out) : gb128 ≠ gb140))
         have n10_ := Aside0.mk n9_.out.symm
         have n11_ := Aside0.mk ((by rw [hg]; exact Nat.ne_of_lt (blk_lt BK139.out) : gb139 ≠ gb140))
         have n12_ := Aside0.mk n11_.out.symm
         clear BK127
         clear BK128
         clear BK139
         clear HB
         have BK127 := n0_
         have BK128 := n1_
         have BK139 := n2_
         have HB := n3_
         have BK140 := n4_
         have GW140 := n5_
         have GE140 := n6_
         have NB127_140 := n7_
         have NB140_127 := n8_
         have NB128_140 := n9_
         have NB140_128 := n10_
         have NB139_140 := n11_
         have NB140_139 := n12_
         clear n0_ n1_ n2_ n3_ n4_ n5_ n6_ n7_ n8_ n9_ n10_ n11_ n12_
         clear hb hbox hg
         refine hK.out _ _ ⟨(kC BK128.out 0).trans rfl, (kC BK128.out 1).trans rfl⟩ (fun hHeld => ?_)
         clear hK K
         refine norm_ (a' := ?_) ?_ ?_
         rotate_left
         ·show Act.put _ (some 10) _ = _
          simp only [Act.put, sA, sB, sC, i64_w, i32_w]
          rfl
         exact norm_ (by simp only [putAll, Act.put, sA, sB, sC] <;> rfl) (hJ16_17 (gb139, gb140) _ ⟨hHeld, BK127.out, BK128.out, BK139.out, BK140.out, GW139.out, GE139.out, NB127_139.out, NB139_127.out, NB128_139.out, NB139_128.out, NB140_139.out, NB139_140.out, GW140.out, GE140.out, NB127_140.out, NB140_127.out, NB128_140.out, NB140_128.out, HB.out⟩)
      intro hJ16
      refine join_ (σ := Nat) 8 #[tT, tT, tT, tF, tT, tT, tT, tT, tT, tF, tT, tT, tT, tT, tF, tF, tF, tT, tF, tF, tF] (fun s_ => [(10, .pointer (some ⟨s_, 0, none⟩))]) (fun s_ w' => (w'.cell? ⟨gb128, 0, none⟩ = some (.int .i64 a0_0) ∧ w'.cell? ⟨gb128, 1, none⟩ = some (.int .i64 a0_1)) ∧ (w'.heap[gb127]? = some (.cells #[.int .i64 a0_0, .int .i64 a0_1, .bool a0_2] 40 (0, 0))) ∧ (w'.heap[gb128]? = some (.cells #[.int .i64 a0_0, .int .i64 a0_1] 23 (0, 0))) ∧ (w'.heap[s_]? = some (.cells #[.int .i64 0, .int .i64 0, .bool false] 25 (0, 0))) ∧ (w.heap.size ≤ s_) ∧ (w.heap.size ≤ s_) ∧ (gb127 ≠ s_) ∧ (s_ ≠ gb127) ∧ (gb128 ≠ s_) ∧ (s_ ≠ gb128) ∧ (Below w.heap.size w w')) ?_ ?_
      ··skip
        rintro gb140 w23 ⟨hS_, h0_, h1_, h2_, h3_, h4_, h5_, h6_, h7_, h8_, h9_⟩
        have n0_ : Aside0 (w23.heap[gb127]? = some (.cells #[.int .i64 a0_0, .int .i64 a0_1, .bool a0_2] 40 (0, 0))) := ⟨h0_⟩
        have n1_ : Aside0 (w23.heap[gb128]? = some (.cells #[.int .i64 a0_0, .int .i64 a0_1] 23 (0, 0))) := ⟨h1_⟩
        have n2_ : Aside0 (w23.heap[gb140]? = some (.cells #[.int .i64 0, .int .i64 0, .bool false] 25 (0, 0))) := ⟨h2_⟩
        have n3_ : Aside0 (w.heap.size ≤ gb140) := ⟨h3_⟩
        have n4_ : Aside0 (w.heap.size ≤ gb140) := ⟨h4_⟩
        have n5_ : Aside0 (gb127 ≠ gb140) := ⟨h5_⟩
        have n6_ : Aside0 (gb140 ≠ gb127) := ⟨h6_⟩
        have n7_ : Aside0 (gb128 ≠ gb140) := ⟨h7_⟩
        have n8_ : Aside0 (gb140 ≠ gb128) := ⟨h8_⟩
        have n9_ : Aside0 (Below w.heap.size w w23) := ⟨h9_⟩
        clear BK127
        clear BK128
        clear HB
        clear h0_ h1_ h2_ h3_ h4_ h5_ h6_ h7_ h8_ h9_
        have BK127 := n0_
        have BK128 := n1_
        have BK140 := n2_
        have GW140 := n3_
        have GE140 := n4_
        have NB127_140 := n5_
        have NB140_127 := n6_
        have NB128_140 := n7_
        have NB140_128 := n8_
        have HB := n9_
        clear n0_ n1_ n2_ n3_ n4_ n5_ n6_ n7_ n8_ n9_
        have hHeld : w23.cell? ⟨gb128, 0, none⟩ = some (.int .i64 a0_0) ∧ w23.cell? ⟨gb128, 1, none⟩ = some (.int .i64 a0_1) := hS_
        refine norm_ (a' := ?_) ?_ ?_
        rotate_left
        ·simp only [putAll, Act.put, sA, sB, sC]
         rfl
        refine three_ (i := 3) (j := 15) (k := 16) (Ni := some 19) (Nj := some 8) (Nk := some 9) #[tT, tT, tT, tT, tT, tT, tT, tT, tT, tF, tT, tT, tT, tT, tF, tF, tF, tT, tF, tF, tF] #[tT, tT, tT, tF, tT, tT, tT, tT, tT, tF, tT, tT, tT, tT, tF, tT, tF, tT, tF, tF, tF] #[tT, tT, tT, tF, tT, tT, tT, tT, tT, tF, tT, tT, tT, tT, tF, tF, tT, tT, tF, tF, tF] rfl rfl rfl rfl rfl rfl (three_of HT_.out (by kernel_rfl)) (by decide) (by decide) (by decide) (fun K hK => ?_) (fun K hK => ?_) (fun K hK => ?_)
        ·skip
         refine goes_ Try.func18 (by kernel_rfl) rfl #[.agg #[.int .i64 a0_0, .int .i64 a0_1], .bool a1, .bool a2] (by rfl) rfl rfl (by (try simp only [List.map_toArray, List.map_cons, List.map_nil]); first | done | rfl) ?_
         with_reducible refine (addr_Make.calls a0_0 a0_1 a1 a2 t129 t130 t131 _ A4.out).mono ?_
         rintro e w24 ⟨rfl, hb⟩
         refine ⟨_, rfl, ?_⟩
         have n0_ := Aside0.mk (kB BK127.out hb)
         have n1_ := Aside0.mk (kB BK128.out hb)
         have n2_ := Aside0.mk (kB BK140.out hb)
         have n3_ := Aside0.mk (bT HB.out hb)
         clear BK127
         clear BK128
         clear BK140
         clear HB
         have BK127 := n0_
         have BK128 := n1_
         have BK140 := n2_
         have HB := n3_
         clear n0_ n1_ n2_ n3_
         (try clear hb)
         refine hK.out _ _ ⟨(kC BK128.out 0).trans rfl, (kC BK128.out 1).trans rfl⟩ (fun hHeld => ?_)
         clear hK K
         refine norm_ (a' := ?_) ?_ ?_
         rotate_left
         ·show Act.put _ (some 19) _ = _
          simp only [Act.put, sA, sB, sC, i64_w, i32_w]
          rfl
         exact norm_ (by simp only [putAll, Act.put, sA, sB, sC] <;> rfl) (hJ3_17 (gb140) _ ⟨hHeld, BK127.out, BK128.out, BK140.out, GW140.out, GE140.out, NB127_140.out, NB140_127.out, NB128_140.out, NB140_128.out, HB.out⟩)
        ·skip
         refine box_step ?hg (N := 8) ?hd (cs := #[.int .i64 0, .int .i64 0, .bool false]) (t := 25) ?hr ?_; (case hd => rfl); (case hg => rfl); (case hr => first | (go_simp; done) | (go_simp; rfl))
         intro gb138 hg w24 hbox hb
         have n0_ := Aside0.mk (kB BK127.out hb)
         have n1_ := Aside0.mk (kB BK128.out hb)
         have n2_ := Aside0.mk (kB BK140.out hb)
         have n3_ := Aside0.mk (bT HB.out hb)
         have n4_ := Aside0.mk (hbox)
         have n5_ := Aside0.mk ((by rw [hg]; exact (below_size HB.out) : w.heap.size ≤ gb138))
         have n6_ := n5_
         have n7_ := Aside0.mk ((by rw [hg]; exact Nat.ne_of_lt (blk_lt BK127.out) : gb127 ≠ gb138))
         have n8_ := Aside0.mk n7_.out.symm
         have n9_ := Aside0.mk ((by rw [hg]; exact Nat.ne_of_lt (blk_lt BK128.out) : gb128 ≠ gb138))
         have n10_ := Aside0.mk n9_.out.symm
         have n11_ := Aside0.mk ((by rw [hg]; exact Nat.ne_of_lt (blk_lt BK140.out) : gb140 ≠ gb138))
         have n12_ := Aside0.mk n11_.out.symm
         clear BK127
         clear BK128
         clear BK140
         clear HB
         have BK127 := n0_
         have BK128 := n1_
         have BK140 := n2_
         have HB := n3_
         have BK138 := n4_
         have GW138 := n5_
         have GE138 := n6_
         have NB127_138 := n7_
         have NB138_127 := n8_
         have NB128_138 := n9_
         have NB138_128 := n10_
         have NB140_138 := n11_
         have NB138_140 := n12_
         clear n0_ n1_ n2_ n3_ n4_ n5_ n6_ n7_ n8_ n9_ n10_ n11_ n12_
         clear hb hbox hg
         refine hK.out _ _ ⟨(kC BK128.out 0).trans rfl, (kC BK128.out 1).trans rfl⟩ (fun hHeld => ?_)
         clear hK K
         refine norm_ (a' := ?_) ?_ ?_
         rotate_left
         ·show Act.put _ (some 8) _ = _
          simp only [Act.put, sA, sB, sC, i64_w, i32_w]
          rfl
         exact norm_ (by simp only [putAll, Act.put, sA, sB, sC] <;> rfl) (hJ15_17 (gb138, gb140) _ ⟨hHeld, BK127.out, BK128.out, BK138.out, BK140.out, GW138.out, GE138.out, NB127_138.out, NB138_127.out, NB128_138.out, NB138_128.out, NB140_138.out, NB138_140.out, GW140.out, GE140.out, NB127_140.out, NB140_127.out, NB128_140.out, NB140_128.out, HB.out⟩)
        ·skip
         refine box_step ?hg (N := 9) ?hd (cs := #[.int .i64 0, .int .i64 0, .bool false]) (t := 25) ?hr ?_; (case hd => rfl); (case hg => rfl); (case hr => first | (go_simp; done) | (go_simp; rfl))
         intro gb139 hg w24 hbox hb
         have n0_ := Aside0.mk (kB BK127.out hb)
         have n1_ := Aside0.mk (kB BK128.out hb)
         have n2_ := Aside0.mk (kB BK140.out hb)
         have n3_ := Aside0.mk (bT HB.out hb)
         have n4_ := Aside0.mk (hbox)
         have n5_ := Aside0.mk ((by rw [hg]; exact (below_size HB.out) : w.heap.size ≤ gb139))
         have n6_ := n5_
         have n7_ := Aside0.mk ((by rw [hg]; exact Nat.ne_of_lt (blk_lt BK127.out) : gb127 ≠ gb139))
         have n8_ := Aside0.mk n7_.out.symm
         have n9_ := Aside0.mk ((by rw [hg]; exact Nat.ne_of_lt (blk_lt BK128.out) : gb128 ≠ gb139))
         have n10_ := Aside0.mk n9_.out.symm
         have n11_ := Aside0.mk ((by rw [hg]; exact Nat.ne_of_lt (blk_lt BK140.out) : gb140 ≠ gb139))
         have n12_ := Aside0.mk n11_.out.symm
         clear BK127
         clear BK128
         clear BK140
         clear HB
         have BK127 := n0_
         have BK128 := n1_
         have BK140 := n2_
         have HB := n3_
         have BK139 := n4_
         have GW139 := n5_
         have GE139 := n6_
         have NB127_139 := n7_
         have NB139_127 := n8_
         have NB128_139 := n9_
         have NB139_128 := n10_
         have NB140_139 := n11_
         have NB139_140 := n12_
         clear n0_ n1_ n2_ n3_ n4_ n5_ n6_ n7_ n8_ n9_ n10_ n11_ n12_
         clear hb hbox hg
         refine hK.out _ _ ⟨(kC BK128.out 0).trans rfl, (kC BK128.out 1).trans rfl⟩ (fun hHeld => ?_)
         clear hK K
         refine norm_ (a' := ?_) ?_ ?_
         rotate_left
         ·show Act.put _ (some 9) _ = _
          simp only [Act.put, sA, sB, sC, i64_w, i32_w]
          rfl
         exact norm_ (by simp only [putAll, Act.put, sA, sB, sC] <;> rfl) (hJ16_17 (gb139, gb140) _ ⟨hHeld, BK127.out, BK128.out, BK139.out, BK140.out, GW139.out, GE139.out, NB127_139.out, NB139_127.out, NB128_139.out, NB139_128.out, NB140_139.out, NB139_140.out, GW140.out, GE140.out, NB127_140.out, NB140_127.out, NB128_140.out, NB140_128.out, HB.out⟩)
      intro hJ17
      refine four_ (i := 3) (j := 15) (k := 16) (m := 17) (Ni := some 19) (Nj := some 8) (Nk := some 9) (Nm := some 10) #[tT, tT, tT, tT, tT, tT, tT, tT, tT, tF, tT, tT, tT, tT, tF, tF, tF, tF, tF, tF, tF] #[tT, tT, tT, tF, tT, tT, tT, tT, tT, tF, tT, tT, tT, tT, tF, tT, tF, tF, tF, tF, tF] #[tT, tT, tT, tF, tT, tT, tT, tT, tT, tF, tT, tT, tT, tT, tF, tF, tT, tF, tF, tF, tF] #[tT, tT, tT, tF, tT, tT, tT, tT, tT, tF, tT, tT, tT, tT, tF, tF, tF, tT, tF, tF, tF] rfl rfl rfl rfl rfl rfl rfl rfl (four_of HT_.out (by kernel_rfl)) (by decide) (by decide) (by decide) (by decide) (fun K hK => ?_) (fun K hK => ?_) (fun K hK => ?_) (fun K hK => ?_)
      ·skip
       refine goes_ Try.func18 (by kernel_rfl) rfl #[.agg #[.int .i64 a0_0, .int .i64 a0_1], .bool a1, .bool a2] (by rfl) rfl rfl (by (try simp only [List.map_toArray, List.map_cons, List.map_nil]); first | done | rfl) ?_
       with_reducible refine (addr_Make.calls a0_0 a0_1 a1 a2 t129 t130 t131 _ A4.out).mono ?_
       rintro e w22 ⟨rfl, hb⟩
       refine ⟨_, rfl, ?_⟩
       have n0_ := Aside0.mk (kB BK127.out hb)
       have n1_ := Aside0.mk (kB BK128.out hb)
       have n2_ := Aside0.mk (bT HB.out hb)
       clear BK127
       clear BK128
       clear HB
       have BK127 := n0_
       have BK128 := n1_
       have HB := n2_
       clear n0_ n1_ n2_
       (try clear hb)
       refine hK.out _ _ ⟨(kC BK128.out 0).trans rfl, (kC BK128.out 1).trans rfl⟩ (fun hHeld => ?_)
       clear hK K
       refine norm_ (a' := ?_) ?_ ?_
       rotate_left
       ·show Act.put _ (some 19) _ = _
        simp only [Act.put, sA, sB, sC, i64_w, i32_w]
        rfl
       exact norm_ (by simp only [putAll, Act.put, sA, sB, sC] <;> rfl) (hJ3 () _ ⟨hHeld, BK127.out, BK128.out, HB.out⟩)
      ·skip
       refine box_step ?hg (N := 8) ?hd (cs := #[.int .i64 0, .int .i64 0, .bool false]) (t := 25) ?hr ?_; (case hd => rfl); (case hg => rfl); (case hr => first | (go_simp; done) | (go_simp; rfl))
       intro gb138 hg w22 hbox hb
       have n0_ := Aside0.mk (kB BK127.out hb)
       have n1_ := Aside0.mk (kB BK128.out hb)
       have n2_ := Aside0.mk (bT HB.out hb)
       have n3_ := Aside0.mk (hbox)
       have n4_ := Aside0.mk ((by rw [hg]; exact (below_size HB.out) : w.heap.size ≤ gb138))
       have n5_ := n4_
       have n6_ := Aside0.mk ((by rw [hg]; exact Nat.ne_of_lt (blk_lt BK127.out) : gb127 ≠ gb138))
       have n7_ := Aside0.mk n6_.out.symm
       have n8_ := Aside0.mk ((by rw [hg]; exact Nat.ne_of_lt (blk_lt BK128.out) : gb128 ≠ gb138))
       have n9_ := Aside0.mk n8_.out.symm
       clear BK127
       clear BK128
       clear HB
       have BK127 := n0_
       have BK128 := n1_
       have HB := n2_
       have BK138 := n3_
       have GW138 := n4_
       have GE138 := n5_
       have NB127_138 := n6_
       have NB138_127 := n7_
       have NB128_138 := n8_
       have NB138_128 := n9_
       clear n0_ n1_ n2_ n3_ n4_ n5_ n6_ n7_ n8_ n9_
       clear hb hbox hg
       refine hK.out _ _ ⟨(kC BK128.out 0).trans rfl, (kC BK128.out 1).trans rfl⟩ (fun hHeld => ?_)
       clear hK K
       refine norm_ (a' := ?_) ?_ ?_
       rotate_left
       ·show Act.put _ (some 8) _ = _
        simp only [Act.put, sA, sB, sC, i64_w, i32_w]
        rfl
       exact norm_ (by simp only [putAll, Act.put, sA, sB, sC] <;> rfl) (hJ15 (gb138) _ ⟨hHeld, BK127.out, BK128.out, BK138.out, GW138.out, GE138.out, NB127_138.out, NB138_127.out, NB128_138.out, NB138_128.out, HB.out⟩)
      ·skip
       refine box_step ?hg (N := 9) ?hd (cs := #[.int .i64 0, .int .i64 0, .bool false]) (t := 25) ?hr ?_; (case hd => rfl); (case hg => rfl); (case hr => first | (go_simp; done) | (go_simp; rfl))
       intro gb139 hg w22 hbox hb
       have n0_ := Aside0.mk (kB BK127.out hb)
       have n1_ := Aside0.mk (kB BK128.out hb)
       have n2_ := Aside0.mk (bT HB.out hb)
       have n3_ := Aside0.mk (hbox)
       have n4_ := Aside0.mk ((by rw [hg]; exact (below_size HB.out) : w.heap.size ≤ gb139))
       have n5_ := n4_
       have n6_ := Aside0.mk ((by rw [hg]; exact Nat.ne_of_lt (blk_lt BK127.out) : gb127 ≠ gb139))
       have n7_ := Aside0.mk n6_.out.symm
       have n8_ := Aside0.mk ((by rw [hg]; exact Nat.ne_of_lt (blk_lt BK128.out) : gb128 ≠ gb139))
       have n9_ := Aside0.mk n8_.out.symm
       clear BK127
       clear BK128
       clear HB
       have BK127 := n0_
       have BK128 := n1_
       have HB := n2_
       have BK139 := n3_
       have GW139 := n4_
       have GE139 := n5_
       have NB127_139 := n6_
       have NB139_127 := n7_
       have NB128_139 := n8_
       have NB139_128 := n9_
       clear n0_ n1_ n2_ n3_ n4_ n5_ n6_ n7_ n8_ n9_
       clear hb hbox hg
       refine hK.out _ _ ⟨(kC BK128.out 0).trans rfl, (kC BK128.out 1).trans rfl⟩ (fun hHeld => ?_)
       clear hK K
       refine norm_ (a' := ?_) ?_ ?_
       rotate_left
       ·show Act.put _ (some 9) _ = _
        simp only [Act.put, sA, sB, sC, i64_w, i32_w]
        rfl
       exact norm_ (by simp only [putAll, Act.put, sA, sB, sC] <;> rfl) (hJ16 (gb139) _ ⟨hHeld, BK127.out, BK128.out, BK139.out, GW139.out, GE139.out, NB127_139.out, NB139_127.out, NB128_139.out, NB139_128.out, HB.out⟩)
      ·skip
       refine box_step ?hg (N := 10) ?hd (cs := #[.int .i64 0, .int .i64 0, .bool false]) (t := 25) ?hr ?_; (case hd => rfl); (case hg => rfl); (case hr => first | (go_simp; done) | (go_simp; rfl))
       intro gb140 hg w22 hbox hb
       have n0_ := Aside0.mk (kB BK127.out hb)
       have n1_ := Aside0.mk (kB BK128.out hb)
       have n2_ := Aside0.mk (bT HB.out hb)
       have n3_ := Aside0.mk (hbox)
       have n4_ := Aside0.mk ((by rw [hg]; exact (below_size HB.out) : w.heap.size ≤ gb140))
       have n5_ := n4_
       have n6_ := Aside0.mk ((by rw [hg]; exact Nat.ne_of_lt (blk_lt BK127.out) : gb127 ≠ gb140))
       have n7_ := Aside0.mk n6_.out.symm
       have n8_ := Aside0.mk ((by rw [hg]; exact Nat.ne_of_lt (blk_lt BK128.out) : gb128 ≠ gb140))
       have n9_ := Aside0.mk n8_.out.symm
       clear BK127
       clear BK128
       clear HB
       have BK127 := n0_
       have BK128 := n1_
       have HB := n2_
       have BK140 := n3_
       have GW140 := n4_
       have GE140 := n5_
       have NB127_140 := n6_
       have NB140_127 := n7_
       have NB128_140 := n8_
       have NB140_128 := n9_
       clear n0_ n1_ n2_ n3_ n4_ n5_ n6_ n7_ n8_ n9_
       clear hb hbox hg
       refine hK.out _ _ ⟨(kC BK128.out 0).trans rfl, (kC BK128.out 1).trans rfl⟩ (fun hHeld => ?_)
       clear hK K
       refine norm_ (a' := ?_) ?_ ?_
       rotate_left
       ·show Act.put _ (some 10) _ = _
        simp only [Act.put, sA, sB, sC, i64_w, i32_w]
        rfl
       exact norm_ (by simp only [putAll, Act.put, sA, sB, sC] <;> rfl) (hJ17 (gb140) _ ⟨hHeld, BK127.out, BK128.out, BK140.out, GW140.out, GE140.out, NB127_140.out, NB140_127.out, NB128_140.out, NB140_128.out, HB.out⟩)
     ·rw [if_neg c13] at H
      have c13b0 : (t142 == a1) = false := by simpa using c13
      (try (have c13b1 : decide (t142 = a1) = false := by simpa using c13))
      (try (have c13b2 : (t142 == a1) = false := by simpa using c13))
      (try (have c13b3 : ¬ (t142 = a1) := by simpa using c13))
      clear c13
      exact absurd (Option.some.inj H) (by rw [hr]; decide)
    ·rw [if_neg c11] at H
     have c11b0 : (t129 == a0_0 && (t130 == a0_1)) = false := by simpa using c11
     (try (have c11b1 : decide (t129 = a0_0 && (t130 == a0_1)) = false := by simpa using c11))
     (try (have c11b2 : (t129 == a0_0 && (t130 == a0_1)) = false := by simpa using c11))
     (try (have c11b3 : ¬ (t129 = a0_0 && (t130 == a0_1)) := by simpa using c11))
     clear c11
     exact absurd (Option.some.inj H) (by rw [hr]; decide)
   ·rw [if_neg c10] at H
    have c10b0 : (t131 != t137) = false := by simpa using c10
    (try (have c10b1 : decide (t131 = t137) = true := by simpa using c10))
    (try (have c10b2 : (t131 == t137) = true := by simpa using c10))
    clear c10
    exact absurd (Option.some.inj H) (by rw [hr]; decide)
  ·rw [if_neg c9] at H
   have c9b0 : ((t129 == t132 && (t130 == t133)) && (t131 == t134)) = false := by simpa using c9
   clear c9
   exact absurd (Option.some.inj H) (by rw [hr]; decide)
 ·replace c8 := Bool.eq_false_iff.mpr c8
  subst c8
  have H1 : (some false) = some r := by rw [if_neg (show ¬ (false = true) by decide)] at H; exact H
  clear H
  have H := H1
  clear H1
  exact absurd (Option.some.inj H) (by rw [hr]; decide)
/-- THE ONE PURE STATEMENT of lapwinglaw04_AddrTurned: yours. -/
def lapwinglaw04_AddrTurned.Pure : Prop := ∀ (a0_0 : Int) (a0_1 : Int) (a0_2 : Bool) (a1 : Bool) (a2 : Bool), (Lit.int .i64 a0_0).wf = true → (Lit.int .i64 a0_1).wf = true → ∃ k, lapwinglaw04_AddrTurned.f k a0_0 a0_1 a0_2 a1 a2 = some true
theorem lapwinglaw04_AddrTurned.walk (P : lapwinglaw04_AddrTurned.Pure) (a0_0 : Int) (a0_1 : Int) (a0_2 : Bool) (a1 : Bool) (a2 : Bool) (w : World) (w0_0 : (Lit.int .i64 a0_0).wf = true) (w0_1 : (Lit.int .i64 a0_1).wf = true) :
  Calls Try.prog 8 #[.agg #[.int .i64 a0_0, .int .i64 a0_1, .bool a0_2], .bool a1, .bool a2] w fun e w' => e = .returned (.bool true) ∧ Below w.heap.size w w' := by
 obtain ⟨k, h⟩ := P a0_0 a0_1 a0_2 a1 a2 w0_0 w0_1
 refine (lapwinglaw04_AddrTurned.calls k a0_0 a0_1 a0_2 a1 a2 true w rfl h).mono ?_
 rintro e w' ⟨rfl, hd⟩
 exact ⟨rfl, hd⟩

end Go.Proofs.Ytbppngopiackcaa.Turn
