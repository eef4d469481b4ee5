-- Printed.
import Derived.Test.YtdpgdnbknmncfaaDoorPrint0
import Derived.Test.YtdpgdnbknmncfaaDoorPrint9
import Derived.Test.YtdpgdnbknmncfaaDoorPrint12
namespace Go.Proofs.YtdpgdnbknmncfaaDoor.Print
open Go.RowKit Go.Proofs.YtdpgdnbknmncfaaDoorW.PrintWords Go.Proofs.YtdpgdnbknmncfaaDoorW.PrintLast Go.Proofs.YtdpgdnbknmncfaaDoorW.PrintMore
open List renaming setIfInBounds_toArray → sA, set_cons_zero → sB, set_cons_succ → sC
open Go.Proofs.YtdpgdnbknmncfaaDoorW.PrintWords renaming blk_drewN → kN, blk_drew → kD, blk_alloc → kA, below_alloc → bA, pw_below_drewN → bN, below_drew1 → bD, below_set → bS, blk_cell → kC, blk_frozen → kF, blk_put → kP, blk_far → kR, below_step → bT, blk_below → kB
attribute [local go_sem] max2_int min2_int max_two min_two max_three min_three max_four min_four   -- for this text's walks alone
set_option linter.unusedVariables false
set_option linter.unusedSimpArgs false
attribute [local go_sem high] YtdpgdnbknmncfaaDoorX.unary_xor_u16 YtdpgdnbknmncfaaDoorX.unary_xor_u8

/-! ### lapwingref02_Check: function 41 -/
def lapwingref02_Check.f (k : Nat) (a0 : ByteArray) : Option (ByteArray × Int) := if (a0.size : Int) < 2 then (some ((⟨#[]⟩ : ByteArray), 3)) else (if 0 ≤ (wrap64 ((a0.size : Int) - 2)) then (if (wrap64 ((a0.size : Int) - 2)) ≤ (a0.size : Int) then ((lapwingref02_Seal.f k (a0.extract 0 ((wrap64 ((a0.size : Int) - 2)) : Int).toNat)).bind fun t308 => (if t308.toList = a0.toList then (some (a0.extract 0 ((wrap64 ((a0.size : Int) - 2)) : Int).toNat, 0)) else (some ((⟨#[]⟩ : ByteArray), 6)))) else (none)) else (none))
theorem lapwingref02_Check.mono : ∀ a0 k, LeO (lapwingref02_Check.f k a0) (lapwingref02_Check.f (k + 1) a0) := by
 intro a0 k
 unfold lapwingref02_Check.f
 repeat' first
   | (with_reducible exact lapwingref02_Seal.mono _ _)
   | (with_reducible exact LeO.refl _)
   | (with_reducible exact LeO.none _)
   | (with_reducible refine LeO.ite ?_ ?_)
   | (with_reducible refine LeO.bind ?_ (fun _ => ?_))
   | exact lapwingref02_Seal.mono _ _
   | exact LeO.none _
   | refine LeO.ite ?_ ?_
   | refine LeO.bind ?_ (fun _ => ?_)
set_option maxHeartbeats 8000000 in
set_option maxRecDepth 100000 in
theorem lapwingref02_Check.calls (k : Nat) (a0 : ByteArray) (r1 : ByteArray) (r2 : Int) (w : World) (h : lapwingref02_Check.f k a0 = some (r1, r2)) :
  Calls Tryd.prog 41 #[.string a0] w fun e w' => e = .returned (.tuple #[.string r1, .int .i64 r2]) ∧ Below w.heap.size w w' := by
 have HB := Aside0.mk (Below.refl w.heap.size w)
 have H : (if (a0.size : Int) < 2 then (some ((⟨#[]⟩ : ByteArray), 3)) else (if 0 ≤ (wrap64 ((a0.size : Int) - 2)) then (if (wrap64 ((a0.size : Int) - 2)) ≤ (a0.size : Int) then ((lapwingref02_Seal.f k (a0.extract 0 ((wrap64 ((a0.size : Int) - 2)) : Int).toNat)).bind fun t308 => (if t308.toList = a0.toList then (some (a0.extract 0 ((wrap64 ((a0.size : Int) - 2)) : Int).toNat, 0)) else (some ((⟨#[]⟩ : ByteArray), 6)))) else (none)) else (none))) = some (r1, r2) := h
 clear h
 by_cases c2 : (a0.size : Int) < 2
 ·rw [if_pos c2] at H
  have c2b0 : decide ((a0.size : Int) < 2) = true := decide_eq_true c2
  have c2b1 : decide (a0.size < 2) = true := decide_eq_true (by omega)
  clear c2
  simp only [Option.some.injEq, Prod.mk.injEq] at H
  obtain ⟨rfl, rfl⟩ := H
  go_enter Tryd.func41, Tryd.ntmps41
  go_wp2
  go_ret2
  exact ⟨by first | rfl | (simp [*, errW_none, errW_some] <;> rfl), by repeat (first | (with_reducible first | exact HB.out | apply bA | apply bN | apply bD) | exact HB.out)⟩
 ·rw [if_neg c2] at H
  have c2b0 : decide ((a0.size : Int) < 2) = false := decide_eq_false c2
  have c2b1 : decide (a0.size < 2) = false := decide_eq_false (by omega)
  clear c2
  obtain ⟨ji3, hji3⟩ : ∃ j_ : Int, (wrap64 ((a0.size : Int) - 2)) = j_ := ⟨_, rfl⟩
  replace H : (if 0 ≤ (ji3) then (if (ji3) ≤ (a0.size : Int) then ((lapwingref02_Seal.f k (a0.extract 0 ((ji3) : Int).toNat)).bind fun t308 => (if t308.toList = a0.toList then (some (a0.extract 0 ((ji3) : Int).toNat, 0)) else (some ((⟨#[]⟩ : ByteArray), 6)))) else (none)) else (none)) = some (r1, r2) := by first | (rw [hji3] at H; exact H) | (simp only [hji3] at H ⊢; exact H)
  have hji3w : (IntKind.i64.wrap ((a0.size : Int) - 2)) = ji3 := (i64_w _).trans hji3
  by_cases c4 : 0 ≤ (ji3)
  ·rw [if_pos c4] at H
   have c4b0 := eq_true c4
   have c4b1 : decide (0 ≤ (ji3)) = true := decide_eq_true c4
   clear c4
   by_cases c5 : (ji3) ≤ (a0.size : Int)
   ·rw [if_pos c5] at H
    have c5b0 := eq_true c5
    have c5b1 : decide ((ji3) ≤ (a0.size : Int)) = true := decide_eq_true c5
    clear c5
    replace H := Option.bind_eq_some_iff.mp H
    obtain ⟨t308, A60, H⟩ := H
    replace H : (if t308.toList = a0.toList then (some (a0.extract 0 ((ji3) : Int).toNat, 0)) else (some ((⟨#[]⟩ : ByteArray), 6))) = some (r1, r2) := H
    have A6 := Aside0.mk A60
    clear A60
    by_cases c7 : t308.toList = a0.toList
    ·rw [if_pos c7] at H
     have c7b0 : (t308.toList == a0.toList) = true := beq_iff_eq.mpr c7
     have c7b1 : (t308.toList != a0.toList) = false := bne_eq_false_iff_eq.mpr c7
     clear c7
     simp only [Option.some.injEq, Prod.mk.injEq] at H
     obtain ⟨rfl, rfl⟩ := H
     go_enter Tryd.func41, Tryd.ntmps41
     go_wp2_with (first | ((with_reducible refine gate_callee (f := 35) rfl ?_); refine goesL_ (some 15) rfl rfl Tryd.func35 (by kernel_rfl) rfl #[.string (a0.extract 0 ((ji3) : Int).toNat)] rfl (by (try simp only [List.map_toArray, List.map_cons, List.map_nil]); first | done | (simp only [hji3]; rfl) | rfl | (simp only [List.length_drop, List.length_take]; rfl)) ?_; (with_reducible refine (lapwingref02_Seal.calls k (a0.extract 0 ((ji3) : Int).toNat) t308 _ A6.out).mono ?_); rintro e w8 ⟨rfl, hb⟩; refine ⟨_, rfl, ?_⟩; have n0_ := Aside0.mk (bT (by repeat (first | (with_reducible first | exact HB.out | apply bA | apply bN | apply bD) | exact HB.out)) hb); clear HB; have HB := n0_; clear n0_; (try clear hb); (try clear hb2); (try clear hk); (try clear hi)))
     go_ret2
     exact ⟨by first | rfl | (simp [errW_none, errW_some] <;> rfl) | (simp only [← hji3]; first | rfl | (simp [errW_none, errW_some] <;> rfl)) | (simp [*, errW_none, errW_some] <;> rfl), by repeat (first | (with_reducible first | exact HB.out | apply bA | apply bN | apply bD) | exact HB.out)⟩
    ·rw [if_neg c7] at H
     have c7b0 : (t308.toList == a0.toList) = false := beq_eq_false_iff_ne.mpr c7
     have c7b1 : (t308.toList != a0.toList) = true := bne_iff_ne.mpr c7
     simp only [Option.some.injEq, Prod.mk.injEq] at H
     obtain ⟨rfl, rfl⟩ := H
     go_enter Tryd.func41, Tryd.ntmps41
     go_wp2_with (first | ((with_reducible refine gate_callee (f := 35) rfl ?_); refine goesL_ (some 15) rfl rfl Tryd.func35 (by kernel_rfl) rfl #[.string (a0.extract 0 ((ji3) : Int).toNat)] rfl (by (try simp only [List.map_toArray, List.map_cons, List.map_nil]); first | done | (simp only [hji3]; rfl) | rfl | (simp only [List.length_drop, List.length_take]; rfl)) ?_; (with_reducible refine (lapwingref02_Seal.calls k (a0.extract 0 ((ji3) : Int).toNat) t308 _ A6.out).mono ?_); rintro e w9 ⟨rfl, hb⟩; refine ⟨_, rfl, ?_⟩; have n0_ := Aside0.mk (bT (by repeat (first | (with_reducible first | exact HB.out | apply bA | apply bN | apply bD) | exact HB.out)) hb); clear HB; have HB := n0_; clear n0_; (try clear hb); (try clear hb2); (try clear hk); (try clear hi)))
     go_ret2
     exact ⟨by first | rfl | (simp [errW_none, errW_some] <;> rfl) | (simp only [← hji3]; first | rfl | (simp [errW_none, errW_some] <;> rfl)) | (simp [*, errW_none, errW_some] <;> rfl), by repeat (first | (with_reducible first | exact HB.out | apply bA | apply bN | apply bD) | exact HB.out)⟩
   ·rw [if_neg c5] at H
    exact absurd H (by simp)
  ·rw [if_neg c4] at H
   exact absurd H (by simp)

/-! ### lapwingref04_Get: function 42 -/
def lapwingref04_Get.f (a0 : ByteArray) : Option (Int × Int × Bool × Int) := if (a0.size : Int) < 2 then (some (0, 0, false, 3)) else (if 0 < (a0.size : Int) then (if 1 < (a0.size : Int) then (if (Int.tmod (wrap64 (bt a0 0)) 2) = 1 then (some (0, 0, false, 4)) else (if (Int.tmod (wrap64 (bt a0 1)) 2) = 0 then (some (0, 0, false, 4)) else (some (wrap64 (Int.tdiv (wrap64 (bt a0 0)) 4), wrap64 (Int.tdiv (wrap64 (bt a0 1)) 2), ((Int.tmod (wrap64 (Int.tdiv (wrap64 (bt a0 0)) 2)) 2) == 1), 0)))) else (none)) else (none))
set_option maxHeartbeats 8000000 in
set_option maxRecDepth 100000 in
theorem lapwingref04_Get.calls (a0 : ByteArray) (r1 : Int) (r2 : Int) (r3 : Bool) (r4 : Int) (w : World) (h : lapwingref04_Get.f a0 = some (r1, r2, r3, r4)) :
  Calls Tryd.prog 42 #[.string a0] w fun e w' => e = .returned (.tuple #[.agg #[.int .i64 r1, .int .i64 r2, .bool r3], .int .i64 r4]) ∧ Below w.heap.size w w' := by
 have hu74 := Tryd.underlying74
 have HB := Aside0.mk (Below.refl w.heap.size w)
 have H : (if (a0.size : Int) < 2 then (some (0, 0, false, 3)) else (if 0 < (a0.size : Int) then (if 1 < (a0.size : Int) then (if (Int.tmod (wrap64 (bt a0 0)) 2) = 1 then (some (0, 0, false, 4)) else (if (Int.tmod (wrap64 (bt a0 1)) 2) = 0 then (some (0, 0, false, 4)) else (some (wrap64 (Int.tdiv (wrap64 (bt a0 0)) 4), wrap64 (Int.tdiv (wrap64 (bt a0 1)) 2), ((Int.tmod (wrap64 (Int.tdiv (wrap64 (bt a0 0)) 2)) 2) == 1), 0)))) else (none)) else (none))) = some (r1, r2, r3, r4) := h
 clear h
 by_cases c2 : (a0.size : Int) < 2
 ·rw [if_pos c2] at H
  have c2b0 : decide ((a0.size : Int) < 2) = true := decide_eq_true c2
  have c2b1 : decide (a0.size < 2) = true := decide_eq_true (by omega)
  clear c2
  simp only [Option.some.injEq, Prod.mk.injEq] at H
  obtain ⟨rfl, rfl, rfl, rfl⟩ := H
  go_enter Tryd.func42, Tryd.ntmps42
  go_wp2_with (first | ((with_reducible refine gate_dst (N := 2) rfl ?_); refine box_event ?hg (N := 2) ?hd (cs := #[.int .i64 0, .int .i64 0, .bool false]) (t := 74) ?hr ?_; (case hd => rfl); (case hg => rfl); (case hr => first | (go_simp; done) | (go_simp; rfl)); intro gb309 hg w3 hbox hb; have n0_ := Aside0.mk (bT (by repeat (first | (with_reducible first | exact HB.out | apply bA | apply bN | apply bD) | exact HB.out)) hb); have n1_ := Aside0.mk (hbox); have n2_ := Aside0.mk ((by rw [hg]; exact (below_size (by repeat (first | (with_reducible first | exact HB.out | apply bA | apply bN | apply bD) | exact HB.out))) : w.heap.size ≤ gb309)); have n3_ := n2_; clear HB; have HB := n0_; have BK309 := n1_; have GW309 := n2_; have GE309 := n3_; clear n0_ n1_ n2_ n3_; clear hb hbox hg; have hcz4_0 : w3.cell? ⟨gb309, 0, none⟩ = some (.int .i64 0) := (kC BK309.out 0).trans rfl; have hcz4_1 : w3.cell? ⟨gb309, 1, none⟩ = some (.int .i64 0) := (kC BK309.out 1).trans rfl; have hcz4_2 : w3.cell? ⟨gb309, 2, none⟩ = some (.bool false) := (kC BK309.out 2).trans rfl; have hfz4_0 := kF BK309.out 0; have hfz4_1 := kF BK309.out 1; have hfz4_2 := kF BK309.out 2))
  refine bodyPost_ret (results_ct rfl _ _ gb309 74 #[.int .i64 0, .int .i64 0, .bool false] (0, 0) _ rfl (by (with_reducible repeat (first | apply kN | apply kD | apply kA)); refine kP (cs := #[.int .i64 0, .int .i64 0, .bool false]) ?_ 2 _ rfl; refine kP (cs := #[.int .i64 0, .int .i64 0, .bool false]) ?_ 1 _ rfl; refine kP (cs := #[.int .i64 0, .int .i64 0, .bool false]) ?_ 0 _ rfl; (with_reducible repeat (first | apply kN | apply kD | apply kA)); exact BK309.out) Tryd.underlying74 rfl (by kernel_rfl)) rfl ?_
  exact ⟨by first | rfl | (simp [*, errW_none, errW_some] <;> rfl), by repeat (first | (with_reducible first | exact HB.out | apply bA | apply bN | apply bD | refine bS ?_ GE309.out) | exact HB.out)⟩
 ·rw [if_neg c2] at H
  have c2b0 : decide ((a0.size : Int) < 2) = false := decide_eq_false c2
  have c2b1 : decide (a0.size < 2) = false := decide_eq_false (by omega)
  clear c2
  by_cases c5 : 0 < (a0.size : Int)
  ·rw [if_pos c5] at H
   have c5b0 : decide (0 < (a0.size : Int)) = true := decide_eq_true c5
   have c5b1 : decide (0 < a0.size) = true := decide_eq_true (by omega)
   clear c5
   by_cases c7 : 1 < (a0.size : Int)
   ·rw [if_pos c7] at H
    have c7b0 : decide (1 < (a0.size : Int)) = true := decide_eq_true c7
    have c7b1 : decide (1 < a0.size) = true := decide_eq_true (by omega)
    clear c7
    by_cases c9 : (Int.tmod (wrap64 (bt a0 0)) 2) = 1
    ·rw [if_pos c9] at H
     have c9b0 : ((Int.tmod (wrap64 (bt a0 0)) 2) == 1) = true := beq_iff_eq.mpr c9
     have c9b1 : ((Int.tmod (wrap64 (bt a0 0)) 2) != 1) = false := bne_eq_false_iff_eq.mpr c9
     clear c9
     simp only [Option.some.injEq, Prod.mk.injEq] at H
     obtain ⟨rfl, rfl, rfl, rfl⟩ := H
     go_enter Tryd.func42, Tryd.ntmps42
     go_wp2_with (first | ((with_reducible refine gate_dst (N := 2) rfl ?_); refine box_event ?hg (N := 2) ?hd (cs := #[.int .i64 0, .int .i64 0, .bool false]) (t := 74) ?hr ?_; (case hd => rfl); (case hg => rfl); (case hr => first | (go_simp; done) | (go_simp; rfl)); intro gb309 hg w10 hbox hb; have n0_ := Aside0.mk (bT (by repeat (first | (with_reducible first | exact HB.out | apply bA | apply bN | apply bD) | exact HB.out)) hb); have n1_ := Aside0.mk (hbox); have n2_ := Aside0.mk ((by rw [hg]; exact (below_size (by repeat (first | (with_reducible first | exact HB.out | apply bA | apply bN | apply bD) | exact HB.out))) : w.heap.size ≤ gb309)); have n3_ := n2_; clear HB; have HB := n0_; have BK309 := n1_; have GW309 := n2_; have GE309 := n3_; clear n0_ n1_ n2_ n3_; clear hb hbox hg; have p6 : 0 ≤ (0 : Int) := (by omega); have q6 : 0 < a0.size := (by have : (0 : Int) < (a0.size : Int) := of_decide_eq_true (by first | (with_reducible assumption) | assumption); omega); have hx6 : ∀ h : 0 < a0.size, ((a0[0]'h).toNat : Int) = bt a0 0 := bt_at a0 0; clear p6; have qi6 : (0 < (a0.size : Int)) = True := eq_true (of_decide_eq_true (by first | (with_reducible assumption) | assumption)); replace q6 := eq_true q6; have p8 : 0 ≤ (1 : Int) := (by omega); have q8 : 1 < a0.size := (by have : (1 : Int) < (a0.size : Int) := of_decide_eq_true (by first | (with_reducible assumption) | assumption); omega); have hx8 : ∀ h : 1 < a0.size, ((a0[1]'h).toNat : Int) = bt a0 1 := bt_at a0 1; clear p8; have qi8 : (1 < (a0.size : Int)) = True := eq_true (of_decide_eq_true (by first | (with_reducible assumption) | assumption)); replace q8 := eq_true q8; have hcz11_0 : w10.cell? ⟨gb309, 0, none⟩ = some (.int .i64 0) := (kC BK309.out 0).trans rfl; have hcz11_1 : w10.cell? ⟨gb309, 1, none⟩ = some (.int .i64 0) := (kC BK309.out 1).trans rfl; have hcz11_2 : w10.cell? ⟨gb309, 2, none⟩ = some (.bool false) := (kC BK309.out 2).trans rfl; have hfz11_0 := kF BK309.out 0; have hfz11_1 := kF BK309.out 1; have hfz11_2 := kF BK309.out 2))
     refine bodyPost_ret (results_ct rfl _ _ gb309 74 #[.int .i64 0, .int .i64 0, .bool false] (0, 0) _ rfl (by (with_reducible repeat (first | apply kN | apply kD | apply kA)); refine kP (cs := #[.int .i64 0, .int .i64 0, .bool false]) ?_ 2 _ rfl; refine kP (cs := #[.int .i64 0, .int .i64 0, .bool false]) ?_ 1 _ rfl; refine kP (cs := #[.int .i64 0, .int .i64 0, .bool false]) ?_ 0 _ rfl; (with_reducible repeat (first | apply kN | apply kD | apply kA)); exact BK309.out) Tryd.underlying74 rfl (by kernel_rfl)) rfl ?_
     exact ⟨by first | rfl | (simp [*, errW_none, errW_some] <;> rfl), by repeat (first | (with_reducible first | exact HB.out | apply bA | apply bN | apply bD | refine bS ?_ GE309.out) | exact HB.out)⟩
    ·rw [if_neg c9] at H
     have c9b0 : ((Int.tmod (wrap64 (bt a0 0)) 2) == 1) = false := beq_eq_false_iff_ne.mpr c9
     have c9b1 : ((Int.tmod (wrap64 (bt a0 0)) 2) != 1) = true := bne_iff_ne.mpr c9
     by_cases c12 : (Int.tmod (wrap64 (bt a0 1)) 2) = 0
     ·rw [if_pos c12] at H
      have c12b0 : ((Int.tmod (wrap64 (bt a0 1)) 2) == 0) = true := beq_iff_eq.mpr c12
      have c12b1 : ((Int.tmod (wrap64 (bt a0 1)) 2) != 0) = false := bne_eq_false_iff_eq.mpr c12
      clear c12
      simp only [Option.some.injEq, Prod.mk.injEq] at H
      obtain ⟨rfl, rfl, rfl, rfl⟩ := H
      go_enter Tryd.func42, Tryd.ntmps42
      go_wp2_with (first | ((with_reducible refine gate_dst (N := 2) rfl ?_); refine box_event ?hg (N := 2) ?hd (cs := #[.int .i64 0, .int .i64 0, .bool false]) (t := 74) ?hr ?_; (case hd => rfl); (case hg => rfl); (case hr => first | (go_simp; done) | (go_simp; rfl)); intro gb309 hg w13 hbox hb; have n0_ := Aside0.mk (bT (by repeat (first | (with_reducible first | exact HB.out | apply bA | apply bN | apply bD) | exact HB.out)) hb); have n1_ := Aside0.mk (hbox); have n2_ := Aside0.mk ((by rw [hg]; exact (below_size (by repeat (first | (with_reducible first | exact HB.out | apply bA | apply bN | apply bD) | exact HB.out))) : w.heap.size ≤ gb309)); have n3_ := n2_; clear HB; have HB := n0_; have BK309 := n1_; have GW309 := n2_; have GE309 := n3_; clear n0_ n1_ n2_ n3_; clear hb hbox hg; have p6 : 0 ≤ (0 : Int) := (by omega); have q6 : 0 < a0.size := (by have : (0 : Int) < (a0.size : Int) := of_decide_eq_true (by first | (with_reducible assumption) | assumption); omega); have hx6 : ∀ h : 0 < a0.size, ((a0[0]'h).toNat : Int) = bt a0 0 := bt_at a0 0; clear p6; have qi6 : (0 < (a0.size : Int)) = True := eq_true (of_decide_eq_true (by first | (with_reducible assumption) | assumption)); replace q6 := eq_true q6; have p8 : 0 ≤ (1 : Int) := (by omega); have q8 : 1 < a0.size := (by have : (1 : Int) < (a0.size : Int) := of_decide_eq_true (by first | (with_reducible assumption) | assumption); omega); have hx8 : ∀ h : 1 < a0.size, ((a0[1]'h).toNat : Int) = bt a0 1 := bt_at a0 1; clear p8; have qi8 : (1 < (a0.size : Int)) = True := eq_true (of_decide_eq_true (by first | (with_reducible assumption) | assumption)); replace q8 := eq_true q8; have hcz14_0 : w13.cell? ⟨gb309, 0, none⟩ = some (.int .i64 0) := (kC BK309.out 0).trans rfl; have hcz14_1 : w13.cell? ⟨gb309, 1, none⟩ = some (.int .i64 0) := (kC BK309.out 1).trans rfl; have hcz14_2 : w13.cell? ⟨gb309, 2, none⟩ = some (.bool false) := (kC BK309.out 2).trans rfl; have hfz14_0 := kF BK309.out 0; have hfz14_1 := kF BK309.out 1; have hfz14_2 := kF BK309.out 2))
      refine bodyPost_ret (results_ct rfl _ _ gb309 74 #[.int .i64 0, .int .i64 0, .bool false] (0, 0) _ rfl (by (with_reducible repeat (first | apply kN | apply kD | apply kA)); refine kP (cs := #[.int .i64 0, .int .i64 0, .bool false]) ?_ 2 _ rfl; refine kP (cs := #[.int .i64 0, .int .i64 0, .bool false]) ?_ 1 _ rfl; refine kP (cs := #[.int .i64 0, .int .i64 0, .bool false]) ?_ 0 _ rfl; (with_reducible repeat (first | apply kN | apply kD | apply kA)); exact BK309.out) Tryd.underlying74 rfl (by kernel_rfl)) rfl ?_
      exact ⟨by first | rfl | (simp [*, errW_none, errW_some] <;> rfl), by repeat (first | (with_reducible first | exact HB.out | apply bA | apply bN | apply bD | refine bS ?_ GE309.out) | exact HB.out)⟩
     ·rw [if_neg c12] at H
      have c12b0 : ((Int.tmod (wrap64 (bt a0 1)) 2) == 0) = false := beq_eq_false_iff_ne.mpr c12
      have c12b1 : ((Int.tmod (wrap64 (bt a0 1)) 2) != 0) = true := bne_iff_ne.mpr c12
      simp only [Option.some.injEq, Prod.mk.injEq] at H
      obtain ⟨rfl, rfl, rfl, rfl⟩ := H
      go_enter Tryd.func42, Tryd.ntmps42
      go_wp2_with (first | ((with_reducible refine gate_dst (N := 2) rfl ?_); refine box_event ?hg (N := 2) ?hd (cs := #[.int .i64 0, .int .i64 0, .bool false]) (t := 74) ?hr ?_; (case hd => rfl); (case hg => rfl); (case hr => first | (go_simp; done) | (go_simp; rfl)); intro gb309 hg w15 hbox hb; have n0_ := Aside0.mk (bT (by repeat (first | (with_reducible first | exact HB.out | apply bA | apply bN | apply bD) | exact HB.out)) hb); have n1_ := Aside0.mk (hbox); have n2_ := Aside0.mk ((by rw [hg]; exact (below_size (by repeat (first | (with_reducible first | exact HB.out | apply bA | apply bN | apply bD) | exact HB.out))) : w.heap.size ≤ gb309)); have n3_ := n2_; clear HB; have HB := n0_; have BK309 := n1_; have GW309 := n2_; have GE309 := n3_; clear n0_ n1_ n2_ n3_; clear hb hbox hg; have p6 : 0 ≤ (0 : Int) := (by omega); have q6 : 0 < a0.size := (by have : (0 : Int) < (a0.size : Int) := of_decide_eq_true (by first | (with_reducible assumption) | assumption); omega); have hx6 : ∀ h : 0 < a0.size, ((a0[0]'h).toNat : Int) = bt a0 0 := bt_at a0 0; clear p6; have qi6 : (0 < (a0.size : Int)) = True := eq_true (of_decide_eq_true (by first | (with_reducible assumption) | assumption)); replace q6 := eq_true q6; have p8 : 0 ≤ (1 : Int) := (by omega); have q8 : 1 < a0.size := (by have : (1 : Int) < (a0.size : Int) := of_decide_eq_true (by first | (with_reducible assumption) | assumption); omega); have hx8 : ∀ h : 1 < a0.size, ((a0[1]'h).toNat : Int) = bt a0 1 := bt_at a0 1; clear p8; have qi8 : (1 < (a0.size : Int)) = True := eq_true (of_decide_eq_true (by first | (with_reducible assumption) | assumption)); replace q8 := eq_true q8; have hcz16_0 : w15.cell? ⟨gb309, 0, none⟩ = some (.int .i64 0) := (kC BK309.out 0).trans rfl; have hcz16_1 : w15.cell? ⟨gb309, 1, none⟩ = some (.int .i64 0) := (kC BK309.out 1).trans rfl; have hcz16_2 : w15.cell? ⟨gb309, 2, none⟩ = some (.bool false) := (kC BK309.out 2).trans rfl; have hfz16_0 := kF BK309.out 0; have hfz16_1 := kF BK309.out 1; have hfz16_2 := kF BK309.out 2))
      refine bodyPost_ret (results_ct rfl _ _ gb309 74 #[.int .i64 (wrap64 (Int.tdiv (wrap64 (bt a0 0)) 4)), .int .i64 (wrap64 (Int.tdiv (wrap64 (bt a0 1)) 2)), .bool ((Int.tmod (wrap64 (Int.tdiv (wrap64 (bt a0 0)) 2)) 2) == 1)] (0, 0) _ rfl (by (with_reducible repeat (first | apply kN | apply kD | apply kA)); refine kP (cs := #[.int .i64 (wrap64 (Int.tdiv (wrap64 (bt a0 0)) 4)), .int .i64 (wrap64 (Int.tdiv (wrap64 (bt a0 1)) 2)), .bool false]) ?_ 2 _ rfl; refine kP (cs := #[.int .i64 (wrap64 (Int.tdiv (wrap64 (bt a0 0)) 4)), .int .i64 0, .bool false]) ?_ 1 _ rfl; refine kP (cs := #[.int .i64 0, .int .i64 0, .bool false]) ?_ 0 _ rfl; (with_reducible repeat (first | apply kN | apply kD | apply kA)); exact BK309.out) Tryd.underlying74 rfl (by kernel_rfl)) rfl ?_
      exact ⟨by first | rfl | (simp [*, errW_none, errW_some] <;> rfl), by repeat (first | (with_reducible first | exact HB.out | apply bA | apply bN | apply bD | refine bS ?_ GE309.out) | exact HB.out)⟩
   ·rw [if_neg c7] at H
    exact absurd H (by simp)
  ·rw [if_neg c5] at H
   exact absurd H (by simp)

/-! ### lapwingref05_Get: function 43 -/
mutual
def lapwingref05_Get.l0 : Nat → ByteArray → Int → Int → Option (Int × Bool × Int × Int × Int × Int)
 | 0, _, _, _ => none
 | k + 1, x0, x5, x6 => if x6 < 10 then ((lapwingref05_Numbered.f x6).bind fun t311 => ((lapwingref05_octet.f x6).bind fun t312 => (if t311 = true then (if x6 = 0 then (if (Int.tmod x5 2) = 0 then (lapwingref05_Get.j1 k x0 x5 x6 t311 t312 true) else (lapwingref05_Get.j1 k x0 x5 x6 t311 t312 false)) else (lapwingref05_Get.j1 k x0 x5 x6 t311 t312 (x5 == t312))) else (lapwingref05_Get.j1 k x0 x5 x6 t311 t312 false)))) else (some (0, false, 0, 0, 0, 4))
def lapwingref05_Get.j1 : Nat → ByteArray → Int → Int → Bool → Int → Bool → Option (Int × Bool × Int × Int × Int × Int)
 | 0, _, _, _, _, _, _ => none
 | k + 1, x0, x5, x6, x7, x8, x43 => if x43 = true then (if (x0.size : Int) < 2 then (some (0, false, 0, 0, 0, 3)) else (if 1 < (x0.size : Int) then (if x6 = 0 then (some (x6, ((Int.tmod (bt x0 1) 2) == 1), wrap64 (Int.tdiv x5 2), wrap64 (Int.tdiv (wrap64 (bt x0 1)) 2), 2, 0)) else (some (x6, ((Int.tmod (bt x0 1) 2) == 1), 0, wrap64 (Int.tdiv (wrap64 (bt x0 1)) 2), 2, 0))) else (none))) else (if x7 = true then (lapwingref05_Get.l0 k x0 x5 (wrap64 (x6 + 1))) else (if x5 = x8 then (some (x6, (x5 == (wrap64 (x8 + 16))), 0, 0, 1, 0)) else (if x5 = (wrap64 (x8 + 16)) then (some (x6, (x5 == (wrap64 (x8 + 16))), 0, 0, 1, 0)) else (lapwingref05_Get.l0 k x0 x5 (wrap64 (x6 + 1))))))
end
def lapwingref05_Get.f (k : Nat) (a0 : ByteArray) : Option (Int × Bool × Int × Int × Int × Int) := if (a0.size : Int) = 0 then (some (0, false, 0, 0, 0, 3)) else (if 0 < (a0.size : Int) then (lapwingref05_Get.l0 k a0 (wrap64 (bt a0 0)) 0) else (none))
theorem lapwingref05_Get.mono_l : ∀ k, (∀ y0 y1 y2, LeO (lapwingref05_Get.l0 k y0 y1 y2) (lapwingref05_Get.l0 (k + 1) y0 y1 y2)) ∧ (∀ y0 y1 y2 y3 y4 y5, LeO (lapwingref05_Get.j1 k y0 y1 y2 y3 y4 y5) (lapwingref05_Get.j1 (k + 1) y0 y1 y2 y3 y4 y5))
 | 0 => ⟨fun _ _ _ r h => by simp [lapwingref05_Get.l0] at h, fun _ _ _ _ _ _ r h => by simp [lapwingref05_Get.j1] at h⟩
 | k + 1 => by
  obtain ⟨ih0, ih1⟩ := lapwingref05_Get.mono_l k
  refine ⟨?_, ?_⟩
  ·intro y0 y1 y2
   unfold lapwingref05_Get.l0
   repeat' first
   | (with_reducible exact ih0 _ _ _)
   | (with_reducible exact ih1 _ _ _ _ _ _)
   | (with_reducible exact LeO.refl _)
   | (with_reducible exact LeO.none _)
   | (with_reducible refine LeO.ite ?_ ?_)
   | (with_reducible refine LeO.bind ?_ (fun _ => ?_))
   | exact ih0 _ _ _
   | exact ih1 _ _ _ _ _ _
   | exact LeO.none _
   | refine LeO.ite ?_ ?_
   | refine LeO.bind ?_ (fun _ => ?_)
  ·intro y0 y1 y2 y3 y4 y5
   unfold lapwingref05_Get.j1
   repeat' first
   | (with_reducible exact ih0 _ _ _)
   | (with_reducible exact ih1 _ _ _ _ _ _)
   | (with_reducible exact LeO.refl _)
   | (with_reducible exact LeO.none _)
   | (with_reducible refine LeO.ite ?_ ?_)
   | (with_reducible refine LeO.bind ?_ (fun _ => ?_))
   | exact ih0 _ _ _
   | exact ih1 _ _ _ _ _ _
   | exact LeO.none _
   | refine LeO.ite ?_ ?_
   | refine LeO.bind ?_ (fun _ => ?_)
theorem lapwingref05_Get.mono : ∀ a0 k, LeO (lapwingref05_Get.f k a0) (lapwingref05_Get.f (k + 1) a0) := by
 intro a0 k
 obtain ⟨ih0, ih1⟩ := lapwingref05_Get.mono_l k
 unfold lapwingref05_Get.f
 repeat' first
   | (with_reducible exact ih0 _ _ _)
   | (with_reducible exact ih1 _ _ _ _ _ _)
   | (with_reducible exact LeO.refl _)
   | (with_reducible exact LeO.none _)
   | (with_reducible refine LeO.ite ?_ ?_)
   | (with_reducible refine LeO.bind ?_ (fun _ => ?_))
   | exact ih0 _ _ _
   | exact ih1 _ _ _ _ _ _
   | exact LeO.none _
   | refine LeO.ite ?_ ?_
   | refine LeO.bind ?_ (fun _ => ?_)
def lapwingref05_Get.T12 : Bool × List (List Nat × List Nat) := (true, [([], []), ([], []), ([1], [1]), ([2], [2]), ([3], [3]), ([], []), ([5], [5]), ([6], [6]), ([7], [7]), ([0, 4, 8], [0, 4, 8]), ([], []), ([10, 9, 0, 1, 2, 3, 4, 5, 6, 7, 8, 9, 10], [9, 10])])
def lapwingref05_Get.B12 : List Nat := [0, 0, 2, 6, 14, 0, 32, 96, 224, 511, 0, 2047]
theorem lapwingref05_Get.tab12 : rtab .any (opsOf Tryd.f43 12) = lapwingref05_Get.T12 := by kernel_rfl
theorem lapwingref05_Get.bits12 : waitsOk lapwingref05_Get.T12.2 lapwingref05_Get.B12 = true := by kernel_rfl
set_option maxHeartbeats 8000000 in
set_option maxRecDepth 100000 in
theorem lapwingref05_Get.calls (k : Nat) (a0 : ByteArray) (r1 : Int) (r2 : Bool) (r3 : Int) (r4 : Int) (r5 : Int) (r6 : Int) (w : World) (h : lapwingref05_Get.f k a0 = some (r1, r2, r3, r4, r5, r6)) :
  Calls Tryd.prog 43 #[.string a0] w fun e w' => e = .returned (.tuple #[.agg #[.int .i64 r1, .bool r2, .int .i64 r3, .int .i64 r4], .int .i64 r5, .int .i64 r6]) ∧ Below w.heap.size w w' := by
 have hu72 := Tryd.underlying72
 have HB := Aside0.mk (Below.refl w.heap.size w)
 have H : (if (a0.size : Int) = 0 then (some (0, false, 0, 0, 0, 3)) else (if 0 < (a0.size : Int) then (lapwingref05_Get.l0 k a0 (wrap64 (bt a0 0)) 0) else (none))) = some (r1, r2, r3, r4, r5, r6) := h
 clear h
 by_cases c2 : (a0.size : Int) = 0
 ·rw [if_pos c2] at H
  have c2b0 : ((a0.size : Int) == 0) = true := beq_iff_eq.mpr c2
  have c2b1 : ((a0.size : Int) != 0) = false := bne_eq_false_iff_eq.mpr c2
  clear c2
  simp only [Option.some.injEq, Prod.mk.injEq] at H
  obtain ⟨rfl, rfl, rfl, rfl, rfl, rfl⟩ := H
  go_enter Tryd.func43, Tryd.ntmps43
  go_wp2_with (first | ((with_reducible refine gate_dst (N := 2) rfl ?_); refine box_event ?hg (N := 2) ?hd (cs := #[.int .i64 0, .bool false, .int .i64 0, .int .i64 0]) (t := 72) ?hr ?_; (case hd => rfl); (case hg => rfl); (case hr => first | (go_simp; done) | (go_simp; rfl)); intro gb310 hg w3 hbox hb; have n0_ := Aside0.mk (bT (by repeat (first | (with_reducible first | exact HB.out | apply bA | apply bN | apply bD) | exact HB.out)) hb); have n1_ := Aside0.mk (hbox); have n2_ := Aside0.mk ((by rw [hg]; exact (below_size (by repeat (first | (with_reducible first | exact HB.out | apply bA | apply bN | apply bD) | exact HB.out))) : w.heap.size ≤ gb310)); have n3_ := n2_; clear HB; have HB := n0_; have BK310 := n1_; have GW310 := n2_; have GE310 := n3_; clear n0_ n1_ n2_ n3_; clear hb hbox hg; have hcz4_0 : w3.cell? ⟨gb310, 0, none⟩ = some (.int .i64 0) := (kC BK310.out 0).trans rfl; have hcz4_1 : w3.cell? ⟨gb310, 1, none⟩ = some (.bool false) := (kC BK310.out 1).trans rfl; have hcz4_2 : w3.cell? ⟨gb310, 2, none⟩ = some (.int .i64 0) := (kC BK310.out 2).trans rfl; have hcz4_3 : w3.cell? ⟨gb310, 3, none⟩ = some (.int .i64 0) := (kC BK310.out 3).trans rfl; have hfz4_0 := kF BK310.out 0; have hfz4_1 := kF BK310.out 1; have hfz4_2 := kF BK310.out 2; have hfz4_3 := kF BK310.out 3))
  refine bodyPost_ret (results_ctt rfl _ _ gb310 72 #[.int .i64 0, .bool false, .int .i64 0, .int .i64 0] (0, 0) _ rfl (by (with_reducible repeat (first | apply kN | apply kD | apply kA)); refine kP (cs := #[.int .i64 0, .bool false, .int .i64 0, .int .i64 0]) ?_ 3 _ rfl; refine kP (cs := #[.int .i64 0, .bool false, .int .i64 0, .int .i64 0]) ?_ 2 _ rfl; refine kP (cs := #[.int .i64 0, .bool false, .int .i64 0, .int .i64 0]) ?_ 1 _ rfl; refine kP (cs := #[.int .i64 0, .bool false, .int .i64 0, .int .i64 0]) ?_ 0 _ rfl; (with_reducible repeat (first | apply kN | apply kD | apply kA)); exact BK310.out) Tryd.underlying72 rfl (by kernel_rfl)) rfl ?_
  exact ⟨by first | rfl | (simp [*, errW_none, errW_some] <;> rfl), by repeat (first | (with_reducible first | exact HB.out | apply bA | apply bN | apply bD | refine bS ?_ GE310.out) | exact HB.out)⟩
 ·rw [if_neg c2] at H
  have c2b0 : ((a0.size : Int) == 0) = false := beq_eq_false_iff_ne.mpr c2
  have c2b1 : ((a0.size : Int) != 0) = true := bne_iff_ne.mpr c2
  by_cases c5 : 0 < (a0.size : Int)
  ·rw [if_pos c5] at H
   have c5b0 : decide (0 < (a0.size : Int)) = true := decide_eq_true c5
   have c5b1 : decide (0 < a0.size) = true := decide_eq_true (by omega)
   clear c5
   have H' := Aside0.mk H
   clear H
   go_enter Tryd.func43, Tryd.ntmps43
   go_wp2_with (first | ((with_reducible refine gate_dst (N := 2) rfl ?_); refine box_event ?hg (N := 2) ?hd (cs := #[.int .i64 0, .bool false, .int .i64 0, .int .i64 0]) (t := 72) ?hr ?_; (case hd => rfl); (case hg => rfl); (case hr => first | (go_simp; done) | (go_simp; rfl)); intro gb310 hg w7 hbox hb; have n0_ := Aside0.mk (bT (by repeat (first | (with_reducible first | exact HB.out | apply bA | apply bN | apply bD) | exact HB.out)) hb); have n1_ := Aside0.mk (hbox); have n2_ := Aside0.mk ((by rw [hg]; exact (below_size (by repeat (first | (with_reducible first | exact HB.out | apply bA | apply bN | apply bD) | exact HB.out))) : w.heap.size ≤ gb310)); have n3_ := n2_; clear HB; have HB := n0_; have BK310 := n1_; have GW310 := n2_; have GE310 := n3_; clear n0_ n1_ n2_ n3_; clear hb hbox hg; have p6 : 0 ≤ (0 : Int) := (by omega); have q6 : 0 < a0.size := (by have : (0 : Int) < (a0.size : Int) := of_decide_eq_true (by first | (with_reducible assumption) | assumption); omega); have hx6 : ∀ h : 0 < a0.size, ((a0[0]'h).toNat : Int) = bt a0 0 := bt_at a0 0; clear p6; have qi6 : (0 < (a0.size : Int)) = True := eq_true (of_decide_eq_true (by first | (with_reducible assumption) | assumption)); replace q6 := eq_true q6))
   go_loopg [6] k (fun kq v6 w' => ∃ (x6_1 : Int) (x311000_1 : Int) (x311001_1 : Bool) (x311002_1 : Int) (x311003_1 : Int), v6 = .int .i64 x6_1 ∧ Aside0 (lapwingref05_Get.l0 kq a0 (wrap64 (bt a0 0)) x6_1 = some (r1, r2, r3, r4, r5, r6)) ∧ Aside0 (kq ≤ k) ∧ Aside0 (w'.heap[gb310]? = some (.cells #[.int .i64 x311000_1, .bool x311001_1, .int .i64 x311002_1, .int .i64 x311003_1] 72 (0, 0))) ∧ Aside0 (Below w.heap.size w w'))
   case atStart => exact ⟨(0), (0), (false), (0), (0), (by first | rfl | (simp; done) | (simp [*]; done)), H', ⟨Nat.le_refl _⟩, ⟨by (with_reducible repeat (first | apply kN | apply kD | apply kA)); exact BK310.out⟩, ⟨by repeat (first | (with_reducible first | exact HB.out | apply bA | apply bN | apply bD | refine bS ?_ GE310.out) | exact HB.out)⟩⟩
   case round =>
    clear H'
    try clear c2
    try clear c2b0
    try clear c2b1
    try clear p2
    try clear c4
    try clear c5
    try clear c5b0
    try clear c5b1
    try clear p6
    try clear q6
    try clear hx6
    try clear qi6
    try clear hcz4_0
    try clear hcz4_1
    try clear hcz4_2
    try clear hcz4_3
    try clear hfz4_0
    try clear hfz4_1
    try clear hfz4_2
    try clear hfz4_3
    try clear p6
    try clear q6
    obtain ⟨x6_1, x311000_1, x311001_1, x311002_1, x311003_1, rfl, HA, HK1, BK310, HB⟩ := hrel
    cases gk with
    | zero => exact absurd HA.out (by simp [lapwingref05_Get.l0])
    | succ k1 =>
     have H := HA.out
     clear HA
     simp only [lapwingref05_Get.l0] at H
     by_cases c8 : x6_1 < 10
     ·rw [if_pos c8] at H
      have c8b0 : decide (x6_1 < 10) = true := decide_eq_true c8
      clear c8
      replace H := Option.bind_eq_some_iff.mp H
      obtain ⟨t311, A90, H⟩ := H
      replace H : ((lapwingref05_octet.f x6_1).bind fun t312 => (if t311 = true then (if x6_1 = 0 then (if (Int.tmod (wrap64 (bt a0 0)) 2) = 0 then (lapwingref05_Get.j1 k1 a0 (wrap64 (bt a0 0)) x6_1 t311 t312 true) else (lapwingref05_Get.j1 k1 a0 (wrap64 (bt a0 0)) x6_1 t311 t312 false)) else (lapwingref05_Get.j1 k1 a0 (wrap64 (bt a0 0)) x6_1 t311 t312 ((wrap64 (bt a0 0)) == t312))) else (lapwingref05_Get.j1 k1 a0 (wrap64 (bt a0 0)) x6_1 t311 t312 false))) = some (r1, r2, r3, r4, r5, r6) := H
      have A9 := Aside0.mk A90
      clear A90
      replace H := Option.bind_eq_some_iff.mp H
      obtain ⟨t312, A100, H⟩ := H
      replace H : (if t311 = true then (if x6_1 = 0 then (if (Int.tmod (wrap64 (bt a0 0)) 2) = 0 then (lapwingref05_Get.j1 k1 a0 (wrap64 (bt a0 0)) x6_1 t311 t312 true) else (lapwingref05_Get.j1 k1 a0 (wrap64 (bt a0 0)) x6_1 t311 t312 false)) else (lapwingref05_Get.j1 k1 a0 (wrap64 (bt a0 0)) x6_1 t311 t312 ((wrap64 (bt a0 0)) == t312))) else (lapwingref05_Get.j1 k1 a0 (wrap64 (bt a0 0)) x6_1 t311 t312 false)) = some (r1, r2, r3, r4, r5, r6) := H
      have A10 := Aside0.mk A100
      clear A100
      have HC11 := Aside0.mk H
      clear H
      go_upto_region 9 with (first | ((with_reducible refine gate_callee (f := 53) rfl ?_); refine goesL_ (some 22) rfl rfl Tryd.func53 (by kernel_rfl) rfl #[.int .i64 x6_1] rfl (by (try simp only [List.map_toArray, List.map_cons, List.map_nil]); first | done | rfl) ?_; (with_reducible refine (lapwingref05_Numbered.calls x6_1 t311 _ A9.out).mono ?_); rintro e w' ⟨rfl, ⟨nd, rfl⟩⟩; refine ⟨_, rfl, ?_⟩) | ((with_reducible refine gate_callee (f := 52) rfl ?_); refine goesL_ (some 24) rfl rfl Tryd.func52 (by kernel_rfl) rfl #[.int .i64 x6_1] rfl (by (try simp only [List.map_toArray, List.map_cons, List.map_nil]); first | done | rfl) ?_; (with_reducible refine (lapwingref05_octet.calls x6_1 t312 _ A10.out).mono ?_); rintro e w' ⟨rfl, ⟨nd, rfl⟩⟩; refine ⟨_, rfl, ?_⟩))
      (try simp only [Act.put, sA, sB, sC])
      go_cut [43] (fun v43 wc => ∃ (kq : Nat) (x43_10 : Bool), v43 = .bool x43_10 ∧ Aside0 (lapwingref05_Get.j1 kq a0 (wrap64 (bt a0 0)) x6_1 t311 t312 x43_10 = some (r1, r2, r3, r4, r5, r6)) ∧ Aside0 (kq ≤ k1) ∧ Aside0 (wc.heap[gb310]? = some (.cells #[.int .i64 x311000_1, .bool x311001_1, .int .i64 x311002_1, .int .i64 x311003_1] 72 (0, 0))) ∧ Aside0 (Below w.heap.size w wc))
      case first =>
       have H := HC11.out
       clear HC11
       by_cases c12 : t311 = true
       ·subst c12
        have H1 : (if x6_1 = 0 then (if (Int.tmod (wrap64 (bt a0 0)) 2) = 0 then (lapwingref05_Get.j1 k1 a0 (wrap64 (bt a0 0)) x6_1 true t312 true) else (lapwingref05_Get.j1 k1 a0 (wrap64 (bt a0 0)) x6_1 true t312 false)) else (lapwingref05_Get.j1 k1 a0 (wrap64 (bt a0 0)) x6_1 true t312 ((wrap64 (bt a0 0)) == t312))) = some (r1, r2, r3, r4, r5, r6) := by rw [if_pos rfl] at H; exact H
        clear H
        have H := H1
        clear H1
        by_cases c13 : x6_1 = 0
        ·rw [if_pos c13] at H
         have c13b0 : (x6_1 == 0) = true := beq_iff_eq.mpr c13
         have c13b1 : (x6_1 != 0) = false := bne_eq_false_iff_eq.mpr c13
         clear c13
         (first | rw [c13b0] | (simp only [i64_w, i32_w]; rw [c13b0]) | skip)
         by_cases c14 : (Int.tmod (wrap64 (bt a0 0)) 2) = 0
         ·rw [if_pos c14] at H
          have c14b0 : ((Int.tmod (wrap64 (bt a0 0)) 2) == 0) = true := beq_iff_eq.mpr c14
          have c14b1 : ((Int.tmod (wrap64 (bt a0 0)) 2) != 0) = false := bne_eq_false_iff_eq.mpr c14
          clear c14
          have H' := Aside0.mk H
          clear H
          go_wp2
          go_meet
          case rel => exact ⟨_, (true), (by first | rfl | (simp; done) | (simp [*]; done)), H', ⟨by have := HK1.out; first | omega | exact Nat.le_refl _⟩, ⟨by (with_reducible repeat (first | apply kN | apply kD | apply kA)); exact BK310.out⟩, ⟨by repeat (first | (with_reducible first | exact HB.out | apply bA | apply bN | apply bD | refine bS ?_ GE310.out) | exact HB.out)⟩⟩
         ·rw [if_neg c14] at H
          have c14b0 : ((Int.tmod (wrap64 (bt a0 0)) 2) == 0) = false := beq_eq_false_iff_ne.mpr c14
          have c14b1 : ((Int.tmod (wrap64 (bt a0 0)) 2) != 0) = true := bne_iff_ne.mpr c14
          have H' := Aside0.mk H
          clear H
          go_wp2
          go_meet
          case rel => exact ⟨_, (false), (by first | rfl | (simp; done) | (simp [*]; done)), H', ⟨by have := HK1.out; first | omega | exact Nat.le_refl _⟩, ⟨by (with_reducible repeat (first | apply kN | apply kD | apply kA)); exact BK310.out⟩, ⟨by repeat (first | (with_reducible first | exact HB.out | apply bA | apply bN | apply bD | refine bS ?_ GE310.out) | exact HB.out)⟩⟩
        ·rw [if_neg c13] at H
         have c13b0 : (x6_1 == 0) = false := beq_eq_false_iff_ne.mpr c13
         have c13b1 : (x6_1 != 0) = true := bne_iff_ne.mpr c13
         (first | rw [c13b0] | (simp only [i64_w, i32_w]; rw [c13b0]) | skip)
         have H' := Aside0.mk H
         clear H
         go_wp2
         go_meet
         case rel => exact ⟨_, (((wrap64 (bt a0 0)) == t312)), (by first | rfl | (simp; done) | (simp [*]; done)), H', ⟨by have := HK1.out; first | omega | exact Nat.le_refl _⟩, ⟨by (with_reducible repeat (first | apply kN | apply kD | apply kA)); exact BK310.out⟩, ⟨by repeat (first | (with_reducible first | exact HB.out | apply bA | apply bN | apply bD | refine bS ?_ GE310.out) | exact HB.out)⟩⟩
       ·replace c12 := Bool.eq_false_iff.mpr c12
        subst c12
        have H1 : (lapwingref05_Get.j1 k1 a0 (wrap64 (bt a0 0)) x6_1 false t312 false) = some (r1, r2, r3, r4, r5, r6) := by rw [if_neg (show ¬ (false = true) by decide)] at H; exact H
        clear H
        have H := H1
        clear H1
        have H' := Aside0.mk H
        clear H
        go_wp2
        go_meet
        case rel => exact ⟨_, (false), (by first | rfl | (simp; done) | (simp [*]; done)), H', ⟨by have := HK1.out; first | omega | exact Nat.le_refl _⟩, ⟨by (with_reducible repeat (first | apply kN | apply kD | apply kA)); exact BK310.out⟩, ⟨by repeat (first | (with_reducible first | exact HB.out | apply bA | apply bN | apply bD | refine bS ?_ GE310.out) | exact HB.out)⟩⟩
      case rest =>
       clear HC11
       try clear c1
       try clear c2
       try clear c2b0
       try clear c2b1
       try clear p2
       try clear c4
       try clear c5
       try clear c5b0
       try clear c5b1
       try clear p6
       try clear q6
       try clear hx6
       try clear qi6
       try clear c8
       try clear c8b0
       try clear c12
       try clear c13
       try clear c13b0
       try clear c13b1
       try clear c14
       try clear c14b0
       try clear c14b1
       try clear hcz4_0
       try clear hcz4_1
       try clear hcz4_2
       try clear hcz4_3
       try clear hfz4_0
       try clear hfz4_1
       try clear hfz4_2
       try clear hfz4_3
       try clear p2
       try clear p6
       try clear q6
       obtain ⟨kq, x43_10, rfl, HA, HJ10, BK310, HB⟩ := hcut
       cases kq with
       | zero => exact absurd HA.out (by simp [lapwingref05_Get.j1])
       | succ kj10 =>
        have H := HA.out
        clear HA
        simp only [lapwingref05_Get.j1] at H
        by_cases c15 : x43_10 = true
        ·subst c15
         have H1 : (if (a0.size : Int) < 2 then (some (0, false, 0, 0, 0, 3)) else (if 1 < (a0.size : Int) then (if x6_1 = 0 then (some (x6_1, ((Int.tmod (bt a0 1) 2) == 1), wrap64 (Int.tdiv (wrap64 (bt a0 0)) 2), wrap64 (Int.tdiv (wrap64 (bt a0 1)) 2), 2, 0)) else (some (x6_1, ((Int.tmod (bt a0 1) 2) == 1), 0, wrap64 (Int.tdiv (wrap64 (bt a0 1)) 2), 2, 0))) else (none))) = some (r1, r2, r3, r4, r5, r6) := by rw [if_pos rfl] at H; exact H
         clear H
         have H := H1
         clear H1
         by_cases c16 : (a0.size : Int) < 2
         ·rw [if_pos c16] at H
          have c16b0 : decide ((a0.size : Int) < 2) = true := decide_eq_true c16
          have c16b1 : decide (a0.size < 2) = true := decide_eq_true (by omega)
          clear c16
          simp only [Option.some.injEq, Prod.mk.injEq] at H
          obtain ⟨rfl, rfl, rfl, rfl, rfl, rfl⟩ := H
          have hcz17_0 : wc.cell? ⟨gb310, 0, none⟩ = some (.int .i64 x311000_1) := (kC BK310.out 0).trans rfl
          have hcz17_1 : wc.cell? ⟨gb310, 1, none⟩ = some (.bool x311001_1) := (kC BK310.out 1).trans rfl
          have hcz17_2 : wc.cell? ⟨gb310, 2, none⟩ = some (.int .i64 x311002_1) := (kC BK310.out 2).trans rfl
          have hcz17_3 : wc.cell? ⟨gb310, 3, none⟩ = some (.int .i64 x311003_1) := (kC BK310.out 3).trans rfl
          have hfz17_0 := kF BK310.out 0
          have hfz17_1 := kF BK310.out 1
          have hfz17_2 := kF BK310.out 2
          have hfz17_3 := kF BK310.out 3
          go_wp2
          refine bodyPost_ret (results_ctt rfl _ _ gb310 72 #[.int .i64 0, .bool false, .int .i64 0, .int .i64 0] (0, 0) _ rfl (by (with_reducible repeat (first | apply kN | apply kD | apply kA)); refine kP (cs := #[.int .i64 0, .bool false, .int .i64 0, .int .i64 x311003_1]) ?_ 3 _ rfl; refine kP (cs := #[.int .i64 0, .bool false, .int .i64 x311002_1, .int .i64 x311003_1]) ?_ 2 _ rfl; refine kP (cs := #[.int .i64 0, .bool x311001_1, .int .i64 x311002_1, .int .i64 x311003_1]) ?_ 1 _ rfl; refine kP (cs := #[.int .i64 x311000_1, .bool x311001_1, .int .i64 x311002_1, .int .i64 x311003_1]) ?_ 0 _ rfl; (with_reducible repeat (first | apply kN | apply kD | apply kA)); exact BK310.out) Tryd.underlying72 rfl (by kernel_rfl)) rfl ?_
          exact ⟨by first | rfl | (simp [*, errW_none, errW_some] <;> rfl), by repeat (first | (with_reducible first | exact HB.out | apply bA | apply bN | apply bD | refine bS ?_ GE310.out) | exact HB.out)⟩
         ·rw [if_neg c16] at H
          have c16b0 : decide ((a0.size : Int) < 2) = false := decide_eq_false c16
          have c16b1 : decide (a0.size < 2) = false := decide_eq_false (by omega)
          clear c16
          by_cases c18 : 1 < (a0.size : Int)
          ·rw [if_pos c18] at H
           have c18b0 : decide (1 < (a0.size : Int)) = true := decide_eq_true c18
           have c18b1 : decide (1 < a0.size) = true := decide_eq_true (by omega)
           clear c18
           by_cases c21 : x6_1 = 0
           ·rw [if_pos c21] at H
            have c21b0 : (x6_1 == 0) = true := beq_iff_eq.mpr c21
            have c21b1 : (x6_1 != 0) = false := bne_eq_false_iff_eq.mpr c21
            clear c21
            simp only [Option.some.injEq, Prod.mk.injEq] at H
            obtain ⟨rfl, rfl, rfl, rfl, rfl, rfl⟩ := H
            try go_wp2
            have n0_ := Aside0.mk (kD BK310.out)
            have n1_ := Aside0.mk (bD HB.out)
            clear BK310
            clear HB
            have BK310 := n0_
            have HB := n1_
            clear n0_ n1_
            have p19 : 0 ≤ (1 : Int) := (by omega)
            have q19 : 1 < a0.size := (by have : (1 : Int) < (a0.size : Int) := of_decide_eq_true (by first | (with_reducible assumption) | assumption); omega)
            have hx19 : ∀ h : 1 < a0.size, ((a0[1]'h).toNat : Int) = bt a0 1 := bt_at a0 1
            clear p19
            have qi19 : (1 < (a0.size : Int)) = True := eq_true (of_decide_eq_true (by first | (with_reducible assumption) | assumption))
            replace q19 := eq_true q19
            have p20 : 0 ≤ (1 : Int) := (by omega)
            have q20 : 1 < a0.size := (by have : (1 : Int) < (a0.size : Int) := of_decide_eq_true (by first | (with_reducible assumption) | assumption); omega)
            have hx20 : ∀ h : 1 < a0.size, ((a0[1]'h).toNat : Int) = bt a0 1 := bt_at a0 1
            clear p20
            have qi20 : (1 < (a0.size : Int)) = True := eq_true (of_decide_eq_true (by first | (with_reducible assumption) | assumption))
            replace q20 := eq_true q20
            refine start_ (n := 12) (S := fun w' => True) (ds := []) #[tF, tF, tF, tF, tF, tF, tF, tF, tF, tF, tF, tF] (by kernel_rfl) rfl rfl trivial (fun hHeld => ?_); refine with_tabW lapwingref05_Get.tab12 lapwingref05_Get.bits12 (fun HT_ HW_ => ?_)
            generalize wc.drew = w22 at BK310 HB hHeld ⊢
            refine pure_ (i := 0) (N := some 48) (v := ?_) (a' := ?_) #[tT, tF, tF, tF, tF, tF, tF, tF, tF, tF, tF, tF] rfl rfl (any_of HT_.out (by kernel_rfl)) (fun _ _ _ h => h) (Or.inl ⟨by rfl, ?_⟩) ?_ ?_
            rotate_left
            ·intro w'
             go_simp
             with_reducible rfl
            rotate_left
            ·simp only [Act.put, sA, sB, sC, i64_w, i32_w]
             rfl
            refine pure_ (i := 1) (N := some 49) (v := ?_) (a' := ?_) #[tT, tT, tF, tF, tF, tF, tF, tF, tF, tF, tF, tF] rfl rfl (any_of HT_.out (by kernel_rfl)) (fun _ _ _ h => h) (Or.inl ⟨by rfl, ?_⟩) ?_ ?_
            rotate_left
            ·intro w'
             go_simp
             with_reducible rfl
            rotate_left
            ·simp only [Act.put, sA, sB, sC, i64_w, i32_w]
             rfl
            refine pure_ (i := 5) (N := some 53) (v := ?_) (a' := ?_) #[tT, tT, tF, tF, tF, tT, tF, tF, tF, tF, tF, tF] rfl rfl (any_of HT_.out (by kernel_rfl)) (fun _ _ _ h => h) (Or.inl ⟨by rfl, ?_⟩) ?_ ?_
            rotate_left
            ·intro w'
             go_simp
             with_reducible rfl
            rotate_left
            ·simp only [Act.put, sA, sB, sC, i64_w, i32_w]
             rfl
            refine take_ (i := 2) (N := some 50) (v := ?_) (a' := ?_) #[tT, tT, tT, tF, tF, tT, tF, tF, tF, tF, tF, tF] rfl rfl (take_ofW HT_.out HW_.out (by kernel_rfl)) (fun _ _ _ h => h) (Or.inl ⟨by rfl, ?_⟩) hHeld ?_ ?_
            rotate_left
            ·intro w' _
             go_simp
             with_reducible rfl
            rotate_left
            ·simp only [Act.put, sA, sB, sC, i64_w, i32_w]
             rfl
            refine pure_ (i := 3) (N := some 51) (v := ?_) (a' := ?_) #[tT, tT, tT, tT, tF, tT, tF, tF, tF, tF, tF, tF] rfl rfl (any_of HT_.out (by kernel_rfl)) (fun _ _ _ h => h) (Or.inl ⟨by rfl, ?_⟩) ?_ ?_
            rotate_left
            ·intro w'
             go_simp
             with_reducible rfl
            rotate_left
            ·simp only [Act.put, sA, sB, sC, i64_w, i32_w]
             rfl
            refine pure_ (i := 4) (N := some 52) (v := ?_) (a' := ?_) #[tT, tT, tT, tT, tT, tT, tF, tF, tF, tF, tF, tF] rfl rfl (any_of HT_.out (by kernel_rfl)) (fun _ _ _ h => h) (Or.inl ⟨by rfl, ?_⟩) ?_ ?_
            rotate_left
            ·intro w'
             go_simp
             with_reducible rfl
            rotate_left
            ·simp only [Act.put, sA, sB, sC, i64_w, i32_w]
             rfl
            refine take_ (i := 6) (N := some 54) (v := ?_) (a' := ?_) #[tT, tT, tT, tT, tT, tT, tT, tF, tF, tF, tF, tF] rfl rfl (take_ofW HT_.out HW_.out (by kernel_rfl)) (fun _ _ _ h => h) (Or.inl ⟨by rfl, ?_⟩) hHeld ?_ ?_
            rotate_left
            ·intro w' _
             go_simp
             with_reducible rfl
            rotate_left
            ·simp only [Act.put, sA, sB, sC, i64_w, i32_w]
             rfl
            refine pure_ (i := 7) (N := some 55) (v := ?_) (a' := ?_) #[tT, tT, tT, tT, tT, tT, tT, tT, tF, tF, tF, tF] rfl rfl (any_of HT_.out (by kernel_rfl)) (fun _ _ _ h => h) (Or.inl ⟨by rfl, ?_⟩) ?_ ?_
            rotate_left
            ·intro w'
             go_simp
             with_reducible rfl
            rotate_left
            ·simp only [Act.put, sA, sB, sC, i64_w, i32_w]
             rfl
            refine pure_ (i := 8) (N := some 56) (v := ?_) (a' := ?_) #[tT, tT, tT, tT, tT, tT, tT, tT, tT, tF, tF, tF] rfl rfl (any_of HT_.out (by kernel_rfl)) (fun _ _ _ h => h) (Or.inl ⟨by rfl, ?_⟩) ?_ ?_
            rotate_left
            ·intro w'
             go_simp
             with_reducible rfl
            rotate_left
            ·simp only [Act.put, sA, sB, sC, i64_w, i32_w]
             rfl
            refine pure_ (i := 9) (N := some 57) (v := ?_) (a' := ?_) #[tT, tT, tT, tT, tT, tT, tT, tT, tT, tT, tF, tF] rfl rfl (any_of HT_.out (by kernel_rfl)) (fun _ _ _ h => h) (Or.inl ⟨by rfl, ?_⟩) ?_ ?_
            rotate_left
            ·intro w'
             go_simp
             with_reducible rfl
            rotate_left
            ·simp only [Act.put, sA, sB, sC, i64_w, i32_w]
             rfl
            refine one_ (i := 10) (N := some 9) #[tT, tT, tT, tT, tT, tT, tT, tT, tT, tT, tT, tF] rfl rfl (one_of HT_.out (by kernel_rfl)) (by decide) (fun K hK => ?_)
            refine box_step ?hg (N := 9) ?hd (cs := #[.int .i64 0, .bool false, .int .i64 0, .int .i64 0]) (t := 72) ?hr ?_; (case hd => rfl); (case hg => rfl); (case hr => first | (go_simp; done) | (go_simp; rfl))
            intro gb313 hg w23 hbox hb
            have n0_ := Aside0.mk (kB (g := gb310) (o := .cells #[.int .i64 x311000_1, .bool x311001_1, .int .i64 x311002_1, .int .i64 x311003_1] 72 (0, 0)) (by (with_reducible repeat (first | apply kN | apply kD | apply kA)); exact BK310.out) hb)
            have n1_ := Aside0.mk (bT (by repeat (first | (with_reducible first | exact HB.out | apply bA | apply bN | apply bD | refine bS ?_ GE310.out) | exact HB.out)) hb)
            have n2_ := Aside0.mk (hbox)
            have n3_ := Aside0.mk ((by rw [hg]; exact (below_size (by repeat (first | (with_reducible first | exact HB.out | apply bA | apply bN | apply bD | refine bS ?_ GE310.out) | exact HB.out))) : w.heap.size ≤ gb313))
            have n4_ := Aside0.mk ((by rw [hg]; exact (below_size (by repeat (first | (with_reducible first | exact HB.out | apply bA | apply bN | apply bD | refine bS ?_ GE310.out) | exact HB.out))) : w.heap.size ≤ gb313))
            have n5_ := Aside0.mk ((by rw [hg]; exact Nat.ne_of_lt (blk_lt (g := gb310) (o := .cells #[.int .i64 x311000_1, .bool x311001_1, .int .i64 x311002_1, .int .i64 x311003_1] 72 (0, 0)) (by (with_reducible repeat (first | apply kN | apply kD | apply kA)); exact BK310.out)) : gb310 ≠ gb313))
            have n6_ := Aside0.mk ((by rw [hg]; exact Nat.ne_of_gt (blk_lt (g := gb310) (o := .cells #[.int .i64 x311000_1, .bool x311001_1, .int .i64 x311002_1, .int .i64 x311003_1] 72 (0, 0)) (by (with_reducible repeat (first | apply kN | apply kD | apply kA)); exact BK310.out)) : gb313 ≠ gb310))
            clear BK310
            clear HB
            have BK310 := n0_
            have HB := n1_
            have BK313 := n2_
            have GW313 := n3_
            have GE313 := n4_
            have NB310_313 := n5_
            have NB313_310 := n6_
            clear n0_ n1_ n2_ n3_ n4_ n5_ n6_
            clear hb hbox hg
            refine hK.out _ _ trivial (fun hHeld => ?_)
            clear hK K
            refine norm_ (a' := ?_) ?_ ?_
            rotate_left
            ·show Act.put _ (some 9) _ = _
             simp only [Act.put, sA, sB, sC, i64_w, i32_w]
             rfl
            refine one_ (i := 11) (N := none) #[tT, tT, tT, tT, tT, tT, tT, tT, tT, tT, tT, tT] rfl rfl (one_of HT_.out (by kernel_rfl)) (by decide) (fun K hK => ?_)
            have hs24 : w23.cell? ⟨gb313, 0, none⟩ = some (.int .i64 0) := (kC BK313.out 0).trans rfl
            have hfs24 := kF BK313.out 0
            have hns24_0 := NB310_313.out
            have hms24_0 := NB313_310.out
            have hs25 : w23.cell? ⟨gb313, 1, none⟩ = some (.bool false) := (kC BK313.out 1).trans rfl
            have hfs25 := kF BK313.out 1
            have hns25_0 := NB310_313.out
            have hms25_0 := NB313_310.out
            have hs26 : w23.cell? ⟨gb313, 2, none⟩ = some (.int .i64 0) := (kC BK313.out 2).trans rfl
            have hfs26 := kF BK313.out 2
            have hns26_0 := NB310_313.out
            have hms26_0 := NB313_310.out
            have hs27 : w23.cell? ⟨gb313, 3, none⟩ = some (.int .i64 0) := (kC BK313.out 3).trans rfl
            have hfs27 := kF BK313.out 3
            have hns27_0 := NB310_313.out
            have hms27_0 := NB313_310.out
            refine skip_ (w1 := ?_) (by rfl) rfl ?_ ?_
            rotate_left
            ·go_simp
             rfl
            refine hK.out _ _ trivial (fun hHeld => ?_)
            clear hK K
            refine done_ (done_of HT_.out (by kernel_rfl)) ?_
            have hnb28 := NB313_310.out
            have hnc28 := NB310_313.out
            have n0_ : Aside0 (((((w23.setCell ⟨gb313, 0, none⟩ (.int .i64 x6_1)).setCell ⟨gb313, 1, none⟩ (.bool ((Int.tmod (bt a0 1) 2) == 1))).setCell ⟨gb313, 2, none⟩ (.int .i64 0)).setCell ⟨gb313, 3, none⟩ (.int .i64 (wrap64 (Int.tdiv (wrap64 (bt a0 1)) 2)))).heap[gb313]? = some (.cells #[.int .i64 x6_1, .bool ((Int.tmod (bt a0 1) 2) == 1), .int .i64 0, .int .i64 (wrap64 (Int.tdiv (wrap64 (bt a0 1)) 2))] 72 (0, 0))) := ⟨by (with_reducible repeat (first | apply kN | apply kD | apply kA)); refine kP (cs := #[.int .i64 x6_1, .bool ((Int.tmod (bt a0 1) 2) == 1), .int .i64 0, .int .i64 0]) ?_ 3 _ rfl; refine kP (cs := #[.int .i64 x6_1, .bool ((Int.tmod (bt a0 1) 2) == 1), .int .i64 0, .int .i64 0]) ?_ 2 _ rfl; refine kP (cs := #[.int .i64 x6_1, .bool false, .int .i64 0, .int .i64 0]) ?_ 1 _ rfl; refine kP (cs := #[.int .i64 0, .bool false, .int .i64 0, .int .i64 0]) ?_ 0 _ rfl; (with_reducible repeat (first | apply kN | apply kD | apply kA)); exact BK313.out⟩
            have n1_ : Aside0 (((((w23.setCell ⟨gb313, 0, none⟩ (.int .i64 x6_1)).setCell ⟨gb313, 1, none⟩ (.bool ((Int.tmod (bt a0 1) 2) == 1))).setCell ⟨gb313, 2, none⟩ (.int .i64 0)).setCell ⟨gb313, 3, none⟩ (.int .i64 (wrap64 (Int.tdiv (wrap64 (bt a0 1)) 2)))).heap[gb310]? = some (.cells #[.int .i64 x311000_1, .bool x311001_1, .int .i64 x311002_1, .int .i64 x311003_1] 72 (0, 0))) := ⟨by (with_reducible repeat (first | apply kN | apply kD | apply kA)); refine kR ?_ NB310_313.out _; (with_reducible repeat (first | apply kN | apply kD | apply kA)); refine kR ?_ NB310_313.out _; (with_reducible repeat (first | apply kN | apply kD | apply kA)); refine kR ?_ NB310_313.out _; (with_reducible repeat (first | apply kN | apply kD | apply kA)); refine kR ?_ NB310_313.out _; (with_reducible repeat (first | apply kN | apply kD | apply kA)); exact BK310.out⟩
            have n2_ : Aside0 (Below w.heap.size w ((((w23.setCell ⟨gb313, 0, none⟩ (.int .i64 x6_1)).setCell ⟨gb313, 1, none⟩ (.bool ((Int.tmod (bt a0 1) 2) == 1))).setCell ⟨gb313, 2, none⟩ (.int .i64 0)).setCell ⟨gb313, 3, none⟩ (.int .i64 (wrap64 (Int.tdiv (wrap64 (bt a0 1)) 2))))) := ⟨by repeat (first | (with_reducible first | exact HB.out | apply bA | apply bN | apply bD | refine bS ?_ GE313.out | refine bS ?_ GE310.out) | exact HB.out)⟩
            (try clear BK313)
            (try clear BK310)
            (try clear HB)
            generalize ((((w23.setCell ⟨gb313, 0, none⟩ (.int .i64 x6_1)).setCell ⟨gb313, 1, none⟩ (.bool ((Int.tmod (bt a0 1) 2) == 1))).setCell ⟨gb313, 2, none⟩ (.int .i64 0)).setCell ⟨gb313, 3, none⟩ (.int .i64 (wrap64 (Int.tdiv (wrap64 (bt a0 1)) 2)))) = w23s at n0_ n1_ n2_ ⊢
            have BK313 := n0_
            have BK310 := n1_
            have HB := n2_
            clear n0_ n1_ n2_
            have hugb313_0 : w23s.cell? ⟨gb313, 0, none⟩ = some (.int .i64 x6_1) := (kC BK313.out 0).trans rfl
            have hvgb313_0 := kF BK313.out 0
            have hugb313_1 : w23s.cell? ⟨gb313, 1, none⟩ = some (.bool ((Int.tmod (bt a0 1) 2) == 1)) := (kC BK313.out 1).trans rfl
            have hvgb313_1 := kF BK313.out 1
            have hugb313_2 : w23s.cell? ⟨gb313, 2, none⟩ = some (.int .i64 0) := (kC BK313.out 2).trans rfl
            have hvgb313_2 := kF BK313.out 2
            have hugb313_3 : w23s.cell? ⟨gb313, 3, none⟩ = some (.int .i64 (wrap64 (Int.tdiv (wrap64 (bt a0 1)) 2))) := (kC BK313.out 3).trans rfl
            have hvgb313_3 := kF BK313.out 3
            have hugb310_0 : w23s.cell? ⟨gb310, 0, none⟩ = some (.int .i64 x311000_1) := (kC BK310.out 0).trans rfl
            have hvgb310_0 := kF BK310.out 0
            have hugb310_1 : w23s.cell? ⟨gb310, 1, none⟩ = some (.bool x311001_1) := (kC BK310.out 1).trans rfl
            have hvgb310_1 := kF BK310.out 1
            have hugb310_2 : w23s.cell? ⟨gb310, 2, none⟩ = some (.int .i64 x311002_1) := (kC BK310.out 2).trans rfl
            have hvgb310_2 := kF BK310.out 2
            have hugb310_3 : w23s.cell? ⟨gb310, 3, none⟩ = some (.int .i64 x311003_1) := (kC BK310.out 3).trans rfl
            have hvgb310_3 := kF BK310.out 3
            try go_wp2
            refine bodyPost_ret (results_ctt rfl _ _ gb310 72 #[.int .i64 x6_1, .bool ((Int.tmod (bt a0 1) 2) == 1), .int .i64 (wrap64 (Int.tdiv (wrap64 (bt a0 0)) 2)), .int .i64 (wrap64 (Int.tdiv (wrap64 (bt a0 1)) 2))] (0, 0) _ rfl (by (with_reducible repeat (first | apply kN | apply kD | apply kA)); refine kP (cs := #[.int .i64 x6_1, .bool ((Int.tmod (bt a0 1) 2) == 1), .int .i64 (wrap64 (Int.tdiv (wrap64 (bt a0 0)) 2)), .int .i64 x311003_1]) ?_ 3 _ rfl; refine kP (cs := #[.int .i64 x6_1, .bool ((Int.tmod (bt a0 1) 2) == 1), .int .i64 x311002_1, .int .i64 x311003_1]) ?_ 2 _ rfl; refine kP (cs := #[.int .i64 x6_1, .bool x311001_1, .int .i64 x311002_1, .int .i64 x311003_1]) ?_ 1 _ rfl; refine kP (cs := #[.int .i64 x311000_1, .bool x311001_1, .int .i64 x311002_1, .int .i64 x311003_1]) ?_ 0 _ rfl; (with_reducible repeat (first | apply kN | apply kD | apply kA)); (repeat (first | (with_reducible refine kR ?_ NB310_313.out _) | (with_reducible refine kN ?_ _) | (with_reducible refine kD ?_) | (with_reducible refine kA ?_ _))); exact BK310.out) Tryd.underlying72 rfl (by kernel_rfl)) rfl ?_
            exact ⟨by first | rfl | (simp [*, errW_none, errW_some] <;> rfl), by repeat (first | (with_reducible first | exact HB.out | apply bA | apply bN | apply bD | refine bS ?_ GE310.out | refine bS ?_ GE313.out) | exact HB.out)⟩
           ·rw [if_neg c21] at H
            have c21b0 : (x6_1 == 0) = false := beq_eq_false_iff_ne.mpr c21
            have c21b1 : (x6_1 != 0) = true := bne_iff_ne.mpr c21
            simp only [Option.some.injEq, Prod.mk.injEq] at H
            obtain ⟨rfl, rfl, rfl, rfl, rfl, rfl⟩ := H
            try go_wp2
            have n0_ := Aside0.mk (kD BK310.out)
            have n1_ := Aside0.mk (bD HB.out)
            clear BK310
            clear HB
            have BK310 := n0_
            have HB := n1_
            clear n0_ n1_
            have p19 : 0 ≤ (1 : Int) := (by omega)
            have q19 : 1 < a0.size := (by have : (1 : Int) < (a0.size : Int) := of_decide_eq_true (by first | (with_reducible assumption) | assumption); omega)
            have hx19 : ∀ h : 1 < a0.size, ((a0[1]'h).toNat : Int) = bt a0 1 := bt_at a0 1
            clear p19
            have qi19 : (1 < (a0.size : Int)) = True := eq_true (of_decide_eq_true (by first | (with_reducible assumption) | assumption))
            replace q19 := eq_true q19
            have p20 : 0 ≤ (1 : Int) := (by omega)
            have q20 : 1 < a0.size := (by have : (1 : Int) < (a0.size : Int) := of_decide_eq_true (by first | (with_reducible assumption) | assumption); omega)
            have hx20 : ∀ h : 1 < a0.size, ((a0[1]'h).toNat : Int) = bt a0 1 := bt_at a0 1
            clear p20
            have qi20 : (1 < (a0.size : Int)) = True := eq_true (of_decide_eq_true (by first | (with_reducible assumption) | assumption))
            replace q20 := eq_true q20
            refine start_ (n := 12) (S := fun w' => True) (ds := []) #[tF, tF, tF, tF, tF, tF, tF, tF, tF, tF, tF, tF] (by kernel_rfl) rfl rfl trivial (fun hHeld => ?_); refine with_tabW lapwingref05_Get.tab12 lapwingref05_Get.bits12 (fun HT_ HW_ => ?_)
            generalize wc.drew = w31 at BK310 HB hHeld ⊢
            refine pure_ (i := 0) (N := some 48) (v := ?_) (a' := ?_) #[tT, tF, tF, tF, tF, tF, tF, tF, tF, tF, tF, tF] rfl rfl (any_of HT_.out (by kernel_rfl)) (fun _ _ _ h => h) (Or.inl ⟨by rfl, ?_⟩) ?_ ?_
            rotate_left
            ·intro w'
             go_simp
             with_reducible rfl
            rotate_left
            ·simp only [Act.put, sA, sB, sC, i64_w, i32_w]
             rfl
            refine pure_ (i := 1) (N := some 49) (v := ?_) (a' := ?_) #[tT, tT, tF, tF, tF, tF, tF, tF, tF, tF, tF, tF] rfl rfl (any_of HT_.out (by kernel_rfl)) (fun _ _ _ h => h) (Or.inl ⟨by rfl, ?_⟩) ?_ ?_
            rotate_left
            ·intro w'
             go_simp
             with_reducible rfl
            rotate_left
            ·simp only [Act.put, sA, sB, sC, i64_w, i32_w]
             rfl
            refine pure_ (i := 5) (N := some 53) (v := ?_) (a' := ?_) #[tT, tT, tF, tF, tF, tT, tF, tF, tF, tF, tF, tF] rfl rfl (any_of HT_.out (by kernel_rfl)) (fun _ _ _ h => h) (Or.inl ⟨by rfl, ?_⟩) ?_ ?_
            rotate_left
            ·intro w'
             go_simp
             with_reducible rfl
            rotate_left
            ·simp only [Act.put, sA, sB, sC, i64_w, i32_w]
             rfl
            refine take_ (i := 2) (N := some 50) (v := ?_) (a' := ?_) #[tT, tT, tT, tF, tF, tT, tF, tF, tF, tF, tF, tF] rfl rfl (take_ofW HT_.out HW_.out (by kernel_rfl)) (fun _ _ _ h => h) (Or.inl ⟨by rfl, ?_⟩) hHeld ?_ ?_
            rotate_left
            ·intro w' _
             go_simp
             with_reducible rfl
            rotate_left
            ·simp only [Act.put, sA, sB, sC, i64_w, i32_w]
             rfl
            refine pure_ (i := 3) (N := some 51) (v := ?_) (a' := ?_) #[tT, tT, tT, tT, tF, tT, tF, tF, tF, tF, tF, tF] rfl rfl (any_of HT_.out (by kernel_rfl)) (fun _ _ _ h => h) (Or.inl ⟨by rfl, ?_⟩) ?_ ?_
            rotate_left
            ·intro w'
             go_simp
             with_reducible rfl
            rotate_left
            ·simp only [Act.put, sA, sB, sC, i64_w, i32_w]
             rfl
            refine pure_ (i := 4) (N := some 52) (v := ?_) (a' := ?_) #[tT, tT, tT, tT, tT, tT, tF, tF, tF, tF, tF, tF] rfl rfl (any_of HT_.out (by kernel_rfl)) (fun _ _ _ h => h) (Or.inl ⟨by rfl, ?_⟩) ?_ ?_
            rotate_left
            ·intro w'
             go_simp
             with_reducible rfl
            rotate_left
            ·simp only [Act.put, sA, sB, sC, i64_w, i32_w]
             rfl
            refine take_ (i := 6) (N := some 54) (v := ?_) (a' := ?_) #[tT, tT, tT, tT, tT, tT, tT, tF, tF, tF, tF, tF] rfl rfl (take_ofW HT_.out HW_.out (by kernel_rfl)) (fun _ _ _ h => h) (Or.inl ⟨by rfl, ?_⟩) hHeld ?_ ?_
            rotate_left
            ·intro w' _
             go_simp
             with_reducible rfl
            rotate_left
            ·simp only [Act.put, sA, sB, sC, i64_w, i32_w]
             rfl
            refine pure_ (i := 7) (N := some 55) (v := ?_) (a' := ?_) #[tT, tT, tT, tT, tT, tT, tT, tT, tF, tF, tF, tF] rfl rfl (any_of HT_.out (by kernel_rfl)) (fun _ _ _ h => h) (Or.inl ⟨by rfl, ?_⟩) ?_ ?_
            rotate_left
            ·intro w'
             go_simp
             with_reducible rfl
            rotate_left
            ·simp only [Act.put, sA, sB, sC, i64_w, i32_w]
             rfl
            refine pure_ (i := 8) (N := some 56) (v := ?_) (a' := ?_) #[tT, tT, tT, tT, tT, tT, tT, tT, tT, tF, tF, tF] rfl rfl (any_of HT_.out (by kernel_rfl)) (fun _ _ _ h => h) (Or.inl ⟨by rfl, ?_⟩) ?_ ?_
            rotate_left
            ·intro w'
             go_simp
             with_reducible rfl
            rotate_left
            ·simp only [Act.put, sA, sB, sC, i64_w, i32_w]
             rfl
            refine pure_ (i := 9) (N := some 57) (v := ?_) (a' := ?_) #[tT, tT, tT, tT, tT, tT, tT, tT, tT, tT, tF, tF] rfl rfl (any_of HT_.out (by kernel_rfl)) (fun _ _ _ h => h) (Or.inl ⟨by rfl, ?_⟩) ?_ ?_
            rotate_left
            ·intro w'
             go_simp
             with_reducible rfl
            rotate_left
            ·simp only [Act.put, sA, sB, sC, i64_w, i32_w]
             rfl
            refine one_ (i := 10) (N := some 9) #[tT, tT, tT, tT, tT, tT, tT, tT, tT, tT, tT, tF] rfl rfl (one_of HT_.out (by kernel_rfl)) (by decide) (fun K hK => ?_)
            refine box_step ?hg (N := 9) ?hd (cs := #[.int .i64 0, .bool false, .int .i64 0, .int .i64 0]) (t := 72) ?hr ?_; (case hd => rfl); (case hg => rfl); (case hr => first | (go_simp; done) | (go_simp; rfl))
            intro gb313 hg w32 hbox hb
            have n0_ := Aside0.mk (kB (g := gb310) (o := .cells #[.int .i64 x311000_1, .bool x311001_1, .int .i64 x311002_1, .int .i64 x311003_1] 72 (0, 0)) (by (with_reducible repeat (first | apply kN | apply kD | apply kA)); exact BK310.out) hb)
            have n1_ := Aside0.mk (bT (by repeat (first | (with_reducible first | exact HB.out | apply bA | apply bN | apply bD | refine bS ?_ GE310.out) | exact HB.out)) hb)
            have n2_ := Aside0.mk (hbox)
            have n3_ := Aside0.mk ((by rw [hg]; exact (below_size (by repeat (first | (with_reducible first | exact HB.out | apply bA | apply bN | apply bD | refine bS ?_ GE310.out) | exact HB.out))) : w.heap.size ≤ gb313))
            have n4_ := Aside0.mk ((by rw [hg]; exact (below_size (by repeat (first | (with_reducible first | exact HB.out | apply bA | apply bN | apply bD | refine bS ?_ GE310.out) | exact HB.out))) : w.heap.size ≤ gb313))
            have n5_ := Aside0.mk ((by rw [hg]; exact Nat.ne_of_lt (blk_lt (g := gb310) (o := .cells #[.int .i64 x311000_1, .bool x311001_1, .int .i64 x311002_1, .int .i64 x311003_1] 72 (0, 0)) (by (with_reducible repeat (first | apply kN | apply kD | apply kA)); exact BK310.out)) : gb310 ≠ gb313))
            have n6_ := Aside0.mk ((by rw [hg]; exact Nat.ne_of_gt (blk_lt (g := gb310) (o := .cells #[.int .i64 x311000_1, .bool x311001_1, .int .i64 x311002_1, .int .i64 x311003_1] 72 (0, 0)) (by (with_reducible repeat (first | apply kN | apply kD | apply kA)); exact BK310.out)) : gb313 ≠ gb310))
            clear BK310
            clear HB
            have BK310 := n0_
            have HB := n1_
            have BK313 := n2_
            have GW313 := n3_
            have GE313 := n4_
            have NB310_313 := n5_
            have NB313_310 := n6_
            clear n0_ n1_ n2_ n3_ n4_ n5_ n6_
            clear hb hbox hg
            refine hK.out _ _ trivial (fun hHeld => ?_)
            clear hK K
            refine norm_ (a' := ?_) ?_ ?_
            rotate_left
            ·show Act.put _ (some 9) _ = _
             simp only [Act.put, sA, sB, sC, i64_w, i32_w]
             rfl
            refine one_ (i := 11) (N := none) #[tT, tT, tT, tT, tT, tT, tT, tT, tT, tT, tT, tT] rfl rfl (one_of HT_.out (by kernel_rfl)) (by decide) (fun K hK => ?_)
            have hs33 : w32.cell? ⟨gb313, 0, none⟩ = some (.int .i64 0) := (kC BK313.out 0).trans rfl
            have hfs33 := kF BK313.out 0
            have hns33_0 := NB310_313.out
            have hms33_0 := NB313_310.out
            have hs34 : w32.cell? ⟨gb313, 1, none⟩ = some (.bool false) := (kC BK313.out 1).trans rfl
            have hfs34 := kF BK313.out 1
            have hns34_0 := NB310_313.out
            have hms34_0 := NB313_310.out
            have hs35 : w32.cell? ⟨gb313, 2, none⟩ = some (.int .i64 0) := (kC BK313.out 2).trans rfl
            have hfs35 := kF BK313.out 2
            have hns35_0 := NB310_313.out
            have hms35_0 := NB313_310.out
            have hs36 : w32.cell? ⟨gb313, 3, none⟩ = some (.int .i64 0) := (kC BK313.out 3).trans rfl
            have hfs36 := kF BK313.out 3
            have hns36_0 := NB310_313.out
            have hms36_0 := NB313_310.out
            refine skip_ (w1 := ?_) (by rfl) rfl ?_ ?_
            rotate_left
            ·go_simp
             rfl
            refine hK.out _ _ trivial (fun hHeld => ?_)
            clear hK K
            refine done_ (done_of HT_.out (by kernel_rfl)) ?_
            have hnb37 := NB313_310.out
            have hnc37 := NB310_313.out
            have n0_ : Aside0 (((((w32.setCell ⟨gb313, 0, none⟩ (.int .i64 x6_1)).setCell ⟨gb313, 1, none⟩ (.bool ((Int.tmod (bt a0 1) 2) == 1))).setCell ⟨gb313, 2, none⟩ (.int .i64 0)).setCell ⟨gb313, 3, none⟩ (.int .i64 (wrap64 (Int.tdiv (wrap64 (bt a0 1)) 2)))).heap[gb313]? = some (.cells #[.int .i64 x6_1, .bool ((Int.tmod (bt a0 1) 2) == 1), .int .i64 0, .int .i64 (wrap64 (Int.tdiv (wrap64 (bt a0 1)) 2))] 72 (0, 0))) := ⟨by (with_reducible repeat (first | apply kN | apply kD | apply kA)); refine kP (cs := #[.int .i64 x6_1, .bool ((Int.tmod (bt a0 1) 2) == 1), .int .i64 0, .int .i64 0]) ?_ 3 _ rfl; refine kP (cs := #[.int .i64 x6_1, .bool ((Int.tmod (bt a0 1) 2) == 1), .int .i64 0, .int .i64 0]) ?_ 2 _ rfl; refine kP (cs := #[.int .i64 x6_1, .bool false, .int .i64 0, .int .i64 0]) ?_ 1 _ rfl; refine kP (cs := #[.int .i64 0, .bool false, .int .i64 0, .int .i64 0]) ?_ 0 _ rfl; (with_reducible repeat (first | apply kN | apply kD | apply kA)); exact BK313.out⟩
            have n1_ : Aside0 (((((w32.setCell ⟨gb313, 0, none⟩ (.int .i64 x6_1)).setCell ⟨gb313, 1, none⟩ (.bool ((Int.tmod (bt a0 1) 2) == 1))).setCell ⟨gb313, 2, none⟩ (.int .i64 0)).setCell ⟨gb313, 3, none⟩ (.int .i64 (wrap64 (Int.tdiv (wrap64 (bt a0 1)) 2)))).heap[gb310]? = some (.cells #[.int .i64 x311000_1, .bool x311001_1, .int .i64 x311002_1, .int .i64 x311003_1] 72 (0, 0))) := ⟨by (with_reducible repeat (first | apply kN | apply kD | apply kA)); refine kR ?_ NB310_313.out _; (with_reducible repeat (first | apply kN | apply kD | apply kA)); refine kR ?_ NB310_313.out _; (with_reducible repeat (first | apply kN | apply kD | apply kA)); refine kR ?_ NB310_313.out _; (with_reducible repeat (first | apply kN | apply kD | apply kA)); refine kR ?_ NB310_313.out _; (with_reducible repeat (first | apply kN | apply kD | apply kA)); exact BK310.out⟩
            have n2_ : Aside0 (Below w.heap.size w ((((w32.setCell ⟨gb313, 0, none⟩ (.int .i64 x6_1)).setCell ⟨gb313, 1, none⟩ (.bool ((Int.tmod (bt a0 1) 2) == 1))).setCell ⟨gb313, 2, none⟩ (.int .i64 0)).setCell ⟨gb313, 3, none⟩ (.int .i64 (wrap64 (Int.tdiv (wrap64 (bt a0 1)) 2))))) := ⟨by repeat (first | (with_reducible first | exact HB.out | apply bA | apply bN | apply bD | refine bS ?_ GE313.out | refine bS ?_ GE310.out) | exact HB.out)⟩
            (try clear BK313)
            (try clear BK310)
            (try clear HB)
            generalize ((((w32.setCell ⟨gb313, 0, none⟩ (.int .i64 x6_1)).setCell ⟨gb313, 1, none⟩ (.bool ((Int.tmod (bt a0 1) 2) == 1))).setCell ⟨gb313, 2, none⟩ (.int .i64 0)).setCell ⟨gb313, 3, none⟩ (.int .i64 (wrap64 (Int.tdiv (wrap64 (bt a0 1)) 2)))) = w32s at n0_ n1_ n2_ ⊢
            have BK313 := n0_
            have BK310 := n1_
            have HB := n2_
            clear n0_ n1_ n2_
            have hugb313_0 : w32s.cell? ⟨gb313, 0, none⟩ = some (.int .i64 x6_1) := (kC BK313.out 0).trans rfl
            have hvgb313_0 := kF BK313.out 0
            have hugb313_1 : w32s.cell? ⟨gb313, 1, none⟩ = some (.bool ((Int.tmod (bt a0 1) 2) == 1)) := (kC BK313.out 1).trans rfl
            have hvgb313_1 := kF BK313.out 1
            have hugb313_2 : w32s.cell? ⟨gb313, 2, none⟩ = some (.int .i64 0) := (kC BK313.out 2).trans rfl
            have hvgb313_2 := kF BK313.out 2
            have hugb313_3 : w32s.cell? ⟨gb313, 3, none⟩ = some (.int .i64 (wrap64 (Int.tdiv (wrap64 (bt a0 1)) 2))) := (kC BK313.out 3).trans rfl
            have hvgb313_3 := kF BK313.out 3
            have hugb310_0 : w32s.cell? ⟨gb310, 0, none⟩ = some (.int .i64 x311000_1) := (kC BK310.out 0).trans rfl
            have hvgb310_0 := kF BK310.out 0
            have hugb310_1 : w32s.cell? ⟨gb310, 1, none⟩ = some (.bool x311001_1) := (kC BK310.out 1).trans rfl
            have hvgb310_1 := kF BK310.out 1
            have hugb310_2 : w32s.cell? ⟨gb310, 2, none⟩ = some (.int .i64 x311002_1) := (kC BK310.out 2).trans rfl
            have hvgb310_2 := kF BK310.out 2
            have hugb310_3 : w32s.cell? ⟨gb310, 3, none⟩ = some (.int .i64 x311003_1) := (kC BK310.out 3).trans rfl
            have hvgb310_3 := kF BK310.out 3
            try go_wp2
            refine bodyPost_ret (results_ctt rfl _ _ gb310 72 #[.int .i64 x6_1, .bool ((Int.tmod (bt a0 1) 2) == 1), .int .i64 0, .int .i64 (wrap64 (Int.tdiv (wrap64 (bt a0 1)) 2))] (0, 0) _ rfl (by (with_reducible repeat (first | apply kN | apply kD | apply kA)); refine kP (cs := #[.int .i64 x6_1, .bool ((Int.tmod (bt a0 1) 2) == 1), .int .i64 0, .int .i64 x311003_1]) ?_ 3 _ rfl; refine kP (cs := #[.int .i64 x6_1, .bool ((Int.tmod (bt a0 1) 2) == 1), .int .i64 x311002_1, .int .i64 x311003_1]) ?_ 2 _ rfl; refine kP (cs := #[.int .i64 x6_1, .bool x311001_1, .int .i64 x311002_1, .int .i64 x311003_1]) ?_ 1 _ rfl; refine kP (cs := #[.int .i64 x311000_1, .bool x311001_1, .int .i64 x311002_1, .int .i64 x311003_1]) ?_ 0 _ rfl; (with_reducible repeat (first | apply kN | apply kD | apply kA)); (repeat (first | (with_reducible refine kR ?_ NB310_313.out _) | (with_reducible refine kN ?_ _) | (with_reducible refine kD ?_) | (with_reducible refine kA ?_ _))); exact BK310.out) Tryd.underlying72 rfl (by kernel_rfl)) rfl ?_
            exact ⟨by first | rfl | (simp [*, errW_none, errW_some] <;> rfl), by repeat (first | (with_reducible first | exact HB.out | apply bA | apply bN | apply bD | refine bS ?_ GE310.out | refine bS ?_ GE313.out) | exact HB.out)⟩
          ·rw [if_neg c18] at H
           exact absurd H (by simp)
        ·replace c15 := Bool.eq_false_iff.mpr c15
         subst c15
         have H1 : (if t311 = true then (lapwingref05_Get.l0 kj10 a0 (wrap64 (bt a0 0)) (wrap64 (x6_1 + 1))) else (if (wrap64 (bt a0 0)) = t312 then (some (x6_1, ((wrap64 (bt a0 0)) == (wrap64 (t312 + 16))), 0, 0, 1, 0)) else (if (wrap64 (bt a0 0)) = (wrap64 (t312 + 16)) then (some (x6_1, ((wrap64 (bt a0 0)) == (wrap64 (t312 + 16))), 0, 0, 1, 0)) else (lapwingref05_Get.l0 kj10 a0 (wrap64 (bt a0 0)) (wrap64 (x6_1 + 1)))))) = some (r1, r2, r3, r4, r5, r6) := by rw [if_neg (show ¬ (false = true) by decide)] at H; exact H
         clear H
         have H := H1
         clear H1
         by_cases c40 : t311 = true
         ·subst c40
          have H1 : (lapwingref05_Get.l0 kj10 a0 (wrap64 (bt a0 0)) (wrap64 (x6_1 + 1))) = some (r1, r2, r3, r4, r5, r6) := by rw [if_pos rfl] at H; exact H
          clear H
          have H := H1
          clear H1
          have H' := Aside0.mk H
          clear H
          go_wp2
          go_roundg kj10
          case measure => have := HK1.out; have := HJ10.out; omega
          case rel => exact ⟨(wrap64 (x6_1 + 1)), (x311000_1), (x311001_1), (x311002_1), (x311003_1), (by first | rfl | (simp; done) | (simp [*]; done)), H', ⟨by have := HK1.out; have := HJ10.out; omega⟩, ⟨by (with_reducible repeat (first | apply kN | apply kD | apply kA)); exact BK310.out⟩, ⟨by repeat (first | (with_reducible first | exact HB.out | apply bA | apply bN | apply bD | refine bS ?_ GE310.out) | exact HB.out)⟩⟩
         ·replace c40 := Bool.eq_false_iff.mpr c40
          subst c40
          have H1 : (if (wrap64 (bt a0 0)) = t312 then (some (x6_1, ((wrap64 (bt a0 0)) == (wrap64 (t312 + 16))), 0, 0, 1, 0)) else (if (wrap64 (bt a0 0)) = (wrap64 (t312 + 16)) then (some (x6_1, ((wrap64 (bt a0 0)) == (wrap64 (t312 + 16))), 0, 0, 1, 0)) else (lapwingref05_Get.l0 kj10 a0 (wrap64 (bt a0 0)) (wrap64 (x6_1 + 1))))) = some (r1, r2, r3, r4, r5, r6) := by rw [if_neg (show ¬ (false = true) by decide)] at H; exact H
          clear H
          have H := H1
          clear H1
          by_cases c41 : (wrap64 (bt a0 0)) = t312
          ·rw [if_pos c41] at H
           have c41b0 : ((wrap64 (bt a0 0)) == t312) = true := beq_iff_eq.mpr c41
           have c41b1 : ((wrap64 (bt a0 0)) != t312) = false := bne_eq_false_iff_eq.mpr c41
           clear c41
           simp only [Option.some.injEq, Prod.mk.injEq] at H
           obtain ⟨rfl, rfl, rfl, rfl, rfl, rfl⟩ := H
           have hcz42_0 : wc.cell? ⟨gb310, 0, none⟩ = some (.int .i64 x311000_1) := (kC BK310.out 0).trans rfl
           have hcz42_1 : wc.cell? ⟨gb310, 1, none⟩ = some (.bool x311001_1) := (kC BK310.out 1).trans rfl
           have hcz42_2 : wc.cell? ⟨gb310, 2, none⟩ = some (.int .i64 x311002_1) := (kC BK310.out 2).trans rfl
           have hcz42_3 : wc.cell? ⟨gb310, 3, none⟩ = some (.int .i64 x311003_1) := (kC BK310.out 3).trans rfl
           have hfz42_0 := kF BK310.out 0
           have hfz42_1 := kF BK310.out 1
           have hfz42_2 := kF BK310.out 2
           have hfz42_3 := kF BK310.out 3
           go_wp2
           refine bodyPost_ret (results_ctt rfl _ _ gb310 72 #[.int .i64 x6_1, .bool ((wrap64 (bt a0 0)) == (wrap64 (t312 + 16))), .int .i64 0, .int .i64 0] (0, 0) _ rfl (by (with_reducible repeat (first | apply kN | apply kD | apply kA)); refine kP (cs := #[.int .i64 x6_1, .bool ((wrap64 (bt a0 0)) == (wrap64 (t312 + 16))), .int .i64 0, .int .i64 x311003_1]) ?_ 3 _ rfl; refine kP (cs := #[.int .i64 x6_1, .bool ((wrap64 (bt a0 0)) == (wrap64 (t312 + 16))), .int .i64 x311002_1, .int .i64 x311003_1]) ?_ 2 _ rfl; refine kP (cs := #[.int .i64 x6_1, .bool x311001_1, .int .i64 x311002_1, .int .i64 x311003_1]) ?_ 1 _ rfl; refine kP (cs := #[.int .i64 x311000_1, .bool x311001_1, .int .i64 x311002_1, .int .i64 x311003_1]) ?_ 0 _ rfl; (with_reducible repeat (first | apply kN | apply kD | apply kA)); exact BK310.out) Tryd.underlying72 rfl (by kernel_rfl)) rfl ?_
           exact ⟨by first | rfl | (simp [*, errW_none, errW_some] <;> rfl), by repeat (first | (with_reducible first | exact HB.out | apply bA | apply bN | apply bD | refine bS ?_ GE310.out) | exact HB.out)⟩
          ·rw [if_neg c41] at H
           have c41b0 : ((wrap64 (bt a0 0)) == t312) = false := beq_eq_false_iff_ne.mpr c41
           have c41b1 : ((wrap64 (bt a0 0)) != t312) = true := bne_iff_ne.mpr c41
           by_cases c43 : (wrap64 (bt a0 0)) = (wrap64 (t312 + 16))
           ·rw [if_pos c43] at H
            have c43b0 : ((wrap64 (bt a0 0)) == (wrap64 (t312 + 16))) = true := beq_iff_eq.mpr c43
            have c43b1 : ((wrap64 (bt a0 0)) != (wrap64 (t312 + 16))) = false := bne_eq_false_iff_eq.mpr c43
            clear c43
            simp only [Option.some.injEq, Prod.mk.injEq] at H
            obtain ⟨rfl, rfl, rfl, rfl, rfl, rfl⟩ := H
            have hcz44_0 : wc.cell? ⟨gb310, 0, none⟩ = some (.int .i64 x311000_1) := (kC BK310.out 0).trans rfl
            have hcz44_1 : wc.cell? ⟨gb310, 1, none⟩ = some (.bool x311001_1) := (kC BK310.out 1).trans rfl
            have hcz44_2 : wc.cell? ⟨gb310, 2, none⟩ = some (.int .i64 x311002_1) := (kC BK310.out 2).trans rfl
            have hcz44_3 : wc.cell? ⟨gb310, 3, none⟩ = some (.int .i64 x311003_1) := (kC BK310.out 3).trans rfl
            have hfz44_0 := kF BK310.out 0
            have hfz44_1 := kF BK310.out 1
            have hfz44_2 := kF BK310.out 2
            have hfz44_3 := kF BK310.out 3
            go_wp2
            try rw [c43b0]
            refine bodyPost_ret (results_ctt rfl _ _ gb310 72 #[.int .i64 x6_1, .bool true, .int .i64 0, .int .i64 0] (0, 0) _ rfl (by (with_reducible repeat (first | apply kN | apply kD | apply kA)); refine kP (cs := #[.int .i64 x6_1, .bool true, .int .i64 0, .int .i64 x311003_1]) ?_ 3 _ rfl; refine kP (cs := #[.int .i64 x6_1, .bool true, .int .i64 x311002_1, .int .i64 x311003_1]) ?_ 2 _ rfl; refine kP (cs := #[.int .i64 x6_1, .bool x311001_1, .int .i64 x311002_1, .int .i64 x311003_1]) ?_ 1 _ rfl; refine kP (cs := #[.int .i64 x311000_1, .bool x311001_1, .int .i64 x311002_1, .int .i64 x311003_1]) ?_ 0 _ rfl; (with_reducible repeat (first | apply kN | apply kD | apply kA)); exact BK310.out) Tryd.underlying72 rfl (by kernel_rfl)) rfl ?_
            exact ⟨by first | rfl | (simp [*, errW_none, errW_some] <;> rfl), by repeat (first | (with_reducible first | exact HB.out | apply bA | apply bN | apply bD | refine bS ?_ GE310.out) | exact HB.out)⟩
           ·rw [if_neg c43] at H
            have c43b0 : ((wrap64 (bt a0 0)) == (wrap64 (t312 + 16))) = false := beq_eq_false_iff_ne.mpr c43
            have c43b1 : ((wrap64 (bt a0 0)) != (wrap64 (t312 + 16))) = true := bne_iff_ne.mpr c43
            have H' := Aside0.mk H
            clear H
            go_wp2
            go_roundg kj10
            case measure => have := HK1.out; have := HJ10.out; omega
            case rel => exact ⟨(wrap64 (x6_1 + 1)), (x311000_1), (x311001_1), (x311002_1), (x311003_1), (by first | rfl | (simp; done) | (simp [*]; done)), H', ⟨by have := HK1.out; have := HJ10.out; omega⟩, ⟨by (with_reducible repeat (first | apply kN | apply kD | apply kA)); exact BK310.out⟩, ⟨by repeat (first | (with_reducible first | exact HB.out | apply bA | apply bN | apply bD | refine bS ?_ GE310.out) | exact HB.out)⟩⟩
     ·rw [if_neg c8] at H
      have c8b0 : decide (x6_1 < 10) = false := decide_eq_false c8
      clear c8
      simp only [Option.some.injEq, Prod.mk.injEq] at H
      obtain ⟨rfl, rfl, rfl, rfl, rfl, rfl⟩ := H
      have hcz45_0 : wr.cell? ⟨gb310, 0, none⟩ = some (.int .i64 x311000_1) := (kC BK310.out 0).trans rfl
      have hcz45_1 : wr.cell? ⟨gb310, 1, none⟩ = some (.bool x311001_1) := (kC BK310.out 1).trans rfl
      have hcz45_2 : wr.cell? ⟨gb310, 2, none⟩ = some (.int .i64 x311002_1) := (kC BK310.out 2).trans rfl
      have hcz45_3 : wr.cell? ⟨gb310, 3, none⟩ = some (.int .i64 x311003_1) := (kC BK310.out 3).trans rfl
      have hfz45_0 := kF BK310.out 0
      have hfz45_1 := kF BK310.out 1
      have hfz45_2 := kF BK310.out 2
      have hfz45_3 := kF BK310.out 3
      go_wp2
      refine bodyPost_ret (results_ctt rfl _ _ gb310 72 #[.int .i64 0, .bool false, .int .i64 0, .int .i64 0] (0, 0) _ rfl (by (with_reducible repeat (first | apply kN | apply kD | apply kA)); refine kP (cs := #[.int .i64 0, .bool false, .int .i64 0, .int .i64 x311003_1]) ?_ 3 _ rfl; refine kP (cs := #[.int .i64 0, .bool false, .int .i64 x311002_1, .int .i64 x311003_1]) ?_ 2 _ rfl; refine kP (cs := #[.int .i64 0, .bool x311001_1, .int .i64 x311002_1, .int .i64 x311003_1]) ?_ 1 _ rfl; refine kP (cs := #[.int .i64 x311000_1, .bool x311001_1, .int .i64 x311002_1, .int .i64 x311003_1]) ?_ 0 _ rfl; (with_reducible repeat (first | apply kN | apply kD | apply kA)); exact BK310.out) Tryd.underlying72 rfl (by kernel_rfl)) rfl ?_
      exact ⟨by first | rfl | (simp [*, errW_none, errW_some] <;> rfl), by repeat (first | (with_reducible first | exact HB.out | apply bA | apply bN | apply bD | refine bS ?_ GE310.out) | exact HB.out)⟩
  ·rw [if_neg c5] at H
   exact absurd H (by simp)

end Go.Proofs.YtdpgdnbknmncfaaDoor.Print
