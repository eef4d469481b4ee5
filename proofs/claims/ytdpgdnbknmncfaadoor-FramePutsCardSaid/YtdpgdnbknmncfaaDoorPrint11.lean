-- Written by a program of this session's, over the kit's printer turned by wip/tools/mkprint.py. Lean checks it.
import Derived.Test.YtdpgdnbknmncfaaDoorPrint0
namespace Go.Proofs.YtdpgdnbknmncfaaDoor.Print
open Go.RowKit Go.Proofs.YtdpgdnbknmncfaaDoorW.PrintWords Go.Proofs.YtdpgdnbknmncfaaDoorW.PrintLast Go.Proofs.YtdpgdnbknmncfaaDoorW.PrintMore
attribute [local go_sem] max2_int min2_int max_two min_two max_three min_three max_four min_four   -- for this text's walks alone
set_option linter.unusedVariables false
set_option linter.unusedSimpArgs false
attribute [local go_sem high] YtdpgdnbknmncfaaDoorX.unary_xor_u16 YtdpgdnbknmncfaaDoorX.unary_xor_u8

/-! ### lapwingref04_Put: function 34 -/
def lapwingref04_Put.j0 : Nat → Bool → Int → Int → Bool → Option (ByteArray × Int)
 | 0, _, _, _, _ => none
 | k + 1, x22, x218000, x218001, x218002 => if x22 = true then (some ((⟨#[]⟩ : ByteArray), 2)) else (if x218002 = true then (some (strOfNums (([(wrap64 ((wrap64 (4 * x218000)) + 2)) % 256, (wrap64 ((wrap64 (2 * x218001)) + 1)) % 256] : List Int)), 0)) else (some (strOfNums (([(wrap64 (4 * x218000)) % 256, (wrap64 ((wrap64 (2 * x218001)) + 1)) % 256] : List Int)), 0)))
def lapwingref04_Put.f (k : Nat) (a0_0 : Int) (a0_1 : Int) (a0_2 : Bool) : Option (ByteArray × Int) := if a0_0 < 0 then (lapwingref04_Put.j0 k true a0_0 a0_1 a0_2) else (if a0_0 > 63 then (lapwingref04_Put.j0 k true a0_0 a0_1 a0_2) else (if a0_1 < 0 then (lapwingref04_Put.j0 k true a0_0 a0_1 a0_2) else (lapwingref04_Put.j0 k (decide (a0_1 > 127)) a0_0 a0_1 a0_2)))
theorem lapwingref04_Put.mono_l : ∀ k, (∀ y0 y1 y2 y3, LeO (lapwingref04_Put.j0 k y0 y1 y2 y3) (lapwingref04_Put.j0 (k + 1) y0 y1 y2 y3))
 | 0 => fun _ _ _ _ r h => by simp [lapwingref04_Put.j0] at h
 | k + 1 => by
  have ih0 := lapwingref04_Put.mono_l k
  ·intro y0 y1 y2 y3
   unfold lapwingref04_Put.j0
   repeat' first
   | (with_reducible exact ih0 _ _ _ _)
   | (with_reducible exact LeO.refl _)
   | (with_reducible exact LeO.none _)
   | (with_reducible refine LeO.ite ?_ ?_)
   | (with_reducible refine LeO.bind ?_ (fun _ => ?_))
   | exact ih0 _ _ _ _
   | exact LeO.none _
   | refine LeO.ite ?_ ?_
   | refine LeO.bind ?_ (fun _ => ?_)
theorem lapwingref04_Put.mono : ∀ a0 a1 a2 k, LeO (lapwingref04_Put.f k a0 a1 a2) (lapwingref04_Put.f (k + 1) a0 a1 a2) := by
 intro a0 a1 a2 k
 have ih0 := lapwingref04_Put.mono_l k
 unfold lapwingref04_Put.f
 repeat' first
   | (with_reducible exact ih0 _ _ _ _)
   | (with_reducible exact LeO.refl _)
   | (with_reducible exact LeO.none _)
   | (with_reducible refine LeO.ite ?_ ?_)
   | (with_reducible refine LeO.bind ?_ (fun _ => ?_))
   | exact ih0 _ _ _ _
   | exact LeO.none _
   | refine LeO.ite ?_ ?_
   | refine LeO.bind ?_ (fun _ => ?_)
set_option maxHeartbeats 8000000 in
set_option maxRecDepth 100000 in
theorem lapwingref04_Put.calls (k : Nat) (a0_0 : Int) (a0_1 : Int) (a0_2 : Bool) (r1 : ByteArray) (r2 : Int) (w : World) (h : lapwingref04_Put.f k a0_0 a0_1 a0_2 = some (r1, r2)) :
  Calls Tryd.prog 34 #[.agg #[.int .i64 a0_0, .int .i64 a0_1, .bool a0_2]] w fun e w' => e = .returned (.tuple #[.string r1, .int .i64 r2]) ∧ Below w.heap.size w w' := by
 have hu74 := Tryd.underlying74
 have HB := Aside0.mk (Below.refl w.heap.size w)
 have H : (if a0_0 < 0 then (lapwingref04_Put.j0 k true a0_0 a0_1 a0_2) else (if a0_0 > 63 then (lapwingref04_Put.j0 k true a0_0 a0_1 a0_2) else (if a0_1 < 0 then (lapwingref04_Put.j0 k true a0_0 a0_1 a0_2) else (lapwingref04_Put.j0 k (decide (a0_1 > 127)) a0_0 a0_1 a0_2)))) = some (r1, r2) := h
 clear h
 have HC2 := Aside0.mk H
 clear H
 go_enter Tryd.func34, Tryd.ntmps34
 go_upto_region 1 with (first | ((with_reducible refine gate_dst (N := 1) rfl ?_); refine box_event ?hg (N := 1) ?hd (cs := #[.int .i64 a0_0, .int .i64 a0_1, .bool a0_2]) (t := 74) ?hr ?_; (case hd => rfl); (case hg => rfl); (case hr => first | (go_simp; done) | (go_simp; rfl)); intro gb217 hg w3 hbox hb; have n0_ := Aside0.mk (below_step (by repeat (first | (with_reducible first | exact HB.out | apply below_alloc | apply pw_below_drewN | apply below_drew1) | exact HB.out)) hb); have n1_ := Aside0.mk (hbox); have n2_ := Aside0.mk ((by rw [hg]; exact (below_size (by repeat (first | (with_reducible first | exact HB.out | apply below_alloc | apply pw_below_drewN | apply below_drew1) | exact HB.out))) : w.heap.size ≤ gb217)); have n3_ := n2_; clear HB; have HB := n0_; have BK217 := n1_; have GW217 := n2_; have GE217 := n3_; clear n0_ n1_ n2_ n3_; clear hb hbox hg))
 (try simp only [Act.put, List.setIfInBounds_toArray, List.set_cons_zero, List.set_cons_succ])
 go_cut [22] (fun v22 wc => ∃ (kq : Nat) (x22_1 : Bool), v22 = .bool x22_1 ∧ Aside0 (lapwingref04_Put.j0 kq x22_1 a0_0 a0_1 a0_2 = some (r1, r2)) ∧ Aside0 (kq ≤ k) ∧ Aside0 (wc.heap[gb217]? = some (.cells #[.int .i64 a0_0, .int .i64 a0_1, .bool a0_2] 74 (0, 0))) ∧ Aside0 (Below w.heap.size w wc))
 case first =>
  have H := HC2.out
  clear HC2
  by_cases c4 : a0_0 < 0
  ·rw [if_pos c4] at H
   have c4b0 : decide (a0_0 < 0) = true := decide_eq_true c4
   clear c4
   (first | rw [c4b0] | (simp only [i64_w, i32_w]; rw [c4b0]) | skip)
   have H' := Aside0.mk H
   clear H
   have hcz5_0 : w3.cell? ⟨gb217, 0, none⟩ = some (.int .i64 a0_0) := (blk_cell BK217.out 0).trans rfl
   have hcz5_1 : w3.cell? ⟨gb217, 1, none⟩ = some (.int .i64 a0_1) := (blk_cell BK217.out 1).trans rfl
   have hcz5_2 : w3.cell? ⟨gb217, 2, none⟩ = some (.bool a0_2) := (blk_cell BK217.out 2).trans rfl
   have hfz5_0 := blk_frozen BK217.out 0
   have hfz5_1 := blk_frozen BK217.out 1
   have hfz5_2 := blk_frozen BK217.out 2
   go_wp2
   go_meet
   case rel => exact ⟨_, (true), (by first | rfl | (simp; done) | (simp [*]; done)), H', ⟨by first | omega | exact Nat.le_refl _⟩, ⟨by (with_reducible repeat (first | apply blk_drewN | apply blk_drew | apply blk_alloc)); exact BK217.out⟩, ⟨by repeat (first | (with_reducible first | exact HB.out | apply below_alloc | apply pw_below_drewN | apply below_drew1 | refine below_set ?_ GE217.out) | exact HB.out)⟩⟩
  ·rw [if_neg c4] at H
   have c4b0 : decide (a0_0 < 0) = false := decide_eq_false c4
   clear c4
   (first | rw [c4b0] | (simp only [i64_w, i32_w]; rw [c4b0]) | skip)
   by_cases c6 : a0_0 > 63
   ·rw [if_pos c6] at H
    have c6b0 : decide (63 < a0_0) = true := decide_eq_true c6
    clear c6
    have H' := Aside0.mk H
    clear H
    have hcz7_0 : w3.cell? ⟨gb217, 0, none⟩ = some (.int .i64 a0_0) := (blk_cell BK217.out 0).trans rfl
    have hcz7_1 : w3.cell? ⟨gb217, 1, none⟩ = some (.int .i64 a0_1) := (blk_cell BK217.out 1).trans rfl
    have hcz7_2 : w3.cell? ⟨gb217, 2, none⟩ = some (.bool a0_2) := (blk_cell BK217.out 2).trans rfl
    have hfz7_0 := blk_frozen BK217.out 0
    have hfz7_1 := blk_frozen BK217.out 1
    have hfz7_2 := blk_frozen BK217.out 2
    go_wp2
    go_meet
    case rel => exact ⟨_, (true), (by first | rfl | (simp; done) | (simp [*]; done)), H', ⟨by first | omega | exact Nat.le_refl _⟩, ⟨by (with_reducible repeat (first | apply blk_drewN | apply blk_drew | apply blk_alloc)); exact BK217.out⟩, ⟨by repeat (first | (with_reducible first | exact HB.out | apply below_alloc | apply pw_below_drewN | apply below_drew1 | refine below_set ?_ GE217.out) | exact HB.out)⟩⟩
   ·rw [if_neg c6] at H
    have c6b0 : decide (63 < a0_0) = false := decide_eq_false c6
    clear c6
    by_cases c8 : a0_1 < 0
    ·rw [if_pos c8] at H
     have c8b0 : decide (a0_1 < 0) = true := decide_eq_true c8
     clear c8
     have H' := Aside0.mk H
     clear H
     have hcz9_0 : w3.cell? ⟨gb217, 0, none⟩ = some (.int .i64 a0_0) := (blk_cell BK217.out 0).trans rfl
     have hcz9_1 : w3.cell? ⟨gb217, 1, none⟩ = some (.int .i64 a0_1) := (blk_cell BK217.out 1).trans rfl
     have hcz9_2 : w3.cell? ⟨gb217, 2, none⟩ = some (.bool a0_2) := (blk_cell BK217.out 2).trans rfl
     have hfz9_0 := blk_frozen BK217.out 0
     have hfz9_1 := blk_frozen BK217.out 1
     have hfz9_2 := blk_frozen BK217.out 2
     go_wp2
     go_meet
     case rel => exact ⟨_, (true), (by first | rfl | (simp; done) | (simp [*]; done)), H', ⟨by first | omega | exact Nat.le_refl _⟩, ⟨by (with_reducible repeat (first | apply blk_drewN | apply blk_drew | apply blk_alloc)); exact BK217.out⟩, ⟨by repeat (first | (with_reducible first | exact HB.out | apply below_alloc | apply pw_below_drewN | apply below_drew1 | refine below_set ?_ GE217.out) | exact HB.out)⟩⟩
    ·rw [if_neg c8] at H
     have c8b0 : decide (a0_1 < 0) = false := decide_eq_false c8
     clear c8
     have H' := Aside0.mk H
     clear H
     have hcz10_0 : w3.cell? ⟨gb217, 0, none⟩ = some (.int .i64 a0_0) := (blk_cell BK217.out 0).trans rfl
     have hcz10_1 : w3.cell? ⟨gb217, 1, none⟩ = some (.int .i64 a0_1) := (blk_cell BK217.out 1).trans rfl
     have hcz10_2 : w3.cell? ⟨gb217, 2, none⟩ = some (.bool a0_2) := (blk_cell BK217.out 2).trans rfl
     have hfz10_0 := blk_frozen BK217.out 0
     have hfz10_1 := blk_frozen BK217.out 1
     have hfz10_2 := blk_frozen BK217.out 2
     go_wp2
     go_meet
     case rel => exact ⟨_, (decide (a0_1 > 127)), (by first | rfl | (simp; done) | (simp [*]; done)), H', ⟨by first | omega | exact Nat.le_refl _⟩, ⟨by (with_reducible repeat (first | apply blk_drewN | apply blk_drew | apply blk_alloc)); exact BK217.out⟩, ⟨by repeat (first | (with_reducible first | exact HB.out | apply below_alloc | apply pw_below_drewN | apply below_drew1 | refine below_set ?_ GE217.out) | exact HB.out)⟩⟩
 case rest =>
  clear HC2
  try clear p2
  try clear c3
  try clear c4
  try clear c4b0
  try clear c6
  try clear c6b0
  try clear c8
  try clear c8b0
  try clear hcz10_0
  try clear hcz10_1
  try clear hcz10_2
  try clear hcz5_0
  try clear hcz5_1
  try clear hcz5_2
  try clear hcz7_0
  try clear hcz7_1
  try clear hcz7_2
  try clear hcz9_0
  try clear hcz9_1
  try clear hcz9_2
  try clear hfz10_0
  try clear hfz10_1
  try clear hfz10_2
  try clear hfz5_0
  try clear hfz5_1
  try clear hfz5_2
  try clear hfz7_0
  try clear hfz7_1
  try clear hfz7_2
  try clear hfz9_0
  try clear hfz9_1
  try clear hfz9_2
  obtain ⟨kq, x22_1, rfl, HA, HJ1, BK217, HB⟩ := hcut
  cases kq with
  | zero => exact absurd HA.out (by simp [lapwingref04_Put.j0])
  | succ kj1 =>
   have H := HA.out
   clear HA
   simp only [lapwingref04_Put.j0] at H
   by_cases c11 : x22_1 = true
   ·subst c11
    have H1 : (some ((⟨#[]⟩ : ByteArray), 2)) = some (r1, r2) := by rw [if_pos rfl] at H; exact H
    clear H
    have H := H1
    clear H1
    simp only [Option.some.injEq, Prod.mk.injEq] at H
    obtain ⟨rfl, rfl⟩ := H
    go_wp2
    go_ret2
    exact ⟨by first | rfl | (simp [errW_none, errW_some] <;> rfl) | (simp [*, errW_none, errW_some] <;> rfl), by repeat (first | (with_reducible first | exact HB.out | apply below_alloc | apply pw_below_drewN | apply below_drew1 | refine below_set ?_ GE217.out) | exact HB.out)⟩
   ·replace c11 := Bool.eq_false_iff.mpr c11
    subst c11
    have H1 : (if a0_2 = true then (some (strOfNums (([(wrap64 ((wrap64 (4 * a0_0)) + 2)) % 256, (wrap64 ((wrap64 (2 * a0_1)) + 1)) % 256] : List Int)), 0)) else (some (strOfNums (([(wrap64 (4 * a0_0)) % 256, (wrap64 ((wrap64 (2 * a0_1)) + 1)) % 256] : List Int)), 0))) = some (r1, r2) := by rw [if_neg (show ¬ (false = true) by decide)] at H; exact H
    clear H
    have H := H1
    clear H1
    by_cases c12 : a0_2 = true
    ·subst c12
     have H1 : (some (strOfNums (([(wrap64 ((wrap64 (4 * a0_0)) + 2)) % 256, (wrap64 ((wrap64 (2 * a0_1)) + 1)) % 256] : List Int)), 0)) = some (r1, r2) := by rw [if_pos rfl] at H; exact H
     clear H
     have H := H1
     clear H1
     obtain ⟨y218, hy218⟩ : ∃ y_ : List Int, y_ = (([(wrap64 ((wrap64 (4 * a0_0)) + 2)) % 256, (wrap64 ((wrap64 (2 * a0_1)) + 1)) % 256] : List Int)) := ⟨_, rfl⟩
     replace H : (some (strOfNums y218, 0)) = some (r1, r2) := by first | (rw [hy218]; with_reducible exact H) | (have H2_ := (Option.bind_some _ _).symm.trans H; rw [hy218]; with_reducible exact H2_) | (have H2_ := (Option.bind_some _ _).symm.trans H; with_reducible exact H2_) | with_reducible exact H | (rw [hy218]; exact H) | exact H
     have Ny218 := Aside0.mk hy218
     clear hy218
     simp only [Option.some.injEq, Prod.mk.injEq] at H
     obtain ⟨rfl, rfl⟩ := H
     have hcz13_0 : wc.cell? ⟨gb217, 0, none⟩ = some (.int .i64 a0_0) := (blk_cell BK217.out 0).trans rfl
     have hcz13_1 : wc.cell? ⟨gb217, 1, none⟩ = some (.int .i64 a0_1) := (blk_cell BK217.out 1).trans rfl
     have hcz13_2 : wc.cell? ⟨gb217, 2, none⟩ = some (.bool true) := (blk_cell BK217.out 2).trans rfl
     have hfz13_0 := blk_frozen BK217.out 0
     have hfz13_1 := blk_frozen BK217.out 1
     have hfz13_2 := blk_frozen BK217.out 2
     go_wp2_with (first | ((with_reducible refine gate_dst (N := 37) rfl ?_); refine Kd.R_lit (Kd.int .u8) _ 5 ?hg (N := 37) ?hd (xs := ([(wrap64 ((wrap64 (4 * a0_0)) + 2)) % 256, (wrap64 ((wrap64 (2 * a0_1)) + 1)) % 256] : List Int)) (inner := [.int .u8 ((wrap64 ((wrap64 (4 * a0_0)) + 2)) % 256), .int .u8 ((wrap64 ((wrap64 (2 * a0_1)) + 1)) % 256)]) (ok := fun _ => True) (okp := fun _ => True) ?hr ?hp (fun _ hk => hk) trivial (Below.refl _ _) (Nat.le_refl _) (by simp) ?_; (case hd => rfl); (case hg => rfl); (case hr => first | (go_simp; done) | (go_simp; rfl)); (case hp => exact (Reps.one (show Kd.M (Kd.int .u8) _ _ _ ((wrap64 ((wrap64 (4 * a0_0)) + 2)) % 256) [.int .u8 ((wrap64 ((wrap64 (4 * a0_0)) + 2)) % 256)] from rfl) (Reps.one (show Kd.M (Kd.int .u8) _ _ _ ((wrap64 ((wrap64 (2 * a0_1)) + 1)) % 256) [.int .u8 ((wrap64 ((wrap64 (2 * a0_1)) + 1)) % 256)] from rfl) (Reps.none _ _)))); intro v219 w14 ho15 hb hg_ hnew_; clear hg_ hnew_; (first | rw [← Ny218.out] at ho15 | (simp only [Int.reduceToNat] at ho15; rw [← Ny218.out] at ho15)); have n0_ := Aside0.mk (Kd.R_lower ho15 (below_size (by repeat (first | (with_reducible first | exact HB.out | apply below_alloc | apply pw_below_drewN | apply below_drew1 | refine below_set ?_ GE217.out) | exact HB.out)))); have n1_ := Aside0.mk (blk_below (g := gb217) (o := .cells #[.int .i64 a0_0, .int .i64 a0_1, .bool true] 74 (0, 0)) (by (with_reducible repeat (first | refine blk_drewN ?_ _ | refine blk_drew ?_ | refine blk_alloc ?_ _)); exact BK217.out) hb); have n2_ := Aside0.mk (below_step (by repeat (first | (with_reducible first | exact HB.out | apply below_alloc | apply pw_below_drewN | apply below_drew1 | refine below_set ?_ GE217.out) | exact HB.out)) hb); clear BK217; clear HB; have HO220 := n0_; have BK217 := n1_; have HB := n2_; clear n0_ n1_ n2_; clear hb ho15; have hcv16 := own_string (P := Tryd.prog) Tryd.underlying52 Tryd.underlying5 Tryd.underlying9 (Kd.own_of_R HO220.out)))
     go_ret2
     exact ⟨by first | rfl | (simp [errW_none, errW_some] <;> rfl) | (simp [*, errW_none, errW_some] <;> rfl), by repeat (first | (with_reducible first | exact HB.out | apply below_alloc | apply pw_below_drewN | apply below_drew1 | refine below_set ?_ GE217.out) | exact HB.out)⟩
    ·replace c12 := Bool.eq_false_iff.mpr c12
     subst c12
     have H1 : (some (strOfNums (([(wrap64 (4 * a0_0)) % 256, (wrap64 ((wrap64 (2 * a0_1)) + 1)) % 256] : List Int)), 0)) = some (r1, r2) := by rw [if_neg (show ¬ (false = true) by decide)] at H; exact H
     clear H
     have H := H1
     clear H1
     obtain ⟨y221, hy221⟩ : ∃ y_ : List Int, y_ = (([(wrap64 (4 * a0_0)) % 256, (wrap64 ((wrap64 (2 * a0_1)) + 1)) % 256] : List Int)) := ⟨_, rfl⟩
     replace H : (some (strOfNums y221, 0)) = some (r1, r2) := by first | (rw [hy221]; with_reducible exact H) | (have H2_ := (Option.bind_some _ _).symm.trans H; rw [hy221]; with_reducible exact H2_) | (have H2_ := (Option.bind_some _ _).symm.trans H; with_reducible exact H2_) | with_reducible exact H | (rw [hy221]; exact H) | exact H
     have Ny221 := Aside0.mk hy221
     clear hy221
     simp only [Option.some.injEq, Prod.mk.injEq] at H
     obtain ⟨rfl, rfl⟩ := H
     have hcz17_0 : wc.cell? ⟨gb217, 0, none⟩ = some (.int .i64 a0_0) := (blk_cell BK217.out 0).trans rfl
     have hcz17_1 : wc.cell? ⟨gb217, 1, none⟩ = some (.int .i64 a0_1) := (blk_cell BK217.out 1).trans rfl
     have hcz17_2 : wc.cell? ⟨gb217, 2, none⟩ = some (.bool false) := (blk_cell BK217.out 2).trans rfl
     have hfz17_0 := blk_frozen BK217.out 0
     have hfz17_1 := blk_frozen BK217.out 1
     have hfz17_2 := blk_frozen BK217.out 2
     go_wp2_with (first | ((with_reducible refine gate_dst (N := 37) rfl ?_); refine Kd.R_lit (Kd.int .u8) _ 5 ?hg (N := 37) ?hd (xs := ([(wrap64 (4 * a0_0)) % 256, (wrap64 ((wrap64 (2 * a0_1)) + 1)) % 256] : List Int)) (inner := [.int .u8 ((wrap64 (4 * a0_0)) % 256), .int .u8 ((wrap64 ((wrap64 (2 * a0_1)) + 1)) % 256)]) (ok := fun _ => True) (okp := fun _ => True) ?hr ?hp (fun _ hk => hk) trivial (Below.refl _ _) (Nat.le_refl _) (by simp) ?_; (case hd => rfl); (case hg => rfl); (case hr => first | (go_simp; done) | (go_simp; rfl)); (case hp => exact (Reps.one (show Kd.M (Kd.int .u8) _ _ _ ((wrap64 (4 * a0_0)) % 256) [.int .u8 ((wrap64 (4 * a0_0)) % 256)] from rfl) (Reps.one (show Kd.M (Kd.int .u8) _ _ _ ((wrap64 ((wrap64 (2 * a0_1)) + 1)) % 256) [.int .u8 ((wrap64 ((wrap64 (2 * a0_1)) + 1)) % 256)] from rfl) (Reps.none _ _)))); intro v222 w18 ho19 hb hg_ hnew_; clear hg_ hnew_; (first | rw [← Ny221.out] at ho19 | (simp only [Int.reduceToNat] at ho19; rw [← Ny221.out] at ho19)); have n0_ := Aside0.mk (Kd.R_lower ho19 (below_size (by repeat (first | (with_reducible first | exact HB.out | apply below_alloc | apply pw_below_drewN | apply below_drew1 | refine below_set ?_ GE217.out) | exact HB.out)))); have n1_ := Aside0.mk (blk_below (g := gb217) (o := .cells #[.int .i64 a0_0, .int .i64 a0_1, .bool false] 74 (0, 0)) (by (with_reducible repeat (first | refine blk_drewN ?_ _ | refine blk_drew ?_ | refine blk_alloc ?_ _)); exact BK217.out) hb); have n2_ := Aside0.mk (below_step (by repeat (first | (with_reducible first | exact HB.out | apply below_alloc | apply pw_below_drewN | apply below_drew1 | refine below_set ?_ GE217.out) | exact HB.out)) hb); clear BK217; clear HB; have HO223 := n0_; have BK217 := n1_; have HB := n2_; clear n0_ n1_ n2_; clear hb ho19; have hcv20 := own_string (P := Tryd.prog) Tryd.underlying52 Tryd.underlying5 Tryd.underlying9 (Kd.own_of_R HO223.out)))
     go_ret2
     exact ⟨by first | rfl | (simp [errW_none, errW_some] <;> rfl) | (simp [*, errW_none, errW_some] <;> rfl), by repeat (first | (with_reducible first | exact HB.out | apply below_alloc | apply pw_below_drewN | apply below_drew1 | refine below_set ?_ GE217.out) | exact HB.out)⟩

end Go.Proofs.YtdpgdnbknmncfaaDoor.Print
