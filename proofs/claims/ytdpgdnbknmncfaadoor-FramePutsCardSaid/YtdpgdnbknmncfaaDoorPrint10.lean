-- Written by a program of this session's, over the kit's printer turned by wip/tools/mkprint.py. Lean checks it.
import Derived.Test.YtdpgdnbknmncfaaDoorPrint0
import Derived.Test.YtdpgdnbknmncfaaDoorPrint9
namespace Go.Proofs.YtdpgdnbknmncfaaDoor.Print
open Go.RowKit Go.Proofs.YtdpgdnbknmncfaaDoorW.PrintWords Go.Proofs.YtdpgdnbknmncfaaDoorW.PrintLast Go.Proofs.YtdpgdnbknmncfaaDoorW.PrintMore
attribute [local go_sem] max2_int min2_int max_two min_two max_three min_three max_four min_four   -- for this text's walks alone
set_option linter.unusedVariables false
set_option linter.unusedSimpArgs false
attribute [local go_sem high] YtdpgdnbknmncfaaDoorX.unary_xor_u16 YtdpgdnbknmncfaaDoorX.unary_xor_u8

/-! ### lapwingref05_Put: function 32 -/
mutual
def lapwingref05_Put.j0 : Nat → Bool → Int → Bool → Int → Int → Option (ByteArray × Int)
 | 0, _, _, _, _, _ => none
 | k + 1, x14, x196000, x196001, x196002, x196003 => if x14 = true then (some ((⟨#[]⟩ : ByteArray), 4)) else ((lapwingref05_octet.f x196000).bind fun t196 => ((lapwingref05_Numbered.f x196000).bind fun t197 => (if t197 = true then (if x196003 < 0 then (lapwingref05_Put.j1 k t196 true x196000 x196001 x196002 x196003) else (lapwingref05_Put.j1 k t196 (decide (x196003 > 127)) x196000 x196001 x196002 x196003)) else (if x196001 = true then (some (strOfNums (([(wrap64 (t196 + 16)) % 256] : List Int)), 0)) else (some (strOfNums (([(t196) % 256] : List Int)), 0))))))
def lapwingref05_Put.j1 : Nat → Int → Bool → Int → Bool → Int → Int → Option (ByteArray × Int)
 | 0, _, _, _, _, _, _ => none
 | k + 1, x4, x38, x196000, x196001, x196002, x196003 => if x38 = true then (some ((⟨#[]⟩ : ByteArray), 2)) else (if x196000 = 0 then (if x196002 < 0 then (lapwingref05_Put.j2 k true x196000 x196001 x196002 x196003) else (lapwingref05_Put.j2 k (decide (x196002 > 127)) x196000 x196001 x196002 x196003)) else (if x196001 = true then (some (strOfNums (([(x4) % 256, (wrap64 ((wrap64 (2 * x196003)) + 1)) % 256] : List Int)), 0)) else (some (strOfNums (([(x4) % 256, (wrap64 (2 * x196003)) % 256] : List Int)), 0))))
def lapwingref05_Put.j2 : Nat → Bool → Int → Bool → Int → Int → Option (ByteArray × Int)
 | 0, _, _, _, _, _ => none
 | k + 1, x49, x196000, x196001, x196002, x196003 => if x49 = true then (some ((⟨#[]⟩ : ByteArray), 2)) else (if x196001 = true then (some (strOfNums (([(wrap64 (2 * x196002)) % 256, (wrap64 ((wrap64 (2 * x196003)) + 1)) % 256] : List Int)), 0)) else (some (strOfNums (([(wrap64 (2 * x196002)) % 256, (wrap64 (2 * x196003)) % 256] : List Int)), 0)))
end
def lapwingref05_Put.f (k : Nat) (a0_0 : Int) (a0_1 : Bool) (a0_2 : Int) (a0_3 : Int) : Option (ByteArray × Int) := if a0_0 < 0 then (lapwingref05_Put.j0 k true a0_0 a0_1 a0_2 a0_3) else (lapwingref05_Put.j0 k (decide (a0_0 ≥ 10)) a0_0 a0_1 a0_2 a0_3)
theorem lapwingref05_Put.mono_l : ∀ k, (∀ y0 y1 y2 y3 y4, LeO (lapwingref05_Put.j0 k y0 y1 y2 y3 y4) (lapwingref05_Put.j0 (k + 1) y0 y1 y2 y3 y4)) ∧ (∀ y0 y1 y2 y3 y4 y5, LeO (lapwingref05_Put.j1 k y0 y1 y2 y3 y4 y5) (lapwingref05_Put.j1 (k + 1) y0 y1 y2 y3 y4 y5)) ∧ (∀ y0 y1 y2 y3 y4, LeO (lapwingref05_Put.j2 k y0 y1 y2 y3 y4) (lapwingref05_Put.j2 (k + 1) y0 y1 y2 y3 y4))
 | 0 => ⟨fun _ _ _ _ _ r h => by simp [lapwingref05_Put.j0] at h, fun _ _ _ _ _ _ r h => by simp [lapwingref05_Put.j1] at h, fun _ _ _ _ _ r h => by simp [lapwingref05_Put.j2] at h⟩
 | k + 1 => by
  obtain ⟨ih0, ih1, ih2⟩ := lapwingref05_Put.mono_l k
  refine ⟨?_, ?_, ?_⟩
  ·intro y0 y1 y2 y3 y4
   unfold lapwingref05_Put.j0
   repeat' first
   | (with_reducible exact ih0 _ _ _ _ _)
   | (with_reducible exact ih1 _ _ _ _ _ _)
   | (with_reducible exact ih2 _ _ _ _ _)
   | (with_reducible exact LeO.refl _)
   | (with_reducible exact LeO.none _)
   | (with_reducible refine LeO.ite ?_ ?_)
   | (with_reducible refine LeO.bind ?_ (fun _ => ?_))
   | exact ih0 _ _ _ _ _
   | exact ih1 _ _ _ _ _ _
   | exact ih2 _ _ _ _ _
   | exact LeO.none _
   | refine LeO.ite ?_ ?_
   | refine LeO.bind ?_ (fun _ => ?_)
  ·intro y0 y1 y2 y3 y4 y5
   unfold lapwingref05_Put.j1
   repeat' first
   | (with_reducible exact ih0 _ _ _ _ _)
   | (with_reducible exact ih1 _ _ _ _ _ _)
   | (with_reducible exact ih2 _ _ _ _ _)
   | (with_reducible exact LeO.refl _)
   | (with_reducible exact LeO.none _)
   | (with_reducible refine LeO.ite ?_ ?_)
   | (with_reducible refine LeO.bind ?_ (fun _ => ?_))
   | exact ih0 _ _ _ _ _
   | exact ih1 _ _ _ _ _ _
   | exact ih2 _ _ _ _ _
   | exact LeO.none _
   | refine LeO.ite ?_ ?_
   | refine LeO.bind ?_ (fun _ => ?_)
  ·intro y0 y1 y2 y3 y4
   unfold lapwingref05_Put.j2
   repeat' first
   | (with_reducible exact ih0 _ _ _ _ _)
   | (with_reducible exact ih1 _ _ _ _ _ _)
   | (with_reducible exact ih2 _ _ _ _ _)
   | (with_reducible exact LeO.refl _)
   | (with_reducible exact LeO.none _)
   | (with_reducible refine LeO.ite ?_ ?_)
   | (with_reducible refine LeO.bind ?_ (fun _ => ?_))
   | exact ih0 _ _ _ _ _
   | exact ih1 _ _ _ _ _ _
   | exact ih2 _ _ _ _ _
   | exact LeO.none _
   | refine LeO.ite ?_ ?_
   | refine LeO.bind ?_ (fun _ => ?_)
theorem lapwingref05_Put.mono : ∀ a0 a1 a2 a3 k, LeO (lapwingref05_Put.f k a0 a1 a2 a3) (lapwingref05_Put.f (k + 1) a0 a1 a2 a3) := by
 intro a0 a1 a2 a3 k
 obtain ⟨ih0, ih1, ih2⟩ := lapwingref05_Put.mono_l k
 unfold lapwingref05_Put.f
 repeat' first
   | (with_reducible exact ih0 _ _ _ _ _)
   | (with_reducible exact ih1 _ _ _ _ _ _)
   | (with_reducible exact ih2 _ _ _ _ _)
   | (with_reducible exact LeO.refl _)
   | (with_reducible exact LeO.none _)
   | (with_reducible refine LeO.ite ?_ ?_)
   | (with_reducible refine LeO.bind ?_ (fun _ => ?_))
   | exact ih0 _ _ _ _ _
   | exact ih1 _ _ _ _ _ _
   | exact ih2 _ _ _ _ _
   | exact LeO.none _
   | refine LeO.ite ?_ ?_
   | refine LeO.bind ?_ (fun _ => ?_)
set_option maxHeartbeats 8000000 in
set_option maxRecDepth 100000 in
theorem lapwingref05_Put.calls (k : Nat) (a0_0 : Int) (a0_1 : Bool) (a0_2 : Int) (a0_3 : Int) (r1 : ByteArray) (r2 : Int) (w : World) (h : lapwingref05_Put.f k a0_0 a0_1 a0_2 a0_3 = some (r1, r2)) :
  Calls Tryd.prog 32 #[.agg #[.int .i64 a0_0, .bool a0_1, .int .i64 a0_2, .int .i64 a0_3]] w fun e w' => e = .returned (.tuple #[.string r1, .int .i64 r2]) ∧ Below w.heap.size w w' := by
 have hu72 := Tryd.underlying72
 have HB := Aside0.mk (Below.refl w.heap.size w)
 have H : (if a0_0 < 0 then (lapwingref05_Put.j0 k true a0_0 a0_1 a0_2 a0_3) else (lapwingref05_Put.j0 k (decide (a0_0 ≥ 10)) a0_0 a0_1 a0_2 a0_3)) = some (r1, r2) := h
 clear h
 have HC2 := Aside0.mk H
 clear H
 go_enter Tryd.func32, Tryd.ntmps32
 go_upto_region 1 with (first | ((with_reducible refine gate_dst (N := 1) rfl ?_); refine box_event ?hg (N := 1) ?hd (cs := #[.int .i64 a0_0, .bool a0_1, .int .i64 a0_2, .int .i64 a0_3]) (t := 72) ?hr ?_; (case hd => rfl); (case hg => rfl); (case hr => first | (go_simp; done) | (go_simp; rfl)); intro gb195 hg w3 hbox hb; have n0_ := Aside0.mk (below_step (by repeat (first | (with_reducible first | exact HB.out | apply below_alloc | apply pw_below_drewN | apply below_drew1) | exact HB.out)) hb); have n1_ := Aside0.mk (hbox); have n2_ := Aside0.mk ((by rw [hg]; exact (below_size (by repeat (first | (with_reducible first | exact HB.out | apply below_alloc | apply pw_below_drewN | apply below_drew1) | exact HB.out))) : w.heap.size ≤ gb195)); have n3_ := n2_; clear HB; have HB := n0_; have BK195 := n1_; have GW195 := n2_; have GE195 := n3_; clear n0_ n1_ n2_ n3_; clear hb hbox hg))
 (try simp only [Act.put, List.setIfInBounds_toArray, List.set_cons_zero, List.set_cons_succ])
 go_cut [14] (fun v14 wc => ∃ (kq : Nat) (x14_1 : Bool), v14 = .bool x14_1 ∧ Aside0 (lapwingref05_Put.j0 kq x14_1 a0_0 a0_1 a0_2 a0_3 = some (r1, r2)) ∧ Aside0 (kq ≤ k) ∧ Aside0 (wc.heap[gb195]? = some (.cells #[.int .i64 a0_0, .bool a0_1, .int .i64 a0_2, .int .i64 a0_3] 72 (0, 0))) ∧ Aside0 (Below w.heap.size w wc))
 case first =>
  have H := HC2.out
  clear HC2
  by_cases c4 : a0_0 < 0
  ·rw [if_pos c4] at H
   have c4b0 : decide (a0_0 < 0) = true := decide_eq_true c4
   clear c4
   (first | rw [c4b0] | (simp only [i64_w, i32_w]; rw [c4b0]) | skip)
   have H' := Aside0.mk H
   clear H
   have hcz5_0 : w3.cell? ⟨gb195, 0, none⟩ = some (.int .i64 a0_0) := (blk_cell BK195.out 0).trans rfl
   have hcz5_1 : w3.cell? ⟨gb195, 1, none⟩ = some (.bool a0_1) := (blk_cell BK195.out 1).trans rfl
   have hcz5_2 : w3.cell? ⟨gb195, 2, none⟩ = some (.int .i64 a0_2) := (blk_cell BK195.out 2).trans rfl
   have hcz5_3 : w3.cell? ⟨gb195, 3, none⟩ = some (.int .i64 a0_3) := (blk_cell BK195.out 3).trans rfl
   have hfz5_0 := blk_frozen BK195.out 0
   have hfz5_1 := blk_frozen BK195.out 1
   have hfz5_2 := blk_frozen BK195.out 2
   have hfz5_3 := blk_frozen BK195.out 3
   go_wp2
   go_meet
   case rel => exact ⟨_, (true), (by first | rfl | (simp; done) | (simp [*]; done)), H', ⟨by first | omega | exact Nat.le_refl _⟩, ⟨by (with_reducible repeat (first | apply blk_drewN | apply blk_drew | apply blk_alloc)); exact BK195.out⟩, ⟨by repeat (first | (with_reducible first | exact HB.out | apply below_alloc | apply pw_below_drewN | apply below_drew1 | refine below_set ?_ GE195.out) | exact HB.out)⟩⟩
  ·rw [if_neg c4] at H
   have c4b0 : decide (a0_0 < 0) = false := decide_eq_false c4
   clear c4
   (first | rw [c4b0] | (simp only [i64_w, i32_w]; rw [c4b0]) | skip)
   have H' := Aside0.mk H
   clear H
   have hcz6_0 : w3.cell? ⟨gb195, 0, none⟩ = some (.int .i64 a0_0) := (blk_cell BK195.out 0).trans rfl
   have hcz6_1 : w3.cell? ⟨gb195, 1, none⟩ = some (.bool a0_1) := (blk_cell BK195.out 1).trans rfl
   have hcz6_2 : w3.cell? ⟨gb195, 2, none⟩ = some (.int .i64 a0_2) := (blk_cell BK195.out 2).trans rfl
   have hcz6_3 : w3.cell? ⟨gb195, 3, none⟩ = some (.int .i64 a0_3) := (blk_cell BK195.out 3).trans rfl
   have hfz6_0 := blk_frozen BK195.out 0
   have hfz6_1 := blk_frozen BK195.out 1
   have hfz6_2 := blk_frozen BK195.out 2
   have hfz6_3 := blk_frozen BK195.out 3
   go_wp2
   go_meet
   case rel => exact ⟨_, (decide (a0_0 ≥ 10)), (by first | rfl | (simp; done) | (simp [*]; done)), H', ⟨by first | omega | exact Nat.le_refl _⟩, ⟨by (with_reducible repeat (first | apply blk_drewN | apply blk_drew | apply blk_alloc)); exact BK195.out⟩, ⟨by repeat (first | (with_reducible first | exact HB.out | apply below_alloc | apply pw_below_drewN | apply below_drew1 | refine below_set ?_ GE195.out) | exact HB.out)⟩⟩
 case rest =>
  clear HC2
  try clear p2
  try clear c3
  try clear c4
  try clear c4b0
  try clear hcz5_0
  try clear hcz5_1
  try clear hcz5_2
  try clear hcz5_3
  try clear hcz6_0
  try clear hcz6_1
  try clear hcz6_2
  try clear hcz6_3
  try clear hfz5_0
  try clear hfz5_1
  try clear hfz5_2
  try clear hfz5_3
  try clear hfz6_0
  try clear hfz6_1
  try clear hfz6_2
  try clear hfz6_3
  obtain ⟨kq, x14_1, rfl, HA, HJ1, BK195, HB⟩ := hcut
  cases kq with
  | zero => exact absurd HA.out (by simp [lapwingref05_Put.j0])
  | succ kj1 =>
   have H := HA.out
   clear HA
   simp only [lapwingref05_Put.j0] at H
   by_cases c7 : x14_1 = true
   ·subst c7
    have H1 : (some ((⟨#[]⟩ : ByteArray), 4)) = some (r1, r2) := by rw [if_pos rfl] at H; exact H
    clear H
    have H := H1
    clear H1
    simp only [Option.some.injEq, Prod.mk.injEq] at H
    obtain ⟨rfl, rfl⟩ := H
    go_wp2
    go_ret2
    exact ⟨by first | rfl | (simp [errW_none, errW_some] <;> rfl) | (simp [*, errW_none, errW_some] <;> rfl), by repeat (first | (with_reducible first | exact HB.out | apply below_alloc | apply pw_below_drewN | apply below_drew1 | refine below_set ?_ GE195.out) | exact HB.out)⟩
   ·replace c7 := Bool.eq_false_iff.mpr c7
    subst c7
    have H1 : ((lapwingref05_octet.f a0_0).bind fun t196 => ((lapwingref05_Numbered.f a0_0).bind fun t197 => (if t197 = true then (if a0_3 < 0 then (lapwingref05_Put.j1 kj1 t196 true a0_0 a0_1 a0_2 a0_3) else (lapwingref05_Put.j1 kj1 t196 (decide (a0_3 > 127)) a0_0 a0_1 a0_2 a0_3)) else (if a0_1 = true then (some (strOfNums (([(wrap64 (t196 + 16)) % 256] : List Int)), 0)) else (some (strOfNums (([(t196) % 256] : List Int)), 0)))))) = some (r1, r2) := by rw [if_neg (show ¬ (false = true) by decide)] at H; exact H
    clear H
    have H := H1
    clear H1
    replace H := Option.bind_eq_some_iff.mp H
    obtain ⟨t196, A80, H⟩ := H
    replace H : ((lapwingref05_Numbered.f a0_0).bind fun t197 => (if t197 = true then (if a0_3 < 0 then (lapwingref05_Put.j1 kj1 t196 true a0_0 a0_1 a0_2 a0_3) else (lapwingref05_Put.j1 kj1 t196 (decide (a0_3 > 127)) a0_0 a0_1 a0_2 a0_3)) else (if a0_1 = true then (some (strOfNums (([(wrap64 (t196 + 16)) % 256] : List Int)), 0)) else (some (strOfNums (([(t196) % 256] : List Int)), 0))))) = some (r1, r2) := H
    have A8 := Aside0.mk A80
    clear A80
    replace H := Option.bind_eq_some_iff.mp H
    obtain ⟨t197, A90, H⟩ := H
    replace H : (if t197 = true then (if a0_3 < 0 then (lapwingref05_Put.j1 kj1 t196 true a0_0 a0_1 a0_2 a0_3) else (lapwingref05_Put.j1 kj1 t196 (decide (a0_3 > 127)) a0_0 a0_1 a0_2 a0_3)) else (if a0_1 = true then (some (strOfNums (([(wrap64 (t196 + 16)) % 256] : List Int)), 0)) else (some (strOfNums (([(t196) % 256] : List Int)), 0)))) = some (r1, r2) := H
    have A9 := Aside0.mk A90
    clear A90
    by_cases c10 : t197 = true
    ·subst c10
     have H1 : (if a0_3 < 0 then (lapwingref05_Put.j1 kj1 t196 true a0_0 a0_1 a0_2 a0_3) else (lapwingref05_Put.j1 kj1 t196 (decide (a0_3 > 127)) a0_0 a0_1 a0_2 a0_3)) = some (r1, r2) := by rw [if_pos rfl] at H; exact H
     clear H
     have H := H1
     clear H1
     have HC11 := Aside0.mk H
     clear H
     have hcz12_0 : wc.cell? ⟨gb195, 0, none⟩ = some (.int .i64 a0_0) := (blk_cell BK195.out 0).trans rfl
     have hcz12_1 : wc.cell? ⟨gb195, 1, none⟩ = some (.bool a0_1) := (blk_cell BK195.out 1).trans rfl
     have hcz12_2 : wc.cell? ⟨gb195, 2, none⟩ = some (.int .i64 a0_2) := (blk_cell BK195.out 2).trans rfl
     have hcz12_3 : wc.cell? ⟨gb195, 3, none⟩ = some (.int .i64 a0_3) := (blk_cell BK195.out 3).trans rfl
     have hfz12_0 := blk_frozen BK195.out 0
     have hfz12_1 := blk_frozen BK195.out 1
     have hfz12_2 := blk_frozen BK195.out 2
     have hfz12_3 := blk_frozen BK195.out 3
     go_upto_region 9 with (first | ((with_reducible refine gate_callee (f := 52) rfl ?_); refine goesL_ (some 17) rfl rfl Tryd.func52 (by kernel_rfl) rfl #[.int .i64 a0_0] rfl (by (try simp only [List.map_toArray, List.map_cons, List.map_nil]); first | done | rfl) ?_; (with_reducible refine (lapwingref05_octet.calls a0_0 t196 _ A8.out).mono ?_); rintro e w' ⟨rfl, ⟨nd, rfl⟩⟩; refine ⟨_, rfl, ?_⟩) | ((with_reducible refine gate_callee (f := 53) rfl ?_); refine goesL_ (some 20) rfl rfl Tryd.func53 (by kernel_rfl) rfl #[.int .i64 a0_0] rfl (by (try simp only [List.map_toArray, List.map_cons, List.map_nil]); first | done | rfl) ?_; (with_reducible refine (lapwingref05_Numbered.calls a0_0 true _ A9.out).mono ?_); rintro e w' ⟨rfl, ⟨nd, rfl⟩⟩; refine ⟨_, rfl, ?_⟩))
     (try simp only [Act.put, List.setIfInBounds_toArray, List.set_cons_zero, List.set_cons_succ])
     go_cut [38] (fun v38 wc => ∃ (kq : Nat) (x38_10 : Bool), v38 = .bool x38_10 ∧ Aside0 (lapwingref05_Put.j1 kq t196 x38_10 a0_0 a0_1 a0_2 a0_3 = some (r1, r2)) ∧ Aside0 (kq ≤ kj1) ∧ Aside0 (wc.heap[gb195]? = some (.cells #[.int .i64 a0_0, .bool a0_1, .int .i64 a0_2, .int .i64 a0_3] 72 (0, 0))) ∧ Aside0 (Below w.heap.size w wc))
     case first =>
      have H := HC11.out
      clear HC11
      by_cases c13 : a0_3 < 0
      ·rw [if_pos c13] at H
       have c13b0 : decide (a0_3 < 0) = true := decide_eq_true c13
       clear c13
       (first | rw [c13b0] | (simp only [i64_w, i32_w]; rw [c13b0]) | skip)
       have H' := Aside0.mk H
       clear H
       have hcz14_0 : wc.cell? ⟨gb195, 0, none⟩ = some (.int .i64 a0_0) := (blk_cell BK195.out 0).trans rfl
       have hcz14_1 : wc.cell? ⟨gb195, 1, none⟩ = some (.bool a0_1) := (blk_cell BK195.out 1).trans rfl
       have hcz14_2 : wc.cell? ⟨gb195, 2, none⟩ = some (.int .i64 a0_2) := (blk_cell BK195.out 2).trans rfl
       have hcz14_3 : wc.cell? ⟨gb195, 3, none⟩ = some (.int .i64 a0_3) := (blk_cell BK195.out 3).trans rfl
       have hfz14_0 := blk_frozen BK195.out 0
       have hfz14_1 := blk_frozen BK195.out 1
       have hfz14_2 := blk_frozen BK195.out 2
       have hfz14_3 := blk_frozen BK195.out 3
       go_wp2
       go_meet
       case rel => exact ⟨_, (true), (by first | rfl | (simp; done) | (simp [*]; done)), H', ⟨by have := HJ1.out; first | omega | exact Nat.le_refl _⟩, ⟨by (with_reducible repeat (first | apply blk_drewN | apply blk_drew | apply blk_alloc)); exact BK195.out⟩, ⟨by repeat (first | (with_reducible first | exact HB.out | apply below_alloc | apply pw_below_drewN | apply below_drew1 | refine below_set ?_ GE195.out) | exact HB.out)⟩⟩
      ·rw [if_neg c13] at H
       have c13b0 : decide (a0_3 < 0) = false := decide_eq_false c13
       clear c13
       (first | rw [c13b0] | (simp only [i64_w, i32_w]; rw [c13b0]) | skip)
       have H' := Aside0.mk H
       clear H
       have hcz15_0 : wc.cell? ⟨gb195, 0, none⟩ = some (.int .i64 a0_0) := (blk_cell BK195.out 0).trans rfl
       have hcz15_1 : wc.cell? ⟨gb195, 1, none⟩ = some (.bool a0_1) := (blk_cell BK195.out 1).trans rfl
       have hcz15_2 : wc.cell? ⟨gb195, 2, none⟩ = some (.int .i64 a0_2) := (blk_cell BK195.out 2).trans rfl
       have hcz15_3 : wc.cell? ⟨gb195, 3, none⟩ = some (.int .i64 a0_3) := (blk_cell BK195.out 3).trans rfl
       have hfz15_0 := blk_frozen BK195.out 0
       have hfz15_1 := blk_frozen BK195.out 1
       have hfz15_2 := blk_frozen BK195.out 2
       have hfz15_3 := blk_frozen BK195.out 3
       go_wp2
       go_meet
       case rel => exact ⟨_, (decide (a0_3 > 127)), (by first | rfl | (simp; done) | (simp [*]; done)), H', ⟨by have := HJ1.out; first | omega | exact Nat.le_refl _⟩, ⟨by (with_reducible repeat (first | apply blk_drewN | apply blk_drew | apply blk_alloc)); exact BK195.out⟩, ⟨by repeat (first | (with_reducible first | exact HB.out | apply below_alloc | apply pw_below_drewN | apply below_drew1 | refine below_set ?_ GE195.out) | exact HB.out)⟩⟩
     case rest =>
      clear HC11
      try clear c1
      try clear p2
      try clear c3
      try clear c4
      try clear c4b0
      try clear c5
      try clear p6
      try clear c7
      try clear c10
      try clear c13
      try clear c13b0
      try clear hcz12_0
      try clear hcz12_1
      try clear hcz12_2
      try clear hcz12_3
      try clear hcz14_0
      try clear hcz14_1
      try clear hcz14_2
      try clear hcz14_3
      try clear hcz15_0
      try clear hcz15_1
      try clear hcz15_2
      try clear hcz15_3
      try clear hcz5_0
      try clear hcz5_1
      try clear hcz5_2
      try clear hcz5_3
      try clear hcz6_0
      try clear hcz6_1
      try clear hcz6_2
      try clear hcz6_3
      try clear hfz12_0
      try clear hfz12_1
      try clear hfz12_2
      try clear hfz12_3
      try clear hfz14_0
      try clear hfz14_1
      try clear hfz14_2
      try clear hfz14_3
      try clear hfz15_0
      try clear hfz15_1
      try clear hfz15_2
      try clear hfz15_3
      try clear hfz5_0
      try clear hfz5_1
      try clear hfz5_2
      try clear hfz5_3
      try clear hfz6_0
      try clear hfz6_1
      try clear hfz6_2
      try clear hfz6_3
      try clear p2
      obtain ⟨kq, x38_10, rfl, HA, HJ10, BK195, HB⟩ := hcut
      cases kq with
      | zero => exact absurd HA.out (by simp [lapwingref05_Put.j1])
      | succ kj10 =>
       have H := HA.out
       clear HA
       simp only [lapwingref05_Put.j1] at H
       by_cases c16 : x38_10 = true
       ·subst c16
        have H1 : (some ((⟨#[]⟩ : ByteArray), 2)) = some (r1, r2) := by rw [if_pos rfl] at H; exact H
        clear H
        have H := H1
        clear H1
        simp only [Option.some.injEq, Prod.mk.injEq] at H
        obtain ⟨rfl, rfl⟩ := H
        go_wp2
        go_ret2
        exact ⟨by first | rfl | (simp [errW_none, errW_some] <;> rfl) | (simp [*, errW_none, errW_some] <;> rfl), by repeat (first | (with_reducible first | exact HB.out | apply below_alloc | apply pw_below_drewN | apply below_drew1 | refine below_set ?_ GE195.out) | exact HB.out)⟩
       ·replace c16 := Bool.eq_false_iff.mpr c16
        subst c16
        have H1 : (if a0_0 = 0 then (if a0_2 < 0 then (lapwingref05_Put.j2 kj10 true a0_0 a0_1 a0_2 a0_3) else (lapwingref05_Put.j2 kj10 (decide (a0_2 > 127)) a0_0 a0_1 a0_2 a0_3)) else (if a0_1 = true then (some (strOfNums (([(t196) % 256, (wrap64 ((wrap64 (2 * a0_3)) + 1)) % 256] : List Int)), 0)) else (some (strOfNums (([(t196) % 256, (wrap64 (2 * a0_3)) % 256] : List Int)), 0)))) = some (r1, r2) := by rw [if_neg (show ¬ (false = true) by decide)] at H; exact H
        clear H
        have H := H1
        clear H1
        by_cases c17 : a0_0 = 0
        ·rw [if_pos c17] at H
         have c17b0 : (a0_0 == 0) = true := beq_iff_eq.mpr c17
         have c17b1 : (a0_0 != 0) = false := bne_eq_false_iff_eq.mpr c17
         clear c17
         have HC18 := Aside0.mk H
         clear H
         have hcz19_0 : wc.cell? ⟨gb195, 0, none⟩ = some (.int .i64 a0_0) := (blk_cell BK195.out 0).trans rfl
         have hcz19_1 : wc.cell? ⟨gb195, 1, none⟩ = some (.bool a0_1) := (blk_cell BK195.out 1).trans rfl
         have hcz19_2 : wc.cell? ⟨gb195, 2, none⟩ = some (.int .i64 a0_2) := (blk_cell BK195.out 2).trans rfl
         have hcz19_3 : wc.cell? ⟨gb195, 3, none⟩ = some (.int .i64 a0_3) := (blk_cell BK195.out 3).trans rfl
         have hfz19_0 := blk_frozen BK195.out 0
         have hfz19_1 := blk_frozen BK195.out 1
         have hfz19_2 := blk_frozen BK195.out 2
         have hfz19_3 := blk_frozen BK195.out 3
         go_upto_region 12 with (fail)
         go_cut [49] (fun v49 wc => ∃ (kq : Nat) (x49_17 : Bool), v49 = .bool x49_17 ∧ Aside0 (lapwingref05_Put.j2 kq x49_17 a0_0 a0_1 a0_2 a0_3 = some (r1, r2)) ∧ Aside0 (kq ≤ kj10) ∧ Aside0 (wc.heap[gb195]? = some (.cells #[.int .i64 a0_0, .bool a0_1, .int .i64 a0_2, .int .i64 a0_3] 72 (0, 0))) ∧ Aside0 (Below w.heap.size w wc))
         case first =>
          have H := HC18.out
          clear HC18
          by_cases c20 : a0_2 < 0
          ·rw [if_pos c20] at H
           have c20b0 : decide (a0_2 < 0) = true := decide_eq_true c20
           clear c20
           (first | rw [c20b0] | (simp only [i64_w, i32_w]; rw [c20b0]) | skip)
           have H' := Aside0.mk H
           clear H
           have hcz21_0 : wc.cell? ⟨gb195, 0, none⟩ = some (.int .i64 a0_0) := (blk_cell BK195.out 0).trans rfl
           have hcz21_1 : wc.cell? ⟨gb195, 1, none⟩ = some (.bool a0_1) := (blk_cell BK195.out 1).trans rfl
           have hcz21_2 : wc.cell? ⟨gb195, 2, none⟩ = some (.int .i64 a0_2) := (blk_cell BK195.out 2).trans rfl
           have hcz21_3 : wc.cell? ⟨gb195, 3, none⟩ = some (.int .i64 a0_3) := (blk_cell BK195.out 3).trans rfl
           have hfz21_0 := blk_frozen BK195.out 0
           have hfz21_1 := blk_frozen BK195.out 1
           have hfz21_2 := blk_frozen BK195.out 2
           have hfz21_3 := blk_frozen BK195.out 3
           go_wp2
           go_meet
           case rel => exact ⟨_, (true), (by first | rfl | (simp; done) | (simp [*]; done)), H', ⟨by have := HJ1.out; have := HJ10.out; first | omega | exact Nat.le_refl _⟩, ⟨by (with_reducible repeat (first | apply blk_drewN | apply blk_drew | apply blk_alloc)); exact BK195.out⟩, ⟨by repeat (first | (with_reducible first | exact HB.out | apply below_alloc | apply pw_below_drewN | apply below_drew1 | refine below_set ?_ GE195.out) | exact HB.out)⟩⟩
          ·rw [if_neg c20] at H
           have c20b0 : decide (a0_2 < 0) = false := decide_eq_false c20
           clear c20
           (first | rw [c20b0] | (simp only [i64_w, i32_w]; rw [c20b0]) | skip)
           have H' := Aside0.mk H
           clear H
           have hcz22_0 : wc.cell? ⟨gb195, 0, none⟩ = some (.int .i64 a0_0) := (blk_cell BK195.out 0).trans rfl
           have hcz22_1 : wc.cell? ⟨gb195, 1, none⟩ = some (.bool a0_1) := (blk_cell BK195.out 1).trans rfl
           have hcz22_2 : wc.cell? ⟨gb195, 2, none⟩ = some (.int .i64 a0_2) := (blk_cell BK195.out 2).trans rfl
           have hcz22_3 : wc.cell? ⟨gb195, 3, none⟩ = some (.int .i64 a0_3) := (blk_cell BK195.out 3).trans rfl
           have hfz22_0 := blk_frozen BK195.out 0
           have hfz22_1 := blk_frozen BK195.out 1
           have hfz22_2 := blk_frozen BK195.out 2
           have hfz22_3 := blk_frozen BK195.out 3
           go_wp2
           go_meet
           case rel => exact ⟨_, (decide (a0_2 > 127)), (by first | rfl | (simp; done) | (simp [*]; done)), H', ⟨by have := HJ1.out; have := HJ10.out; first | omega | exact Nat.le_refl _⟩, ⟨by (with_reducible repeat (first | apply blk_drewN | apply blk_drew | apply blk_alloc)); exact BK195.out⟩, ⟨by repeat (first | (with_reducible first | exact HB.out | apply below_alloc | apply pw_below_drewN | apply below_drew1 | refine below_set ?_ GE195.out) | exact HB.out)⟩⟩
         case rest =>
          clear HC18
          try clear c1
          try clear c2
          try clear p2
          try clear c3
          try clear c4
          try clear c4b0
          try clear c5
          try clear p6
          try clear c7
          try clear c10
          try clear c13
          try clear c13b0
          try clear c16
          try clear c17
          try clear c17b0
          try clear c17b1
          try clear c20
          try clear c20b0
          try clear hcz12_0
          try clear hcz12_1
          try clear hcz12_2
          try clear hcz12_3
          try clear hcz14_0
          try clear hcz14_1
          try clear hcz14_2
          try clear hcz14_3
          try clear hcz15_0
          try clear hcz15_1
          try clear hcz15_2
          try clear hcz15_3
          try clear hcz19_0
          try clear hcz19_1
          try clear hcz19_2
          try clear hcz19_3
          try clear hcz21_0
          try clear hcz21_1
          try clear hcz21_2
          try clear hcz21_3
          try clear hcz22_0
          try clear hcz22_1
          try clear hcz22_2
          try clear hcz22_3
          try clear hcz5_0
          try clear hcz5_1
          try clear hcz5_2
          try clear hcz5_3
          try clear hcz6_0
          try clear hcz6_1
          try clear hcz6_2
          try clear hcz6_3
          try clear hfz12_0
          try clear hfz12_1
          try clear hfz12_2
          try clear hfz12_3
          try clear hfz14_0
          try clear hfz14_1
          try clear hfz14_2
          try clear hfz14_3
          try clear hfz15_0
          try clear hfz15_1
          try clear hfz15_2
          try clear hfz15_3
          try clear hfz19_0
          try clear hfz19_1
          try clear hfz19_2
          try clear hfz19_3
          try clear hfz21_0
          try clear hfz21_1
          try clear hfz21_2
          try clear hfz21_3
          try clear hfz22_0
          try clear hfz22_1
          try clear hfz22_2
          try clear hfz22_3
          try clear hfz5_0
          try clear hfz5_1
          try clear hfz5_2
          try clear hfz5_3
          try clear hfz6_0
          try clear hfz6_1
          try clear hfz6_2
          try clear hfz6_3
          try clear p2
          try clear p6
          obtain ⟨kq, x49_17, rfl, HA, HJ17, BK195, HB⟩ := hcut
          cases kq with
          | zero => exact absurd HA.out (by simp [lapwingref05_Put.j2])
          | succ kj17 =>
           have H := HA.out
           clear HA
           simp only [lapwingref05_Put.j2] at H
           by_cases c23 : x49_17 = true
           ·subst c23
            have H1 : (some ((⟨#[]⟩ : ByteArray), 2)) = some (r1, r2) := by rw [if_pos rfl] at H; exact H
            clear H
            have H := H1
            clear H1
            simp only [Option.some.injEq, Prod.mk.injEq] at H
            obtain ⟨rfl, rfl⟩ := H
            go_wp2
            go_ret2
            exact ⟨by first | rfl | (simp [errW_none, errW_some] <;> rfl) | (simp [*, errW_none, errW_some] <;> rfl), by repeat (first | (with_reducible first | exact HB.out | apply below_alloc | apply pw_below_drewN | apply below_drew1 | refine below_set ?_ GE195.out) | exact HB.out)⟩
           ·replace c23 := Bool.eq_false_iff.mpr c23
            subst c23
            have H1 : (if a0_1 = true then (some (strOfNums (([(wrap64 (2 * a0_2)) % 256, (wrap64 ((wrap64 (2 * a0_3)) + 1)) % 256] : List Int)), 0)) else (some (strOfNums (([(wrap64 (2 * a0_2)) % 256, (wrap64 (2 * a0_3)) % 256] : List Int)), 0))) = some (r1, r2) := by rw [if_neg (show ¬ (false = true) by decide)] at H; exact H
            clear H
            have H := H1
            clear H1
            by_cases c24 : a0_1 = true
            ·subst c24
             have H1 : (some (strOfNums (([(wrap64 (2 * a0_2)) % 256, (wrap64 ((wrap64 (2 * a0_3)) + 1)) % 256] : List Int)), 0)) = some (r1, r2) := by rw [if_pos rfl] at H; exact H
             clear H
             have H := H1
             clear H1
             obtain ⟨y204, hy204⟩ : ∃ y_ : List Int, y_ = (([(wrap64 (2 * a0_2)) % 256, (wrap64 ((wrap64 (2 * a0_3)) + 1)) % 256] : List Int)) := ⟨_, rfl⟩
             replace H : (some (strOfNums y204, 0)) = some (r1, r2) := by first | (rw [hy204]; with_reducible exact H) | (have H2_ := (Option.bind_some _ _).symm.trans H; rw [hy204]; with_reducible exact H2_) | (have H2_ := (Option.bind_some _ _).symm.trans H; with_reducible exact H2_) | with_reducible exact H | (rw [hy204]; exact H) | exact H
             have Ny204 := Aside0.mk hy204
             clear hy204
             simp only [Option.some.injEq, Prod.mk.injEq] at H
             obtain ⟨rfl, rfl⟩ := H
             have hcz25_0 : wc.cell? ⟨gb195, 0, none⟩ = some (.int .i64 a0_0) := (blk_cell BK195.out 0).trans rfl
             have hcz25_1 : wc.cell? ⟨gb195, 1, none⟩ = some (.bool true) := (blk_cell BK195.out 1).trans rfl
             have hcz25_2 : wc.cell? ⟨gb195, 2, none⟩ = some (.int .i64 a0_2) := (blk_cell BK195.out 2).trans rfl
             have hcz25_3 : wc.cell? ⟨gb195, 3, none⟩ = some (.int .i64 a0_3) := (blk_cell BK195.out 3).trans rfl
             have hfz25_0 := blk_frozen BK195.out 0
             have hfz25_1 := blk_frozen BK195.out 1
             have hfz25_2 := blk_frozen BK195.out 2
             have hfz25_3 := blk_frozen BK195.out 3
             go_wp2_with (first | ((with_reducible refine gate_dst (N := 64) rfl ?_); refine Kd.R_lit (Kd.int .u8) _ 5 ?hg (N := 64) ?hd (xs := ([(wrap64 (2 * a0_2)) % 256, (wrap64 ((wrap64 (2 * a0_3)) + 1)) % 256] : List Int)) (inner := [.int .u8 ((wrap64 (2 * a0_2)) % 256), .int .u8 ((wrap64 ((wrap64 (2 * a0_3)) + 1)) % 256)]) (ok := fun _ => True) (okp := fun _ => True) ?hr ?hp (fun _ hk => hk) trivial (Below.refl _ _) (Nat.le_refl _) (by simp) ?_; (case hd => rfl); (case hg => rfl); (case hr => first | (go_simp; done) | (go_simp; rfl)); (case hp => exact (Reps.one (show Kd.M (Kd.int .u8) _ _ _ ((wrap64 (2 * a0_2)) % 256) [.int .u8 ((wrap64 (2 * a0_2)) % 256)] from rfl) (Reps.one (show Kd.M (Kd.int .u8) _ _ _ ((wrap64 ((wrap64 (2 * a0_3)) + 1)) % 256) [.int .u8 ((wrap64 ((wrap64 (2 * a0_3)) + 1)) % 256)] from rfl) (Reps.none _ _)))); intro v205 w26 ho27 hb hg_ hnew_; clear hg_ hnew_; (first | rw [← Ny204.out] at ho27 | (simp only [Int.reduceToNat] at ho27; rw [← Ny204.out] at ho27)); have n0_ := Aside0.mk (Kd.R_lower ho27 (below_size (by repeat (first | (with_reducible first | exact HB.out | apply below_alloc | apply pw_below_drewN | apply below_drew1 | refine below_set ?_ GE195.out) | exact HB.out)))); have n1_ := Aside0.mk (blk_below (g := gb195) (o := .cells #[.int .i64 a0_0, .bool true, .int .i64 a0_2, .int .i64 a0_3] 72 (0, 0)) (by (with_reducible repeat (first | refine blk_drewN ?_ _ | refine blk_drew ?_ | refine blk_alloc ?_ _)); exact BK195.out) hb); have n2_ := Aside0.mk (below_step (by repeat (first | (with_reducible first | exact HB.out | apply below_alloc | apply pw_below_drewN | apply below_drew1 | refine below_set ?_ GE195.out) | exact HB.out)) hb); clear BK195; clear HB; have HO206 := n0_; have BK195 := n1_; have HB := n2_; clear n0_ n1_ n2_; clear hb ho27; have hcv28 := own_string (P := Tryd.prog) Tryd.underlying52 Tryd.underlying5 Tryd.underlying9 (Kd.own_of_R HO206.out)))
             go_ret2
             exact ⟨by first | rfl | (simp [errW_none, errW_some] <;> rfl) | (simp [*, errW_none, errW_some] <;> rfl), by repeat (first | (with_reducible first | exact HB.out | apply below_alloc | apply pw_below_drewN | apply below_drew1 | refine below_set ?_ GE195.out) | exact HB.out)⟩
            ·replace c24 := Bool.eq_false_iff.mpr c24
             subst c24
             have H1 : (some (strOfNums (([(wrap64 (2 * a0_2)) % 256, (wrap64 (2 * a0_3)) % 256] : List Int)), 0)) = some (r1, r2) := by rw [if_neg (show ¬ (false = true) by decide)] at H; exact H
             clear H
             have H := H1
             clear H1
             obtain ⟨y207, hy207⟩ : ∃ y_ : List Int, y_ = (([(wrap64 (2 * a0_2)) % 256, (wrap64 (2 * a0_3)) % 256] : List Int)) := ⟨_, rfl⟩
             replace H : (some (strOfNums y207, 0)) = some (r1, r2) := by first | (rw [hy207]; with_reducible exact H) | (have H2_ := (Option.bind_some _ _).symm.trans H; rw [hy207]; with_reducible exact H2_) | (have H2_ := (Option.bind_some _ _).symm.trans H; with_reducible exact H2_) | with_reducible exact H | (rw [hy207]; exact H) | exact H
             have Ny207 := Aside0.mk hy207
             clear hy207
             simp only [Option.some.injEq, Prod.mk.injEq] at H
             obtain ⟨rfl, rfl⟩ := H
             have hcz29_0 : wc.cell? ⟨gb195, 0, none⟩ = some (.int .i64 a0_0) := (blk_cell BK195.out 0).trans rfl
             have hcz29_1 : wc.cell? ⟨gb195, 1, none⟩ = some (.bool false) := (blk_cell BK195.out 1).trans rfl
             have hcz29_2 : wc.cell? ⟨gb195, 2, none⟩ = some (.int .i64 a0_2) := (blk_cell BK195.out 2).trans rfl
             have hcz29_3 : wc.cell? ⟨gb195, 3, none⟩ = some (.int .i64 a0_3) := (blk_cell BK195.out 3).trans rfl
             have hfz29_0 := blk_frozen BK195.out 0
             have hfz29_1 := blk_frozen BK195.out 1
             have hfz29_2 := blk_frozen BK195.out 2
             have hfz29_3 := blk_frozen BK195.out 3
             go_wp2_with (first | ((with_reducible refine gate_dst (N := 64) rfl ?_); refine Kd.R_lit (Kd.int .u8) _ 5 ?hg (N := 64) ?hd (xs := ([(wrap64 (2 * a0_2)) % 256, (wrap64 (2 * a0_3)) % 256] : List Int)) (inner := [.int .u8 ((wrap64 (2 * a0_2)) % 256), .int .u8 ((wrap64 (2 * a0_3)) % 256)]) (ok := fun _ => True) (okp := fun _ => True) ?hr ?hp (fun _ hk => hk) trivial (Below.refl _ _) (Nat.le_refl _) (by simp) ?_; (case hd => rfl); (case hg => rfl); (case hr => first | (go_simp; done) | (go_simp; rfl)); (case hp => exact (Reps.one (show Kd.M (Kd.int .u8) _ _ _ ((wrap64 (2 * a0_2)) % 256) [.int .u8 ((wrap64 (2 * a0_2)) % 256)] from rfl) (Reps.one (show Kd.M (Kd.int .u8) _ _ _ ((wrap64 (2 * a0_3)) % 256) [.int .u8 ((wrap64 (2 * a0_3)) % 256)] from rfl) (Reps.none _ _)))); intro v208 w30 ho31 hb hg_ hnew_; clear hg_ hnew_; (first | rw [← Ny207.out] at ho31 | (simp only [Int.reduceToNat] at ho31; rw [← Ny207.out] at ho31)); have n0_ := Aside0.mk (Kd.R_lower ho31 (below_size (by repeat (first | (with_reducible first | exact HB.out | apply below_alloc | apply pw_below_drewN | apply below_drew1 | refine below_set ?_ GE195.out) | exact HB.out)))); have n1_ := Aside0.mk (blk_below (g := gb195) (o := .cells #[.int .i64 a0_0, .bool false, .int .i64 a0_2, .int .i64 a0_3] 72 (0, 0)) (by (with_reducible repeat (first | refine blk_drewN ?_ _ | refine blk_drew ?_ | refine blk_alloc ?_ _)); exact BK195.out) hb); have n2_ := Aside0.mk (below_step (by repeat (first | (with_reducible first | exact HB.out | apply below_alloc | apply pw_below_drewN | apply below_drew1 | refine below_set ?_ GE195.out) | exact HB.out)) hb); clear BK195; clear HB; have HO209 := n0_; have BK195 := n1_; have HB := n2_; clear n0_ n1_ n2_; clear hb ho31; have hcv32 := own_string (P := Tryd.prog) Tryd.underlying52 Tryd.underlying5 Tryd.underlying9 (Kd.own_of_R HO209.out)))
             go_ret2
             exact ⟨by first | rfl | (simp [errW_none, errW_some] <;> rfl) | (simp [*, errW_none, errW_some] <;> rfl), by repeat (first | (with_reducible first | exact HB.out | apply below_alloc | apply pw_below_drewN | apply below_drew1 | refine below_set ?_ GE195.out) | exact HB.out)⟩
        ·rw [if_neg c17] at H
         have c17b0 : (a0_0 == 0) = false := beq_eq_false_iff_ne.mpr c17
         have c17b1 : (a0_0 != 0) = true := bne_iff_ne.mpr c17
         by_cases c33 : a0_1 = true
         ·subst c33
          have H1 : (some (strOfNums (([(t196) % 256, (wrap64 ((wrap64 (2 * a0_3)) + 1)) % 256] : List Int)), 0)) = some (r1, r2) := by rw [if_pos rfl] at H; exact H
          clear H
          have H := H1
          clear H1
          obtain ⟨y210, hy210⟩ : ∃ y_ : List Int, y_ = (([(t196) % 256, (wrap64 ((wrap64 (2 * a0_3)) + 1)) % 256] : List Int)) := ⟨_, rfl⟩
          replace H : (some (strOfNums y210, 0)) = some (r1, r2) := by first | (rw [hy210]; with_reducible exact H) | (have H2_ := (Option.bind_some _ _).symm.trans H; rw [hy210]; with_reducible exact H2_) | (have H2_ := (Option.bind_some _ _).symm.trans H; with_reducible exact H2_) | with_reducible exact H | (rw [hy210]; exact H) | exact H
          have Ny210 := Aside0.mk hy210
          clear hy210
          simp only [Option.some.injEq, Prod.mk.injEq] at H
          obtain ⟨rfl, rfl⟩ := H
          have hcz34_0 : wc.cell? ⟨gb195, 0, none⟩ = some (.int .i64 a0_0) := (blk_cell BK195.out 0).trans rfl
          have hcz34_1 : wc.cell? ⟨gb195, 1, none⟩ = some (.bool true) := (blk_cell BK195.out 1).trans rfl
          have hcz34_2 : wc.cell? ⟨gb195, 2, none⟩ = some (.int .i64 a0_2) := (blk_cell BK195.out 2).trans rfl
          have hcz34_3 : wc.cell? ⟨gb195, 3, none⟩ = some (.int .i64 a0_3) := (blk_cell BK195.out 3).trans rfl
          have hfz34_0 := blk_frozen BK195.out 0
          have hfz34_1 := blk_frozen BK195.out 1
          have hfz34_2 := blk_frozen BK195.out 2
          have hfz34_3 := blk_frozen BK195.out 3
          go_wp2_with (first | ((with_reducible refine gate_dst (N := 64) rfl ?_); refine Kd.R_lit (Kd.int .u8) _ 5 ?hg (N := 64) ?hd (xs := ([(t196) % 256, (wrap64 ((wrap64 (2 * a0_3)) + 1)) % 256] : List Int)) (inner := [.int .u8 ((t196) % 256), .int .u8 ((wrap64 ((wrap64 (2 * a0_3)) + 1)) % 256)]) (ok := fun _ => True) (okp := fun _ => True) ?hr ?hp (fun _ hk => hk) trivial (Below.refl _ _) (Nat.le_refl _) (by simp) ?_; (case hd => rfl); (case hg => rfl); (case hr => first | (go_simp; done) | (go_simp; rfl)); (case hp => exact (Reps.one (show Kd.M (Kd.int .u8) _ _ _ ((t196) % 256) [.int .u8 ((t196) % 256)] from rfl) (Reps.one (show Kd.M (Kd.int .u8) _ _ _ ((wrap64 ((wrap64 (2 * a0_3)) + 1)) % 256) [.int .u8 ((wrap64 ((wrap64 (2 * a0_3)) + 1)) % 256)] from rfl) (Reps.none _ _)))); intro v211 w35 ho36 hb hg_ hnew_; clear hg_ hnew_; (first | rw [← Ny210.out] at ho36 | (simp only [Int.reduceToNat] at ho36; rw [← Ny210.out] at ho36)); have n0_ := Aside0.mk (Kd.R_lower ho36 (below_size (by repeat (first | (with_reducible first | exact HB.out | apply below_alloc | apply pw_below_drewN | apply below_drew1 | refine below_set ?_ GE195.out) | exact HB.out)))); have n1_ := Aside0.mk (blk_below (g := gb195) (o := .cells #[.int .i64 a0_0, .bool true, .int .i64 a0_2, .int .i64 a0_3] 72 (0, 0)) (by (with_reducible repeat (first | refine blk_drewN ?_ _ | refine blk_drew ?_ | refine blk_alloc ?_ _)); exact BK195.out) hb); have n2_ := Aside0.mk (below_step (by repeat (first | (with_reducible first | exact HB.out | apply below_alloc | apply pw_below_drewN | apply below_drew1 | refine below_set ?_ GE195.out) | exact HB.out)) hb); clear BK195; clear HB; have HO212 := n0_; have BK195 := n1_; have HB := n2_; clear n0_ n1_ n2_; clear hb ho36; have hcv37 := own_string (P := Tryd.prog) Tryd.underlying52 Tryd.underlying5 Tryd.underlying9 (Kd.own_of_R HO212.out)))
          go_ret2
          exact ⟨by first | rfl | (simp [errW_none, errW_some] <;> rfl) | (simp [*, errW_none, errW_some] <;> rfl), by repeat (first | (with_reducible first | exact HB.out | apply below_alloc | apply pw_below_drewN | apply below_drew1 | refine below_set ?_ GE195.out) | exact HB.out)⟩
         ·replace c33 := Bool.eq_false_iff.mpr c33
          subst c33
          have H1 : (some (strOfNums (([(t196) % 256, (wrap64 (2 * a0_3)) % 256] : List Int)), 0)) = some (r1, r2) := by rw [if_neg (show ¬ (false = true) by decide)] at H; exact H
          clear H
          have H := H1
          clear H1
          obtain ⟨y213, hy213⟩ : ∃ y_ : List Int, y_ = (([(t196) % 256, (wrap64 (2 * a0_3)) % 256] : List Int)) := ⟨_, rfl⟩
          replace H : (some (strOfNums y213, 0)) = some (r1, r2) := by first | (rw [hy213]; with_reducible exact H) | (have H2_ := (Option.bind_some _ _).symm.trans H; rw [hy213]; with_reducible exact H2_) | (have H2_ := (Option.bind_some _ _).symm.trans H; with_reducible exact H2_) | with_reducible exact H | (rw [hy213]; exact H) | exact H
          have Ny213 := Aside0.mk hy213
          clear hy213
          simp only [Option.some.injEq, Prod.mk.injEq] at H
          obtain ⟨rfl, rfl⟩ := H
          have hcz38_0 : wc.cell? ⟨gb195, 0, none⟩ = some (.int .i64 a0_0) := (blk_cell BK195.out 0).trans rfl
          have hcz38_1 : wc.cell? ⟨gb195, 1, none⟩ = some (.bool false) := (blk_cell BK195.out 1).trans rfl
          have hcz38_2 : wc.cell? ⟨gb195, 2, none⟩ = some (.int .i64 a0_2) := (blk_cell BK195.out 2).trans rfl
          have hcz38_3 : wc.cell? ⟨gb195, 3, none⟩ = some (.int .i64 a0_3) := (blk_cell BK195.out 3).trans rfl
          have hfz38_0 := blk_frozen BK195.out 0
          have hfz38_1 := blk_frozen BK195.out 1
          have hfz38_2 := blk_frozen BK195.out 2
          have hfz38_3 := blk_frozen BK195.out 3
          go_wp2_with (first | ((with_reducible refine gate_dst (N := 64) rfl ?_); refine Kd.R_lit (Kd.int .u8) _ 5 ?hg (N := 64) ?hd (xs := ([(t196) % 256, (wrap64 (2 * a0_3)) % 256] : List Int)) (inner := [.int .u8 ((t196) % 256), .int .u8 ((wrap64 (2 * a0_3)) % 256)]) (ok := fun _ => True) (okp := fun _ => True) ?hr ?hp (fun _ hk => hk) trivial (Below.refl _ _) (Nat.le_refl _) (by simp) ?_; (case hd => rfl); (case hg => rfl); (case hr => first | (go_simp; done) | (go_simp; rfl)); (case hp => exact (Reps.one (show Kd.M (Kd.int .u8) _ _ _ ((t196) % 256) [.int .u8 ((t196) % 256)] from rfl) (Reps.one (show Kd.M (Kd.int .u8) _ _ _ ((wrap64 (2 * a0_3)) % 256) [.int .u8 ((wrap64 (2 * a0_3)) % 256)] from rfl) (Reps.none _ _)))); intro v214 w39 ho40 hb hg_ hnew_; clear hg_ hnew_; (first | rw [← Ny213.out] at ho40 | (simp only [Int.reduceToNat] at ho40; rw [← Ny213.out] at ho40)); have n0_ := Aside0.mk (Kd.R_lower ho40 (below_size (by repeat (first | (with_reducible first | exact HB.out | apply below_alloc | apply pw_below_drewN | apply below_drew1 | refine below_set ?_ GE195.out) | exact HB.out)))); have n1_ := Aside0.mk (blk_below (g := gb195) (o := .cells #[.int .i64 a0_0, .bool false, .int .i64 a0_2, .int .i64 a0_3] 72 (0, 0)) (by (with_reducible repeat (first | refine blk_drewN ?_ _ | refine blk_drew ?_ | refine blk_alloc ?_ _)); exact BK195.out) hb); have n2_ := Aside0.mk (below_step (by repeat (first | (with_reducible first | exact HB.out | apply below_alloc | apply pw_below_drewN | apply below_drew1 | refine below_set ?_ GE195.out) | exact HB.out)) hb); clear BK195; clear HB; have HO215 := n0_; have BK195 := n1_; have HB := n2_; clear n0_ n1_ n2_; clear hb ho40; have hcv41 := own_string (P := Tryd.prog) Tryd.underlying52 Tryd.underlying5 Tryd.underlying9 (Kd.own_of_R HO215.out)))
          go_ret2
          exact ⟨by first | rfl | (simp [errW_none, errW_some] <;> rfl) | (simp [*, errW_none, errW_some] <;> rfl), by repeat (first | (with_reducible first | exact HB.out | apply below_alloc | apply pw_below_drewN | apply below_drew1 | refine below_set ?_ GE195.out) | exact HB.out)⟩
    ·replace c10 := Bool.eq_false_iff.mpr c10
     subst c10
     have H1 : (if a0_1 = true then (some (strOfNums (([(wrap64 (t196 + 16)) % 256] : List Int)), 0)) else (some (strOfNums (([(t196) % 256] : List Int)), 0))) = some (r1, r2) := by rw [if_neg (show ¬ (false = true) by decide)] at H; exact H
     clear H
     have H := H1
     clear H1
     by_cases c42 : a0_1 = true
     ·subst c42
      have H1 : (some (strOfNums (([(wrap64 (t196 + 16)) % 256] : List Int)), 0)) = some (r1, r2) := by rw [if_pos rfl] at H; exact H
      clear H
      have H := H1
      clear H1
      obtain ⟨y198, hy198⟩ : ∃ y_ : List Int, y_ = (([(wrap64 (t196 + 16)) % 256] : List Int)) := ⟨_, rfl⟩
      replace H : (some (strOfNums y198, 0)) = some (r1, r2) := by first | (rw [hy198]; with_reducible exact H) | (have H2_ := (Option.bind_some _ _).symm.trans H; rw [hy198]; with_reducible exact H2_) | (have H2_ := (Option.bind_some _ _).symm.trans H; with_reducible exact H2_) | with_reducible exact H | (rw [hy198]; exact H) | exact H
      have Ny198 := Aside0.mk hy198
      clear hy198
      simp only [Option.some.injEq, Prod.mk.injEq] at H
      obtain ⟨rfl, rfl⟩ := H
      have hcz43_0 : wc.cell? ⟨gb195, 0, none⟩ = some (.int .i64 a0_0) := (blk_cell BK195.out 0).trans rfl
      have hcz43_1 : wc.cell? ⟨gb195, 1, none⟩ = some (.bool true) := (blk_cell BK195.out 1).trans rfl
      have hcz43_2 : wc.cell? ⟨gb195, 2, none⟩ = some (.int .i64 a0_2) := (blk_cell BK195.out 2).trans rfl
      have hcz43_3 : wc.cell? ⟨gb195, 3, none⟩ = some (.int .i64 a0_3) := (blk_cell BK195.out 3).trans rfl
      have hfz43_0 := blk_frozen BK195.out 0
      have hfz43_1 := blk_frozen BK195.out 1
      have hfz43_2 := blk_frozen BK195.out 2
      have hfz43_3 := blk_frozen BK195.out 3
      go_wp2_with (first | ((with_reducible refine gate_callee (f := 52) rfl ?_); refine goesL_ (some 17) rfl rfl Tryd.func52 (by kernel_rfl) rfl #[.int .i64 a0_0] rfl (by (try simp only [List.map_toArray, List.map_cons, List.map_nil]); first | done | rfl | (simp only [List.length_drop, List.length_take]; rfl)) ?_; (with_reducible refine (lapwingref05_octet.calls a0_0 t196 _ A8.out).mono ?_); rintro e w' ⟨rfl, ⟨nd, rfl⟩⟩; refine ⟨_, rfl, ?_⟩) | ((with_reducible refine gate_callee (f := 53) rfl ?_); refine goesL_ (some 20) rfl rfl Tryd.func53 (by kernel_rfl) rfl #[.int .i64 a0_0] rfl (by (try simp only [List.map_toArray, List.map_cons, List.map_nil]); first | done | rfl | (simp only [List.length_drop, List.length_take]; rfl)) ?_; (with_reducible refine (lapwingref05_Numbered.calls a0_0 false _ A9.out).mono ?_); rintro e w' ⟨rfl, ⟨nd, rfl⟩⟩; refine ⟨_, rfl, ?_⟩) | ((with_reducible refine gate_dst (N := 29) rfl ?_); refine Kd.R_lit (Kd.int .u8) _ 5 ?hg (N := 29) ?hd (xs := ([(wrap64 (t196 + 16)) % 256] : List Int)) (inner := [.int .u8 ((wrap64 (t196 + 16)) % 256)]) (ok := fun _ => True) (okp := fun _ => True) ?hr ?hp (fun _ hk => hk) trivial (Below.refl _ _) (Nat.le_refl _) (by simp) ?_; (case hd => rfl); (case hg => rfl); (case hr => first | (go_simp; done) | (go_simp; rfl)); (case hp => exact (Reps.one (show Kd.M (Kd.int .u8) _ _ _ ((wrap64 (t196 + 16)) % 256) [.int .u8 ((wrap64 (t196 + 16)) % 256)] from rfl) (Reps.none _ _))); intro v199 w44 ho45 hb hg_ hnew_; clear hg_ hnew_; (first | rw [← Ny198.out] at ho45 | (simp only [Int.reduceToNat] at ho45; rw [← Ny198.out] at ho45)); have n0_ := Aside0.mk (Kd.R_lower ho45 (below_size (by repeat (first | (with_reducible first | exact HB.out | apply below_alloc | apply pw_below_drewN | apply below_drew1 | refine below_set ?_ GE195.out) | exact HB.out)))); have n1_ := Aside0.mk (blk_below (g := gb195) (o := .cells #[.int .i64 a0_0, .bool true, .int .i64 a0_2, .int .i64 a0_3] 72 (0, 0)) (by (with_reducible repeat (first | refine blk_drewN ?_ _ | refine blk_drew ?_ | refine blk_alloc ?_ _)); exact BK195.out) hb); have n2_ := Aside0.mk (below_step (by repeat (first | (with_reducible first | exact HB.out | apply below_alloc | apply pw_below_drewN | apply below_drew1 | refine below_set ?_ GE195.out) | exact HB.out)) hb); clear BK195; clear HB; have HO200 := n0_; have BK195 := n1_; have HB := n2_; clear n0_ n1_ n2_; clear hb ho45; have hcv46 := own_string (P := Tryd.prog) Tryd.underlying52 Tryd.underlying5 Tryd.underlying9 (Kd.own_of_R HO200.out)))
      go_ret2
      exact ⟨by first | rfl | (simp [errW_none, errW_some] <;> rfl) | (simp [*, errW_none, errW_some] <;> rfl), by repeat (first | (with_reducible first | exact HB.out | apply below_alloc | apply pw_below_drewN | apply below_drew1 | refine below_set ?_ GE195.out) | exact HB.out)⟩
     ·replace c42 := Bool.eq_false_iff.mpr c42
      subst c42
      have H1 : (some (strOfNums (([(t196) % 256] : List Int)), 0)) = some (r1, r2) := by rw [if_neg (show ¬ (false = true) by decide)] at H; exact H
      clear H
      have H := H1
      clear H1
      obtain ⟨y201, hy201⟩ : ∃ y_ : List Int, y_ = (([(t196) % 256] : List Int)) := ⟨_, rfl⟩
      replace H : (some (strOfNums y201, 0)) = some (r1, r2) := by first | (rw [hy201]; with_reducible exact H) | (have H2_ := (Option.bind_some _ _).symm.trans H; rw [hy201]; with_reducible exact H2_) | (have H2_ := (Option.bind_some _ _).symm.trans H; with_reducible exact H2_) | with_reducible exact H | (rw [hy201]; exact H) | exact H
      have Ny201 := Aside0.mk hy201
      clear hy201
      simp only [Option.some.injEq, Prod.mk.injEq] at H
      obtain ⟨rfl, rfl⟩ := H
      have hcz47_0 : wc.cell? ⟨gb195, 0, none⟩ = some (.int .i64 a0_0) := (blk_cell BK195.out 0).trans rfl
      have hcz47_1 : wc.cell? ⟨gb195, 1, none⟩ = some (.bool false) := (blk_cell BK195.out 1).trans rfl
      have hcz47_2 : wc.cell? ⟨gb195, 2, none⟩ = some (.int .i64 a0_2) := (blk_cell BK195.out 2).trans rfl
      have hcz47_3 : wc.cell? ⟨gb195, 3, none⟩ = some (.int .i64 a0_3) := (blk_cell BK195.out 3).trans rfl
      have hfz47_0 := blk_frozen BK195.out 0
      have hfz47_1 := blk_frozen BK195.out 1
      have hfz47_2 := blk_frozen BK195.out 2
      have hfz47_3 := blk_frozen BK195.out 3
      go_wp2_with (first | ((with_reducible refine gate_callee (f := 52) rfl ?_); refine goesL_ (some 17) rfl rfl Tryd.func52 (by kernel_rfl) rfl #[.int .i64 a0_0] rfl (by (try simp only [List.map_toArray, List.map_cons, List.map_nil]); first | done | rfl | (simp only [List.length_drop, List.length_take]; rfl)) ?_; (with_reducible refine (lapwingref05_octet.calls a0_0 t196 _ A8.out).mono ?_); rintro e w' ⟨rfl, ⟨nd, rfl⟩⟩; refine ⟨_, rfl, ?_⟩) | ((with_reducible refine gate_callee (f := 53) rfl ?_); refine goesL_ (some 20) rfl rfl Tryd.func53 (by kernel_rfl) rfl #[.int .i64 a0_0] rfl (by (try simp only [List.map_toArray, List.map_cons, List.map_nil]); first | done | rfl | (simp only [List.length_drop, List.length_take]; rfl)) ?_; (with_reducible refine (lapwingref05_Numbered.calls a0_0 false _ A9.out).mono ?_); rintro e w' ⟨rfl, ⟨nd, rfl⟩⟩; refine ⟨_, rfl, ?_⟩) | ((with_reducible refine gate_dst (N := 29) rfl ?_); refine Kd.R_lit (Kd.int .u8) _ 5 ?hg (N := 29) ?hd (xs := ([(t196) % 256] : List Int)) (inner := [.int .u8 ((t196) % 256)]) (ok := fun _ => True) (okp := fun _ => True) ?hr ?hp (fun _ hk => hk) trivial (Below.refl _ _) (Nat.le_refl _) (by simp) ?_; (case hd => rfl); (case hg => rfl); (case hr => first | (go_simp; done) | (go_simp; rfl)); (case hp => exact (Reps.one (show Kd.M (Kd.int .u8) _ _ _ ((t196) % 256) [.int .u8 ((t196) % 256)] from rfl) (Reps.none _ _))); intro v202 w48 ho49 hb hg_ hnew_; clear hg_ hnew_; (first | rw [← Ny201.out] at ho49 | (simp only [Int.reduceToNat] at ho49; rw [← Ny201.out] at ho49)); have n0_ := Aside0.mk (Kd.R_lower ho49 (below_size (by repeat (first | (with_reducible first | exact HB.out | apply below_alloc | apply pw_below_drewN | apply below_drew1 | refine below_set ?_ GE195.out) | exact HB.out)))); have n1_ := Aside0.mk (blk_below (g := gb195) (o := .cells #[.int .i64 a0_0, .bool false, .int .i64 a0_2, .int .i64 a0_3] 72 (0, 0)) (by (with_reducible repeat (first | refine blk_drewN ?_ _ | refine blk_drew ?_ | refine blk_alloc ?_ _)); exact BK195.out) hb); have n2_ := Aside0.mk (below_step (by repeat (first | (with_reducible first | exact HB.out | apply below_alloc | apply pw_below_drewN | apply below_drew1 | refine below_set ?_ GE195.out) | exact HB.out)) hb); clear BK195; clear HB; have HO203 := n0_; have BK195 := n1_; have HB := n2_; clear n0_ n1_ n2_; clear hb ho49; have hcv50 := own_string (P := Tryd.prog) Tryd.underlying52 Tryd.underlying5 Tryd.underlying9 (Kd.own_of_R HO203.out)))
      go_ret2
      exact ⟨by first | rfl | (simp [errW_none, errW_some] <;> rfl) | (simp [*, errW_none, errW_some] <;> rfl), by repeat (first | (with_reducible first | exact HB.out | apply below_alloc | apply pw_below_drewN | apply below_drew1 | refine below_set ?_ GE195.out) | exact HB.out)⟩

/-! ### lapwingref04_Make: function 33 -/
def lapwingref04_Make.f (a0 : Int) (a1 : Int) (a2 : Bool) (a3 : Bool) : Option (Int × Int × Bool) := if a2 = true then (if a3 = true then (some (a0, a1, true)) else (some (a0, a1, false))) else (some (a0, a1, !a3))
set_option maxHeartbeats 8000000 in
set_option maxRecDepth 100000 in
theorem lapwingref04_Make.calls (a0 : Int) (a1 : Int) (a2 : Bool) (a3 : Bool) (r1 : Int) (r2 : Int) (r3 : Bool) (w : World) (h : lapwingref04_Make.f a0 a1 a2 a3 = some (r1, r2, r3)) :
  Calls Tryd.prog 33 #[.int .i64 a0, .int .i64 a1, .bool a2, .bool a3] w fun e w' => e = .returned (.agg #[.int .i64 r1, .int .i64 r2, .bool r3]) ∧ Below w.heap.size w w' := by
 have hu74 := Tryd.underlying74
 have HB := Aside0.mk (Below.refl w.heap.size w)
 have H : (if a2 = true then (if a3 = true then (some (a0, a1, true)) else (some (a0, a1, false))) else (some (a0, a1, !a3))) = some (r1, r2, r3) := h
 clear h
 by_cases c5 : a2 = true
 ·subst c5
  have H1 : (if a3 = true then (some (a0, a1, true)) else (some (a0, a1, false))) = some (r1, r2, r3) := by rw [if_pos rfl] at H; exact H
  clear H
  have H := H1
  clear H1
  by_cases c6 : a3 = true
  ·subst c6
   have H1 : (some (a0, a1, true)) = some (r1, r2, r3) := by rw [if_pos rfl] at H; exact H
   clear H
   have H := H1
   clear H1
   simp only [Option.some.injEq, Prod.mk.injEq] at H
   obtain ⟨rfl, rfl, rfl⟩ := H
   go_enter Tryd.func33, Tryd.ntmps33
   go_wp2_with (first | ((with_reducible refine gate_dst (N := 8) rfl ?_); refine box_event ?hg (N := 8) ?hd (cs := #[.int .i64 0, .int .i64 0, .bool false]) (t := 74) ?hr ?_; (case hd => rfl); (case hg => rfl); (case hr => first | (go_simp; done) | (go_simp; rfl)); intro gb216 hg w7 hbox hb; have n0_ := Aside0.mk (below_step (by repeat (first | (with_reducible first | exact HB.out | apply below_alloc | apply pw_below_drewN | apply below_drew1) | exact HB.out)) hb); have n1_ := Aside0.mk (hbox); have n2_ := Aside0.mk ((by rw [hg]; exact (below_size (by repeat (first | (with_reducible first | exact HB.out | apply below_alloc | apply pw_below_drewN | apply below_drew1) | exact HB.out))) : w.heap.size ≤ gb216)); have n3_ := n2_; clear HB; have HB := n0_; have BK216 := n1_; have GW216 := n2_; have GE216 := n3_; clear n0_ n1_ n2_ n3_; clear hb hbox hg; have hcz8_0 : w7.cell? ⟨gb216, 0, none⟩ = some (.int .i64 0) := (blk_cell BK216.out 0).trans rfl; have hcz8_1 : w7.cell? ⟨gb216, 1, none⟩ = some (.int .i64 0) := (blk_cell BK216.out 1).trans rfl; have hcz8_2 : w7.cell? ⟨gb216, 2, none⟩ = some (.bool false) := (blk_cell BK216.out 2).trans rfl; have hfz8_0 := blk_frozen BK216.out 0; have hfz8_1 := blk_frozen BK216.out 1; have hfz8_2 := blk_frozen BK216.out 2))
   refine bodyPost_ret (results_cell_row rfl _ _ gb216 74 #[.int .i64 a0, .int .i64 a1, .bool true] (0, 0) _ rfl (by (with_reducible repeat (first | apply blk_drewN | apply blk_drew | apply blk_alloc)); refine blk_put (cs := #[.int .i64 a0, .int .i64 a1, .bool false]) ?_ 2 _ rfl; (with_reducible repeat (first | apply blk_drewN | apply blk_drew | apply blk_alloc)); refine blk_put (cs := #[.int .i64 a0, .int .i64 0, .bool false]) ?_ 1 _ rfl; (with_reducible repeat (first | apply blk_drewN | apply blk_drew | apply blk_alloc)); refine blk_put (cs := #[.int .i64 0, .int .i64 0, .bool false]) ?_ 0 _ rfl; (with_reducible repeat (first | apply blk_drewN | apply blk_drew | apply blk_alloc)); exact BK216.out) Tryd.underlying74 rfl (by kernel_rfl)) rfl ?_
   exact ⟨by first | rfl | (simp [errW_none, errW_some] <;> rfl) | (simp [*, errW_none, errW_some] <;> rfl), by repeat (first | (with_reducible first | exact HB.out | apply below_alloc | apply pw_below_drewN | apply below_drew1 | refine below_set ?_ GE216.out) | exact HB.out)⟩
  ·replace c6 := Bool.eq_false_iff.mpr c6
   subst c6
   have H1 : (some (a0, a1, false)) = some (r1, r2, r3) := by rw [if_neg (show ¬ (false = true) by decide)] at H; exact H
   clear H
   have H := H1
   clear H1
   simp only [Option.some.injEq, Prod.mk.injEq] at H
   obtain ⟨rfl, rfl, rfl⟩ := H
   go_enter Tryd.func33, Tryd.ntmps33
   go_wp2_with (first | ((with_reducible refine gate_dst (N := 8) rfl ?_); refine box_event ?hg (N := 8) ?hd (cs := #[.int .i64 0, .int .i64 0, .bool false]) (t := 74) ?hr ?_; (case hd => rfl); (case hg => rfl); (case hr => first | (go_simp; done) | (go_simp; rfl)); intro gb216 hg w9 hbox hb; have n0_ := Aside0.mk (below_step (by repeat (first | (with_reducible first | exact HB.out | apply below_alloc | apply pw_below_drewN | apply below_drew1) | exact HB.out)) hb); have n1_ := Aside0.mk (hbox); have n2_ := Aside0.mk ((by rw [hg]; exact (below_size (by repeat (first | (with_reducible first | exact HB.out | apply below_alloc | apply pw_below_drewN | apply below_drew1) | exact HB.out))) : w.heap.size ≤ gb216)); have n3_ := n2_; clear HB; have HB := n0_; have BK216 := n1_; have GW216 := n2_; have GE216 := n3_; clear n0_ n1_ n2_ n3_; clear hb hbox hg; have hcz10_0 : w9.cell? ⟨gb216, 0, none⟩ = some (.int .i64 0) := (blk_cell BK216.out 0).trans rfl; have hcz10_1 : w9.cell? ⟨gb216, 1, none⟩ = some (.int .i64 0) := (blk_cell BK216.out 1).trans rfl; have hcz10_2 : w9.cell? ⟨gb216, 2, none⟩ = some (.bool false) := (blk_cell BK216.out 2).trans rfl; have hfz10_0 := blk_frozen BK216.out 0; have hfz10_1 := blk_frozen BK216.out 1; have hfz10_2 := blk_frozen BK216.out 2))
   refine bodyPost_ret (results_cell_row rfl _ _ gb216 74 #[.int .i64 a0, .int .i64 a1, .bool false] (0, 0) _ rfl (by (with_reducible repeat (first | apply blk_drewN | apply blk_drew | apply blk_alloc)); refine blk_put (cs := #[.int .i64 a0, .int .i64 a1, .bool false]) ?_ 2 _ rfl; (with_reducible repeat (first | apply blk_drewN | apply blk_drew | apply blk_alloc)); refine blk_put (cs := #[.int .i64 a0, .int .i64 0, .bool false]) ?_ 1 _ rfl; (with_reducible repeat (first | apply blk_drewN | apply blk_drew | apply blk_alloc)); refine blk_put (cs := #[.int .i64 0, .int .i64 0, .bool false]) ?_ 0 _ rfl; (with_reducible repeat (first | apply blk_drewN | apply blk_drew | apply blk_alloc)); exact BK216.out) Tryd.underlying74 rfl (by kernel_rfl)) rfl ?_
   exact ⟨by first | rfl | (simp [errW_none, errW_some] <;> rfl) | (simp [*, errW_none, errW_some] <;> rfl), by repeat (first | (with_reducible first | exact HB.out | apply below_alloc | apply pw_below_drewN | apply below_drew1 | refine below_set ?_ GE216.out) | exact HB.out)⟩
 ·replace c5 := Bool.eq_false_iff.mpr c5
  subst c5
  have H1 : (some (a0, a1, !a3)) = some (r1, r2, r3) := by rw [if_neg (show ¬ (false = true) by decide)] at H; exact H
  clear H
  have H := H1
  clear H1
  simp only [Option.some.injEq, Prod.mk.injEq] at H
  obtain ⟨rfl, rfl, rfl⟩ := H
  go_enter Tryd.func33, Tryd.ntmps33
  go_wp2_with (first | ((with_reducible refine gate_dst (N := 8) rfl ?_); refine box_event ?hg (N := 8) ?hd (cs := #[.int .i64 0, .int .i64 0, .bool false]) (t := 74) ?hr ?_; (case hd => rfl); (case hg => rfl); (case hr => first | (go_simp; done) | (go_simp; rfl)); intro gb216 hg w11 hbox hb; have n0_ := Aside0.mk (below_step (by repeat (first | (with_reducible first | exact HB.out | apply below_alloc | apply pw_below_drewN | apply below_drew1) | exact HB.out)) hb); have n1_ := Aside0.mk (hbox); have n2_ := Aside0.mk ((by rw [hg]; exact (below_size (by repeat (first | (with_reducible first | exact HB.out | apply below_alloc | apply pw_below_drewN | apply below_drew1) | exact HB.out))) : w.heap.size ≤ gb216)); have n3_ := n2_; clear HB; have HB := n0_; have BK216 := n1_; have GW216 := n2_; have GE216 := n3_; clear n0_ n1_ n2_ n3_; clear hb hbox hg; have hcz12_0 : w11.cell? ⟨gb216, 0, none⟩ = some (.int .i64 0) := (blk_cell BK216.out 0).trans rfl; have hcz12_1 : w11.cell? ⟨gb216, 1, none⟩ = some (.int .i64 0) := (blk_cell BK216.out 1).trans rfl; have hcz12_2 : w11.cell? ⟨gb216, 2, none⟩ = some (.bool false) := (blk_cell BK216.out 2).trans rfl; have hfz12_0 := blk_frozen BK216.out 0; have hfz12_1 := blk_frozen BK216.out 1; have hfz12_2 := blk_frozen BK216.out 2))
  refine bodyPost_ret (results_cell_row rfl _ _ gb216 74 #[.int .i64 a0, .int .i64 a1, .bool (!a3)] (0, 0) _ rfl (by (with_reducible repeat (first | apply blk_drewN | apply blk_drew | apply blk_alloc)); refine blk_put (cs := #[.int .i64 a0, .int .i64 a1, .bool false]) ?_ 2 _ rfl; (with_reducible repeat (first | apply blk_drewN | apply blk_drew | apply blk_alloc)); refine blk_put (cs := #[.int .i64 a0, .int .i64 0, .bool false]) ?_ 1 _ rfl; (with_reducible repeat (first | apply blk_drewN | apply blk_drew | apply blk_alloc)); refine blk_put (cs := #[.int .i64 0, .int .i64 0, .bool false]) ?_ 0 _ rfl; (with_reducible repeat (first | apply blk_drewN | apply blk_drew | apply blk_alloc)); exact BK216.out) Tryd.underlying74 rfl (by kernel_rfl)) rfl ?_
  exact ⟨by first | rfl | (simp [errW_none, errW_some] <;> rfl) | (simp [*, errW_none, errW_some] <;> rfl), by repeat (first | (with_reducible first | exact HB.out | apply below_alloc | apply pw_below_drewN | apply below_drew1 | refine below_set ?_ GE216.out) | exact HB.out)⟩

end Go.Proofs.YtdpgdnbknmncfaaDoor.Print
