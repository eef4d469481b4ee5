-- Written by a program of this session's, over the kit's printer turned by wip/tools/mkprint.py. Lean checks it.
import Derived.Test.YtdpgdnbknmncfaaDoorPrint0
import Derived.Test.YtdpgdnbknmncfaaDoorPrint2
import Derived.Test.YtdpgdnbknmncfaaDoorPrint3
import Derived.Test.YtdpgdnbknmncfaaDoorPrint4
namespace Go.Proofs.YtdpgdnbknmncfaaDoor.Print
open Go.RowKit Go.Proofs.YtdpgdnbknmncfaaDoorW.PrintWords Go.Proofs.YtdpgdnbknmncfaaDoorW.PrintLast Go.Proofs.YtdpgdnbknmncfaaDoorW.PrintMore
attribute [local go_sem] max2_int min2_int max_two min_two max_three min_three max_four min_four   -- for this text's walks alone
set_option linter.unusedVariables false
set_option linter.unusedSimpArgs false
attribute [local go_sem high] YtdpgdnbknmncfaaDoorX.unary_xor_u16 YtdpgdnbknmncfaaDoorX.unary_xor_u8

/-! ### frame_Put: function 17 -/
def frame_Put.j0 : Nat → Bool → ByteArray → Int → Bool → Int → Int → Bool → Int → Bool → Int → Int → ByteArray → Option (ByteArray × Int)
 | 0, _, _, _, _, _, _, _, _, _, _, _, _ => none
 | k + 1, x1, x6, x7, x31, x167000, x167001, x167002, x167003, x167004, x167005, x167006, x167007 => if x31 = true then (some ((⟨#[]⟩ : ByteArray), 4)) else (if x7 = 0 then ((addr_Make.f x167000 x167001 x167002 x1).bind fun bt170 => ((addr_Put.f k bt170.1 bt170.2.1 bt170.2.2).bind fun bt173 => (if bt173.2 = 0 then ((frame_Carries.f k x167003 (x167007.size : Int)).bind fun t175 => (if t175 = true then (if bt173.1.size + x6.size ≤ 9223372036854775807 then (if (bt173.1 ++ x6).size + x167007.size ≤ 9223372036854775807 then ((fcs_Seal.f k ((bt173.1 ++ x6) ++ x167007)).bind fun t176 => (some (t176, 0))) else (none)) else (none)) else (some ((⟨#[]⟩ : ByteArray), 5)))) else (some ((⟨#[]⟩ : ByteArray), bt173.2))))) else (some ((⟨#[]⟩ : ByteArray), x7)))
def frame_Put.f (k : Nat) (a0_0 : Int) (a0_1 : Int) (a0_2 : Bool) (a0_3 : Int) (a0_4 : Bool) (a0_5 : Int) (a0_6 : Int) (a0_7 : ByteArray) (a1 : Bool) : Option (ByteArray × Int) := (ctrl_Put.f k a0_3 a0_4 a0_5 a0_6).bind fun bt167 => (if bt167.2 = 4 then (frame_Put.j0 k a1 bt167.1 bt167.2 true a0_0 a0_1 a0_2 a0_3 a0_4 a0_5 a0_6 a0_7) else ((frame_May.f a0_3 a0_2).bind fun t169 => (frame_Put.j0 k a1 bt167.1 bt167.2 (!t169) a0_0 a0_1 a0_2 a0_3 a0_4 a0_5 a0_6 a0_7)))
theorem frame_Put.mono_l : ∀ k, (∀ y0 y1 y2 y3 y4 y5 y6 y7 y8 y9 y10 y11, LeO (frame_Put.j0 k y0 y1 y2 y3 y4 y5 y6 y7 y8 y9 y10 y11) (frame_Put.j0 (k + 1) y0 y1 y2 y3 y4 y5 y6 y7 y8 y9 y10 y11))
 | 0 => fun _ _ _ _ _ _ _ _ _ _ _ _ r h => by simp [frame_Put.j0] at h
 | k + 1 => by
  have ih0 := frame_Put.mono_l k
  ·intro y0 y1 y2 y3 y4 y5 y6 y7 y8 y9 y10 y11
   unfold frame_Put.j0
   repeat' first
   | (with_reducible exact ih0 _ _ _ _ _ _ _ _ _ _ _ _)
   | (with_reducible exact addr_Put.mono _ _ _ _)
   | (with_reducible exact ctrl_Put.mono _ _ _ _ _)
   | (with_reducible exact fcs_Seal.mono _ _)
   | (with_reducible exact frame_Carries.mono _ _ _)
   | (with_reducible exact LeO.refl _)
   | (with_reducible exact LeO.none _)
   | (with_reducible refine LeO.ite ?_ ?_)
   | (with_reducible refine LeO.bind ?_ (fun _ => ?_))
   | exact ih0 _ _ _ _ _ _ _ _ _ _ _ _
   | exact addr_Put.mono _ _ _ _
   | exact ctrl_Put.mono _ _ _ _ _
   | exact fcs_Seal.mono _ _
   | exact frame_Carries.mono _ _ _
   | exact LeO.none _
   | refine LeO.ite ?_ ?_
   | refine LeO.bind ?_ (fun _ => ?_)
theorem frame_Put.mono : ∀ a0 a1 a2 a3 a4 a5 a6 a7 a8 k, LeO (frame_Put.f k a0 a1 a2 a3 a4 a5 a6 a7 a8) (frame_Put.f (k + 1) a0 a1 a2 a3 a4 a5 a6 a7 a8) := by
 intro a0 a1 a2 a3 a4 a5 a6 a7 a8 k
 have ih0 := frame_Put.mono_l k
 unfold frame_Put.f
 repeat' first
   | (with_reducible exact ih0 _ _ _ _ _ _ _ _ _ _ _ _)
   | (with_reducible exact addr_Put.mono _ _ _ _)
   | (with_reducible exact ctrl_Put.mono _ _ _ _ _)
   | (with_reducible exact fcs_Seal.mono _ _)
   | (with_reducible exact frame_Carries.mono _ _ _)
   | (with_reducible exact LeO.refl _)
   | (with_reducible exact LeO.none _)
   | (with_reducible refine LeO.ite ?_ ?_)
   | (with_reducible refine LeO.bind ?_ (fun _ => ?_))
   | exact ih0 _ _ _ _ _ _ _ _ _ _ _ _
   | exact addr_Put.mono _ _ _ _
   | exact ctrl_Put.mono _ _ _ _ _
   | exact fcs_Seal.mono _ _
   | exact frame_Carries.mono _ _ _
   | exact LeO.none _
   | refine LeO.ite ?_ ?_
   | refine LeO.bind ?_ (fun _ => ?_)
set_option maxHeartbeats 8000000 in
set_option maxRecDepth 100000 in
theorem frame_Put.calls (k : Nat) (a0_0 : Int) (a0_1 : Int) (a0_2 : Bool) (a0_3 : Int) (a0_4 : Bool) (a0_5 : Int) (a0_6 : Int) (a0_7 : ByteArray) (a1 : Bool) (r1 : ByteArray) (r2 : Int) (w : World) (hL : YtdpgdnbknmncfaaDoorX.Laid w) (h : frame_Put.f k a0_0 a0_1 a0_2 a0_3 a0_4 a0_5 a0_6 a0_7 a1 = some (r1, r2)) :
  Calls Tryd.prog 17 #[.agg #[.int .i64 a0_0, .int .i64 a0_1, .bool a0_2, .int .i64 a0_3, .bool a0_4, .int .i64 a0_5, .int .i64 a0_6, .string a0_7], .bool a1] w fun e w' => e = .returned (.tuple #[.string r1, .int .i64 r2]) ∧ Below w.heap.size w w' := by
 have hu33 := Tryd.underlying33
 have hu65 := Tryd.underlying65
 have hu31 := Tryd.underlying31
 have HL := Aside0.mk hL
 have HGfirst := Aside0.mk (YtdpgdnbknmncfaaDoorX.Laid_HGfirst hL)
 have HGfirst1 := Aside0.mk (YtdpgdnbknmncfaaDoorX.Laid_HGfirst1 hL)
 have HGnames := Aside0.mk (YtdpgdnbknmncfaaDoorX.Laid_HGnames hL)
 have HCfirst := Aside0.mk (show YtdpgdnbknmncfaaDoorX.glFirst.length ≤ 10 by decide)
 have HCfirst1 := Aside0.mk (show YtdpgdnbknmncfaaDoorX.glFirst1.length ≤ 9 by decide)
 have HCnames := Aside0.mk (show YtdpgdnbknmncfaaDoorX.glNames.length ≤ 10 by decide)
 clear hL
 have HB := Aside0.mk (Below.refl w.heap.size w)
 have H : ((ctrl_Put.f k a0_3 a0_4 a0_5 a0_6).bind fun bt167 => (if bt167.2 = 4 then (frame_Put.j0 k a1 bt167.1 bt167.2 true a0_0 a0_1 a0_2 a0_3 a0_4 a0_5 a0_6 a0_7) else ((frame_May.f a0_3 a0_2).bind fun t169 => (frame_Put.j0 k a1 bt167.1 bt167.2 (!t169) a0_0 a0_1 a0_2 a0_3 a0_4 a0_5 a0_6 a0_7)))) = some (r1, r2) := h
 clear h
 replace H := Option.bind_eq_some_iff.mp H
 obtain ⟨⟨t167, t168⟩, A30, H⟩ := H
 replace H : (if t168 = 4 then (frame_Put.j0 k a1 t167 t168 true a0_0 a0_1 a0_2 a0_3 a0_4 a0_5 a0_6 a0_7) else ((frame_May.f a0_3 a0_2).bind fun t169 => (frame_Put.j0 k a1 t167 t168 (!t169) a0_0 a0_1 a0_2 a0_3 a0_4 a0_5 a0_6 a0_7))) = some (r1, r2) := H
 have A3 := Aside0.mk A30
 clear A30
 have HC4 := Aside0.mk H
 clear H
 go_enter Tryd.func17, Tryd.ntmps17
 go_upto_region 2 with (first | ((with_reducible refine gate_dst (N := 2) rfl ?_); refine box_event ?hg (N := 2) ?hd (cs := #[.int .i64 a0_0, .int .i64 a0_1, .bool a0_2, .int .i64 a0_3, .bool a0_4, .int .i64 a0_5, .int .i64 a0_6, .string a0_7]) (t := 33) ?hr ?_; (case hd => rfl); (case hg => rfl); (case hr => first | (go_simp; done) | (go_simp; rfl)); intro gb166 hg w5 hbox hb; have n0_ := Aside0.mk (below_step (by repeat (first | (with_reducible first | exact HB.out | apply below_alloc | apply pw_below_drewN | apply below_drew1) | exact HB.out)) hb); have n1_ := Aside0.mk (hbox); have n2_ := Aside0.mk ((by rw [hg]; exact (below_size (by repeat (first | (with_reducible first | exact HB.out | apply below_alloc | apply pw_below_drewN | apply below_drew1) | exact HB.out))) : w.heap.size ≤ gb166)); have n3_ := n2_; clear HB; have HB := n0_; have BK166 := n1_; have GW166 := n2_; have GE166 := n3_; clear n0_ n1_ n2_ n3_; clear hb hbox hg; have hcz6_0 : w5.cell? ⟨gb166, 0, none⟩ = some (.int .i64 a0_0) := (blk_cell BK166.out 0).trans rfl; have hcz6_1 : w5.cell? ⟨gb166, 1, none⟩ = some (.int .i64 a0_1) := (blk_cell BK166.out 1).trans rfl; have hcz6_2 : w5.cell? ⟨gb166, 2, none⟩ = some (.bool a0_2) := (blk_cell BK166.out 2).trans rfl; have hcz6_3 : w5.cell? ⟨gb166, 3, none⟩ = some (.int .i64 a0_3) := (blk_cell BK166.out 3).trans rfl; have hcz6_4 : w5.cell? ⟨gb166, 4, none⟩ = some (.bool a0_4) := (blk_cell BK166.out 4).trans rfl; have hcz6_5 : w5.cell? ⟨gb166, 5, none⟩ = some (.int .i64 a0_5) := (blk_cell BK166.out 5).trans rfl; have hcz6_6 : w5.cell? ⟨gb166, 6, none⟩ = some (.int .i64 a0_6) := (blk_cell BK166.out 6).trans rfl; have hcz6_7 : w5.cell? ⟨gb166, 7, none⟩ = some (.string a0_7) := (blk_cell BK166.out 7).trans rfl; have hfz6_0 := blk_frozen BK166.out 0; have hfz6_1 := blk_frozen BK166.out 1; have hfz6_2 := blk_frozen BK166.out 2; have hfz6_3 := blk_frozen BK166.out 3; have hfz6_4 := blk_frozen BK166.out 4; have hfz6_5 := blk_frozen BK166.out 5; have hfz6_6 := blk_frozen BK166.out 6; have hfz6_7 := blk_frozen BK166.out 7) | ((with_reducible refine gate_callee (f := 29) rfl ?_); refine goesL_ (some 19) rfl rfl Tryd.func29 (by kernel_rfl) rfl #[.agg #[.int .i64 a0_3, .bool a0_4, .int .i64 a0_5, .int .i64 a0_6]] rfl (by (try simp only [List.map_toArray, List.map_cons, List.map_nil]); first | done | rfl) ?_; (with_reducible refine (ctrl_Put.calls k a0_3 a0_4 a0_5 a0_6 t167 t168 _ ?side1 A3.out).mono ?_); (case side1 => first | (with_reducible exact HL.out) | (with_reducible exact YtdpgdnbknmncfaaDoorX.Laid_drewN HL.out _) | exact YtdpgdnbknmncfaaDoorX.Laid_below HL.out (by repeat (first | (with_reducible first | exact HB.out | apply below_alloc | apply pw_below_drewN | apply below_drew1 | refine below_set ?_ GE166.out) | exact HB.out))); rintro e w7 ⟨rfl, hb⟩; refine ⟨_, rfl, ?_⟩; have n0_ := Aside0.mk (blk_below (g := gb166) (o := .cells #[.int .i64 a0_0, .int .i64 a0_1, .bool a0_2, .int .i64 a0_3, .bool a0_4, .int .i64 a0_5, .int .i64 a0_6, .string a0_7] 33 (0, 0)) (by (with_reducible repeat (first | apply blk_drewN | apply blk_drew | apply blk_alloc)); exact BK166.out) hb); have n1_ := Aside0.mk (below_step (by repeat (first | (with_reducible first | exact HB.out | apply below_alloc | apply pw_below_drewN | apply below_drew1 | refine below_set ?_ GE166.out) | exact HB.out)) hb); clear BK166; clear HB; have BK166 := n0_; have HB := n1_; clear n0_ n1_; (try clear hb); (try clear hb2); (try clear hk); (try clear hi)))
 (try simp only [Act.put, List.setIfInBounds_toArray, List.set_cons_zero, List.set_cons_succ])
 go_cut [31] (fun v31 wc => ∃ (kq : Nat) (x31_3 : Bool), v31 = .bool x31_3 ∧ Aside0 (frame_Put.j0 kq a1 t167 t168 x31_3 a0_0 a0_1 a0_2 a0_3 a0_4 a0_5 a0_6 a0_7 = some (r1, r2)) ∧ Aside0 (kq ≤ k) ∧ Aside0 (wc.heap[gb166]? = some (.cells #[.int .i64 a0_0, .int .i64 a0_1, .bool a0_2, .int .i64 a0_3, .bool a0_4, .int .i64 a0_5, .int .i64 a0_6, .string a0_7] 33 (0, 0))) ∧ Aside0 (Below w.heap.size w wc))
 case first =>
  have H := HC4.out
  clear HC4
  by_cases c8 : t168 = 4
  ·rw [if_pos c8] at H
   have c8b0 : (t168 == 4) = true := beq_iff_eq.mpr c8
   have c8b1 : (t168 != 4) = false := bne_eq_false_iff_eq.mpr c8
   clear c8
   (first | rw [c8b0] | (simp only [i64_w, i32_w]; rw [c8b0]) | skip)
   have H' := Aside0.mk H
   clear H
   go_wp2
   go_meet
   case rel => exact ⟨_, (true), (by first | rfl | (simp; done) | (simp [*]; done)), H', ⟨by first | omega | exact Nat.le_refl _⟩, ⟨by (with_reducible repeat (first | apply blk_drewN | apply blk_drew | apply blk_alloc)); exact BK166.out⟩, ⟨by repeat (first | (with_reducible first | exact HB.out | apply below_alloc | apply pw_below_drewN | apply below_drew1 | refine below_set ?_ GE166.out) | exact HB.out)⟩⟩
  ·rw [if_neg c8] at H
   have c8b0 : (t168 == 4) = false := beq_eq_false_iff_ne.mpr c8
   have c8b1 : (t168 != 4) = true := bne_iff_ne.mpr c8
   (first | rw [c8b0] | (simp only [i64_w, i32_w]; rw [c8b0]) | skip)
   replace H := Option.bind_eq_some_iff.mp H
   obtain ⟨t169, A90, H⟩ := H
   replace H : (frame_Put.j0 k a1 t167 t168 (!t169) a0_0 a0_1 a0_2 a0_3 a0_4 a0_5 a0_6 a0_7) = some (r1, r2) := H
   have A9 := Aside0.mk A90
   clear A90
   have H' := Aside0.mk H
   clear H
   have hcz10_0 : w7.cell? ⟨gb166, 0, none⟩ = some (.int .i64 a0_0) := (blk_cell BK166.out 0).trans rfl
   have hcz10_1 : w7.cell? ⟨gb166, 1, none⟩ = some (.int .i64 a0_1) := (blk_cell BK166.out 1).trans rfl
   have hcz10_2 : w7.cell? ⟨gb166, 2, none⟩ = some (.bool a0_2) := (blk_cell BK166.out 2).trans rfl
   have hcz10_3 : w7.cell? ⟨gb166, 3, none⟩ = some (.int .i64 a0_3) := (blk_cell BK166.out 3).trans rfl
   have hcz10_4 : w7.cell? ⟨gb166, 4, none⟩ = some (.bool a0_4) := (blk_cell BK166.out 4).trans rfl
   have hcz10_5 : w7.cell? ⟨gb166, 5, none⟩ = some (.int .i64 a0_5) := (blk_cell BK166.out 5).trans rfl
   have hcz10_6 : w7.cell? ⟨gb166, 6, none⟩ = some (.int .i64 a0_6) := (blk_cell BK166.out 6).trans rfl
   have hcz10_7 : w7.cell? ⟨gb166, 7, none⟩ = some (.string a0_7) := (blk_cell BK166.out 7).trans rfl
   have hfz10_0 := blk_frozen BK166.out 0
   have hfz10_1 := blk_frozen BK166.out 1
   have hfz10_2 := blk_frozen BK166.out 2
   have hfz10_3 := blk_frozen BK166.out 3
   have hfz10_4 := blk_frozen BK166.out 4
   have hfz10_5 := blk_frozen BK166.out 5
   have hfz10_6 := blk_frozen BK166.out 6
   have hfz10_7 := blk_frozen BK166.out 7
   go_wp2_with (first | (go_at_call 11; (with_reducible refine (frame_May.calls a0_3 a0_2 t169 _ A9.out).mono ?_); rintro e w11 ⟨rfl, hb⟩; have n0_ := Aside0.mk (blk_below (g := gb166) (o := .cells #[.int .i64 a0_0, .int .i64 a0_1, .bool a0_2, .int .i64 a0_3, .bool a0_4, .int .i64 a0_5, .int .i64 a0_6, .string a0_7] 33 (0, 0)) (by (with_reducible repeat (first | apply blk_drewN | apply blk_drew | apply blk_alloc)); exact BK166.out) hb); have n1_ := Aside0.mk (below_step (by repeat (first | (with_reducible first | exact HB.out | apply below_alloc | apply pw_below_drewN | apply below_drew1 | refine below_set ?_ GE166.out) | exact HB.out)) hb); clear BK166; clear HB; have BK166 := n0_; have HB := n1_; clear n0_ n1_; (try clear hb); (try clear hb2); (try clear hk); (try clear hi)))
   go_meet
   case rel => exact ⟨_, (!t169), (by first | rfl | (simp; done) | (simp [*]; done)), H', ⟨by first | omega | exact Nat.le_refl _⟩, ⟨by (with_reducible repeat (first | apply blk_drewN | apply blk_drew | apply blk_alloc)); exact BK166.out⟩, ⟨by repeat (first | (with_reducible first | exact HB.out | apply below_alloc | apply pw_below_drewN | apply below_drew1 | refine below_set ?_ GE166.out) | exact HB.out)⟩⟩
 case rest =>
  clear HC4
  try clear c1
  try clear c2
  try clear p2
  try clear c8
  try clear c8b0
  try clear c8b1
  try clear hcz10_0
  try clear hcz10_1
  try clear hcz10_2
  try clear hcz10_3
  try clear hcz10_4
  try clear hcz10_5
  try clear hcz10_6
  try clear hcz10_7
  try clear hcz6_0
  try clear hcz6_1
  try clear hcz6_2
  try clear hcz6_3
  try clear hcz6_4
  try clear hcz6_5
  try clear hcz6_6
  try clear hcz6_7
  try clear hfz10_0
  try clear hfz10_1
  try clear hfz10_2
  try clear hfz10_3
  try clear hfz10_4
  try clear hfz10_5
  try clear hfz10_6
  try clear hfz10_7
  try clear hfz6_0
  try clear hfz6_1
  try clear hfz6_2
  try clear hfz6_3
  try clear hfz6_4
  try clear hfz6_5
  try clear hfz6_6
  try clear hfz6_7
  obtain ⟨kq, x31_3, rfl, HA, HJ3, BK166, HB⟩ := hcut
  cases kq with
  | zero => exact absurd HA.out (by simp [frame_Put.j0])
  | succ kj3 =>
   have H := HA.out
   clear HA
   simp only [frame_Put.j0] at H
   by_cases c12 : x31_3 = true
   ·subst c12
    have H1 : (some ((⟨#[]⟩ : ByteArray), 4)) = some (r1, r2) := by rw [if_pos rfl] at H; exact H
    clear H
    have H := H1
    clear H1
    simp only [Option.some.injEq, Prod.mk.injEq] at H
    obtain ⟨rfl, rfl⟩ := H
    go_wp2
    go_ret2
    exact ⟨by first | rfl | (simp [errW_none, errW_some] <;> rfl) | (simp [*, errW_none, errW_some] <;> rfl), by repeat (first | (with_reducible first | exact HB.out | apply below_alloc | apply pw_below_drewN | apply below_drew1 | refine below_set ?_ GE166.out) | exact HB.out)⟩
   ·replace c12 := Bool.eq_false_iff.mpr c12
    subst c12
    have H1 : (if t168 = 0 then ((addr_Make.f a0_0 a0_1 a0_2 a1).bind fun bt170 => ((addr_Put.f kj3 bt170.1 bt170.2.1 bt170.2.2).bind fun bt173 => (if bt173.2 = 0 then ((frame_Carries.f kj3 a0_3 (a0_7.size : Int)).bind fun t175 => (if t175 = true then (if bt173.1.size + t167.size ≤ 9223372036854775807 then (if (bt173.1 ++ t167).size + a0_7.size ≤ 9223372036854775807 then ((fcs_Seal.f kj3 ((bt173.1 ++ t167) ++ a0_7)).bind fun t176 => (some (t176, 0))) else (none)) else (none)) else (some ((⟨#[]⟩ : ByteArray), 5)))) else (some ((⟨#[]⟩ : ByteArray), bt173.2))))) else (some ((⟨#[]⟩ : ByteArray), t168))) = some (r1, r2) := by rw [if_neg (show ¬ (false = true) by decide)] at H; exact H
    clear H
    have H := H1
    clear H1
    by_cases c13 : t168 = 0
    ·rw [if_pos c13] at H
     have c13b0 : (t168 == 0) = true := beq_iff_eq.mpr c13
     have c13b1 : (t168 != 0) = false := bne_eq_false_iff_eq.mpr c13
     clear c13
     replace H := Option.bind_eq_some_iff.mp H
     obtain ⟨⟨t170, t171, t172⟩, A140, H⟩ := H
     replace H : ((addr_Put.f kj3 t170 t171 t172).bind fun bt173 => (if bt173.2 = 0 then ((frame_Carries.f kj3 a0_3 (a0_7.size : Int)).bind fun t175 => (if t175 = true then (if bt173.1.size + t167.size ≤ 9223372036854775807 then (if (bt173.1 ++ t167).size + a0_7.size ≤ 9223372036854775807 then ((fcs_Seal.f kj3 ((bt173.1 ++ t167) ++ a0_7)).bind fun t176 => (some (t176, 0))) else (none)) else (none)) else (some ((⟨#[]⟩ : ByteArray), 5)))) else (some ((⟨#[]⟩ : ByteArray), bt173.2)))) = some (r1, r2) := H
     have A14 := Aside0.mk A140
     clear A140
     replace H := Option.bind_eq_some_iff.mp H
     obtain ⟨⟨t173, t174⟩, A150, H⟩ := H
     replace H : (if t174 = 0 then ((frame_Carries.f kj3 a0_3 (a0_7.size : Int)).bind fun t175 => (if t175 = true then (if t173.size + t167.size ≤ 9223372036854775807 then (if (t173 ++ t167).size + a0_7.size ≤ 9223372036854775807 then ((fcs_Seal.f kj3 ((t173 ++ t167) ++ a0_7)).bind fun t176 => (some (t176, 0))) else (none)) else (none)) else (some ((⟨#[]⟩ : ByteArray), 5)))) else (some ((⟨#[]⟩ : ByteArray), t174))) = some (r1, r2) := H
     have A15 := Aside0.mk A150
     clear A150
     by_cases c16 : t174 = 0
     ·rw [if_pos c16] at H
      have c16b0 : (t174 == 0) = true := beq_iff_eq.mpr c16
      have c16b1 : (t174 != 0) = false := bne_eq_false_iff_eq.mpr c16
      clear c16
      replace H := Option.bind_eq_some_iff.mp H
      obtain ⟨t175, A170, H⟩ := H
      replace H : (if t175 = true then (if t173.size + t167.size ≤ 9223372036854775807 then (if (t173 ++ t167).size + a0_7.size ≤ 9223372036854775807 then ((fcs_Seal.f kj3 ((t173 ++ t167) ++ a0_7)).bind fun t176 => (some (t176, 0))) else (none)) else (none)) else (some ((⟨#[]⟩ : ByteArray), 5))) = some (r1, r2) := H
      have A17 := Aside0.mk A170
      clear A170
      by_cases c18 : t175 = true
      ·subst c18
       have H1 : (if t173.size + t167.size ≤ 9223372036854775807 then (if (t173 ++ t167).size + a0_7.size ≤ 9223372036854775807 then ((fcs_Seal.f kj3 ((t173 ++ t167) ++ a0_7)).bind fun t176 => (some (t176, 0))) else (none)) else (none)) = some (r1, r2) := by rw [if_pos rfl] at H; exact H
       clear H
       have H := H1
       clear H1
       by_cases c19 : t173.size + t167.size ≤ 9223372036854775807
       ·rw [if_pos c19] at H
        have c19b0 := eq_true c19
        have c19b1 : decide (t173.size + t167.size ≤ 9223372036854775807) = true := decide_eq_true c19
        try have c19b2 : (9223372036854775807 < t173.size + t167.size) = False := eq_false (Nat.not_lt.2 c19)
        by_cases c20 : (t173 ++ t167).size + a0_7.size ≤ 9223372036854775807
        ·rw [if_pos c20] at H
         have c20b0 := eq_true c20
         have c20b1 : decide ((t173 ++ t167).size + a0_7.size ≤ 9223372036854775807) = true := decide_eq_true c20
         try have c20b2 : (9223372036854775807 < (t173 ++ t167).size + a0_7.size) = False := eq_false (Nat.not_lt.2 c20)
         replace H := Option.bind_eq_some_iff.mp H
         obtain ⟨t176, A210, H⟩ := H
         replace H : (some (t176, 0)) = some (r1, r2) := H
         have A21 := Aside0.mk A210
         clear A210
         simp only [Option.some.injEq, Prod.mk.injEq] at H
         obtain ⟨rfl, rfl⟩ := H
         have hcz22_0 : wc.cell? ⟨gb166, 0, none⟩ = some (.int .i64 a0_0) := (blk_cell BK166.out 0).trans rfl
         have hcz22_1 : wc.cell? ⟨gb166, 1, none⟩ = some (.int .i64 a0_1) := (blk_cell BK166.out 1).trans rfl
         have hcz22_2 : wc.cell? ⟨gb166, 2, none⟩ = some (.bool a0_2) := (blk_cell BK166.out 2).trans rfl
         have hcz22_3 : wc.cell? ⟨gb166, 3, none⟩ = some (.int .i64 a0_3) := (blk_cell BK166.out 3).trans rfl
         have hcz22_4 : wc.cell? ⟨gb166, 4, none⟩ = some (.bool a0_4) := (blk_cell BK166.out 4).trans rfl
         have hcz22_5 : wc.cell? ⟨gb166, 5, none⟩ = some (.int .i64 a0_5) := (blk_cell BK166.out 5).trans rfl
         have hcz22_6 : wc.cell? ⟨gb166, 6, none⟩ = some (.int .i64 a0_6) := (blk_cell BK166.out 6).trans rfl
         have hcz22_7 : wc.cell? ⟨gb166, 7, none⟩ = some (.string a0_7) := (blk_cell BK166.out 7).trans rfl
         have hfz22_0 := blk_frozen BK166.out 0
         have hfz22_1 := blk_frozen BK166.out 1
         have hfz22_2 := blk_frozen BK166.out 2
         have hfz22_3 := blk_frozen BK166.out 3
         have hfz22_4 := blk_frozen BK166.out 4
         have hfz22_5 := blk_frozen BK166.out 5
         have hfz22_6 := blk_frozen BK166.out 6
         have hfz22_7 := blk_frozen BK166.out 7
         go_wp2_with (first | ((with_reducible refine gate_callee (f := 31) rfl ?_); refine goesL_ (some 41) rfl rfl Tryd.func31 (by kernel_rfl) rfl #[.agg #[.int .i64 a0_0, .int .i64 a0_1], .bool a0_2, .bool a1] rfl (by (try simp only [List.map_toArray, List.map_cons, List.map_nil]); first | done | rfl) ?_; (with_reducible refine (addr_Make.calls a0_0 a0_1 a0_2 a1 t170 t171 t172 _ A14.out).mono ?_); rintro e w23 ⟨rfl, hb⟩; refine ⟨_, rfl, ?_⟩; have n0_ := Aside0.mk (blk_below (g := gb166) (o := .cells #[.int .i64 a0_0, .int .i64 a0_1, .bool a0_2, .int .i64 a0_3, .bool a0_4, .int .i64 a0_5, .int .i64 a0_6, .string a0_7] 33 (0, 0)) (by (with_reducible repeat (first | apply blk_drewN | apply blk_drew | apply blk_alloc)); exact BK166.out) hb); have n1_ := Aside0.mk (below_step (by repeat (first | (with_reducible first | exact HB.out | apply below_alloc | apply pw_below_drewN | apply below_drew1 | refine below_set ?_ GE166.out) | exact HB.out)) hb); clear BK166; clear HB; have BK166 := n0_; have HB := n1_; clear n0_ n1_; (try clear hb); (try clear hb2); (try clear hk); (try clear hi)) | ((with_reducible refine gate_callee (f := 30) rfl ?_); refine goesL_ (some 42) rfl rfl Tryd.func30 (by kernel_rfl) rfl #[.agg #[.int .i64 t170, .int .i64 t171, .bool t172]] rfl (by (try simp only [List.map_toArray, List.map_cons, List.map_nil]); first | done | rfl) ?_; (with_reducible refine (addr_Put.calls kj3 t170 t171 t172 t173 t174 _ A15.out).mono ?_); rintro e w24 ⟨rfl, hb⟩; refine ⟨_, rfl, ?_⟩; have n0_ := Aside0.mk (blk_below (g := gb166) (o := .cells #[.int .i64 a0_0, .int .i64 a0_1, .bool a0_2, .int .i64 a0_3, .bool a0_4, .int .i64 a0_5, .int .i64 a0_6, .string a0_7] 33 (0, 0)) (by (with_reducible repeat (first | apply blk_drewN | apply blk_drew | apply blk_alloc)); exact BK166.out) hb); have n1_ := Aside0.mk (below_step (by repeat (first | (with_reducible first | exact HB.out | apply below_alloc | apply pw_below_drewN | apply below_drew1 | refine below_set ?_ GE166.out) | exact HB.out)) hb); clear BK166; clear HB; have BK166 := n0_; have HB := n1_; clear n0_ n1_; (try clear hb); (try clear hb2); (try clear hk); (try clear hi); have hcz25_0 : w24.cell? ⟨gb166, 0, none⟩ = some (.int .i64 a0_0) := (blk_cell BK166.out 0).trans rfl; have hcz25_1 : w24.cell? ⟨gb166, 1, none⟩ = some (.int .i64 a0_1) := (blk_cell BK166.out 1).trans rfl; have hcz25_2 : w24.cell? ⟨gb166, 2, none⟩ = some (.bool a0_2) := (blk_cell BK166.out 2).trans rfl; have hcz25_3 : w24.cell? ⟨gb166, 3, none⟩ = some (.int .i64 a0_3) := (blk_cell BK166.out 3).trans rfl; have hcz25_4 : w24.cell? ⟨gb166, 4, none⟩ = some (.bool a0_4) := (blk_cell BK166.out 4).trans rfl; have hcz25_5 : w24.cell? ⟨gb166, 5, none⟩ = some (.int .i64 a0_5) := (blk_cell BK166.out 5).trans rfl; have hcz25_6 : w24.cell? ⟨gb166, 6, none⟩ = some (.int .i64 a0_6) := (blk_cell BK166.out 6).trans rfl; have hcz25_7 : w24.cell? ⟨gb166, 7, none⟩ = some (.string a0_7) := (blk_cell BK166.out 7).trans rfl; have hfz25_0 := blk_frozen BK166.out 0; have hfz25_1 := blk_frozen BK166.out 1; have hfz25_2 := blk_frozen BK166.out 2; have hfz25_3 := blk_frozen BK166.out 3; have hfz25_4 := blk_frozen BK166.out 4; have hfz25_5 := blk_frozen BK166.out 5; have hfz25_6 := blk_frozen BK166.out 6; have hfz25_7 := blk_frozen BK166.out 7) | ((with_reducible refine gate_callee (f := 13) rfl ?_); refine goesL_ (some 55) rfl rfl Tryd.func13 (by kernel_rfl) rfl #[.int .i64 a0_3, .int .i64 (a0_7.size : Int)] rfl (by (try simp only [List.map_toArray, List.map_cons, List.map_nil]); first | done | rfl) ?_; (with_reducible refine (frame_Carries.calls kj3 a0_3 (a0_7.size : Int) true _ ?side1 A17.out).mono ?_); (case side1 => first | (with_reducible exact HL.out) | (with_reducible exact YtdpgdnbknmncfaaDoorX.Laid_drewN HL.out _) | exact YtdpgdnbknmncfaaDoorX.Laid_below HL.out (by repeat (first | (with_reducible first | exact HB.out | apply below_alloc | apply pw_below_drewN | apply below_drew1 | refine below_set ?_ GE166.out) | exact HB.out))); rintro e w' ⟨rfl, ⟨nd, rfl⟩⟩; refine ⟨_, rfl, ?_⟩) | ((with_reducible refine gate_callee (f := 19) rfl ?_); refine goesL_ (some 63) rfl rfl Tryd.func19 (by kernel_rfl) rfl #[.string ((t173 ++ t167) ++ a0_7)] rfl (by (try simp only [List.map_toArray, List.map_cons, List.map_nil]); first | done | rfl) ?_; (with_reducible refine (fcs_Seal.calls kj3 ((t173 ++ t167) ++ a0_7) t176 _ A21.out).mono ?_); rintro e w26 ⟨rfl, hb⟩; refine ⟨_, rfl, ?_⟩; have n0_ := Aside0.mk (blk_below (g := gb166) (o := .cells #[.int .i64 a0_0, .int .i64 a0_1, .bool a0_2, .int .i64 a0_3, .bool a0_4, .int .i64 a0_5, .int .i64 a0_6, .string a0_7] 33 (0, 0)) (by (with_reducible repeat (first | apply blk_drewN | apply blk_drew | apply blk_alloc)); exact BK166.out) hb); have n1_ := Aside0.mk (below_step (by repeat (first | (with_reducible first | exact HB.out | apply below_alloc | apply pw_below_drewN | apply below_drew1 | refine below_set ?_ GE166.out) | exact HB.out)) hb); clear BK166; clear HB; have BK166 := n0_; have HB := n1_; clear n0_ n1_; (try clear hb); (try clear hb2); (try clear hk); (try clear hi)))
         go_ret2
         exact ⟨by first | rfl | (simp [errW_none, errW_some] <;> rfl) | (simp [*, errW_none, errW_some] <;> rfl), by repeat (first | (with_reducible first | exact HB.out | apply below_alloc | apply pw_below_drewN | apply below_drew1 | refine below_set ?_ GE166.out) | exact HB.out)⟩
        ·rw [if_neg c20] at H
         exact absurd H (by simp)
       ·rw [if_neg c19] at H
        exact absurd H (by simp)
      ·replace c18 := Bool.eq_false_iff.mpr c18
       subst c18
       have H1 : (some ((⟨#[]⟩ : ByteArray), 5)) = some (r1, r2) := by rw [if_neg (show ¬ (false = true) by decide)] at H; exact H
       clear H
       have H := H1
       clear H1
       simp only [Option.some.injEq, Prod.mk.injEq] at H
       obtain ⟨rfl, rfl⟩ := H
       have hcz27_0 : wc.cell? ⟨gb166, 0, none⟩ = some (.int .i64 a0_0) := (blk_cell BK166.out 0).trans rfl
       have hcz27_1 : wc.cell? ⟨gb166, 1, none⟩ = some (.int .i64 a0_1) := (blk_cell BK166.out 1).trans rfl
       have hcz27_2 : wc.cell? ⟨gb166, 2, none⟩ = some (.bool a0_2) := (blk_cell BK166.out 2).trans rfl
       have hcz27_3 : wc.cell? ⟨gb166, 3, none⟩ = some (.int .i64 a0_3) := (blk_cell BK166.out 3).trans rfl
       have hcz27_4 : wc.cell? ⟨gb166, 4, none⟩ = some (.bool a0_4) := (blk_cell BK166.out 4).trans rfl
       have hcz27_5 : wc.cell? ⟨gb166, 5, none⟩ = some (.int .i64 a0_5) := (blk_cell BK166.out 5).trans rfl
       have hcz27_6 : wc.cell? ⟨gb166, 6, none⟩ = some (.int .i64 a0_6) := (blk_cell BK166.out 6).trans rfl
       have hcz27_7 : wc.cell? ⟨gb166, 7, none⟩ = some (.string a0_7) := (blk_cell BK166.out 7).trans rfl
       have hfz27_0 := blk_frozen BK166.out 0
       have hfz27_1 := blk_frozen BK166.out 1
       have hfz27_2 := blk_frozen BK166.out 2
       have hfz27_3 := blk_frozen BK166.out 3
       have hfz27_4 := blk_frozen BK166.out 4
       have hfz27_5 := blk_frozen BK166.out 5
       have hfz27_6 := blk_frozen BK166.out 6
       have hfz27_7 := blk_frozen BK166.out 7
       go_wp2_with (first | ((with_reducible refine gate_callee (f := 31) rfl ?_); refine goesL_ (some 41) rfl rfl Tryd.func31 (by kernel_rfl) rfl #[.agg #[.int .i64 a0_0, .int .i64 a0_1], .bool a0_2, .bool a1] rfl (by (try simp only [List.map_toArray, List.map_cons, List.map_nil]); first | done | rfl) ?_; (with_reducible refine (addr_Make.calls a0_0 a0_1 a0_2 a1 t170 t171 t172 _ A14.out).mono ?_); rintro e w28 ⟨rfl, hb⟩; refine ⟨_, rfl, ?_⟩; have n0_ := Aside0.mk (blk_below (g := gb166) (o := .cells #[.int .i64 a0_0, .int .i64 a0_1, .bool a0_2, .int .i64 a0_3, .bool a0_4, .int .i64 a0_5, .int .i64 a0_6, .string a0_7] 33 (0, 0)) (by (with_reducible repeat (first | apply blk_drewN | apply blk_drew | apply blk_alloc)); exact BK166.out) hb); have n1_ := Aside0.mk (below_step (by repeat (first | (with_reducible first | exact HB.out | apply below_alloc | apply pw_below_drewN | apply below_drew1 | refine below_set ?_ GE166.out) | exact HB.out)) hb); clear BK166; clear HB; have BK166 := n0_; have HB := n1_; clear n0_ n1_; (try clear hb); (try clear hb2); (try clear hk); (try clear hi)) | ((with_reducible refine gate_callee (f := 30) rfl ?_); refine goesL_ (some 42) rfl rfl Tryd.func30 (by kernel_rfl) rfl #[.agg #[.int .i64 t170, .int .i64 t171, .bool t172]] rfl (by (try simp only [List.map_toArray, List.map_cons, List.map_nil]); first | done | rfl) ?_; (with_reducible refine (addr_Put.calls kj3 t170 t171 t172 t173 t174 _ A15.out).mono ?_); rintro e w29 ⟨rfl, hb⟩; refine ⟨_, rfl, ?_⟩; have n0_ := Aside0.mk (blk_below (g := gb166) (o := .cells #[.int .i64 a0_0, .int .i64 a0_1, .bool a0_2, .int .i64 a0_3, .bool a0_4, .int .i64 a0_5, .int .i64 a0_6, .string a0_7] 33 (0, 0)) (by (with_reducible repeat (first | apply blk_drewN | apply blk_drew | apply blk_alloc)); exact BK166.out) hb); have n1_ := Aside0.mk (below_step (by repeat (first | (with_reducible first | exact HB.out | apply below_alloc | apply pw_below_drewN | apply below_drew1 | refine below_set ?_ GE166.out) | exact HB.out)) hb); clear BK166; clear HB; have BK166 := n0_; have HB := n1_; clear n0_ n1_; (try clear hb); (try clear hb2); (try clear hk); (try clear hi); have hcz30_0 : w29.cell? ⟨gb166, 0, none⟩ = some (.int .i64 a0_0) := (blk_cell BK166.out 0).trans rfl; have hcz30_1 : w29.cell? ⟨gb166, 1, none⟩ = some (.int .i64 a0_1) := (blk_cell BK166.out 1).trans rfl; have hcz30_2 : w29.cell? ⟨gb166, 2, none⟩ = some (.bool a0_2) := (blk_cell BK166.out 2).trans rfl; have hcz30_3 : w29.cell? ⟨gb166, 3, none⟩ = some (.int .i64 a0_3) := (blk_cell BK166.out 3).trans rfl; have hcz30_4 : w29.cell? ⟨gb166, 4, none⟩ = some (.bool a0_4) := (blk_cell BK166.out 4).trans rfl; have hcz30_5 : w29.cell? ⟨gb166, 5, none⟩ = some (.int .i64 a0_5) := (blk_cell BK166.out 5).trans rfl; have hcz30_6 : w29.cell? ⟨gb166, 6, none⟩ = some (.int .i64 a0_6) := (blk_cell BK166.out 6).trans rfl; have hcz30_7 : w29.cell? ⟨gb166, 7, none⟩ = some (.string a0_7) := (blk_cell BK166.out 7).trans rfl; have hfz30_0 := blk_frozen BK166.out 0; have hfz30_1 := blk_frozen BK166.out 1; have hfz30_2 := blk_frozen BK166.out 2; have hfz30_3 := blk_frozen BK166.out 3; have hfz30_4 := blk_frozen BK166.out 4; have hfz30_5 := blk_frozen BK166.out 5; have hfz30_6 := blk_frozen BK166.out 6; have hfz30_7 := blk_frozen BK166.out 7) | ((with_reducible refine gate_callee (f := 13) rfl ?_); refine goesL_ (some 55) rfl rfl Tryd.func13 (by kernel_rfl) rfl #[.int .i64 a0_3, .int .i64 (a0_7.size : Int)] rfl (by (try simp only [List.map_toArray, List.map_cons, List.map_nil]); first | done | rfl) ?_; (with_reducible refine (frame_Carries.calls kj3 a0_3 (a0_7.size : Int) false _ ?side1 A17.out).mono ?_); (case side1 => first | (with_reducible exact HL.out) | (with_reducible exact YtdpgdnbknmncfaaDoorX.Laid_drewN HL.out _) | exact YtdpgdnbknmncfaaDoorX.Laid_below HL.out (by repeat (first | (with_reducible first | exact HB.out | apply below_alloc | apply pw_below_drewN | apply below_drew1 | refine below_set ?_ GE166.out) | exact HB.out))); rintro e w' ⟨rfl, ⟨nd, rfl⟩⟩; refine ⟨_, rfl, ?_⟩))
       go_ret2
       exact ⟨by first | rfl | (simp [errW_none, errW_some] <;> rfl) | (simp [*, errW_none, errW_some] <;> rfl), by repeat (first | (with_reducible first | exact HB.out | apply below_alloc | apply pw_below_drewN | apply below_drew1 | refine below_set ?_ GE166.out) | exact HB.out)⟩
     ·rw [if_neg c16] at H
      have c16b0 : (t174 == 0) = false := beq_eq_false_iff_ne.mpr c16
      have c16b1 : (t174 != 0) = true := bne_iff_ne.mpr c16
      simp only [Option.some.injEq, Prod.mk.injEq] at H
      obtain ⟨rfl, rfl⟩ := H
      have hcz31_0 : wc.cell? ⟨gb166, 0, none⟩ = some (.int .i64 a0_0) := (blk_cell BK166.out 0).trans rfl
      have hcz31_1 : wc.cell? ⟨gb166, 1, none⟩ = some (.int .i64 a0_1) := (blk_cell BK166.out 1).trans rfl
      have hcz31_2 : wc.cell? ⟨gb166, 2, none⟩ = some (.bool a0_2) := (blk_cell BK166.out 2).trans rfl
      have hcz31_3 : wc.cell? ⟨gb166, 3, none⟩ = some (.int .i64 a0_3) := (blk_cell BK166.out 3).trans rfl
      have hcz31_4 : wc.cell? ⟨gb166, 4, none⟩ = some (.bool a0_4) := (blk_cell BK166.out 4).trans rfl
      have hcz31_5 : wc.cell? ⟨gb166, 5, none⟩ = some (.int .i64 a0_5) := (blk_cell BK166.out 5).trans rfl
      have hcz31_6 : wc.cell? ⟨gb166, 6, none⟩ = some (.int .i64 a0_6) := (blk_cell BK166.out 6).trans rfl
      have hcz31_7 : wc.cell? ⟨gb166, 7, none⟩ = some (.string a0_7) := (blk_cell BK166.out 7).trans rfl
      have hfz31_0 := blk_frozen BK166.out 0
      have hfz31_1 := blk_frozen BK166.out 1
      have hfz31_2 := blk_frozen BK166.out 2
      have hfz31_3 := blk_frozen BK166.out 3
      have hfz31_4 := blk_frozen BK166.out 4
      have hfz31_5 := blk_frozen BK166.out 5
      have hfz31_6 := blk_frozen BK166.out 6
      have hfz31_7 := blk_frozen BK166.out 7
      go_wp2_with (first | ((with_reducible refine gate_callee (f := 31) rfl ?_); refine goesL_ (some 41) rfl rfl Tryd.func31 (by kernel_rfl) rfl #[.agg #[.int .i64 a0_0, .int .i64 a0_1], .bool a0_2, .bool a1] rfl (by (try simp only [List.map_toArray, List.map_cons, List.map_nil]); first | done | rfl) ?_; (with_reducible refine (addr_Make.calls a0_0 a0_1 a0_2 a1 t170 t171 t172 _ A14.out).mono ?_); rintro e w32 ⟨rfl, hb⟩; refine ⟨_, rfl, ?_⟩; have n0_ := Aside0.mk (blk_below (g := gb166) (o := .cells #[.int .i64 a0_0, .int .i64 a0_1, .bool a0_2, .int .i64 a0_3, .bool a0_4, .int .i64 a0_5, .int .i64 a0_6, .string a0_7] 33 (0, 0)) (by (with_reducible repeat (first | apply blk_drewN | apply blk_drew | apply blk_alloc)); exact BK166.out) hb); have n1_ := Aside0.mk (below_step (by repeat (first | (with_reducible first | exact HB.out | apply below_alloc | apply pw_below_drewN | apply below_drew1 | refine below_set ?_ GE166.out) | exact HB.out)) hb); clear BK166; clear HB; have BK166 := n0_; have HB := n1_; clear n0_ n1_; (try clear hb); (try clear hb2); (try clear hk); (try clear hi)) | ((with_reducible refine gate_callee (f := 30) rfl ?_); refine goesL_ (some 42) rfl rfl Tryd.func30 (by kernel_rfl) rfl #[.agg #[.int .i64 t170, .int .i64 t171, .bool t172]] rfl (by (try simp only [List.map_toArray, List.map_cons, List.map_nil]); first | done | rfl) ?_; (with_reducible refine (addr_Put.calls kj3 t170 t171 t172 t173 t174 _ A15.out).mono ?_); rintro e w33 ⟨rfl, hb⟩; refine ⟨_, rfl, ?_⟩; have n0_ := Aside0.mk (blk_below (g := gb166) (o := .cells #[.int .i64 a0_0, .int .i64 a0_1, .bool a0_2, .int .i64 a0_3, .bool a0_4, .int .i64 a0_5, .int .i64 a0_6, .string a0_7] 33 (0, 0)) (by (with_reducible repeat (first | apply blk_drewN | apply blk_drew | apply blk_alloc)); exact BK166.out) hb); have n1_ := Aside0.mk (below_step (by repeat (first | (with_reducible first | exact HB.out | apply below_alloc | apply pw_below_drewN | apply below_drew1 | refine below_set ?_ GE166.out) | exact HB.out)) hb); clear BK166; clear HB; have BK166 := n0_; have HB := n1_; clear n0_ n1_; (try clear hb); (try clear hb2); (try clear hk); (try clear hi)))
      go_ret2
      exact ⟨by first | rfl | (simp [errW_none, errW_some] <;> rfl) | (simp [*, errW_none, errW_some] <;> rfl), by repeat (first | (with_reducible first | exact HB.out | apply below_alloc | apply pw_below_drewN | apply below_drew1 | refine below_set ?_ GE166.out) | exact HB.out)⟩
    ·rw [if_neg c13] at H
     have c13b0 : (t168 == 0) = false := beq_eq_false_iff_ne.mpr c13
     have c13b1 : (t168 != 0) = true := bne_iff_ne.mpr c13
     simp only [Option.some.injEq, Prod.mk.injEq] at H
     obtain ⟨rfl, rfl⟩ := H
     go_wp2
     go_ret2
     exact ⟨by first | rfl | (simp [errW_none, errW_some] <;> rfl) | (simp [*, errW_none, errW_some] <;> rfl), by repeat (first | (with_reducible first | exact HB.out | apply below_alloc | apply pw_below_drewN | apply below_drew1 | refine below_set ?_ GE166.out) | exact HB.out)⟩

/-! ### lapwinglaw06_wakes: function 15 -/
def lapwinglaw06_wakes.f (k : Nat)  : Option (Bool) := (frame_Put.f k 0 64 false 1 true 0 1 (⟨#[]⟩ : ByteArray) false).bind fun bt177 => (if bt177.2 = 0 then ((fcs_Seal.f k (⟨#[2, 129, 1, 3]⟩ : ByteArray)).bind fun t179 => (if bt177.1.toList = t179.toList then ((frame_May.f 1 true).bind fun t180 => (some t180)) else (some false))) else (some false))
theorem lapwinglaw06_wakes.mono : ∀ k, LeO (lapwinglaw06_wakes.f k ) (lapwinglaw06_wakes.f (k + 1) ) := by
 intro  k
 unfold lapwinglaw06_wakes.f
 repeat' first
   | (with_reducible exact fcs_Seal.mono _ _)
   | (with_reducible exact frame_Put.mono _ _ _ _ _ _ _ _ _ _)
   | (with_reducible exact LeO.refl _)
   | (with_reducible exact LeO.none _)
   | (with_reducible refine LeO.ite ?_ ?_)
   | (with_reducible refine LeO.bind ?_ (fun _ => ?_))
   | exact fcs_Seal.mono _ _
   | exact frame_Put.mono _ _ _ _ _ _ _ _ _ _
   | exact LeO.none _
   | refine LeO.ite ?_ ?_
   | refine LeO.bind ?_ (fun _ => ?_)
set_option maxHeartbeats 8000000 in
set_option maxRecDepth 100000 in
theorem lapwinglaw06_wakes.calls (k : Nat)  (r : Bool) (w : World) (hL : YtdpgdnbknmncfaaDoorX.Laid w) (h : lapwinglaw06_wakes.f k  = some r) :
  Calls Tryd.prog 15 #[] w fun e w' => e = .returned (.bool r) ∧ Below w.heap.size w w' := by
 have hu31 := Tryd.underlying31
 have hu33 := Tryd.underlying33
 have HL := Aside0.mk hL
 have HGfirst := Aside0.mk (YtdpgdnbknmncfaaDoorX.Laid_HGfirst hL)
 have HGfirst1 := Aside0.mk (YtdpgdnbknmncfaaDoorX.Laid_HGfirst1 hL)
 have HGnames := Aside0.mk (YtdpgdnbknmncfaaDoorX.Laid_HGnames hL)
 have HCfirst := Aside0.mk (show YtdpgdnbknmncfaaDoorX.glFirst.length ≤ 10 by decide)
 have HCfirst1 := Aside0.mk (show YtdpgdnbknmncfaaDoorX.glFirst1.length ≤ 9 by decide)
 have HCnames := Aside0.mk (show YtdpgdnbknmncfaaDoorX.glNames.length ≤ 10 by decide)
 clear hL
 have HB := Aside0.mk (Below.refl w.heap.size w)
 have H : ((frame_Put.f k 0 64 false 1 true 0 1 (⟨#[]⟩ : ByteArray) false).bind fun bt177 => (if bt177.2 = 0 then ((fcs_Seal.f k (⟨#[2, 129, 1, 3]⟩ : ByteArray)).bind fun t179 => (if bt177.1.toList = t179.toList then ((frame_May.f 1 true).bind fun t180 => (some t180)) else (some false))) else (some false))) = some r := h
 clear h
 replace H := Option.bind_eq_some_iff.mp H
 obtain ⟨⟨t177, t178⟩, A10, H⟩ := H
 replace H : (if t178 = 0 then ((fcs_Seal.f k (⟨#[2, 129, 1, 3]⟩ : ByteArray)).bind fun t179 => (if t177.toList = t179.toList then ((frame_May.f 1 true).bind fun t180 => (some t180)) else (some false))) else (some false)) = some r := H
 have A1 := Aside0.mk A10
 clear A10
 by_cases c2 : t178 = 0
 ·rw [if_pos c2] at H
  have c2b0 : (t178 == 0) = true := beq_iff_eq.mpr c2
  have c2b1 : (t178 != 0) = false := bne_eq_false_iff_eq.mpr c2
  clear c2
  replace H := Option.bind_eq_some_iff.mp H
  obtain ⟨t179, A30, H⟩ := H
  replace H : (if t177.toList = t179.toList then ((frame_May.f 1 true).bind fun t180 => (some t180)) else (some false)) = some r := H
  have A3 := Aside0.mk A30
  clear A30
  by_cases c4 : t177.toList = t179.toList
  ·rw [if_pos c4] at H
   have c4b0 : (t177.toList == t179.toList) = true := beq_iff_eq.mpr c4
   have c4b1 : (t177.toList != t179.toList) = false := bne_eq_false_iff_eq.mpr c4
   clear c4
   replace H := Option.bind_eq_some_iff.mp H
   obtain ⟨t180, A50, H⟩ := H
   replace H : (some t180) = some r := H
   have A5 := Aside0.mk A50
   clear A50
   obtain rfl := Option.some.inj H
   go_enter Tryd.func15, Tryd.ntmps15
   go_wp2_with (first | ((with_reducible refine gate_callee (f := 17) rfl ?_); refine goesL_ (some 6) rfl rfl Tryd.func17 (by kernel_rfl) rfl #[.agg #[.int .i64 0, .int .i64 64, .bool false, .int .i64 1, .bool true, .int .i64 0, .int .i64 1, .string (⟨#[]⟩ : ByteArray)], .bool false] rfl (by (try simp only [List.map_toArray, List.map_cons, List.map_nil]); first | done | rfl) ?_; (with_reducible refine (frame_Put.calls k 0 64 false 1 true 0 1 (⟨#[]⟩ : ByteArray) false t177 t178 _ ?side1 A1.out).mono ?_); (case side1 => first | (with_reducible exact HL.out) | (with_reducible exact YtdpgdnbknmncfaaDoorX.Laid_drewN HL.out _) | exact YtdpgdnbknmncfaaDoorX.Laid_below HL.out (by repeat (first | (with_reducible first | exact HB.out | apply below_alloc | apply pw_below_drewN | apply below_drew1) | exact HB.out))); rintro e w6 ⟨rfl, hb⟩; refine ⟨_, rfl, ?_⟩; have n0_ := Aside0.mk (below_step (by repeat (first | (with_reducible first | exact HB.out | apply below_alloc | apply pw_below_drewN | apply below_drew1) | exact HB.out)) hb); clear HB; have HB := n0_; clear n0_; (try clear hb); (try clear hb2); (try clear hk); (try clear hi)) | (go_at_call 19; (with_reducible refine (fcs_Seal.calls k (⟨#[2, 129, 1, 3]⟩ : ByteArray) t179 _ A3.out).mono ?_); rintro e w7 ⟨rfl, hb⟩; have n0_ := Aside0.mk (below_step (by repeat (first | (with_reducible first | exact HB.out | apply below_alloc | apply pw_below_drewN | apply below_drew1) | exact HB.out)) hb); clear HB; have HB := n0_; clear n0_; (try clear hb); (try clear hb2); (try clear hk); (try clear hi)) | (go_at_call 11; (with_reducible refine (frame_May.calls 1 true t180 _ A5.out).mono ?_); rintro e w8 ⟨rfl, hb⟩; have n0_ := Aside0.mk (below_step (by repeat (first | (with_reducible first | exact HB.out | apply below_alloc | apply pw_below_drewN | apply below_drew1) | exact HB.out)) hb); clear HB; have HB := n0_; clear n0_; (try clear hb); (try clear hb2); (try clear hk); (try clear hi)))
   go_ret
   exact ⟨by first | rfl | (simp [errW_none, errW_some] <;> rfl) | (simp [*, errW_none, errW_some] <;> rfl), by repeat (first | (with_reducible first | exact HB.out | apply below_alloc | apply pw_below_drewN | apply below_drew1) | exact HB.out)⟩
  ·rw [if_neg c4] at H
   have c4b0 : (t177.toList == t179.toList) = false := beq_eq_false_iff_ne.mpr c4
   have c4b1 : (t177.toList != t179.toList) = true := bne_iff_ne.mpr c4
   obtain rfl := Option.some.inj H
   go_enter Tryd.func15, Tryd.ntmps15
   go_wp2_with (first | ((with_reducible refine gate_callee (f := 17) rfl ?_); refine goesL_ (some 6) rfl rfl Tryd.func17 (by kernel_rfl) rfl #[.agg #[.int .i64 0, .int .i64 64, .bool false, .int .i64 1, .bool true, .int .i64 0, .int .i64 1, .string (⟨#[]⟩ : ByteArray)], .bool false] rfl (by (try simp only [List.map_toArray, List.map_cons, List.map_nil]); first | done | rfl) ?_; (with_reducible refine (frame_Put.calls k 0 64 false 1 true 0 1 (⟨#[]⟩ : ByteArray) false t177 t178 _ ?side1 A1.out).mono ?_); (case side1 => first | (with_reducible exact HL.out) | (with_reducible exact YtdpgdnbknmncfaaDoorX.Laid_drewN HL.out _) | exact YtdpgdnbknmncfaaDoorX.Laid_below HL.out (by repeat (first | (with_reducible first | exact HB.out | apply below_alloc | apply pw_below_drewN | apply below_drew1) | exact HB.out))); rintro e w9 ⟨rfl, hb⟩; refine ⟨_, rfl, ?_⟩; have n0_ := Aside0.mk (below_step (by repeat (first | (with_reducible first | exact HB.out | apply below_alloc | apply pw_below_drewN | apply below_drew1) | exact HB.out)) hb); clear HB; have HB := n0_; clear n0_; (try clear hb); (try clear hb2); (try clear hk); (try clear hi)) | (go_at_call 19; (with_reducible refine (fcs_Seal.calls k (⟨#[2, 129, 1, 3]⟩ : ByteArray) t179 _ A3.out).mono ?_); rintro e w10 ⟨rfl, hb⟩; have n0_ := Aside0.mk (below_step (by repeat (first | (with_reducible first | exact HB.out | apply below_alloc | apply pw_below_drewN | apply below_drew1) | exact HB.out)) hb); clear HB; have HB := n0_; clear n0_; (try clear hb); (try clear hb2); (try clear hk); (try clear hi)))
   go_ret
   exact ⟨by first | rfl | (simp [errW_none, errW_some] <;> rfl) | (simp [*, errW_none, errW_some] <;> rfl), by repeat (first | (with_reducible first | exact HB.out | apply below_alloc | apply pw_below_drewN | apply below_drew1) | exact HB.out)⟩
 ·rw [if_neg c2] at H
  have c2b0 : (t178 == 0) = false := beq_eq_false_iff_ne.mpr c2
  have c2b1 : (t178 != 0) = true := bne_iff_ne.mpr c2
  obtain rfl := Option.some.inj H
  go_enter Tryd.func15, Tryd.ntmps15
  go_wp2_with (first | ((with_reducible refine gate_callee (f := 17) rfl ?_); refine goesL_ (some 6) rfl rfl Tryd.func17 (by kernel_rfl) rfl #[.agg #[.int .i64 0, .int .i64 64, .bool false, .int .i64 1, .bool true, .int .i64 0, .int .i64 1, .string (⟨#[]⟩ : ByteArray)], .bool false] rfl (by (try simp only [List.map_toArray, List.map_cons, List.map_nil]); first | done | rfl) ?_; (with_reducible refine (frame_Put.calls k 0 64 false 1 true 0 1 (⟨#[]⟩ : ByteArray) false t177 t178 _ ?side1 A1.out).mono ?_); (case side1 => first | (with_reducible exact HL.out) | (with_reducible exact YtdpgdnbknmncfaaDoorX.Laid_drewN HL.out _) | exact YtdpgdnbknmncfaaDoorX.Laid_below HL.out (by repeat (first | (with_reducible first | exact HB.out | apply below_alloc | apply pw_below_drewN | apply below_drew1) | exact HB.out))); rintro e w11 ⟨rfl, hb⟩; refine ⟨_, rfl, ?_⟩; have n0_ := Aside0.mk (below_step (by repeat (first | (with_reducible first | exact HB.out | apply below_alloc | apply pw_below_drewN | apply below_drew1) | exact HB.out)) hb); clear HB; have HB := n0_; clear n0_; (try clear hb); (try clear hb2); (try clear hk); (try clear hi)))
  go_ret
  exact ⟨by first | rfl | (simp [errW_none, errW_some] <;> rfl) | (simp [*, errW_none, errW_some] <;> rfl), by repeat (first | (with_reducible first | exact HB.out | apply below_alloc | apply pw_below_drewN | apply below_drew1) | exact HB.out)⟩

end Go.Proofs.YtdpgdnbknmncfaaDoor.Print
