-- Written by a program of this session's, over the kit's printer turned by wip/tools/mkprint.py. Lean checks it.
import Derived.Test.YtdpgdnbknmncfaaDoorPrint0
import Derived.Test.YtdpgdnbknmncfaaDoorPrint2
namespace Go.Proofs.YtdpgdnbknmncfaaDoor.Print
open Go.RowKit Go.Proofs.YtdpgdnbknmncfaaDoorW.PrintWords Go.Proofs.YtdpgdnbknmncfaaDoorW.PrintLast Go.Proofs.YtdpgdnbknmncfaaDoorW.PrintMore
attribute [local go_sem] max2_int min2_int max_two min_two max_three min_three max_four min_four   -- for this text's walks alone
set_option linter.unusedVariables false
set_option linter.unusedSimpArgs false
attribute [local go_sem high] YtdpgdnbknmncfaaDoorX.unary_xor_u16 YtdpgdnbknmncfaaDoorX.unary_xor_u8

/-! ### ctrl_Put: function 29 -/
def ctrl_Put.j0 : Nat → Int → Int → Int → Bool → Int → Bool → Int → Int → Option (ByteArray × Int)
 | 0, _, _, _, _, _, _, _, _ => none
 | k + 1, x4, x5, x6, x46, x125000, x125001, x125002, x125003 => if x46 = true then ((bits_Pack.f k (([(⟨1, 0⟩ : S54), (⟨7, x125002⟩ : S54)] : List (S54)))).bind fun bt141 => (if bt141.2 = 0 then (some (strOfNums (([bt141.1, x5] : List Int)), 0)) else (some ((⟨#[]⟩ : ByteArray), 2)))) else (if x6 = 0 then (some (strOfNums (([x4, x5] : List Int)), 0)) else (some ((⟨#[]⟩ : ByteArray), 2)))
def ctrl_Put.f (k : Nat) (a0_0 : Int) (a0_1 : Bool) (a0_2 : Int) (a0_3 : Int) : Option (ByteArray × Int) := (ctrl_Kind_good.f a0_0).bind fun t125 => (if t125 = true then (if 0 ≤ a0_0 then (if a0_0 < 10 then ((ctrl_Kind_Numbered.f a0_0).bind fun t127 => (if t127 = true then ((ctrl_one.f a0_1).bind fun t132 => ((bits_Pack.f k (([(⟨1, t132⟩ : S54), (⟨7, a0_3⟩ : S54)] : List (S54)))).bind fun bt136 => (if bt136.2 = 0 then (ctrl_Put.j0 k (rd YtdpgdnbknmncfaaDoorX.glFirst a0_0) bt136.1 bt136.2 (a0_0 == 0) a0_0 a0_1 a0_2 a0_3) else (ctrl_Put.j0 k (rd YtdpgdnbknmncfaaDoorX.glFirst a0_0) bt136.1 bt136.2 false a0_0 a0_1 a0_2 a0_3)))) else ((ctrl_one.f a0_1).bind fun t128 => (some (strOfNums (([Go.bits .or .u8 (rd YtdpgdnbknmncfaaDoorX.glFirst a0_0) ((wrap64 (t128 * 16)) % 256)] : List Int)), 0))))) else (none)) else (none)) else (some ((⟨#[]⟩ : ByteArray), 4)))
theorem ctrl_Put.mono_l : ∀ k, (∀ y0 y1 y2 y3 y4 y5 y6 y7, LeO (ctrl_Put.j0 k y0 y1 y2 y3 y4 y5 y6 y7) (ctrl_Put.j0 (k + 1) y0 y1 y2 y3 y4 y5 y6 y7))
 | 0 => fun _ _ _ _ _ _ _ _ r h => by simp [ctrl_Put.j0] at h
 | k + 1 => by
  have ih0 := ctrl_Put.mono_l k
  ·intro y0 y1 y2 y3 y4 y5 y6 y7
   unfold ctrl_Put.j0
   repeat' first
   | (with_reducible exact ih0 _ _ _ _ _ _ _ _)
   | (with_reducible exact bits_Pack.mono _ _)
   | (with_reducible exact LeO.refl _)
   | (with_reducible exact LeO.none _)
   | (with_reducible refine LeO.ite ?_ ?_)
   | (with_reducible refine LeO.bind ?_ (fun _ => ?_))
   | exact ih0 _ _ _ _ _ _ _ _
   | exact bits_Pack.mono _ _
   | exact LeO.none _
   | refine LeO.ite ?_ ?_
   | refine LeO.bind ?_ (fun _ => ?_)
theorem ctrl_Put.mono : ∀ a0 a1 a2 a3 k, LeO (ctrl_Put.f k a0 a1 a2 a3) (ctrl_Put.f (k + 1) a0 a1 a2 a3) := by
 intro a0 a1 a2 a3 k
 have ih0 := ctrl_Put.mono_l k
 unfold ctrl_Put.f
 repeat' first
   | (with_reducible exact ih0 _ _ _ _ _ _ _ _)
   | (with_reducible exact bits_Pack.mono _ _)
   | (with_reducible exact LeO.refl _)
   | (with_reducible exact LeO.none _)
   | (with_reducible refine LeO.ite ?_ ?_)
   | (with_reducible refine LeO.bind ?_ (fun _ => ?_))
   | exact ih0 _ _ _ _ _ _ _ _
   | exact bits_Pack.mono _ _
   | exact LeO.none _
   | refine LeO.ite ?_ ?_
   | refine LeO.bind ?_ (fun _ => ?_)
def ctrl_Put.T6 : Bool × List (List Nat × List Nat) := (true, [([], []), ([0], [0]), ([1], [1]), ([2], [2]), ([], []), ([4], [4]), ([5], [5]), ([3, 6], [3, 6]), ([7, 2], [7]), ([8], [8]), ([9], [9]), ([9], [9]), ([10, 8, 0, 1, 2, 3, 4, 5, 6, 7, 8, 9, 10], [10]), ([11, 12, 0, 1, 2, 3, 4, 5, 6, 7, 8, 9, 10, 11, 12], [11])])
def ctrl_Put.B6 : List Nat := [0, 1, 3, 7, 0, 16, 48, 127, 255, 511, 1023, 1023, 2047, 8191]
theorem ctrl_Put.tab6 : rtab .any (opsOf Tryd.f29 6) = ctrl_Put.T6 := by kernel_rfl
theorem ctrl_Put.bits6 : waitsOk ctrl_Put.T6.2 ctrl_Put.B6 = true := by kernel_rfl
set_option maxHeartbeats 8000000 in
set_option maxRecDepth 100000 in
theorem ctrl_Put.calls (k : Nat) (a0_0 : Int) (a0_1 : Bool) (a0_2 : Int) (a0_3 : Int) (r1 : ByteArray) (r2 : Int) (w : World) (hL : YtdpgdnbknmncfaaDoorX.Laid w) (h : ctrl_Put.f k a0_0 a0_1 a0_2 a0_3 = some (r1, r2)) :
  Calls Tryd.prog 29 #[.agg #[.int .i64 a0_0, .bool a0_1, .int .i64 a0_2, .int .i64 a0_3]] w fun e w' => e = .returned (.tuple #[.string r1, .int .i64 r2]) ∧ Below w.heap.size w w' := by
 have hu65 := Tryd.underlying65
 have hu54 := Tryd.underlying54
 have HL := Aside0.mk hL
 have HGfirst := Aside0.mk (YtdpgdnbknmncfaaDoorX.Laid_HGfirst hL)
 have HGfirst1 := Aside0.mk (YtdpgdnbknmncfaaDoorX.Laid_HGfirst1 hL)
 have HGnames := Aside0.mk (YtdpgdnbknmncfaaDoorX.Laid_HGnames hL)
 have HCfirst := Aside0.mk (show YtdpgdnbknmncfaaDoorX.glFirst.length ≤ 10 by decide)
 have HCfirst1 := Aside0.mk (show YtdpgdnbknmncfaaDoorX.glFirst1.length ≤ 9 by decide)
 have HCnames := Aside0.mk (show YtdpgdnbknmncfaaDoorX.glNames.length ≤ 10 by decide)
 clear hL
 have HB := Aside0.mk (Below.refl w.heap.size w)
 have H : ((ctrl_Kind_good.f a0_0).bind fun t125 => (if t125 = true then (if 0 ≤ a0_0 then (if a0_0 < 10 then ((ctrl_Kind_Numbered.f a0_0).bind fun t127 => (if t127 = true then ((ctrl_one.f a0_1).bind fun t132 => ((bits_Pack.f k (([(⟨1, t132⟩ : S54), (⟨7, a0_3⟩ : S54)] : List (S54)))).bind fun bt136 => (if bt136.2 = 0 then (ctrl_Put.j0 k (rd YtdpgdnbknmncfaaDoorX.glFirst a0_0) bt136.1 bt136.2 (a0_0 == 0) a0_0 a0_1 a0_2 a0_3) else (ctrl_Put.j0 k (rd YtdpgdnbknmncfaaDoorX.glFirst a0_0) bt136.1 bt136.2 false a0_0 a0_1 a0_2 a0_3)))) else ((ctrl_one.f a0_1).bind fun t128 => (some (strOfNums (([Go.bits .or .u8 (rd YtdpgdnbknmncfaaDoorX.glFirst a0_0) ((wrap64 (t128 * 16)) % 256)] : List Int)), 0))))) else (none)) else (none)) else (some ((⟨#[]⟩ : ByteArray), 4)))) = some (r1, r2) := h
 clear h
 replace H := Option.bind_eq_some_iff.mp H
 obtain ⟨t125, A20, H⟩ := H
 replace H : (if t125 = true then (if 0 ≤ a0_0 then (if a0_0 < 10 then ((ctrl_Kind_Numbered.f a0_0).bind fun t127 => (if t127 = true then ((ctrl_one.f a0_1).bind fun t132 => ((bits_Pack.f k (([(⟨1, t132⟩ : S54), (⟨7, a0_3⟩ : S54)] : List (S54)))).bind fun bt136 => (if bt136.2 = 0 then (ctrl_Put.j0 k (rd YtdpgdnbknmncfaaDoorX.glFirst a0_0) bt136.1 bt136.2 (a0_0 == 0) a0_0 a0_1 a0_2 a0_3) else (ctrl_Put.j0 k (rd YtdpgdnbknmncfaaDoorX.glFirst a0_0) bt136.1 bt136.2 false a0_0 a0_1 a0_2 a0_3)))) else ((ctrl_one.f a0_1).bind fun t128 => (some (strOfNums (([Go.bits .or .u8 (rd YtdpgdnbknmncfaaDoorX.glFirst a0_0) ((wrap64 (t128 * 16)) % 256)] : List Int)), 0))))) else (none)) else (none)) else (some ((⟨#[]⟩ : ByteArray), 4))) = some (r1, r2) := H
 have A2 := Aside0.mk A20
 clear A20
 by_cases c3 : t125 = true
 ·subst c3
  have H1 : (if 0 ≤ a0_0 then (if a0_0 < 10 then ((ctrl_Kind_Numbered.f a0_0).bind fun t127 => (if t127 = true then ((ctrl_one.f a0_1).bind fun t132 => ((bits_Pack.f k (([(⟨1, t132⟩ : S54), (⟨7, a0_3⟩ : S54)] : List (S54)))).bind fun bt136 => (if bt136.2 = 0 then (ctrl_Put.j0 k (rd YtdpgdnbknmncfaaDoorX.glFirst a0_0) bt136.1 bt136.2 (a0_0 == 0) a0_0 a0_1 a0_2 a0_3) else (ctrl_Put.j0 k (rd YtdpgdnbknmncfaaDoorX.glFirst a0_0) bt136.1 bt136.2 false a0_0 a0_1 a0_2 a0_3)))) else ((ctrl_one.f a0_1).bind fun t128 => (some (strOfNums (([Go.bits .or .u8 (rd YtdpgdnbknmncfaaDoorX.glFirst a0_0) ((wrap64 (t128 * 16)) % 256)] : List Int)), 0))))) else (none)) else (none)) = some (r1, r2) := by rw [if_pos rfl] at H; exact H
  clear H
  have H := H1
  clear H1
  by_cases c4 : 0 ≤ a0_0
  ·rw [if_pos c4] at H
   have c4b0 : decide (0 ≤ a0_0) = true := decide_eq_true c4
   clear c4
   by_cases c5 : a0_0 < 10
   ·rw [if_pos c5] at H
    have c5b0 : decide (a0_0 < 10) = true := decide_eq_true c5
    clear c5
    replace H := Option.bind_eq_some_iff.mp H
    obtain ⟨t127, A60, H⟩ := H
    replace H : (if t127 = true then ((ctrl_one.f a0_1).bind fun t132 => ((bits_Pack.f k (([(⟨1, t132⟩ : S54), (⟨7, a0_3⟩ : S54)] : List (S54)))).bind fun bt136 => (if bt136.2 = 0 then (ctrl_Put.j0 k (rd YtdpgdnbknmncfaaDoorX.glFirst a0_0) bt136.1 bt136.2 (a0_0 == 0) a0_0 a0_1 a0_2 a0_3) else (ctrl_Put.j0 k (rd YtdpgdnbknmncfaaDoorX.glFirst a0_0) bt136.1 bt136.2 false a0_0 a0_1 a0_2 a0_3)))) else ((ctrl_one.f a0_1).bind fun t128 => (some (strOfNums (([Go.bits .or .u8 (rd YtdpgdnbknmncfaaDoorX.glFirst a0_0) ((wrap64 (t128 * 16)) % 256)] : List Int)), 0)))) = some (r1, r2) := H
    have A6 := Aside0.mk A60
    clear A60
    by_cases c7 : t127 = true
    ·subst c7
     have H1 : ((ctrl_one.f a0_1).bind fun t132 => ((bits_Pack.f k (([(⟨1, t132⟩ : S54), (⟨7, a0_3⟩ : S54)] : List (S54)))).bind fun bt136 => (if bt136.2 = 0 then (ctrl_Put.j0 k (rd YtdpgdnbknmncfaaDoorX.glFirst a0_0) bt136.1 bt136.2 (a0_0 == 0) a0_0 a0_1 a0_2 a0_3) else (ctrl_Put.j0 k (rd YtdpgdnbknmncfaaDoorX.glFirst a0_0) bt136.1 bt136.2 false a0_0 a0_1 a0_2 a0_3)))) = some (r1, r2) := by rw [if_pos rfl] at H; exact H
     clear H
     have H := H1
     clear H1
     replace H := Option.bind_eq_some_iff.mp H
     obtain ⟨t132, A80, H⟩ := H
     replace H : ((bits_Pack.f k (([(⟨1, t132⟩ : S54), (⟨7, a0_3⟩ : S54)] : List (S54)))).bind fun bt136 => (if bt136.2 = 0 then (ctrl_Put.j0 k (rd YtdpgdnbknmncfaaDoorX.glFirst a0_0) bt136.1 bt136.2 (a0_0 == 0) a0_0 a0_1 a0_2 a0_3) else (ctrl_Put.j0 k (rd YtdpgdnbknmncfaaDoorX.glFirst a0_0) bt136.1 bt136.2 false a0_0 a0_1 a0_2 a0_3))) = some (r1, r2) := H
     have A8 := Aside0.mk A80
     clear A80
     obtain ⟨y133, hy133⟩ : ∃ y_ : List (S54), y_ = (([(⟨1, t132⟩ : S54), (⟨7, a0_3⟩ : S54)] : List (S54))) := ⟨_, rfl⟩
     replace H : ((bits_Pack.f k y133).bind fun bt136 => (if bt136.2 = 0 then (ctrl_Put.j0 k (rd YtdpgdnbknmncfaaDoorX.glFirst a0_0) bt136.1 bt136.2 (a0_0 == 0) a0_0 a0_1 a0_2 a0_3) else (ctrl_Put.j0 k (rd YtdpgdnbknmncfaaDoorX.glFirst a0_0) bt136.1 bt136.2 false a0_0 a0_1 a0_2 a0_3))) = some (r1, r2) := by first | (rw [hy133]; with_reducible exact H) | (have H2_ := (Option.bind_some _ _).symm.trans H; rw [hy133]; with_reducible exact H2_) | (have H2_ := (Option.bind_some _ _).symm.trans H; with_reducible exact H2_) | with_reducible exact H | (rw [hy133]; exact H) | exact H
     have Ny133 := Aside0.mk hy133
     clear hy133
     replace H := Option.bind_eq_some_iff.mp H
     obtain ⟨⟨t136, t137⟩, A90, H⟩ := H
     replace H : (if t137 = 0 then (ctrl_Put.j0 k (rd YtdpgdnbknmncfaaDoorX.glFirst a0_0) t136 t137 (a0_0 == 0) a0_0 a0_1 a0_2 a0_3) else (ctrl_Put.j0 k (rd YtdpgdnbknmncfaaDoorX.glFirst a0_0) t136 t137 false a0_0 a0_1 a0_2 a0_3)) = some (r1, r2) := H
     have A9 := Aside0.mk A90
     clear A90
     have HC10 := Aside0.mk H
     clear H
     go_enter Tryd.func29, Tryd.ntmps29
     try go_wp2_with (first | ((with_reducible refine gate_dst (N := 1) rfl ?_); refine box_event ?hg (N := 1) ?hd (cs := #[.int .i64 a0_0, .bool a0_1, .int .i64 a0_2, .int .i64 a0_3]) (t := 65) ?hr ?_; (case hd => rfl); (case hg => rfl); (case hr => first | (go_simp; done) | (go_simp; rfl)); intro gb124 hg w11 hbox hb; have n0_ := Aside0.mk (below_step (by repeat (first | (with_reducible first | exact HB.out | apply below_alloc | apply pw_below_drewN | apply below_drew1) | exact HB.out)) hb); have n1_ := Aside0.mk (hbox); have n2_ := Aside0.mk ((by rw [hg]; exact (below_size (by repeat (first | (with_reducible first | exact HB.out | apply below_alloc | apply pw_below_drewN | apply below_drew1) | exact HB.out))) : w.heap.size ≤ gb124)); have n3_ := n2_; clear HB; have HB := n0_; have BK124 := n1_; have GW124 := n2_; have GE124 := n3_; clear n0_ n1_ n2_ n3_; clear hb hbox hg; have hcz12_0 : w11.cell? ⟨gb124, 0, none⟩ = some (.int .i64 a0_0) := (blk_cell BK124.out 0).trans rfl; have hcz12_1 : w11.cell? ⟨gb124, 1, none⟩ = some (.bool a0_1) := (blk_cell BK124.out 1).trans rfl; have hcz12_2 : w11.cell? ⟨gb124, 2, none⟩ = some (.int .i64 a0_2) := (blk_cell BK124.out 2).trans rfl; have hcz12_3 : w11.cell? ⟨gb124, 3, none⟩ = some (.int .i64 a0_3) := (blk_cell BK124.out 3).trans rfl; have hfz12_0 := blk_frozen BK124.out 0; have hfz12_1 := blk_frozen BK124.out 1; have hfz12_2 := blk_frozen BK124.out 2; have hfz12_3 := blk_frozen BK124.out 3) | ((with_reducible refine gate_callee (f := 48) rfl ?_); refine goesL_ (some 9) rfl rfl Tryd.func48 (by kernel_rfl) rfl #[.int .i64 a0_0] rfl (by (try simp only [List.map_toArray, List.map_cons, List.map_nil]); first | done | rfl) ?_; (with_reducible refine (ctrl_Kind_good.calls a0_0 true _ A2.out).mono ?_); rintro e w' ⟨rfl, ⟨nd, rfl⟩⟩; refine ⟨_, rfl, ?_⟩; have p126 : 0 ≤ (a0_0 : Int) := of_decide_eq_true (by first | (with_reducible assumption) | assumption); have q126 : a0_0 < (YtdpgdnbknmncfaaDoorX.glFirst.length : Int) := (by show (a0_0 : Int) < (10 : Int); exact of_decide_eq_true (by first | (with_reducible assumption) | assumption)); have ql126 : ((a0_0 : Int) < (10 : Int)) = True := eq_true (of_decide_eq_true (by first | (with_reducible assumption) | assumption)); obtain ⟨ad126, e126, hx126_0⟩ := Kd.at_int HGfirst.out a0_0 p126 q126; obtain rfl : (⟨1, 0, none⟩ : Addr) = ad126 := (by injection e126); (first | simp only [add_plain] at hx126_0 | simp only [add_at] at hx126_0 | simp only [Addr.add, Nat.zero_add] at hx126_0 | skip); replace hx126_0 := (HB.out.cell (World.block_lt_of_cell? w _ hx126_0)).trans hx126_0; replace p126 := eq_true p126; replace q126 := eq_true q126) | ((with_reducible refine gate_callee (f := 23) rfl ?_); refine goesL_ (some 17) rfl rfl Tryd.func23 (by kernel_rfl) rfl #[.int .i64 a0_0] rfl (by (try simp only [List.map_toArray, List.map_cons, List.map_nil]); first | done | rfl) ?_; (with_reducible refine (ctrl_Kind_Numbered.calls a0_0 true _ A6.out).mono ?_); rintro e w' ⟨rfl, ⟨nd, rfl⟩⟩; refine ⟨_, rfl, ?_⟩))
     (try (rw [drewN_self w11]; generalize hq_ : World.drewN w11 _ = w11; have n0_ : Aside0 (w11.heap[gb124]? = some (.cells #[.int .i64 a0_0, .bool a0_1, .int .i64 a0_2, .int .i64 a0_3] 65 (0, 0))) := ⟨by rw [← hq_]; exact (by (with_reducible repeat (first | apply blk_drewN | apply blk_drew | apply blk_alloc)); exact BK124.out)⟩; have n1_ : Aside0 (Below w.heap.size w w11) := ⟨by rw [← hq_]; exact (by repeat (first | (with_reducible first | exact HB.out | apply below_alloc | apply pw_below_drewN | apply below_drew1 | refine below_set ?_ GE124.out) | exact HB.out))⟩; clear BK124 HB hq_; have BK124 := n0_; have HB := n1_; clear n0_ n1_))
     have n0_ := Aside0.mk (blk_drew BK124.out)
     have n1_ := Aside0.mk (below_drew1 HB.out)
     clear BK124
     clear HB
     have BK124 := n0_
     have HB := n1_
     clear n0_ n1_
     refine start_ (n := 14) (S := fun w' => w'.cell? ⟨gb124, 0, none⟩ = some (.int .i64 a0_0) ∧ w'.cell? ⟨gb124, 1, none⟩ = some (.bool a0_1) ∧ w'.cell? ⟨gb124, 2, none⟩ = some (.int .i64 a0_2) ∧ w'.cell? ⟨gb124, 3, none⟩ = some (.int .i64 a0_3)) (ds := []) #[tF, tF, tF, tF, tF, tF, tF, tF, tF, tF, tF, tF, tF, tF] (by kernel_rfl) rfl rfl ⟨(blk_cell BK124.out 0).trans rfl, (blk_cell BK124.out 1).trans rfl, (blk_cell BK124.out 2).trans rfl, (blk_cell BK124.out 3).trans rfl⟩ (fun hHeld => ?_); refine with_tabW ctrl_Put.tab6 ctrl_Put.bits6 (fun HT_ HW_ => ?_)
     generalize w11.drew = w13 at BK124 HB hHeld ⊢
     refine pure_ (i := 0) (N := some 29) (v := ?_) (a' := ?_) #[tT, tF, tF, tF, tF, tF, tF, tF, tF, tF, tF, tF, tF, tF] rfl rfl (any_of HT_.out (by kernel_rfl)) (fun _ _ _ h => h) (Or.inl ⟨by rfl, ?_⟩) ?_ ?_
     rotate_left
     ·intro w'
      go_simp
      with_reducible rfl
     rotate_left
     ·simp only [Act.put, List.setIfInBounds_toArray, List.set_cons_zero, List.set_cons_succ, i64_w, i32_w]
      rfl
     refine pure_ (i := 4) (N := some 33) (v := ?_) (a' := ?_) #[tT, tF, tF, tF, tT, tF, tF, tF, tF, tF, tF, tF, tF, tF] rfl rfl (any_of HT_.out (by kernel_rfl)) (fun _ _ _ h => h) (Or.inl ⟨by rfl, ?_⟩) ?_ ?_
     rotate_left
     ·intro w'
      go_simp
      with_reducible rfl
     rotate_left
     ·simp only [Act.put, List.setIfInBounds_toArray, List.set_cons_zero, List.set_cons_succ, i64_w, i32_w]
      rfl
     refine take_ (i := 1) (N := some 30) (v := ?_) (a' := ?_) #[tT, tT, tF, tF, tT, tF, tF, tF, tF, tF, tF, tF, tF, tF] rfl rfl (take_ofW HT_.out HW_.out (by kernel_rfl)) (fun _ _ _ h => h) (Or.inl ⟨by rfl, ?_⟩) hHeld ?_ ?_
     rotate_left
     ·rintro w' ⟨s0, s1, s2, s3⟩
      go_simp
      with_reducible rfl
     rotate_left
     ·simp only [Act.put, List.setIfInBounds_toArray, List.set_cons_zero, List.set_cons_succ, i64_w, i32_w]
      rfl
     refine take_ (i := 5) (N := some 34) (v := ?_) (a' := ?_) #[tT, tT, tF, tF, tT, tT, tF, tF, tF, tF, tF, tF, tF, tF] rfl rfl (take_ofW HT_.out HW_.out (by kernel_rfl)) (fun _ _ _ h => h) (Or.inl ⟨by rfl, ?_⟩) hHeld ?_ ?_
     rotate_left
     ·rintro w' ⟨s0, s1, s2, s3⟩
      go_simp
      with_reducible rfl
     rotate_left
     ·simp only [Act.put, List.setIfInBounds_toArray, List.set_cons_zero, List.set_cons_succ, i64_w, i32_w]
      rfl
     refine pure_ (i := 6) (N := some 35) (v := ?_) (a' := ?_) #[tT, tT, tF, tF, tT, tT, tT, tF, tF, tF, tF, tF, tF, tF] rfl rfl (any_of HT_.out (by kernel_rfl)) (fun _ _ _ h => h) (Or.inl ⟨by rfl, ?_⟩) ?_ ?_
     rotate_left
     ·intro w'
      go_simp
      with_reducible rfl
     rotate_left
     ·simp only [Act.put, List.setIfInBounds_toArray, List.set_cons_zero, List.set_cons_succ, i64_w, i32_w]
      rfl
     refine one_ (i := 2) (N := some 31) #[tT, tT, tT, tF, tT, tT, tT, tF, tF, tF, tF, tF, tF, tF] rfl rfl (one_of HT_.out (by kernel_rfl)) (by decide) (fun K hK => ?_)
     refine goes_ Tryd.func49 (by kernel_rfl) rfl #[.bool a0_1] (by rfl) rfl rfl (by (try simp only [List.map_toArray, List.map_cons, List.map_nil]); first | done | rfl) ?_
     with_reducible refine (ctrl_one.calls a0_1 t132 _ A8.out).mono ?_
     rintro e w' ⟨rfl, ⟨nd, rfl⟩⟩
     refine ⟨_, rfl, ?_⟩
     refine hK.out _ _ ⟨(blk_cell BK124.out 0).trans rfl, (blk_cell BK124.out 1).trans rfl, (blk_cell BK124.out 2).trans rfl, (blk_cell BK124.out 3).trans rfl⟩ (fun hHeld => ?_)
     clear hK K
     refine norm_ (a' := ?_) ?_ ?_
     rotate_left
     ·show Act.put _ (some 31) _ = _
      simp only [Act.put, List.setIfInBounds_toArray, List.set_cons_zero, List.set_cons_succ, i64_w, i32_w]
      rfl
     refine pure_ (i := 3) (N := some 32) (v := ?_) (a' := ?_) #[tT, tT, tT, tT, tT, tT, tT, tF, tF, tF, tF, tF, tF, tF] rfl rfl (any_of HT_.out (by kernel_rfl)) (fun _ _ _ h => h) (Or.inl ⟨by rfl, ?_⟩) ?_ ?_
     rotate_left
     ·intro w'
      go_simp
      with_reducible rfl
     rotate_left
     ·simp only [Act.put, List.setIfInBounds_toArray, List.set_cons_zero, List.set_cons_succ, i64_w, i32_w]
      rfl
     refine one_ (i := 7) (N := some 36) #[tT, tT, tT, tT, tT, tT, tT, tT, tF, tF, tF, tF, tF, tF] rfl rfl (one_of HT_.out (by kernel_rfl)) (by decide) (fun K hK => ?_)
     refine Kd.R_lit_step k54 _ 54 ?hg (N := 36) ?hd (xs := ([(⟨1, t132⟩ : S54), (⟨7, a0_3⟩ : S54)] : List (S54))) (inner := [.int .i64 1, .int .i64 t132, .int .i64 7, .int .i64 a0_3]) (ok := fun _ => True) (okp := fun _ => True) ?hr ?hp (fun _ hk => hk) trivial (Below.refl _ _) (Nat.le_refl _) (by simp) ?_; (case hd => rfl); (case hg => rfl); (case hr => first | (go_simp; done) | (go_simp; rfl)); (case hp => exact (Reps.c2 (show Kd.M k54 _ _ _ (⟨1, t132⟩ : S54) [.int .i64 1, .int .i64 t132] from (k54_mkM _ _ _ (⟨1, t132⟩ : S54) )) (Reps.c2 (show Kd.M k54 _ _ _ (⟨7, a0_3⟩ : S54) [.int .i64 7, .int .i64 a0_3] from (k54_mkM _ _ _ (⟨7, a0_3⟩ : S54) )) (Reps.none _ _))))
     intro v134 w14 ho15 hb hg_ hnew_
     clear hg_ hnew_
     (first | rw [← Ny133.out] at ho15 | (simp only [Int.reduceToNat] at ho15; rw [← Ny133.out] at ho15))
     have n0_ := Aside0.mk (Kd.R_lower ho15 (below_size (by repeat (first | (with_reducible first | exact HB.out | apply below_alloc | apply pw_below_drewN | apply below_drew1 | refine below_set ?_ GE124.out) | exact HB.out))))
     have n1_ := Aside0.mk (blk_below (g := gb124) (o := .cells #[.int .i64 a0_0, .bool a0_1, .int .i64 a0_2, .int .i64 a0_3] 65 (0, 0)) (by (with_reducible repeat (first | apply blk_drewN | apply blk_drew | apply blk_alloc)); exact BK124.out) hb)
     have n2_ := Aside0.mk (below_step (by repeat (first | (with_reducible first | exact HB.out | apply below_alloc | apply pw_below_drewN | apply below_drew1 | refine below_set ?_ GE124.out) | exact HB.out)) hb)
     clear BK124
     clear HB
     have HO135 := n0_
     have BK124 := n1_
     have HB := n2_
     clear n0_ n1_ n2_
     clear hb ho15
     obtain ⟨Ao16, co16, eo16⟩ := Kd.R_slice HO135.out
     (first | subst eo16 | (injection eo16 with f1_ f2_ f3_; have f4_ := f1_.symm; have f5_ := f3_.symm; clear f1_ f2_ f3_; subst f4_; subst f5_))
     refine hK.out _ _ ⟨(blk_cell BK124.out 0).trans rfl, (blk_cell BK124.out 1).trans rfl, (blk_cell BK124.out 2).trans rfl, (blk_cell BK124.out 3).trans rfl⟩ (fun hHeld => ?_)
     clear hK K
     refine norm_ (a' := ?_) ?_ ?_
     rotate_left
     ·show Act.put _ (some 36) _ = _
      simp only [Act.put, List.setIfInBounds_toArray, List.set_cons_zero, List.set_cons_succ, i64_w, i32_w]
      rfl
     refine one_ (i := 8) (N := some 37) #[tT, tT, tT, tT, tT, tT, tT, tT, tT, tF, tF, tF, tF, tF] rfl rfl (one_of HT_.out (by kernel_rfl)) (by decide) (fun K hK => ?_)
     refine goes_ Tryd.func50 (by kernel_rfl) rfl #[.slice Ao16 y133.length co16] (by rfl) rfl rfl (by (try simp only [List.map_toArray, List.map_cons, List.map_nil]); first | done | rfl) ?_
     with_reducible refine (bits_Pack.calls k _ _ y133 t136 t137 _ ?side1 ?side2 A9.out).mono ?_
     (case side1 => repeat (first | exact (Kd.R_reads' HO135.out).2.2 | (with_reducible refine Kd.C_alloc ?_ _) | (with_reducible refine Kd.C_drewN ?_ _) | (with_reducible refine Kd.C_drew ?_)))
     (case side2 => exact (Kd.R_reads' HO135.out).2.1)
     rintro e w17 ⟨rfl, hb⟩
     refine ⟨_, rfl, ?_⟩
     have n0_ := Aside0.mk (Kd.R_below (by (with_reducible repeat (first | apply Kd.R_alloc | apply Kd.R_drewN | apply Kd.R_drew)); exact HO135.out) hb)
     have n1_ := Aside0.mk (blk_below (g := gb124) (o := .cells #[.int .i64 a0_0, .bool a0_1, .int .i64 a0_2, .int .i64 a0_3] 65 (0, 0)) (by (with_reducible repeat (first | apply blk_drewN | apply blk_drew | apply blk_alloc)); exact BK124.out) hb)
     have n2_ := Aside0.mk (below_step (by repeat (first | (with_reducible first | exact HB.out | apply below_alloc | apply pw_below_drewN | apply below_drew1 | refine below_set ?_ GE124.out) | exact HB.out)) hb)
     clear HO135
     clear BK124
     clear HB
     have HO135 := n0_
     have BK124 := n1_
     have HB := n2_
     clear n0_ n1_ n2_
     (try clear hb)
     (try clear hb2)
     (try clear hk)
     (try clear hi)
     refine hK.out _ _ ⟨(blk_cell BK124.out 0).trans rfl, (blk_cell BK124.out 1).trans rfl, (blk_cell BK124.out 2).trans rfl, (blk_cell BK124.out 3).trans rfl⟩ (fun hHeld => ?_)
     clear hK K
     refine norm_ (a' := ?_) ?_ ?_
     rotate_left
     ·show Act.put _ (some 37) _ = _
      simp only [Act.put, List.setIfInBounds_toArray, List.set_cons_zero, List.set_cons_succ, i64_w, i32_w]
      rfl
     refine pure_ (i := 9) (N := some 28) (v := ?_) (a' := ?_) #[tT, tT, tT, tT, tT, tT, tT, tT, tT, tT, tF, tF, tF, tF] rfl rfl (any_of HT_.out (by kernel_rfl)) (fun _ _ _ h => h) (Or.inl ⟨by rfl, ?_⟩) ?_ ?_
     rotate_left
     ·intro w'
      go_simp
      with_reducible rfl
     rotate_left
     ·simp only [Act.put, List.setIfInBounds_toArray, List.set_cons_zero, List.set_cons_succ, i64_w, i32_w]
      rfl
     refine pure_ (i := 10) (N := some 38) (v := ?_) (a' := ?_) #[tT, tT, tT, tT, tT, tT, tT, tT, tT, tT, tT, tF, tF, tF] rfl rfl (any_of HT_.out (by kernel_rfl)) (fun _ _ _ h => h) (Or.inl ⟨by rfl, ?_⟩) ?_ ?_
     rotate_left
     ·intro w'
      go_simp
      with_reducible rfl
     rotate_left
     ·simp only [Act.put, List.setIfInBounds_toArray, List.set_cons_zero, List.set_cons_succ, i64_w, i32_w]
      rfl
     refine pure_ (i := 11) (N := some 39) (v := ?_) (a' := ?_) #[tT, tT, tT, tT, tT, tT, tT, tT, tT, tT, tT, tT, tF, tF] rfl rfl (any_of HT_.out (by kernel_rfl)) (fun _ _ _ h => h) (Or.inl ⟨by rfl, ?_⟩) ?_ ?_
     rotate_left
     ·intro w'
      go_simp
      with_reducible rfl
     rotate_left
     ·simp only [Act.put, List.setIfInBounds_toArray, List.set_cons_zero, List.set_cons_succ, i64_w, i32_w]
      rfl
     refine pure_ (i := 12) (N := some 5) (v := ?_) (a' := ?_) #[tT, tT, tT, tT, tT, tT, tT, tT, tT, tT, tT, tT, tT, tF] rfl rfl (any_of HT_.out (by kernel_rfl)) (fun _ _ _ h => h) (Or.inl ⟨by rfl, ?_⟩) ?_ ?_
     rotate_left
     ·intro w'
      go_simp
      with_reducible rfl
     rotate_left
     ·simp only [Act.put, List.setIfInBounds_toArray, List.set_cons_zero, List.set_cons_succ, i64_w, i32_w]
      rfl
     refine pure_ (i := 13) (N := some 6) (v := ?_) (a' := ?_) #[tT, tT, tT, tT, tT, tT, tT, tT, tT, tT, tT, tT, tT, tT] rfl rfl (any_of HT_.out (by kernel_rfl)) (fun _ _ _ h => h) (Or.inl ⟨by rfl, ?_⟩) ?_ ?_
     rotate_left
     ·intro w'
      go_simp
      with_reducible rfl
     rotate_left
     ·simp only [Act.put, List.setIfInBounds_toArray, List.set_cons_zero, List.set_cons_succ, i64_w, i32_w]
      rfl
     refine done_ (done_of HT_.out (by kernel_rfl)) ?_
     go_upto_region 7 with (fail)
     go_cut [46] (fun v46 wc => ∃ (kq : Nat) (x46_9 : Bool), v46 = .bool x46_9 ∧ Aside0 (ctrl_Put.j0 kq (rd YtdpgdnbknmncfaaDoorX.glFirst a0_0) t136 t137 x46_9 a0_0 a0_1 a0_2 a0_3 = some (r1, r2)) ∧ Aside0 (kq ≤ k) ∧ Aside0 (wc.heap[gb124]? = some (.cells #[.int .i64 a0_0, .bool a0_1, .int .i64 a0_2, .int .i64 a0_3] 65 (0, 0))) ∧ Aside0 (Below w.heap.size w wc))
     case first =>
      have H := HC10.out
      clear HC10
      by_cases c18 : t137 = 0
      ·rw [if_pos c18] at H
       have c18b0 : (t137 == 0) = true := beq_iff_eq.mpr c18
       have c18b1 : (t137 != 0) = false := bne_eq_false_iff_eq.mpr c18
       clear c18
       (first | rw [c18b0] | (simp only [i64_w, i32_w]; rw [c18b0]) | skip)
       have H' := Aside0.mk H
       clear H
       have hcz19_0 : w17.cell? ⟨gb124, 0, none⟩ = some (.int .i64 a0_0) := (blk_cell BK124.out 0).trans rfl
       have hcz19_1 : w17.cell? ⟨gb124, 1, none⟩ = some (.bool a0_1) := (blk_cell BK124.out 1).trans rfl
       have hcz19_2 : w17.cell? ⟨gb124, 2, none⟩ = some (.int .i64 a0_2) := (blk_cell BK124.out 2).trans rfl
       have hcz19_3 : w17.cell? ⟨gb124, 3, none⟩ = some (.int .i64 a0_3) := (blk_cell BK124.out 3).trans rfl
       have hfz19_0 := blk_frozen BK124.out 0
       have hfz19_1 := blk_frozen BK124.out 1
       have hfz19_2 := blk_frozen BK124.out 2
       have hfz19_3 := blk_frozen BK124.out 3
       go_wp2
       go_meet
       case rel => exact ⟨_, ((a0_0 == 0)), (by first | rfl | (simp; done) | (simp [*]; done)), H', ⟨by first | omega | exact Nat.le_refl _⟩, ⟨by (with_reducible repeat (first | apply blk_drewN | apply blk_drew | apply blk_alloc)); exact BK124.out⟩, ⟨by repeat (first | (with_reducible first | exact HB.out | apply below_alloc | apply pw_below_drewN | apply below_drew1 | refine below_set ?_ GE124.out) | exact HB.out)⟩⟩
      ·rw [if_neg c18] at H
       have c18b0 : (t137 == 0) = false := beq_eq_false_iff_ne.mpr c18
       have c18b1 : (t137 != 0) = true := bne_iff_ne.mpr c18
       (first | rw [c18b0] | (simp only [i64_w, i32_w]; rw [c18b0]) | skip)
       have H' := Aside0.mk H
       clear H
       go_wp2
       go_meet
       case rel => exact ⟨_, (false), (by first | rfl | (simp; done) | (simp [*]; done)), H', ⟨by first | omega | exact Nat.le_refl _⟩, ⟨by (with_reducible repeat (first | apply blk_drewN | apply blk_drew | apply blk_alloc)); exact BK124.out⟩, ⟨by repeat (first | (with_reducible first | exact HB.out | apply below_alloc | apply pw_below_drewN | apply below_drew1 | refine below_set ?_ GE124.out) | exact HB.out)⟩⟩
     case rest =>
      clear HC10
      try clear c1
      try clear p1
      try clear q1
      try clear hx1
      try clear c2
      try clear p2
      try clear c3
      try clear c4
      try clear c4b0
      try clear c5
      try clear c5b0
      try clear p6
      try clear c7
      try clear p12
      try clear q12
      try clear hx12
      try clear c18
      try clear c18b0
      try clear c18b1
      try clear hcz12_0
      try clear hcz12_1
      try clear hcz12_2
      try clear hcz12_3
      try clear hcz19_0
      try clear hcz19_1
      try clear hcz19_2
      try clear hcz19_3
      try clear hfz12_0
      try clear hfz12_1
      try clear hfz12_2
      try clear hfz12_3
      try clear hfz19_0
      try clear hfz19_1
      try clear hfz19_2
      try clear hfz19_3
      try clear hx126_0
      try clear p126
      try clear q126
      obtain ⟨kq, x46_9, rfl, HA, HJ9, BK124, HB⟩ := hcut
      cases kq with
      | zero => exact absurd HA.out (by simp [ctrl_Put.j0])
      | succ kj9 =>
       have H := HA.out
       clear HA
       simp only [ctrl_Put.j0] at H
       by_cases c20 : x46_9 = true
       ·subst c20
        have H1 : ((bits_Pack.f kj9 (([(⟨1, 0⟩ : S54), (⟨7, a0_2⟩ : S54)] : List (S54)))).bind fun bt141 => (if bt141.2 = 0 then (some (strOfNums (([bt141.1, t136] : List Int)), 0)) else (some ((⟨#[]⟩ : ByteArray), 2)))) = some (r1, r2) := by rw [if_pos rfl] at H; exact H
        clear H
        have H := H1
        clear H1
        obtain ⟨y138, hy138⟩ : ∃ y_ : List (S54), y_ = (([(⟨1, 0⟩ : S54), (⟨7, a0_2⟩ : S54)] : List (S54))) := ⟨_, rfl⟩
        replace H : ((bits_Pack.f kj9 y138).bind fun bt141 => (if bt141.2 = 0 then (some (strOfNums (([bt141.1, t136] : List Int)), 0)) else (some ((⟨#[]⟩ : ByteArray), 2)))) = some (r1, r2) := by first | (rw [hy138]; with_reducible exact H) | (have H2_ := (Option.bind_some _ _).symm.trans H; rw [hy138]; with_reducible exact H2_) | (have H2_ := (Option.bind_some _ _).symm.trans H; with_reducible exact H2_) | with_reducible exact H | (rw [hy138]; exact H) | exact H
        have Ny138 := Aside0.mk hy138
        clear hy138
        replace H := Option.bind_eq_some_iff.mp H
        obtain ⟨⟨t141, t142⟩, A210, H⟩ := H
        replace H : (if t142 = 0 then (some (strOfNums (([t141, t136] : List Int)), 0)) else (some ((⟨#[]⟩ : ByteArray), 2))) = some (r1, r2) := H
        have A21 := Aside0.mk A210
        clear A210
        by_cases c22 : t142 = 0
        ·rw [if_pos c22] at H
         have c22b0 : (t142 == 0) = true := beq_iff_eq.mpr c22
         have c22b1 : (t142 != 0) = false := bne_eq_false_iff_eq.mpr c22
         clear c22
         obtain ⟨y143, hy143⟩ : ∃ y_ : List Int, y_ = (([t141, t136] : List Int)) := ⟨_, rfl⟩
         replace H : (some (strOfNums y143, 0)) = some (r1, r2) := by first | (rw [hy143]; with_reducible exact H) | (have H2_ := (Option.bind_some _ _).symm.trans H; rw [hy143]; with_reducible exact H2_) | (have H2_ := (Option.bind_some _ _).symm.trans H; with_reducible exact H2_) | with_reducible exact H | (rw [hy143]; exact H) | exact H
         have Ny143 := Aside0.mk hy143
         clear hy143
         simp only [Option.some.injEq, Prod.mk.injEq] at H
         obtain ⟨rfl, rfl⟩ := H
         have hcz23_0 : wc.cell? ⟨gb124, 0, none⟩ = some (.int .i64 a0_0) := (blk_cell BK124.out 0).trans rfl
         have hcz23_1 : wc.cell? ⟨gb124, 1, none⟩ = some (.bool a0_1) := (blk_cell BK124.out 1).trans rfl
         have hcz23_2 : wc.cell? ⟨gb124, 2, none⟩ = some (.int .i64 a0_2) := (blk_cell BK124.out 2).trans rfl
         have hcz23_3 : wc.cell? ⟨gb124, 3, none⟩ = some (.int .i64 a0_3) := (blk_cell BK124.out 3).trans rfl
         have hfz23_0 := blk_frozen BK124.out 0
         have hfz23_1 := blk_frozen BK124.out 1
         have hfz23_2 := blk_frozen BK124.out 2
         have hfz23_3 := blk_frozen BK124.out 3
         go_wp2_with (first | ((with_reducible refine gate_dst (N := 52) rfl ?_); refine Kd.R_lit k54 _ 54 ?hg (N := 52) ?hd (xs := ([(⟨1, 0⟩ : S54), (⟨7, a0_2⟩ : S54)] : List (S54))) (inner := [.int .i64 1, .int .i64 0, .int .i64 7, .int .i64 a0_2]) (ok := fun _ => True) (okp := fun _ => True) ?hr ?hp (fun _ hk => hk) trivial (Below.refl _ _) (Nat.le_refl _) (by simp) ?_; (case hd => rfl); (case hg => rfl); (case hr => first | (go_simp; done) | (go_simp; rfl)); (case hp => exact (Reps.c2 (show Kd.M k54 _ _ _ (⟨1, 0⟩ : S54) [.int .i64 1, .int .i64 0] from (k54_mkM _ _ _ (⟨1, 0⟩ : S54) )) (Reps.c2 (show Kd.M k54 _ _ _ (⟨7, a0_2⟩ : S54) [.int .i64 7, .int .i64 a0_2] from (k54_mkM _ _ _ (⟨7, a0_2⟩ : S54) )) (Reps.none _ _)))); intro v139 w24 ho25 hb hg_ hnew_; clear hg_ hnew_; (first | rw [← Ny138.out] at ho25 | (simp only [Int.reduceToNat] at ho25; rw [← Ny138.out] at ho25)); have n0_ := Aside0.mk (Kd.R_lower ho25 (below_size (by repeat (first | (with_reducible first | exact HB.out | apply below_alloc | apply pw_below_drewN | apply below_drew1 | refine below_set ?_ GE124.out) | exact HB.out)))); have n1_ := Aside0.mk (blk_below (g := gb124) (o := .cells #[.int .i64 a0_0, .bool a0_1, .int .i64 a0_2, .int .i64 a0_3] 65 (0, 0)) (by (with_reducible repeat (first | refine blk_drewN ?_ _ | refine blk_drew ?_ | refine blk_alloc ?_ _)); exact BK124.out) hb); have n2_ := Aside0.mk (below_step (by repeat (first | (with_reducible first | exact HB.out | apply below_alloc | apply pw_below_drewN | apply below_drew1 | refine below_set ?_ GE124.out) | exact HB.out)) hb); clear BK124; clear HB; have HO140 := n0_; have BK124 := n1_; have HB := n2_; clear n0_ n1_ n2_; clear hb ho25; obtain ⟨Ao26, co26, eo26⟩ := Kd.R_slice HO140.out; subst eo26) | ((with_reducible refine gate_callee (f := 50) rfl ?_); refine goesL_ (some 53) rfl rfl Tryd.func50 (by kernel_rfl) rfl #[.slice Ao26 y138.length co26] rfl (by (try simp only [List.map_toArray, List.map_cons, List.map_nil]); first | done | rfl | (simp only [List.length_drop, List.length_take]; rfl)) ?_; (with_reducible refine (bits_Pack.calls kj9 _ _ y138 t141 t142 _ ?side1 ?side2 A21.out).mono ?_); (case side1 => repeat (first | exact (Kd.R_reads' HO140.out).2.2 | (with_reducible refine Kd.C_alloc ?_ _) | (with_reducible refine Kd.C_drewN ?_ _) | (with_reducible refine Kd.C_drew ?_))); (case side2 => exact (Kd.R_reads' HO140.out).2.1); rintro e w27 ⟨rfl, hb⟩; refine ⟨_, rfl, ?_⟩; have n0_ := Aside0.mk (Kd.R_below (by (with_reducible repeat (first | apply Kd.R_alloc | apply Kd.R_drewN | apply Kd.R_drew)); exact HO140.out) hb); have n1_ := Aside0.mk (blk_below (g := gb124) (o := .cells #[.int .i64 a0_0, .bool a0_1, .int .i64 a0_2, .int .i64 a0_3] 65 (0, 0)) (by (with_reducible repeat (first | refine blk_drewN ?_ _ | refine blk_drew ?_ | refine blk_alloc ?_ _)); exact BK124.out) hb); have n2_ := Aside0.mk (below_step (by repeat (first | (with_reducible first | exact HB.out | apply below_alloc | apply pw_below_drewN | apply below_drew1 | refine below_set ?_ GE124.out) | exact HB.out)) hb); clear HO140; clear BK124; clear HB; have HO140 := n0_; have BK124 := n1_; have HB := n2_; clear n0_ n1_ n2_; (try clear hb); (try clear hb2); (try clear hk); (try clear hi)) | ((with_reducible refine gate_dst (N := 60) rfl ?_); refine Kd.R_lit (Kd.int .u8) _ 5 ?hg (N := 60) ?hd (xs := ([t141, t136] : List Int)) (inner := [.int .u8 t141, .int .u8 t136]) (ok := fun _ => True) (okp := fun _ => True) ?hr ?hp (fun _ hk => hk) trivial (Below.refl _ _) (Nat.le_refl _) (by simp) ?_; (case hd => rfl); (case hg => rfl); (case hr => first | (go_simp; done) | (go_simp; rfl)); (case hp => exact (Reps.one (show Kd.M (Kd.int .u8) _ _ _ t141 [.int .u8 t141] from rfl) (Reps.one (show Kd.M (Kd.int .u8) _ _ _ t136 [.int .u8 t136] from rfl) (Reps.none _ _)))); intro v144 w28 ho29 hb hg_ hnew_; clear hg_ hnew_; (first | rw [← Ny143.out] at ho29 | (simp only [Int.reduceToNat] at ho29; rw [← Ny143.out] at ho29)); have n0_ := Aside0.mk (Kd.R_below (by (with_reducible repeat (first | apply Kd.R_alloc | apply Kd.R_drewN | apply Kd.R_drew)); exact HO140.out) hb); have n1_ := Aside0.mk (Kd.R_lower ho29 (below_size (by repeat (first | (with_reducible first | exact HB.out | apply below_alloc | apply pw_below_drewN | apply below_drew1 | refine below_set ?_ GE124.out) | exact HB.out)))); have n2_ := Aside0.mk (blk_below (g := gb124) (o := .cells #[.int .i64 a0_0, .bool a0_1, .int .i64 a0_2, .int .i64 a0_3] 65 (0, 0)) (by (with_reducible repeat (first | refine blk_drewN ?_ _ | refine blk_drew ?_ | refine blk_alloc ?_ _)); exact BK124.out) hb); have n3_ := Aside0.mk (below_step (by repeat (first | (with_reducible first | exact HB.out | apply below_alloc | apply pw_below_drewN | apply below_drew1 | refine below_set ?_ GE124.out) | exact HB.out)) hb); clear HO140; clear BK124; clear HB; have HO140 := n0_; have HO145 := n1_; have BK124 := n2_; have HB := n3_; clear n0_ n1_ n2_ n3_; clear hb ho29; have hcv30 := own_string (P := Tryd.prog) Tryd.underlying52 Tryd.underlying5 Tryd.underlying9 (Kd.own_of_R HO145.out)))
         go_ret2
         exact ⟨by first | rfl | (simp [errW_none, errW_some] <;> rfl) | (simp [*, errW_none, errW_some] <;> rfl), by repeat (first | (with_reducible first | exact HB.out | apply below_alloc | apply pw_below_drewN | apply below_drew1 | refine below_set ?_ GE124.out) | exact HB.out)⟩
        ·rw [if_neg c22] at H
         have c22b0 : (t142 == 0) = false := beq_eq_false_iff_ne.mpr c22
         have c22b1 : (t142 != 0) = true := bne_iff_ne.mpr c22
         simp only [Option.some.injEq, Prod.mk.injEq] at H
         obtain ⟨rfl, rfl⟩ := H
         have hcz31_0 : wc.cell? ⟨gb124, 0, none⟩ = some (.int .i64 a0_0) := (blk_cell BK124.out 0).trans rfl
         have hcz31_1 : wc.cell? ⟨gb124, 1, none⟩ = some (.bool a0_1) := (blk_cell BK124.out 1).trans rfl
         have hcz31_2 : wc.cell? ⟨gb124, 2, none⟩ = some (.int .i64 a0_2) := (blk_cell BK124.out 2).trans rfl
         have hcz31_3 : wc.cell? ⟨gb124, 3, none⟩ = some (.int .i64 a0_3) := (blk_cell BK124.out 3).trans rfl
         have hfz31_0 := blk_frozen BK124.out 0
         have hfz31_1 := blk_frozen BK124.out 1
         have hfz31_2 := blk_frozen BK124.out 2
         have hfz31_3 := blk_frozen BK124.out 3
         go_wp2_with (first | ((with_reducible refine gate_dst (N := 52) rfl ?_); refine Kd.R_lit k54 _ 54 ?hg (N := 52) ?hd (xs := ([(⟨1, 0⟩ : S54), (⟨7, a0_2⟩ : S54)] : List (S54))) (inner := [.int .i64 1, .int .i64 0, .int .i64 7, .int .i64 a0_2]) (ok := fun _ => True) (okp := fun _ => True) ?hr ?hp (fun _ hk => hk) trivial (Below.refl _ _) (Nat.le_refl _) (by simp) ?_; (case hd => rfl); (case hg => rfl); (case hr => first | (go_simp; done) | (go_simp; rfl)); (case hp => exact (Reps.c2 (show Kd.M k54 _ _ _ (⟨1, 0⟩ : S54) [.int .i64 1, .int .i64 0] from (k54_mkM _ _ _ (⟨1, 0⟩ : S54) )) (Reps.c2 (show Kd.M k54 _ _ _ (⟨7, a0_2⟩ : S54) [.int .i64 7, .int .i64 a0_2] from (k54_mkM _ _ _ (⟨7, a0_2⟩ : S54) )) (Reps.none _ _)))); intro v139 w32 ho33 hb hg_ hnew_; clear hg_ hnew_; (first | rw [← Ny138.out] at ho33 | (simp only [Int.reduceToNat] at ho33; rw [← Ny138.out] at ho33)); have n0_ := Aside0.mk (Kd.R_lower ho33 (below_size (by repeat (first | (with_reducible first | exact HB.out | apply below_alloc | apply pw_below_drewN | apply below_drew1 | refine below_set ?_ GE124.out) | exact HB.out)))); have n1_ := Aside0.mk (blk_below (g := gb124) (o := .cells #[.int .i64 a0_0, .bool a0_1, .int .i64 a0_2, .int .i64 a0_3] 65 (0, 0)) (by (with_reducible repeat (first | refine blk_drewN ?_ _ | refine blk_drew ?_ | refine blk_alloc ?_ _)); exact BK124.out) hb); have n2_ := Aside0.mk (below_step (by repeat (first | (with_reducible first | exact HB.out | apply below_alloc | apply pw_below_drewN | apply below_drew1 | refine below_set ?_ GE124.out) | exact HB.out)) hb); clear BK124; clear HB; have HO140 := n0_; have BK124 := n1_; have HB := n2_; clear n0_ n1_ n2_; clear hb ho33; obtain ⟨Ao34, co34, eo34⟩ := Kd.R_slice HO140.out; subst eo34) | ((with_reducible refine gate_callee (f := 50) rfl ?_); refine goesL_ (some 53) rfl rfl Tryd.func50 (by kernel_rfl) rfl #[.slice Ao34 y138.length co34] rfl (by (try simp only [List.map_toArray, List.map_cons, List.map_nil]); first | done | rfl | (simp only [List.length_drop, List.length_take]; rfl)) ?_; (with_reducible refine (bits_Pack.calls kj9 _ _ y138 t141 t142 _ ?side1 ?side2 A21.out).mono ?_); (case side1 => repeat (first | exact (Kd.R_reads' HO140.out).2.2 | (with_reducible refine Kd.C_alloc ?_ _) | (with_reducible refine Kd.C_drewN ?_ _) | (with_reducible refine Kd.C_drew ?_))); (case side2 => exact (Kd.R_reads' HO140.out).2.1); rintro e w35 ⟨rfl, hb⟩; refine ⟨_, rfl, ?_⟩; have n0_ := Aside0.mk (Kd.R_below (by (with_reducible repeat (first | apply Kd.R_alloc | apply Kd.R_drewN | apply Kd.R_drew)); exact HO140.out) hb); have n1_ := Aside0.mk (blk_below (g := gb124) (o := .cells #[.int .i64 a0_0, .bool a0_1, .int .i64 a0_2, .int .i64 a0_3] 65 (0, 0)) (by (with_reducible repeat (first | refine blk_drewN ?_ _ | refine blk_drew ?_ | refine blk_alloc ?_ _)); exact BK124.out) hb); have n2_ := Aside0.mk (below_step (by repeat (first | (with_reducible first | exact HB.out | apply below_alloc | apply pw_below_drewN | apply below_drew1 | refine below_set ?_ GE124.out) | exact HB.out)) hb); clear HO140; clear BK124; clear HB; have HO140 := n0_; have BK124 := n1_; have HB := n2_; clear n0_ n1_ n2_; (try clear hb); (try clear hb2); (try clear hk); (try clear hi)))
         go_ret2
         exact ⟨by first | rfl | (simp [errW_none, errW_some] <;> rfl) | (simp [*, errW_none, errW_some] <;> rfl), by repeat (first | (with_reducible first | exact HB.out | apply below_alloc | apply pw_below_drewN | apply below_drew1 | refine below_set ?_ GE124.out) | exact HB.out)⟩
       ·replace c20 := Bool.eq_false_iff.mpr c20
        subst c20
        have H1 : (if t137 = 0 then (some (strOfNums (([(rd YtdpgdnbknmncfaaDoorX.glFirst a0_0), t136] : List Int)), 0)) else (some ((⟨#[]⟩ : ByteArray), 2))) = some (r1, r2) := by rw [if_neg (show ¬ (false = true) by decide)] at H; exact H
        clear H
        have H := H1
        clear H1
        by_cases c36 : t137 = 0
        ·rw [if_pos c36] at H
         have c36b0 : (t137 == 0) = true := beq_iff_eq.mpr c36
         have c36b1 : (t137 != 0) = false := bne_eq_false_iff_eq.mpr c36
         clear c36
         obtain ⟨y146, hy146⟩ : ∃ y_ : List Int, y_ = (([(rd YtdpgdnbknmncfaaDoorX.glFirst a0_0), t136] : List Int)) := ⟨_, rfl⟩
         replace H : (some (strOfNums y146, 0)) = some (r1, r2) := by first | (rw [hy146]; with_reducible exact H) | (have H2_ := (Option.bind_some _ _).symm.trans H; rw [hy146]; with_reducible exact H2_) | (have H2_ := (Option.bind_some _ _).symm.trans H; with_reducible exact H2_) | with_reducible exact H | (rw [hy146]; exact H) | exact H
         have Ny146 := Aside0.mk hy146
         clear hy146
         simp only [Option.some.injEq, Prod.mk.injEq] at H
         obtain ⟨rfl, rfl⟩ := H
         go_wp2_with (first | ((with_reducible refine gate_dst (N := 60) rfl ?_); refine Kd.R_lit (Kd.int .u8) _ 5 ?hg (N := 60) ?hd (xs := ([(rd YtdpgdnbknmncfaaDoorX.glFirst a0_0), t136] : List Int)) (inner := [.int .u8 (rd YtdpgdnbknmncfaaDoorX.glFirst a0_0), .int .u8 t136]) (ok := fun _ => True) (okp := fun _ => True) ?hr ?hp (fun _ hk => hk) trivial (Below.refl _ _) (Nat.le_refl _) (by simp) ?_; (case hd => rfl); (case hg => rfl); (case hr => first | (go_simp; done) | (go_simp; rfl)); (case hp => exact (Reps.one (show Kd.M (Kd.int .u8) _ _ _ (rd YtdpgdnbknmncfaaDoorX.glFirst a0_0) [.int .u8 (rd YtdpgdnbknmncfaaDoorX.glFirst a0_0)] from rfl) (Reps.one (show Kd.M (Kd.int .u8) _ _ _ t136 [.int .u8 t136] from rfl) (Reps.none _ _)))); intro v147 w37 ho38 hb hg_ hnew_; clear hg_ hnew_; (first | rw [← Ny146.out] at ho38 | (simp only [Int.reduceToNat] at ho38; rw [← Ny146.out] at ho38)); have n0_ := Aside0.mk (Kd.R_lower ho38 (below_size (by repeat (first | (with_reducible first | exact HB.out | apply below_alloc | apply pw_below_drewN | apply below_drew1 | refine below_set ?_ GE124.out) | exact HB.out)))); have n1_ := Aside0.mk (blk_below (g := gb124) (o := .cells #[.int .i64 a0_0, .bool a0_1, .int .i64 a0_2, .int .i64 a0_3] 65 (0, 0)) (by (with_reducible repeat (first | refine blk_drewN ?_ _ | refine blk_drew ?_ | refine blk_alloc ?_ _)); exact BK124.out) hb); have n2_ := Aside0.mk (below_step (by repeat (first | (with_reducible first | exact HB.out | apply below_alloc | apply pw_below_drewN | apply below_drew1 | refine below_set ?_ GE124.out) | exact HB.out)) hb); clear BK124; clear HB; have HO148 := n0_; have BK124 := n1_; have HB := n2_; clear n0_ n1_ n2_; clear hb ho38; have hcv39 := own_string (P := Tryd.prog) Tryd.underlying52 Tryd.underlying5 Tryd.underlying9 (Kd.own_of_R HO148.out)))
         go_ret2
         exact ⟨by first | rfl | (simp [errW_none, errW_some] <;> rfl) | (simp [*, errW_none, errW_some] <;> rfl), by repeat (first | (with_reducible first | exact HB.out | apply below_alloc | apply pw_below_drewN | apply below_drew1 | refine below_set ?_ GE124.out) | exact HB.out)⟩
        ·rw [if_neg c36] at H
         have c36b0 : (t137 == 0) = false := beq_eq_false_iff_ne.mpr c36
         have c36b1 : (t137 != 0) = true := bne_iff_ne.mpr c36
         simp only [Option.some.injEq, Prod.mk.injEq] at H
         obtain ⟨rfl, rfl⟩ := H
         go_wp2
         go_ret2
         exact ⟨by first | rfl | (simp [errW_none, errW_some] <;> rfl) | (simp [*, errW_none, errW_some] <;> rfl), by repeat (first | (with_reducible first | exact HB.out | apply below_alloc | apply pw_below_drewN | apply below_drew1 | refine below_set ?_ GE124.out) | exact HB.out)⟩
    ·replace c7 := Bool.eq_false_iff.mpr c7
     subst c7
     have H1 : ((ctrl_one.f a0_1).bind fun t128 => (some (strOfNums (([Go.bits .or .u8 (rd YtdpgdnbknmncfaaDoorX.glFirst a0_0) ((wrap64 (t128 * 16)) % 256)] : List Int)), 0))) = some (r1, r2) := by rw [if_neg (show ¬ (false = true) by decide)] at H; exact H
     clear H
     have H := H1
     clear H1
     replace H := Option.bind_eq_some_iff.mp H
     obtain ⟨t128, A400, H⟩ := H
     replace H : (some (strOfNums (([Go.bits .or .u8 (rd YtdpgdnbknmncfaaDoorX.glFirst a0_0) ((wrap64 (t128 * 16)) % 256)] : List Int)), 0)) = some (r1, r2) := H
     have A40 := Aside0.mk A400
     clear A400
     obtain ⟨y129, hy129⟩ : ∃ y_ : List Int, y_ = (([Go.bits .or .u8 (rd YtdpgdnbknmncfaaDoorX.glFirst a0_0) ((wrap64 (t128 * 16)) % 256)] : List Int)) := ⟨_, rfl⟩
     replace H : (some (strOfNums y129, 0)) = some (r1, r2) := by first | (rw [hy129]; with_reducible exact H) | (have H2_ := (Option.bind_some _ _).symm.trans H; rw [hy129]; with_reducible exact H2_) | (have H2_ := (Option.bind_some _ _).symm.trans H; with_reducible exact H2_) | with_reducible exact H | (rw [hy129]; exact H) | exact H
     have Ny129 := Aside0.mk hy129
     clear hy129
     simp only [Option.some.injEq, Prod.mk.injEq] at H
     obtain ⟨rfl, rfl⟩ := H
     go_enter Tryd.func29, Tryd.ntmps29
     go_wp2_with (first | ((with_reducible refine gate_dst (N := 1) rfl ?_); refine box_event ?hg (N := 1) ?hd (cs := #[.int .i64 a0_0, .bool a0_1, .int .i64 a0_2, .int .i64 a0_3]) (t := 65) ?hr ?_; (case hd => rfl); (case hg => rfl); (case hr => first | (go_simp; done) | (go_simp; rfl)); intro gb124 hg w41 hbox hb; have n0_ := Aside0.mk (below_step (by repeat (first | (with_reducible first | exact HB.out | apply below_alloc | apply pw_below_drewN | apply below_drew1) | exact HB.out)) hb); have n1_ := Aside0.mk (hbox); have n2_ := Aside0.mk ((by rw [hg]; exact (below_size (by repeat (first | (with_reducible first | exact HB.out | apply below_alloc | apply pw_below_drewN | apply below_drew1) | exact HB.out))) : w.heap.size ≤ gb124)); have n3_ := n2_; clear HB; have HB := n0_; have BK124 := n1_; have GW124 := n2_; have GE124 := n3_; clear n0_ n1_ n2_ n3_; clear hb hbox hg; have hcz42_0 : w41.cell? ⟨gb124, 0, none⟩ = some (.int .i64 a0_0) := (blk_cell BK124.out 0).trans rfl; have hcz42_1 : w41.cell? ⟨gb124, 1, none⟩ = some (.bool a0_1) := (blk_cell BK124.out 1).trans rfl; have hcz42_2 : w41.cell? ⟨gb124, 2, none⟩ = some (.int .i64 a0_2) := (blk_cell BK124.out 2).trans rfl; have hcz42_3 : w41.cell? ⟨gb124, 3, none⟩ = some (.int .i64 a0_3) := (blk_cell BK124.out 3).trans rfl; have hfz42_0 := blk_frozen BK124.out 0; have hfz42_1 := blk_frozen BK124.out 1; have hfz42_2 := blk_frozen BK124.out 2; have hfz42_3 := blk_frozen BK124.out 3) | ((with_reducible refine gate_callee (f := 48) rfl ?_); refine goesL_ (some 9) rfl rfl Tryd.func48 (by kernel_rfl) rfl #[.int .i64 a0_0] rfl (by (try simp only [List.map_toArray, List.map_cons, List.map_nil]); first | done | rfl | (simp only [List.length_drop, List.length_take]; rfl)) ?_; (with_reducible refine (ctrl_Kind_good.calls a0_0 true _ A2.out).mono ?_); rintro e w' ⟨rfl, ⟨nd, rfl⟩⟩; refine ⟨_, rfl, ?_⟩; have p126 : 0 ≤ (a0_0 : Int) := of_decide_eq_true (by first | (with_reducible assumption) | assumption); have q126 : a0_0 < (YtdpgdnbknmncfaaDoorX.glFirst.length : Int) := (by show (a0_0 : Int) < (10 : Int); exact of_decide_eq_true (by first | (with_reducible assumption) | assumption)); have ql126 : ((a0_0 : Int) < (10 : Int)) = True := eq_true (of_decide_eq_true (by first | (with_reducible assumption) | assumption)); obtain ⟨ad126, e126, hx126_0⟩ := Kd.at_int HGfirst.out a0_0 p126 q126; obtain rfl : (⟨1, 0, none⟩ : Addr) = ad126 := (by injection e126); (first | simp only [add_plain] at hx126_0 | simp only [add_at] at hx126_0 | simp only [Addr.add, Nat.zero_add] at hx126_0 | skip); replace hx126_0 := (HB.out.cell (World.block_lt_of_cell? w _ hx126_0)).trans hx126_0; replace p126 := eq_true p126; replace q126 := eq_true q126) | ((with_reducible refine gate_callee (f := 23) rfl ?_); refine goesL_ (some 17) rfl rfl Tryd.func23 (by kernel_rfl) rfl #[.int .i64 a0_0] rfl (by (try simp only [List.map_toArray, List.map_cons, List.map_nil]); first | done | rfl | (simp only [List.length_drop, List.length_take]; rfl)) ?_; (with_reducible refine (ctrl_Kind_Numbered.calls a0_0 false _ A6.out).mono ?_); rintro e w' ⟨rfl, ⟨nd, rfl⟩⟩; refine ⟨_, rfl, ?_⟩) | ((with_reducible refine gate_callee (f := 49) rfl ?_); refine goesL_ (some 22) rfl rfl Tryd.func49 (by kernel_rfl) rfl #[.bool a0_1] rfl (by (try simp only [List.map_toArray, List.map_cons, List.map_nil]); first | done | rfl | (simp only [List.length_drop, List.length_take]; rfl)) ?_; (with_reducible refine (ctrl_one.calls a0_1 t128 _ A40.out).mono ?_); rintro e w' ⟨rfl, ⟨nd, rfl⟩⟩; refine ⟨_, rfl, ?_⟩) | ((with_reducible refine gate_dst (N := 26) rfl ?_); refine Kd.R_lit (Kd.int .u8) _ 5 ?hg (N := 26) ?hd (xs := ([Go.bits .or .u8 (rd YtdpgdnbknmncfaaDoorX.glFirst a0_0) ((wrap64 (t128 * 16)) % 256)] : List Int)) (inner := [.int .u8 (Go.bits .or .u8 (rd YtdpgdnbknmncfaaDoorX.glFirst a0_0) ((wrap64 (t128 * 16)) % 256))]) (ok := fun _ => True) (okp := fun _ => True) ?hr ?hp (fun _ hk => hk) trivial (Below.refl _ _) (Nat.le_refl _) (by simp) ?_; (case hd => rfl); (case hg => rfl); (case hr => first | (go_simp; done) | (go_simp; rfl)); (case hp => exact (Reps.one (show Kd.M (Kd.int .u8) _ _ _ (Go.bits .or .u8 (rd YtdpgdnbknmncfaaDoorX.glFirst a0_0) ((wrap64 (t128 * 16)) % 256)) [.int .u8 (Go.bits .or .u8 (rd YtdpgdnbknmncfaaDoorX.glFirst a0_0) ((wrap64 (t128 * 16)) % 256))] from rfl) (Reps.none _ _))); intro v130 w43 ho44 hb hg_ hnew_; clear hg_ hnew_; (first | rw [← Ny129.out] at ho44 | (simp only [Int.reduceToNat] at ho44; rw [← Ny129.out] at ho44)); have n0_ := Aside0.mk (Kd.R_lower ho44 (below_size (by repeat (first | (with_reducible first | exact HB.out | apply below_alloc | apply pw_below_drewN | apply below_drew1 | refine below_set ?_ GE124.out) | exact HB.out)))); have n1_ := Aside0.mk (blk_below (g := gb124) (o := .cells #[.int .i64 a0_0, .bool a0_1, .int .i64 a0_2, .int .i64 a0_3] 65 (0, 0)) (by (with_reducible repeat (first | refine blk_drewN ?_ _ | refine blk_drew ?_ | refine blk_alloc ?_ _)); exact BK124.out) hb); have n2_ := Aside0.mk (below_step (by repeat (first | (with_reducible first | exact HB.out | apply below_alloc | apply pw_below_drewN | apply below_drew1 | refine below_set ?_ GE124.out) | exact HB.out)) hb); clear BK124; clear HB; have HO131 := n0_; have BK124 := n1_; have HB := n2_; clear n0_ n1_ n2_; clear hb ho44; have hcv45 := own_string (P := Tryd.prog) Tryd.underlying52 Tryd.underlying5 Tryd.underlying9 (Kd.own_of_R HO131.out)))
     go_ret2
     exact ⟨by first | rfl | (simp [errW_none, errW_some] <;> rfl) | (simp [*, errW_none, errW_some] <;> rfl), by repeat (first | (with_reducible first | exact HB.out | apply below_alloc | apply pw_below_drewN | apply below_drew1 | refine below_set ?_ GE124.out) | exact HB.out)⟩
   ·rw [if_neg c5] at H
    exact absurd H (by simp)
  ·rw [if_neg c4] at H
   exact absurd H (by simp)
 ·replace c3 := Bool.eq_false_iff.mpr c3
  subst c3
  have H1 : (some ((⟨#[]⟩ : ByteArray), 4)) = some (r1, r2) := by rw [if_neg (show ¬ (false = true) by decide)] at H; exact H
  clear H
  have H := H1
  clear H1
  simp only [Option.some.injEq, Prod.mk.injEq] at H
  obtain ⟨rfl, rfl⟩ := H
  go_enter Tryd.func29, Tryd.ntmps29
  go_wp2_with (first | ((with_reducible refine gate_dst (N := 1) rfl ?_); refine box_event ?hg (N := 1) ?hd (cs := #[.int .i64 a0_0, .bool a0_1, .int .i64 a0_2, .int .i64 a0_3]) (t := 65) ?hr ?_; (case hd => rfl); (case hg => rfl); (case hr => first | (go_simp; done) | (go_simp; rfl)); intro gb124 hg w46 hbox hb; have n0_ := Aside0.mk (below_step (by repeat (first | (with_reducible first | exact HB.out | apply below_alloc | apply pw_below_drewN | apply below_drew1) | exact HB.out)) hb); have n1_ := Aside0.mk (hbox); have n2_ := Aside0.mk ((by rw [hg]; exact (below_size (by repeat (first | (with_reducible first | exact HB.out | apply below_alloc | apply pw_below_drewN | apply below_drew1) | exact HB.out))) : w.heap.size ≤ gb124)); have n3_ := n2_; clear HB; have HB := n0_; have BK124 := n1_; have GW124 := n2_; have GE124 := n3_; clear n0_ n1_ n2_ n3_; clear hb hbox hg; have hcz47_0 : w46.cell? ⟨gb124, 0, none⟩ = some (.int .i64 a0_0) := (blk_cell BK124.out 0).trans rfl; have hcz47_1 : w46.cell? ⟨gb124, 1, none⟩ = some (.bool a0_1) := (blk_cell BK124.out 1).trans rfl; have hcz47_2 : w46.cell? ⟨gb124, 2, none⟩ = some (.int .i64 a0_2) := (blk_cell BK124.out 2).trans rfl; have hcz47_3 : w46.cell? ⟨gb124, 3, none⟩ = some (.int .i64 a0_3) := (blk_cell BK124.out 3).trans rfl; have hfz47_0 := blk_frozen BK124.out 0; have hfz47_1 := blk_frozen BK124.out 1; have hfz47_2 := blk_frozen BK124.out 2; have hfz47_3 := blk_frozen BK124.out 3) | ((with_reducible refine gate_callee (f := 48) rfl ?_); refine goesL_ (some 9) rfl rfl Tryd.func48 (by kernel_rfl) rfl #[.int .i64 a0_0] rfl (by (try simp only [List.map_toArray, List.map_cons, List.map_nil]); first | done | rfl) ?_; (with_reducible refine (ctrl_Kind_good.calls a0_0 false _ A2.out).mono ?_); rintro e w' ⟨rfl, ⟨nd, rfl⟩⟩; refine ⟨_, rfl, ?_⟩))
  go_ret2
  exact ⟨by first | rfl | (simp [errW_none, errW_some] <;> rfl) | (simp [*, errW_none, errW_some] <;> rfl), by repeat (first | (with_reducible first | exact HB.out | apply below_alloc | apply pw_below_drewN | apply below_drew1 | refine below_set ?_ GE124.out) | exact HB.out)⟩

/-! ### addr_one: function 51 -/
def addr_one.f (a0 : Bool) : Option (Int) := if a0 = true then (some 1) else (some 0)
set_option maxHeartbeats 8000000 in
set_option maxRecDepth 100000 in
theorem addr_one.calls (a0 : Bool) (r : Int) (w : World) (h : addr_one.f a0 = some r) :
  Calls Tryd.prog 51 #[.bool a0] w fun e w' => e = .returned (.int .i64 r) ∧ Drawn0 w w' := by
 have H : (if a0 = true then (some 1) else (some 0)) = some r := h
 clear h
 by_cases c2 : a0 = true
 ·subst c2
  have H1 : (some 1) = some r := by rw [if_pos rfl] at H; exact H
  clear H
  have H := H1
  clear H1
  obtain rfl := Option.some.inj H
  go_enter Tryd.func51, Tryd.ntmps51
  go_wp2
  go_ret
  exact ⟨by first | rfl | (simp; done) | (simp [*]; done), by repeat (first | exact Drawn0.refl _ | apply Drawn0.step)⟩
 ·replace c2 := Bool.eq_false_iff.mpr c2
  subst c2
  have H1 : (some 0) = some r := by rw [if_neg (show ¬ (false = true) by decide)] at H; exact H
  clear H
  have H := H1
  clear H1
  obtain rfl := Option.some.inj H
  go_enter Tryd.func51, Tryd.ntmps51
  go_wp2
  go_ret
  exact ⟨by first | rfl | (simp; done) | (simp [*]; done), by repeat (first | exact Drawn0.refl _ | apply Drawn0.step)⟩

end Go.Proofs.YtdpgdnbknmncfaaDoor.Print
