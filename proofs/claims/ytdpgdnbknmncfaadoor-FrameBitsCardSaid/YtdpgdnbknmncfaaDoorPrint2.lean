-- Written by a program of this session's, over the kit's printer turned by wip/tools/mkprint.py. Lean checks it.
import Derived.Test.YtdpgdnbknmncfaaDoorPrint0
namespace Go.Proofs.YtdpgdnbknmncfaaDoor.Print
open Go.RowKit Go.Proofs.YtdpgdnbknmncfaaDoorW.PrintWords Go.Proofs.YtdpgdnbknmncfaaDoorW.PrintLast Go.Proofs.YtdpgdnbknmncfaaDoorW.PrintMore
attribute [local go_sem] max2_int min2_int max_two min_two max_three min_three max_four min_four   -- for this text's walks alone
set_option linter.unusedVariables false
set_option linter.unusedSimpArgs false
attribute [local go_sem high] YtdpgdnbknmncfaaDoorX.unary_xor_u16 YtdpgdnbknmncfaaDoorX.unary_xor_u8

/-! ### ctrl_Kind_Numbered: function 23 -/
def ctrl_Kind_Numbered.f (a0 : Int) : Option (Bool) := if a0 ≥ 0 then (some (decide (a0 ≤ 3))) else (some false)
set_option maxHeartbeats 8000000 in
set_option maxRecDepth 100000 in
theorem ctrl_Kind_Numbered.calls (a0 : Int) (r : Bool) (w : World) (h : ctrl_Kind_Numbered.f a0 = some r) :
  Calls Tryd.prog 23 #[.int .i64 a0] w fun e w' => e = .returned (.bool r) ∧ Drawn0 w w' := by
 have H : (if a0 ≥ 0 then (some (decide (a0 ≤ 3))) else (some false)) = some r := h
 clear h
 by_cases c2 : a0 ≥ 0
 ·rw [if_pos c2] at H
  have c2b0 : decide (0 ≤ a0) = true := decide_eq_true c2
  clear c2
  obtain rfl := Option.some.inj H
  go_enter Tryd.func23, Tryd.ntmps23
  go_wp2
  go_ret
  exact ⟨by first | rfl | (simp [YtdpgdnbknmncfaaDoorX.bne_nil]; done) | (simp; done) | (simp [*]; done), by repeat (first | exact Drawn0.refl _ | apply Drawn0.step)⟩
 ·rw [if_neg c2] at H
  have c2b0 : decide (0 ≤ a0) = false := decide_eq_false c2
  clear c2
  obtain rfl := Option.some.inj H
  go_enter Tryd.func23, Tryd.ntmps23
  go_wp2
  go_ret
  exact ⟨by first | rfl | (simp [YtdpgdnbknmncfaaDoorX.bne_nil]; done) | (simp; done) | (simp [*]; done), by repeat (first | exact Drawn0.refl _ | apply Drawn0.step)⟩

/-! ### frame_May: function 11 -/
def frame_May.f (a0 : Int) (a1 : Bool) : Option (Bool) := if a0 = 0 then (some a1) else (if a0 = 4 then (some a1) else (if a0 = 6 then (some a1) else (if a0 = 7 then (some a1) else (if a0 = 5 then (some (!a1)) else (if a0 = 8 then (some (!a1)) else (if a0 = 9 then (some (!a1)) else (ctrl_Kind_Numbered.f a0)))))))
theorem frame_May.ia0 (w : World) : Sem.run Tryd.prog (Instr.index 59 (Value.agg #[Value.int IntKind.i64 0, Value.int IntKind.i64 4, Value.int IntKind.i64 6, Value.int IntKind.i64 7]) (Value.int IntKind.i64 0)) w = Result.ok (Value.int .i64 0) w := by kernel_rfl
theorem frame_May.ia1 (w : World) : Sem.run Tryd.prog (Instr.index 59 (Value.agg #[Value.int IntKind.i64 0, Value.int IntKind.i64 4, Value.int IntKind.i64 6, Value.int IntKind.i64 7]) (Value.int IntKind.i64 1)) w = Result.ok (Value.int .i64 4) w := by kernel_rfl
theorem frame_May.ia2 (w : World) : Sem.run Tryd.prog (Instr.index 59 (Value.agg #[Value.int IntKind.i64 0, Value.int IntKind.i64 4, Value.int IntKind.i64 6, Value.int IntKind.i64 7]) (Value.int IntKind.i64 2)) w = Result.ok (Value.int .i64 6) w := by kernel_rfl
theorem frame_May.ia3 (w : World) : Sem.run Tryd.prog (Instr.index 59 (Value.agg #[Value.int IntKind.i64 0, Value.int IntKind.i64 4, Value.int IntKind.i64 6, Value.int IntKind.i64 7]) (Value.int IntKind.i64 3)) w = Result.ok (Value.int .i64 7) w := by kernel_rfl
theorem frame_May.ib0 (w : World) : Sem.run Tryd.prog (Instr.index 60 (Value.agg #[Value.int IntKind.i64 5, Value.int IntKind.i64 8, Value.int IntKind.i64 9]) (Value.int IntKind.i64 0)) w = Result.ok (Value.int .i64 5) w := by kernel_rfl
theorem frame_May.ib1 (w : World) : Sem.run Tryd.prog (Instr.index 60 (Value.agg #[Value.int IntKind.i64 5, Value.int IntKind.i64 8, Value.int IntKind.i64 9]) (Value.int IntKind.i64 1)) w = Result.ok (Value.int .i64 8) w := by kernel_rfl
theorem frame_May.ib2 (w : World) : Sem.run Tryd.prog (Instr.index 60 (Value.agg #[Value.int IntKind.i64 5, Value.int IntKind.i64 8, Value.int IntKind.i64 9]) (Value.int IntKind.i64 2)) w = Result.ok (Value.int .i64 9) w := by kernel_rfl
attribute [local go_sem high] frame_May.ia0 frame_May.ia1 frame_May.ia2 frame_May.ia3 frame_May.ib0 frame_May.ib1 frame_May.ib2
set_option maxRecDepth 100000 in
set_option maxHeartbeats 8000000 in
theorem frame_May.cmd (k : Int) (c : Bool) (w : World) (h : k = 0 ∨ k = 4 ∨ k = 6 ∨ k = 7) : Calls Tryd.prog 11 #[.int .i64 k, .bool c] w fun e w' => e = .returned (.bool c) ∧ Below w.heap.size w w' := by
 rcases h with rfl | rfl | rfl | rfl
 all_goals
  go_enter Tryd.func11, Tryd.ntmps11
  go_wp2
  refine wp_loop_rounds 5 ?_
  repeat (rw [rounds_succ]; go_wp2)
  go_ret
  exact ⟨by first | rfl | simp, by repeat (first | apply below_alloc | apply pw_below_drewN | apply below_drew1 | exact Below.refl _ _)⟩
set_option maxRecDepth 100000 in
set_option maxHeartbeats 8000000 in
theorem frame_May.rsp (k : Int) (c : Bool) (w : World) (h : k = 5 ∨ k = 8 ∨ k = 9) : Calls Tryd.prog 11 #[.int .i64 k, .bool c] w fun e w' => e = .returned (.bool (!c)) ∧ Below w.heap.size w w' := by
 rcases h with rfl | rfl | rfl
 all_goals
  go_enter Tryd.func11, Tryd.ntmps11
  go_wp2
  refine wp_loop_rounds 5 ?_
  repeat (rw [rounds_succ]; go_wp2)
  refine wp_loop_rounds 4 ?_
  repeat (rw [rounds_succ]; go_wp2)
  go_ret
  exact ⟨by first | rfl | simp, by repeat (first | apply below_alloc | apply pw_below_drewN | apply below_drew1 | exact Below.refl _ _)⟩
set_option maxRecDepth 100000 in
set_option maxHeartbeats 8000000 in
theorem frame_May.non (k : Int) (c n : Bool) (w : World) (h0 : ¬ k = 0) (h4 : ¬ k = 4) (h6 : ¬ k = 6) (h7 : ¬ k = 7) (h5 : ¬ k = 5) (h8 : ¬ k = 8) (h9 : ¬ k = 9)
  (hn : ctrl_Kind_Numbered.f k = some n) : Calls Tryd.prog 11 #[.int .i64 k, .bool c] w fun e w' => e = .returned (.bool n) ∧ Below w.heap.size w w' := by
 go_enter Tryd.func11, Tryd.ntmps11
 go_wp2
 refine wp_loop_rounds 5 ?_
 repeat (rw [rounds_succ]; go_wp2)
 refine wp_loop_rounds 4 ?_
 repeat (rw [rounds_succ]; go_wp2_with (first | (go_at_call 23; refine (ctrl_Kind_Numbered.calls k n _ hn).mono ?_; rintro e w' ⟨rfl, hd⟩; obtain ⟨nd, rfl⟩ := hd.out)))
 go_ret
 exact ⟨by first | rfl | simp, by repeat (first | apply below_alloc | apply pw_below_drewN | apply below_drew1 | exact Below.refl _ _)⟩
theorem frame_May.calls (a0 : Int) (a1 : Bool) (r : Bool) (w : World) (h : frame_May.f a0 a1 = some r) :
  Calls Tryd.prog 11 #[.int .i64 a0, .bool a1] w fun e w' => e = .returned (.bool r) ∧ Below w.heap.size w w' := by
 unfold frame_May.f at h
 by_cases c : a0 = 0 ∨ a0 = 4 ∨ a0 = 6 ∨ a0 = 7
 ·have e : r = a1 := by
   rcases c with rfl | rfl | rfl | rfl
   all_goals exact (Option.some.inj h).symm
  rw [e]; exact frame_May.cmd a0 a1 w c
 ·by_cases d : a0 = 5 ∨ a0 = 8 ∨ a0 = 9
  ·have e : r = !a1 := by
    rcases d with rfl | rfl | rfl
    all_goals exact (Option.some.inj h).symm
   rw [e]; exact frame_May.rsp a0 a1 w d
  ·rw [if_neg (fun z => c (Or.inl z)), if_neg (fun z => c (Or.inr (Or.inl z))), if_neg (fun z => c (Or.inr (Or.inr (Or.inl z)))), if_neg (fun z => c (Or.inr (Or.inr (Or.inr z)))), if_neg (fun z => d (Or.inl z)), if_neg (fun z => d (Or.inr (Or.inl z))), if_neg (fun z => d (Or.inr (Or.inr z)))] at h
   exact frame_May.non a0 a1 r w (fun z => c (Or.inl z)) (fun z => c (Or.inr (Or.inl z))) (fun z => c (Or.inr (Or.inr (Or.inl z)))) (fun z => c (Or.inr (Or.inr (Or.inr z)))) (fun z => d (Or.inl z)) (fun z => d (Or.inr (Or.inl z))) (fun z => d (Or.inr (Or.inr z))) h


/-! ### ctrl_Kind_good: function 48 -/
def ctrl_Kind_good.f (a0 : Int) : Option (Bool) := if a0 ≥ 0 then (some (decide (a0 < 10))) else (some false)
set_option maxHeartbeats 8000000 in
set_option maxRecDepth 100000 in
theorem ctrl_Kind_good.calls (a0 : Int) (r : Bool) (w : World) (h : ctrl_Kind_good.f a0 = some r) :
  Calls Tryd.prog 48 #[.int .i64 a0] w fun e w' => e = .returned (.bool r) ∧ Drawn0 w w' := by
 have H : (if a0 ≥ 0 then (some (decide (a0 < 10))) else (some false)) = some r := h
 clear h
 by_cases c2 : a0 ≥ 0
 ·rw [if_pos c2] at H
  have c2b0 : decide (0 ≤ a0) = true := decide_eq_true c2
  clear c2
  obtain rfl := Option.some.inj H
  go_enter Tryd.func48, Tryd.ntmps48
  go_wp2
  go_ret
  exact ⟨by first | rfl | (simp [YtdpgdnbknmncfaaDoorX.bne_nil]; done) | (simp; done) | (simp [*]; done), by repeat (first | exact Drawn0.refl _ | apply Drawn0.step)⟩
 ·rw [if_neg c2] at H
  have c2b0 : decide (0 ≤ a0) = false := decide_eq_false c2
  clear c2
  obtain rfl := Option.some.inj H
  go_enter Tryd.func48, Tryd.ntmps48
  go_wp2
  go_ret
  exact ⟨by first | rfl | (simp [YtdpgdnbknmncfaaDoorX.bne_nil]; done) | (simp; done) | (simp [*]; done), by repeat (first | exact Drawn0.refl _ | apply Drawn0.step)⟩

/-! ### ctrl_Kind_Name: function 28 -/
def ctrl_Kind_Name.f (a0 : Int) : Option (ByteArray) := (ctrl_Kind_good.f a0).bind fun t114 => (if t114 = true then (if 0 ≤ a0 then (if a0 < 10 then (some (rdOf ByteArray.empty YtdpgdnbknmncfaaDoorX.glNames a0)) else (none)) else (none)) else (some (⟨#[]⟩ : ByteArray)))
set_option maxHeartbeats 8000000 in
set_option maxRecDepth 100000 in
theorem ctrl_Kind_Name.calls (a0 : Int) (r : ByteArray) (w : World) (hL : YtdpgdnbknmncfaaDoorX.Laid w) (h : ctrl_Kind_Name.f a0 = some r) :
  Calls Tryd.prog 28 #[.int .i64 a0] w fun e w' => e = .returned (.string r) ∧ Drawn0 w w' := by
 have HL := Aside0.mk hL
 have HGfirst := Aside0.mk (YtdpgdnbknmncfaaDoorX.Laid_HGfirst hL)
 have HGfirst1 := Aside0.mk (YtdpgdnbknmncfaaDoorX.Laid_HGfirst1 hL)
 have HGnames := Aside0.mk (YtdpgdnbknmncfaaDoorX.Laid_HGnames hL)
 have HCfirst := Aside0.mk (show YtdpgdnbknmncfaaDoorX.glFirst.length ≤ 10 by decide)
 have HCfirst1 := Aside0.mk (show YtdpgdnbknmncfaaDoorX.glFirst1.length ≤ 9 by decide)
 have HCnames := Aside0.mk (show YtdpgdnbknmncfaaDoorX.glNames.length ≤ 10 by decide)
 clear hL
 have H : ((ctrl_Kind_good.f a0).bind fun t114 => (if t114 = true then (if 0 ≤ a0 then (if a0 < 10 then (some (rdOf ByteArray.empty YtdpgdnbknmncfaaDoorX.glNames a0)) else (none)) else (none)) else (some (⟨#[]⟩ : ByteArray)))) = some r := h
 clear h
 replace H := Option.bind_eq_some_iff.mp H
 obtain ⟨t114, A20, H⟩ := H
 replace H : (if t114 = true then (if 0 ≤ a0 then (if a0 < 10 then (some (rdOf ByteArray.empty YtdpgdnbknmncfaaDoorX.glNames a0)) else (none)) else (none)) else (some (⟨#[]⟩ : ByteArray))) = some r := H
 have A2 := Aside0.mk A20
 clear A20
 by_cases c3 : t114 = true
 ·subst c3
  have H1 : (if 0 ≤ a0 then (if a0 < 10 then (some (rdOf ByteArray.empty YtdpgdnbknmncfaaDoorX.glNames a0)) else (none)) else (none)) = some r := by rw [if_pos rfl] at H; exact H
  clear H
  have H := H1
  clear H1
  by_cases c4 : 0 ≤ a0
  ·rw [if_pos c4] at H
   have c4b0 : decide (0 ≤ a0) = true := decide_eq_true c4
   clear c4
   by_cases c5 : a0 < 10
   ·rw [if_pos c5] at H
    have c5b0 : decide (a0 < 10) = true := decide_eq_true c5
    clear c5
    obtain rfl := Option.some.inj H
    go_enter Tryd.func28, Tryd.ntmps28
    go_wp2_with (first | ((with_reducible refine gate_callee (f := 48) rfl ?_); refine goesL_ (some 4) rfl rfl Tryd.func48 (by kernel_rfl) rfl #[.int .i64 a0] rfl (by (try simp only [List.map_toArray, List.map_cons, List.map_nil]); first | done | rfl) ?_; (with_reducible refine (ctrl_Kind_good.calls a0 true _ A2.out).mono ?_); rintro e w' ⟨rfl, ⟨nd, rfl⟩⟩; refine ⟨_, rfl, ?_⟩; have p115 : 0 ≤ (a0 : Int) := of_decide_eq_true (by first | (with_reducible assumption) | assumption); have q115 : a0 < (YtdpgdnbknmncfaaDoorX.glNames.length : Int) := (by show (a0 : Int) < (10 : Int); exact of_decide_eq_true (by first | (with_reducible assumption) | assumption)); have ql115 : ((a0 : Int) < (10 : Int)) = True := eq_true (of_decide_eq_true (by first | (with_reducible assumption) | assumption)); obtain ⟨ad115, e115, hx115_0⟩ := Kd.at_string HGnames.out a0 p115 q115; obtain rfl : (⟨0, 0, none⟩ : Addr) = ad115 := (by injection e115); (first | simp only [add_plain] at hx115_0 | simp only [add_at] at hx115_0 | simp only [Addr.add, Nat.zero_add] at hx115_0 | skip); replace p115 := eq_true p115; replace q115 := eq_true q115))
    go_ret
    exact ⟨by first | rfl | (simp [YtdpgdnbknmncfaaDoorX.bne_nil]; done) | (simp; done) | (simp [*]; done), by repeat (first | exact Drawn0.refl _ | apply Drawn0.step)⟩
   ·rw [if_neg c5] at H
    exact absurd H (by simp)
  ·rw [if_neg c4] at H
   exact absurd H (by simp)
 ·replace c3 := Bool.eq_false_iff.mpr c3
  subst c3
  have H1 : (some (⟨#[]⟩ : ByteArray)) = some r := by rw [if_neg (show ¬ (false = true) by decide)] at H; exact H
  clear H
  have H := H1
  clear H1
  obtain rfl := Option.some.inj H
  go_enter Tryd.func28, Tryd.ntmps28
  go_wp2_with (first | ((with_reducible refine gate_callee (f := 48) rfl ?_); refine goesL_ (some 4) rfl rfl Tryd.func48 (by kernel_rfl) rfl #[.int .i64 a0] rfl (by (try simp only [List.map_toArray, List.map_cons, List.map_nil]); first | done | rfl) ?_; (with_reducible refine (ctrl_Kind_good.calls a0 false _ A2.out).mono ?_); rintro e w' ⟨rfl, ⟨nd, rfl⟩⟩; refine ⟨_, rfl, ?_⟩))
  go_ret
  exact ⟨by first | rfl | (simp [YtdpgdnbknmncfaaDoorX.bne_nil]; done) | (simp; done) | (simp [*]; done), by repeat (first | exact Drawn0.refl _ | apply Drawn0.step)⟩

/-! ### frame_Carries: function 13 -/
def frame_Carries.j0 : Nat → Int → Int → Int → Bool → Option (Bool)
 | 0, _, _, _, _ => none
 | k + 1, x0, x1, x5, x6 => if x6 = true then (if x1 ≥ 0 then (some (decide (x1 ≤ 260))) else (some false)) else (if x5 = 9 then (some (x1 == 5)) else (if x1 = 0 then ((ctrl_Kind_Name.f x0).bind fun t116 => (some (t116.toList != ([] : List UInt8)))) else (some false)))
def frame_Carries.f (k : Nat) (a0 : Int) (a1 : Int) : Option (Bool) := if a0 = 0 then (frame_Carries.j0 k a0 a1 a0 (a0 == 0)) else (frame_Carries.j0 k a0 a1 a0 (a0 == 6))
theorem frame_Carries.mono_l : ∀ k, (∀ y0 y1 y2 y3, LeO (frame_Carries.j0 k y0 y1 y2 y3) (frame_Carries.j0 (k + 1) y0 y1 y2 y3))
 | 0 => fun _ _ _ _ r h => by simp [frame_Carries.j0] at h
 | k + 1 => by
  have ih0 := frame_Carries.mono_l k
  ·intro y0 y1 y2 y3
   unfold frame_Carries.j0
   repeat' first
   | (with_reducible exact ih0 _ _ _ _)
   | (with_reducible exact LeO.refl _)
   | (with_reducible exact LeO.none _)
   | (with_reducible refine LeO.ite ?_ ?_)
   | (with_reducible refine LeO.bind ?_ (fun _ => ?_))
   | exact ih0 _ _ _ _
   | exact LeO.none _
   | refine LeO.ite ?_ ?_
   | refine LeO.bind ?_ (fun _ => ?_)
theorem frame_Carries.mono : ∀ a0 a1 k, LeO (frame_Carries.f k a0 a1) (frame_Carries.f (k + 1) a0 a1) := by
 intro a0 a1 k
 have ih0 := frame_Carries.mono_l k
 unfold frame_Carries.f
 repeat' first
   | (with_reducible exact ih0 _ _ _ _)
   | (with_reducible exact LeO.refl _)
   | (with_reducible exact LeO.none _)
   | (with_reducible refine LeO.ite ?_ ?_)
   | (with_reducible refine LeO.bind ?_ (fun _ => ?_))
   | exact ih0 _ _ _ _
   | exact LeO.none _
   | refine LeO.ite ?_ ?_
   | refine LeO.bind ?_ (fun _ => ?_)
set_option maxHeartbeats 8000000 in
set_option maxRecDepth 100000 in
theorem frame_Carries.calls (k : Nat) (a0 : Int) (a1 : Int) (r : Bool) (w : World) (hL : YtdpgdnbknmncfaaDoorX.Laid w) (h : frame_Carries.f k a0 a1 = some r) :
  Calls Tryd.prog 13 #[.int .i64 a0, .int .i64 a1] w fun e w' => e = .returned (.bool r) ∧ Drawn0 w w' := by
 have HL := Aside0.mk hL
 have HGfirst := Aside0.mk (YtdpgdnbknmncfaaDoorX.Laid_HGfirst hL)
 have HGfirst1 := Aside0.mk (YtdpgdnbknmncfaaDoorX.Laid_HGfirst1 hL)
 have HGnames := Aside0.mk (YtdpgdnbknmncfaaDoorX.Laid_HGnames hL)
 have HCfirst := Aside0.mk (show YtdpgdnbknmncfaaDoorX.glFirst.length ≤ 10 by decide)
 have HCfirst1 := Aside0.mk (show YtdpgdnbknmncfaaDoorX.glFirst1.length ≤ 9 by decide)
 have HCnames := Aside0.mk (show YtdpgdnbknmncfaaDoorX.glNames.length ≤ 10 by decide)
 clear hL
 have H : (if a0 = 0 then (frame_Carries.j0 k a0 a1 a0 (a0 == 0)) else (frame_Carries.j0 k a0 a1 a0 (a0 == 6))) = some r := h
 clear h
 have HC3 := Aside0.mk H
 clear H
 go_enter Tryd.func13, Tryd.ntmps13
 go_upto_if 6 with (fail)
 go_cut [6] (fun v6 wc => ∃ (kq : Nat) (x6_2 : Bool), v6 = .bool x6_2 ∧ Aside0 (frame_Carries.j0 kq a0 a1 a0 x6_2 = some r) ∧ Aside0 (kq ≤ k) ∧ Drawn0 w wc)
 case first =>
  have H := HC3.out
  clear HC3
  by_cases c4 : a0 = 0
  ·rw [if_pos c4] at H
   have c4b0 : (a0 == 0) = true := beq_iff_eq.mpr c4
   have c4b1 : (a0 != 0) = false := bne_eq_false_iff_eq.mpr c4
   clear c4
   (first | rw [c4b0] | (simp only [i64_w, i32_w]; rw [c4b0]) | skip)
   have H' := Aside0.mk H
   clear H
   go_wp2
   go_meet
   case rel => exact ⟨_, ((a0 == 0)), (by first | rfl | (simp; done) | (simp [*]; done)), H', ⟨by first | omega | exact Nat.le_refl _⟩, by repeat (first | exact Drawn0.refl _ | apply Drawn0.step)⟩
  ·rw [if_neg c4] at H
   have c4b0 : (a0 == 0) = false := beq_eq_false_iff_ne.mpr c4
   have c4b1 : (a0 != 0) = true := bne_iff_ne.mpr c4
   (first | rw [c4b0] | (simp only [i64_w, i32_w]; rw [c4b0]) | skip)
   have H' := Aside0.mk H
   clear H
   go_wp2
   go_meet
   case rel => exact ⟨_, ((a0 == 6)), (by first | rfl | (simp; done) | (simp [*]; done)), H', ⟨by first | omega | exact Nat.le_refl _⟩, by repeat (first | exact Drawn0.refl _ | apply Drawn0.step)⟩
 case rest =>
  clear HC3
  try clear c1
  try clear p2
  try clear c4
  try clear c4b0
  try clear c4b1
  obtain ⟨kq, x6_2, rfl, HA, HJ2, ⟨mc2, rfl⟩⟩ := hcut
  cases kq with
  | zero => exact absurd HA.out (by simp [frame_Carries.j0])
  | succ kj2 =>
   have H := HA.out
   clear HA
   simp only [frame_Carries.j0] at H
   by_cases c5 : x6_2 = true
   ·subst c5
    have H1 : (if a1 ≥ 0 then (some (decide (a1 ≤ 260))) else (some false)) = some r := by rw [if_pos rfl] at H; exact H
    clear H
    have H := H1
    clear H1
    by_cases c6 : a1 ≥ 0
    ·rw [if_pos c6] at H
     have c6b0 : decide (0 ≤ a1) = true := decide_eq_true c6
     clear c6
     obtain rfl := Option.some.inj H
     go_wp2
     go_ret
     exact ⟨by first | rfl | (simp [YtdpgdnbknmncfaaDoorX.bne_nil]; done) | (simp; done) | (simp [*]; done), by repeat (first | exact Drawn0.refl _ | apply Drawn0.step)⟩
    ·rw [if_neg c6] at H
     have c6b0 : decide (0 ≤ a1) = false := decide_eq_false c6
     clear c6
     obtain rfl := Option.some.inj H
     go_wp2
     go_ret
     exact ⟨by first | rfl | (simp [YtdpgdnbknmncfaaDoorX.bne_nil]; done) | (simp; done) | (simp [*]; done), by repeat (first | exact Drawn0.refl _ | apply Drawn0.step)⟩
   ·replace c5 := Bool.eq_false_iff.mpr c5
    subst c5
    have H1 : (if a0 = 9 then (some (a1 == 5)) else (if a1 = 0 then ((ctrl_Kind_Name.f a0).bind fun t116 => (some (t116.toList != ([] : List UInt8)))) else (some false))) = some r := by rw [if_neg (show ¬ (false = true) by decide)] at H; exact H
    clear H
    have H := H1
    clear H1
    by_cases c7 : a0 = 9
    ·rw [if_pos c7] at H
     have c7b0 : (a0 == 9) = true := beq_iff_eq.mpr c7
     have c7b1 : (a0 != 9) = false := bne_eq_false_iff_eq.mpr c7
     clear c7
     obtain rfl := Option.some.inj H
     go_wp2
     go_ret
     exact ⟨by first | rfl | (simp [YtdpgdnbknmncfaaDoorX.bne_nil]; done) | (simp; done) | (simp [*]; done), by repeat (first | exact Drawn0.refl _ | apply Drawn0.step)⟩
    ·rw [if_neg c7] at H
     have c7b0 : (a0 == 9) = false := beq_eq_false_iff_ne.mpr c7
     have c7b1 : (a0 != 9) = true := bne_iff_ne.mpr c7
     by_cases c8 : a1 = 0
     ·rw [if_pos c8] at H
      have c8b0 : (a1 == 0) = true := beq_iff_eq.mpr c8
      have c8b1 : (a1 != 0) = false := bne_eq_false_iff_eq.mpr c8
      clear c8
      replace H := Option.bind_eq_some_iff.mp H
      obtain ⟨t116, A90, H⟩ := H
      replace H : (some (t116.toList != ([] : List UInt8))) = some r := H
      have A9 := Aside0.mk A90
      clear A90
      obtain rfl := Option.some.inj H
      go_wp2_with (first | (go_at_call 28; (with_reducible refine (ctrl_Kind_Name.calls a0 t116 _ ?side1 A9.out).mono ?_); (case side1 => first | (with_reducible exact HL.out) | (with_reducible exact YtdpgdnbknmncfaaDoorX.Laid_drewN HL.out _) | exact YtdpgdnbknmncfaaDoorX.Laid_below HL.out (by repeat (first | (with_reducible first | exact HB.out | apply below_alloc | apply pw_below_drewN | apply below_drew1) | exact HB.out))); rintro e w' ⟨rfl, ⟨nd, rfl⟩⟩))
      go_ret
      exact ⟨by first | rfl | (simp [YtdpgdnbknmncfaaDoorX.bne_nil]; done) | (simp; done) | (simp [*]; done), by repeat (first | exact Drawn0.refl _ | apply Drawn0.step)⟩
     ·rw [if_neg c8] at H
      have c8b0 : (a1 == 0) = false := beq_eq_false_iff_ne.mpr c8
      have c8b1 : (a1 != 0) = true := bne_iff_ne.mpr c8
      obtain rfl := Option.some.inj H
      go_wp2
      go_ret
      exact ⟨by first | rfl | (simp [YtdpgdnbknmncfaaDoorX.bne_nil]; done) | (simp; done) | (simp [*]; done), by repeat (first | exact Drawn0.refl _ | apply Drawn0.step)⟩

/-! ### fcs_Step: function 55 -/
def fcs_Step.l0 : Nat → Int → Int → Option (Int)
 | 0, _, _ => none
 | k + 1, x0, x10 => if x10 < 8 then (fcs_Step.l0 k (Go.bits .xor .u16 (x0 / 2) (IntKind.u16.wrap ((Go.bits .and .u16 x0 1) * 33800))) (wrap64 (x10 + 1))) else (some x0)
def fcs_Step.f (k : Nat) (a0 : Int) (a1 : Int) : Option (Int) := fcs_Step.l0 k (Go.bits .xor .u16 a0 (IntKind.u16.wrap (a1))) 0
theorem fcs_Step.mono_l : ∀ k, (∀ y0 y1, LeO (fcs_Step.l0 k y0 y1) (fcs_Step.l0 (k + 1) y0 y1))
 | 0 => fun _ _ r h => by simp [fcs_Step.l0] at h
 | k + 1 => by
  have ih0 := fcs_Step.mono_l k
  ·intro y0 y1
   unfold fcs_Step.l0
   repeat' first
   | (with_reducible exact ih0 _ _)
   | (with_reducible exact LeO.refl _)
   | (with_reducible exact LeO.none _)
   | (with_reducible refine LeO.ite ?_ ?_)
   | (with_reducible refine LeO.bind ?_ (fun _ => ?_))
   | exact ih0 _ _
   | exact LeO.none _
   | refine LeO.ite ?_ ?_
   | refine LeO.bind ?_ (fun _ => ?_)
theorem fcs_Step.mono : ∀ a0 a1 k, LeO (fcs_Step.f k a0 a1) (fcs_Step.f (k + 1) a0 a1) := by
 intro a0 a1 k
 have ih0 := fcs_Step.mono_l k
 unfold fcs_Step.f
 repeat' first
   | (with_reducible exact ih0 _ _)
   | (with_reducible exact LeO.refl _)
   | (with_reducible exact LeO.none _)
   | (with_reducible refine LeO.ite ?_ ?_)
   | (with_reducible refine LeO.bind ?_ (fun _ => ?_))
   | exact ih0 _ _
   | exact LeO.none _
   | refine LeO.ite ?_ ?_
   | refine LeO.bind ?_ (fun _ => ?_)
set_option maxHeartbeats 8000000 in
set_option maxRecDepth 100000 in
theorem fcs_Step.calls (k : Nat) (a0 : Int) (a1 : Int) (r : Int) (w : World) (h : fcs_Step.f k a0 a1 = some r) :
  Calls Tryd.prog 55 #[.int .u16 a0, .int .u8 a1] w fun e w' => e = .returned (.int .u16 r) ∧ Drawn0 w w' := by
 have H : (fcs_Step.l0 k (Go.bits .xor .u16 a0 (IntKind.u16.wrap (a1))) 0) = some r := h
 clear h
 have H' := Aside0.mk H
 clear H
 go_enter Tryd.func55, Tryd.ntmps55
 go_wp2
 go_loopg [0, 10] k (fun kq v0 v10 w' => ∃ (x0_1 : Int) (x10_1 : Int), v0 = .int .u16 x0_1 ∧ v10 = .int .i64 x10_1 ∧ Aside0 (fcs_Step.l0 kq x0_1 x10_1 = some r) ∧ Aside0 (kq ≤ k) ∧ Drawn0 w w')
 case atStart => exact ⟨(Go.bits .xor .u16 a0 (IntKind.u16.wrap (a1))), (0), (by first | rfl | (simp; done) | (simp [*]; done)), (by first | rfl | (simp; done) | (simp [*]; done)), H', ⟨Nat.le_refl _⟩, by repeat (first | exact Drawn0.refl _ | apply Drawn0.step)⟩
 case round =>
  clear H'
  try clear p2
  obtain ⟨x0_1, x10_1, rfl, rfl, HA, HK1, ⟨m1, rfl⟩⟩ := hrel
  cases gk with
  | zero => exact absurd HA.out (by simp [fcs_Step.l0])
  | succ k1 =>
   have H := HA.out
   clear HA
   simp only [fcs_Step.l0] at H
   by_cases c3 : x10_1 < 8
   ·rw [if_pos c3] at H
    have c3b0 : decide (x10_1 < 8) = true := decide_eq_true c3
    clear c3
    have H' := Aside0.mk H
    clear H
    go_wp2
    go_roundg k1
    case measure => have := HK1.out; omega
    case rel => exact ⟨(Go.bits .xor .u16 (x0_1 / 2) (IntKind.u16.wrap ((Go.bits .and .u16 x0_1 1) * 33800))), (wrap64 (x10_1 + 1)), (by first | rfl | (simp; done) | (simp [*]; done)), (by first | rfl | (simp; done) | (simp [*]; done)), H', ⟨by have := HK1.out; omega⟩, by repeat (first | exact Drawn0.refl _ | apply Drawn0.step)⟩
   ·rw [if_neg c3] at H
    have c3b0 : decide (x10_1 < 8) = false := decide_eq_false c3
    clear c3
    obtain rfl := Option.some.inj H
    go_wp2
    go_ret
    exact ⟨by first | rfl | (simp [YtdpgdnbknmncfaaDoorX.bne_nil]; done) | (simp; done) | (simp [*]; done), by repeat (first | exact Drawn0.refl _ | apply Drawn0.step)⟩

/-! ### fcs_Sum: function 36 -/
def fcs_Sum.l0 : Nat → ByteArray → Int → Int → Int → Option (Int)
 | 0, _, _, _, _ => none
 | k + 1, x0, x3, x6, x7 => if x7 < x6 then (if 0 ≤ x7 then (if x7 < (x0.size : Int) then ((fcs_Step.f k x3 (bt x0 x7)).bind fun t117 => (fcs_Sum.l0 k x0 t117 x6 (wrap64 (x7 + 1)))) else (none)) else (none)) else (some (Go.bits .xor .u16 65535 x3))
def fcs_Sum.f (k : Nat) (a0 : ByteArray) : Option (Int) := fcs_Sum.l0 k a0 65535 (a0.size : Int) 0
theorem fcs_Sum.mono_l : ∀ k, (∀ y0 y1 y2 y3, LeO (fcs_Sum.l0 k y0 y1 y2 y3) (fcs_Sum.l0 (k + 1) y0 y1 y2 y3))
 | 0 => fun _ _ _ _ r h => by simp [fcs_Sum.l0] at h
 | k + 1 => by
  have ih0 := fcs_Sum.mono_l k
  ·intro y0 y1 y2 y3
   unfold fcs_Sum.l0
   repeat' first
   | (with_reducible exact ih0 _ _ _ _)
   | (with_reducible exact fcs_Step.mono _ _ _)
   | (with_reducible exact LeO.refl _)
   | (with_reducible exact LeO.none _)
   | (with_reducible refine LeO.ite ?_ ?_)
   | (with_reducible refine LeO.bind ?_ (fun _ => ?_))
   | exact ih0 _ _ _ _
   | exact fcs_Step.mono _ _ _
   | exact LeO.none _
   | refine LeO.ite ?_ ?_
   | refine LeO.bind ?_ (fun _ => ?_)
theorem fcs_Sum.mono : ∀ a0 k, LeO (fcs_Sum.f k a0) (fcs_Sum.f (k + 1) a0) := by
 intro a0 k
 have ih0 := fcs_Sum.mono_l k
 unfold fcs_Sum.f
 repeat' first
   | (with_reducible exact ih0 _ _ _ _)
   | (with_reducible exact fcs_Step.mono _ _ _)
   | (with_reducible exact LeO.refl _)
   | (with_reducible exact LeO.none _)
   | (with_reducible refine LeO.ite ?_ ?_)
   | (with_reducible refine LeO.bind ?_ (fun _ => ?_))
   | exact ih0 _ _ _ _
   | exact fcs_Step.mono _ _ _
   | exact LeO.none _
   | refine LeO.ite ?_ ?_
   | refine LeO.bind ?_ (fun _ => ?_)
set_option maxHeartbeats 8000000 in
set_option maxRecDepth 100000 in
theorem fcs_Sum.calls (k : Nat) (a0 : ByteArray) (r : Int) (w : World) (h : fcs_Sum.f k a0 = some r) :
  Calls Tryd.prog 36 #[.string a0] w fun e w' => e = .returned (.int .u16 r) ∧ Drawn0 w w' := by
 have H : (fcs_Sum.l0 k a0 65535 (a0.size : Int) 0) = some r := h
 clear h
 have H' := Aside0.mk H
 clear H
 go_enter Tryd.func36, Tryd.ntmps36
 go_wp2
 go_loopg [3, 7] k (fun kq v3 v7 w' => ∃ (x3_1 : Int) (x7_1 : Int), v3 = .int .u16 x3_1 ∧ v7 = .int .i64 x7_1 ∧ Aside0 (fcs_Sum.l0 kq a0 x3_1 (a0.size : Int) x7_1 = some r) ∧ Aside0 (kq ≤ k) ∧ Drawn0 w w')
 case atStart => exact ⟨(65535), (0), (by first | rfl | (simp; done) | (simp [*]; done)), (by first | rfl | (simp; done) | (simp [*]; done)), H', ⟨Nat.le_refl _⟩, by repeat (first | exact Drawn0.refl _ | apply Drawn0.step)⟩
 case round =>
  clear H'
  obtain ⟨x3_1, x7_1, rfl, rfl, HA, HK1, ⟨m1, rfl⟩⟩ := hrel
  cases gk with
  | zero => exact absurd HA.out (by simp [fcs_Sum.l0])
  | succ k1 =>
   have H := HA.out
   clear HA
   simp only [fcs_Sum.l0] at H
   by_cases c2 : x7_1 < (a0.size : Int)
   ·rw [if_pos c2] at H
    have c2b0 : decide (x7_1 < (a0.size : Int)) = true := decide_eq_true c2
    clear c2
    by_cases c3 : 0 ≤ x7_1
    ·rw [if_pos c3] at H
     have c3b0 : decide (0 ≤ x7_1) = true := decide_eq_true c3
     clear c3
     by_cases c4 : x7_1 < (a0.size : Int)
     ·rw [if_pos c4] at H
      have c4b0 : decide (x7_1 < (a0.size : Int)) = true := decide_eq_true c4
      clear c4
      replace H := Option.bind_eq_some_iff.mp H
      obtain ⟨t117, A60, H⟩ := H
      replace H : (fcs_Sum.l0 k1 a0 t117 (a0.size : Int) (wrap64 (x7_1 + 1))) = some r := H
      have A6 := Aside0.mk A60
      clear A60
      have H' := Aside0.mk H
      clear H
      have p5 : 0 ≤ (x7_1 : Int) := of_decide_eq_true (by first | (with_reducible assumption) | assumption)
      have q5 : x7_1 < (a0.size : Int) := of_decide_eq_true (by first | (with_reducible assumption) | assumption)
      have hx5 := bt_at a0 x7_1
      replace p5 := eq_true p5
      replace q5 := eq_true q5
      go_wp2_with (first | ((with_reducible refine gate_callee (f := 55) rfl ?_); refine goesL_ (some 14) rfl rfl Tryd.func55 (by kernel_rfl) rfl #[.int .u16 x3_1, .int .u8 (bt a0 x7_1)] rfl (by (try simp only [List.map_toArray, List.map_cons, List.map_nil]); first | done | rfl) ?_; (with_reducible refine (fcs_Step.calls k1 x3_1 (bt a0 x7_1) t117 _ A6.out).mono ?_); rintro e w' ⟨rfl, ⟨nd, rfl⟩⟩; refine ⟨_, rfl, ?_⟩))
      go_roundg k1
      case measure => have := HK1.out; omega
      case rel => exact ⟨(t117), (wrap64 (x7_1 + 1)), (by first | rfl | (simp; done) | (simp [*]; done)), (by first | rfl | (simp; done) | (simp [*]; done)), H', ⟨by have := HK1.out; omega⟩, by repeat (first | exact Drawn0.refl _ | apply Drawn0.step)⟩
     ·rw [if_neg c4] at H
      exact absurd H (by simp)
    ·rw [if_neg c3] at H
     exact absurd H (by simp)
   ·rw [if_neg c2] at H
    have c2b0 : decide (x7_1 < (a0.size : Int)) = false := decide_eq_false c2
    clear c2
    obtain rfl := Option.some.inj H
    go_wp2
    go_ret
    exact ⟨by first | rfl | (simp [YtdpgdnbknmncfaaDoorX.bne_nil]; done) | (simp; done) | (simp [*]; done), by repeat (first | exact Drawn0.refl _ | apply Drawn0.step)⟩

/-! ### fcs_Seal: function 19 -/
def fcs_Seal.f (k : Nat) (a0 : ByteArray) : Option (ByteArray) := (fcs_Sum.f k a0).bind fun t118 => ((some (([(t118) % 256, (t118 / 256) % 256] : List Int) : List Int)).bind fun y119 => (if a0.size + (strOfNums y119).size ≤ 9223372036854775807 then (some (a0 ++ (strOfNums y119))) else (none)))
theorem fcs_Seal.mono : ∀ a0 k, LeO (fcs_Seal.f k a0) (fcs_Seal.f (k + 1) a0) := by
 intro a0 k
 unfold fcs_Seal.f
 repeat' first
   | (with_reducible exact fcs_Sum.mono _ _)
   | (with_reducible exact LeO.refl _)
   | (with_reducible exact LeO.none _)
   | (with_reducible refine LeO.ite ?_ ?_)
   | (with_reducible refine LeO.bind ?_ (fun _ => ?_))
   | exact fcs_Sum.mono _ _
   | exact LeO.none _
   | refine LeO.ite ?_ ?_
   | refine LeO.bind ?_ (fun _ => ?_)
set_option maxHeartbeats 8000000 in
set_option maxRecDepth 100000 in
theorem fcs_Seal.calls (k : Nat) (a0 : ByteArray) (r : ByteArray) (w : World) (h : fcs_Seal.f k a0 = some r) :
  Calls Tryd.prog 19 #[.string a0] w fun e w' => e = .returned (.string r) ∧ Below w.heap.size w w' := by
 have HB := Aside0.mk (Below.refl w.heap.size w)
 have H : ((fcs_Sum.f k a0).bind fun t118 => ((some (([(t118) % 256, (t118 / 256) % 256] : List Int) : List Int)).bind fun y119 => (if a0.size + (strOfNums y119).size ≤ 9223372036854775807 then (some (a0 ++ (strOfNums y119))) else (none)))) = some r := h
 clear h
 replace H := Option.bind_eq_some_iff.mp H
 obtain ⟨t118, A20, H⟩ := H
 replace H : ((some (([(t118) % 256, (t118 / 256) % 256] : List Int) : List Int)).bind fun y119 => (if a0.size + (strOfNums y119).size ≤ 9223372036854775807 then (some (a0 ++ (strOfNums y119))) else (none))) = some r := H
 have A2 := Aside0.mk A20
 clear A20
 obtain ⟨y119, hy119⟩ : ∃ y_ : List Int, y_ = (([(t118) % 256, (t118 / 256) % 256] : List Int)) := ⟨_, rfl⟩
 replace H : (if a0.size + (strOfNums y119).size ≤ 9223372036854775807 then (some (a0 ++ (strOfNums y119))) else (none)) = some r := by first | (rw [hy119]; with_reducible exact H) | (have H2_ := (Option.bind_some _ _).symm.trans H; rw [hy119]; with_reducible exact H2_) | (have H2_ := (Option.bind_some _ _).symm.trans H; with_reducible exact H2_) | with_reducible exact H | (rw [hy119]; exact H) | exact H
 have Ny119 := Aside0.mk hy119
 clear hy119
 by_cases c3 : a0.size + (strOfNums y119).size ≤ 9223372036854775807
 ·rw [if_pos c3] at H
  have c3b0 := eq_true c3
  have c3b1 : decide (a0.size + (strOfNums y119).size ≤ 9223372036854775807) = true := decide_eq_true c3
  try have c3b2 : (9223372036854775807 < a0.size + (strOfNums y119).size) = False := eq_false (Nat.not_lt.2 c3)
  obtain rfl := Option.some.inj H
  go_enter Tryd.func19, Tryd.ntmps19
  go_wp2_with (first | ((with_reducible refine gate_callee (f := 36) rfl ?_); refine goesL_ (some 5) rfl rfl Tryd.func36 (by kernel_rfl) rfl #[.string a0] rfl (by (try simp only [List.map_toArray, List.map_cons, List.map_nil]); first | done | rfl | (simp only [List.length_drop, List.length_take]; rfl)) ?_; (with_reducible refine (fcs_Sum.calls k a0 t118 _ A2.out).mono ?_); rintro e w' ⟨rfl, ⟨nd, rfl⟩⟩; refine ⟨_, rfl, ?_⟩) | ((with_reducible refine gate_dst (N := 12) rfl ?_); refine Kd.R_lit (Kd.int .u8) _ 5 ?hg (N := 12) ?hd (xs := ([(t118) % 256, (t118 / 256) % 256] : List Int)) (inner := [.int .u8 ((t118) % 256), .int .u8 ((t118 / 256) % 256)]) (ok := fun _ => True) (okp := fun _ => True) ?hr ?hp (fun _ hk => hk) trivial (Below.refl _ _) (Nat.le_refl _) (by simp) ?_; (case hd => rfl); (case hg => rfl); (case hr => first | (go_simp; done) | (go_simp; rfl)); (case hp => exact (Reps.one (show Kd.M (Kd.int .u8) _ _ _ ((t118) % 256) [.int .u8 ((t118) % 256)] from rfl) (Reps.one (show Kd.M (Kd.int .u8) _ _ _ ((t118 / 256) % 256) [.int .u8 ((t118 / 256) % 256)] from rfl) (Reps.none _ _)))); intro v120 w4 ho5 hb hg_ hnew_; clear hg_ hnew_; (first | rw [← Ny119.out] at ho5 | (simp only [Int.reduceToNat] at ho5; rw [← Ny119.out] at ho5)); have n0_ := Aside0.mk (Kd.R_lower ho5 (below_size (by repeat (first | (with_reducible first | exact HB.out | apply below_alloc | apply pw_below_drewN | apply below_drew1) | exact HB.out)))); have n1_ := Aside0.mk (below_step (by repeat (first | (with_reducible first | exact HB.out | apply below_alloc | apply pw_below_drewN | apply below_drew1) | exact HB.out)) hb); clear HB; have HO121 := n0_; have HB := n1_; clear n0_ n1_; clear hb ho5; have hcv6 := own_string (P := Tryd.prog) Tryd.underlying52 Tryd.underlying5 Tryd.underlying9 (Kd.own_of_R HO121.out)))
  go_ret
  exact ⟨by first | rfl | (simp [errW_none, errW_some] <;> rfl) | (simp [*, errW_none, errW_some] <;> rfl), by repeat (first | (with_reducible first | exact HB.out | apply below_alloc | apply pw_below_drewN | apply below_drew1) | exact HB.out)⟩
 ·rw [if_neg c3] at H
  exact absurd H (by simp)

/-! ### ctrl_one: function 49 -/
def ctrl_one.f (a0 : Bool) : Option (Int) := if a0 = true then (some 1) else (some 0)
set_option maxHeartbeats 8000000 in
set_option maxRecDepth 100000 in
theorem ctrl_one.calls (a0 : Bool) (r : Int) (w : World) (h : ctrl_one.f a0 = some r) :
  Calls Tryd.prog 49 #[.bool a0] w fun e w' => e = .returned (.int .i64 r) ∧ Drawn0 w w' := by
 have H : (if a0 = true then (some 1) else (some 0)) = some r := h
 clear h
 by_cases c2 : a0 = true
 ·subst c2
  have H1 : (some 1) = some r := by rw [if_pos rfl] at H; exact H
  clear H
  have H := H1
  clear H1
  obtain rfl := Option.some.inj H
  go_enter Tryd.func49, Tryd.ntmps49
  go_wp2
  go_ret
  exact ⟨by first | rfl | (simp [YtdpgdnbknmncfaaDoorX.bne_nil]; done) | (simp; done) | (simp [*]; done), by repeat (first | exact Drawn0.refl _ | apply Drawn0.step)⟩
 ·replace c2 := Bool.eq_false_iff.mpr c2
  subst c2
  have H1 : (some 0) = some r := by rw [if_neg (show ¬ (false = true) by decide)] at H; exact H
  clear H
  have H := H1
  clear H1
  obtain rfl := Option.some.inj H
  go_enter Tryd.func49, Tryd.ntmps49
  go_wp2
  go_ret
  exact ⟨by first | rfl | (simp [YtdpgdnbknmncfaaDoorX.bne_nil]; done) | (simp; done) | (simp [*]; done), by repeat (first | exact Drawn0.refl _ | apply Drawn0.step)⟩

/-! ### bits_Pack: function 50 -/
def bits_Pack.l0 : Nat → Int → Int → List (S54) → Int → Int → Option (Int × Int)
 | 0, _, _, _, _, _ => none
 | k + 1, x4, x5, x8, x9, x10 => if x10 < x9 then (if 0 ≤ x10 then (if x10 < (x8.length : Int) then (if ((rd_T54 x8 x10).f0) < 1 then (some (0, 2)) else (if ((rd_T54 x8 x10).f0) > 8 then (some (0, 2)) else (if ((rd_T54 x8 x10).f1) < 0 then (some (0, 2)) else (if 0 ≤ ((rd_T54 x8 x10).f0) then (if (shr .i64 ((rd_T54 x8 x10).f1) ((rd_T54 x8 x10).f0)) = 0 then (if 0 ≤ (mn x5 8) then (bits_Pack.l0 k (Go.bits .or .i64 x4 (wrap64 (((rd_T54 x8 x10).f1) * 2 ^ (mn x5 8).toNat))) (mn (wrap64 (x5 + ((rd_T54 x8 x10).f0))) 9) x8 x9 (wrap64 (x10 + 1))) else (none)) else (some (0, 2))) else (none))))) else (none)) else (none)) else (if x5 > 8 then (some (0, 5)) else (some ((x4) % 256, 0)))
def bits_Pack.f (k : Nat) (l0 : List (S54)) : Option (Int × Int) := bits_Pack.l0 k 0 0 l0 (l0.length : Int) 0
theorem bits_Pack.mono_l : ∀ k, (∀ y0 y1 y2 y3 y4, LeO (bits_Pack.l0 k y0 y1 y2 y3 y4) (bits_Pack.l0 (k + 1) y0 y1 y2 y3 y4))
 | 0 => fun _ _ _ _ _ r h => by simp [bits_Pack.l0] at h
 | k + 1 => by
  have ih0 := bits_Pack.mono_l k
  ·intro y0 y1 y2 y3 y4
   unfold bits_Pack.l0
   repeat' first
   | (with_reducible exact ih0 _ _ _ _ _)
   | (with_reducible exact LeO.refl _)
   | (with_reducible exact LeO.none _)
   | (with_reducible refine LeO.ite ?_ ?_)
   | (with_reducible refine LeO.bind ?_ (fun _ => ?_))
   | exact ih0 _ _ _ _ _
   | exact LeO.none _
   | refine LeO.ite ?_ ?_
   | refine LeO.bind ?_ (fun _ => ?_)
theorem bits_Pack.mono : ∀ a0 k, LeO (bits_Pack.f k a0) (bits_Pack.f (k + 1) a0) := by
 intro a0 k
 have ih0 := bits_Pack.mono_l k
 unfold bits_Pack.f
 repeat' first
   | (with_reducible exact ih0 _ _ _ _ _)
   | (with_reducible exact LeO.refl _)
   | (with_reducible exact LeO.none _)
   | (with_reducible refine LeO.ite ?_ ?_)
   | (with_reducible refine LeO.bind ?_ (fun _ => ?_))
   | exact ih0 _ _ _ _ _
   | exact LeO.none _
   | refine LeO.ite ?_ ?_
   | refine LeO.bind ?_ (fun _ => ?_)
set_option maxHeartbeats 8000000 in
set_option maxRecDepth 100000 in
theorem bits_Pack.calls (k : Nat) (A0 : Option Addr) (c0 : Nat) (l0 : List (S54)) (r1 : Int) (r2 : Int) (w : World) (hr0 : Kd.C k54 w A0 l0.length l0) (hc0 : l0.length ≤ c0) (h : bits_Pack.f k l0 = some (r1, r2)) :
  Calls Tryd.prog 50 #[.slice A0 l0.length c0] w fun e w' => e = .returned (.tuple #[.int .u8 r1, .int .i64 r2]) ∧ Below w.heap.size w w' := by
 have hu54 := Tryd.underlying54
 have HR0 := Aside0.mk hr0
 have HC0 := Aside0.mk hc0
 clear hr0 hc0
 have HB := Aside0.mk (Below.refl w.heap.size w)
 have H : (bits_Pack.l0 k 0 0 l0 (l0.length : Int) 0) = some (r1, r2) := h
 clear h
 have H' := Aside0.mk H
 clear H
 go_enter Tryd.func50, Tryd.ntmps50
 go_wp2
 go_loopg [4, 5, 10] k (fun kq v4 v5 v10 w' => ∃ (x4_1 : Int) (x5_1 : Int) (x10_1 : Int), v4 = .int .i64 x4_1 ∧ v5 = .int .i64 x5_1 ∧ v10 = .int .i64 x10_1 ∧ Aside0 (bits_Pack.l0 kq x4_1 x5_1 l0 (l0.length : Int) x10_1 = some (r1, r2)) ∧ Aside0 (kq ≤ k) ∧ Aside0 (Below w.heap.size w w'))
 case atStart => exact ⟨(0), (0), (0), (by first | rfl | (simp; done) | (simp [*]; done)), (by first | rfl | (simp; done) | (simp [*]; done)), (by first | rfl | (simp; done) | (simp [*]; done)), H', ⟨Nat.le_refl _⟩, ⟨by repeat (first | (with_reducible first | exact HB.out | apply below_alloc | apply pw_below_drewN | apply below_drew1) | exact HB.out)⟩⟩
 case round =>
  clear H'
  obtain ⟨x4_1, x5_1, x10_1, rfl, rfl, rfl, HA, HK1, HB⟩ := hrel
  cases gk with
  | zero => exact absurd HA.out (by simp [bits_Pack.l0])
  | succ k1 =>
   have H := HA.out
   clear HA
   simp only [bits_Pack.l0] at H
   by_cases c2 : x10_1 < (l0.length : Int)
   ·rw [if_pos c2] at H
    have c2b0 : decide (x10_1 < (l0.length : Int)) = true := decide_eq_true c2
    clear c2
    by_cases c3 : 0 ≤ x10_1
    ·rw [if_pos c3] at H
     have c3b0 : decide (0 ≤ x10_1) = true := decide_eq_true c3
     clear c3
     by_cases c4 : x10_1 < (l0.length : Int)
     ·rw [if_pos c4] at H
      have c4b0 : decide (x10_1 < (l0.length : Int)) = true := decide_eq_true c4
      clear c4
      by_cases c5 : ((rd_T54 l0 x10_1).f0) < 1
      ·rw [if_pos c5] at H
       have c5b0 : decide (((rd_T54 l0 x10_1).f0) < 1) = true := decide_eq_true c5
       clear c5
       simp only [Option.some.injEq, Prod.mk.injEq] at H
       obtain ⟨rfl, rfl⟩ := H
       have p122 : 0 ≤ (x10_1 : Int) := of_decide_eq_true (by first | (with_reducible assumption) | assumption)
       have q122 : x10_1 < (l0.length : Int) := of_decide_eq_true (by first | (with_reducible assumption) | assumption)
       obtain ⟨ad122, e122, hx122_0, hx122_1⟩ := at_T54 HR0.out x10_1 p122 q122
       cases e122
       replace hx122_0 := (HB.out.cell (World.block_lt_of_cell? w _ hx122_0)).trans hx122_0
       replace hx122_1 := (HB.out.cell (World.block_lt_of_cell? w _ hx122_1)).trans hx122_1
       replace p122 := eq_true p122
       replace q122 := eq_true q122
       go_wp2_with (first | ((with_reducible refine gate_dst (N := 7) rfl ?_); refine box_event ?hg (N := 7) ?hd (cs := #[.int .i64 0, .int .i64 0]) (t := 54) ?hr ?_; (case hd => rfl); (case hg => rfl); (case hr => first | (go_simp; done) | (go_simp; rfl)); intro gb123 hg w6 hbox hb; have n0_ := Aside0.mk (below_step (by repeat (first | (with_reducible first | exact HB.out | apply below_alloc | apply pw_below_drewN | apply below_drew1) | exact HB.out)) hb); have n1_ := Aside0.mk (hbox); have n2_ := Aside0.mk ((by rw [hg]; exact (below_size (by repeat (first | (with_reducible first | exact HB.out | apply below_alloc | apply pw_below_drewN | apply below_drew1) | exact HB.out))) : w.heap.size ≤ gb123)); have n3_ := n2_; clear HB; have HB := n0_; have BK123 := n1_; have GW123 := n2_; have GE123 := n3_; clear n0_ n1_ n2_ n3_; clear hb hbox hg; have hcz7_0 : w6.cell? ⟨gb123, 0, none⟩ = some (.int .i64 0) := (blk_cell BK123.out 0).trans rfl; have hcz7_1 : w6.cell? ⟨gb123, 1, none⟩ = some (.int .i64 0) := (blk_cell BK123.out 1).trans rfl; have hfz7_0 := blk_frozen BK123.out 0; have hfz7_1 := blk_frozen BK123.out 1))
       go_ret2
       exact ⟨by first | rfl | (simp [errW_none, errW_some] <;> rfl) | (simp [*, errW_none, errW_some] <;> rfl), by repeat (first | (with_reducible first | exact HB.out | apply below_alloc | apply pw_below_drewN | apply below_drew1 | refine below_set ?_ GE123.out) | exact HB.out)⟩
      ·rw [if_neg c5] at H
       have c5b0 : decide (((rd_T54 l0 x10_1).f0) < 1) = false := decide_eq_false c5
       clear c5
       by_cases c8 : ((rd_T54 l0 x10_1).f0) > 8
       ·rw [if_pos c8] at H
        have c8b0 : decide (8 < ((rd_T54 l0 x10_1).f0)) = true := decide_eq_true c8
        clear c8
        simp only [Option.some.injEq, Prod.mk.injEq] at H
        obtain ⟨rfl, rfl⟩ := H
        have p122 : 0 ≤ (x10_1 : Int) := of_decide_eq_true (by first | (with_reducible assumption) | assumption)
        have q122 : x10_1 < (l0.length : Int) := of_decide_eq_true (by first | (with_reducible assumption) | assumption)
        obtain ⟨ad122, e122, hx122_0, hx122_1⟩ := at_T54 HR0.out x10_1 p122 q122
        cases e122
        replace hx122_0 := (HB.out.cell (World.block_lt_of_cell? w _ hx122_0)).trans hx122_0
        replace hx122_1 := (HB.out.cell (World.block_lt_of_cell? w _ hx122_1)).trans hx122_1
        replace p122 := eq_true p122
        replace q122 := eq_true q122
        go_wp2_with (first | ((with_reducible refine gate_dst (N := 7) rfl ?_); refine box_event ?hg (N := 7) ?hd (cs := #[.int .i64 0, .int .i64 0]) (t := 54) ?hr ?_; (case hd => rfl); (case hg => rfl); (case hr => first | (go_simp; done) | (go_simp; rfl)); intro gb123 hg w9 hbox hb; have n0_ := Aside0.mk (below_step (by repeat (first | (with_reducible first | exact HB.out | apply below_alloc | apply pw_below_drewN | apply below_drew1) | exact HB.out)) hb); have n1_ := Aside0.mk (hbox); have n2_ := Aside0.mk ((by rw [hg]; exact (below_size (by repeat (first | (with_reducible first | exact HB.out | apply below_alloc | apply pw_below_drewN | apply below_drew1) | exact HB.out))) : w.heap.size ≤ gb123)); have n3_ := n2_; clear HB; have HB := n0_; have BK123 := n1_; have GW123 := n2_; have GE123 := n3_; clear n0_ n1_ n2_ n3_; clear hb hbox hg; have hcz10_0 : w9.cell? ⟨gb123, 0, none⟩ = some (.int .i64 0) := (blk_cell BK123.out 0).trans rfl; have hcz10_1 : w9.cell? ⟨gb123, 1, none⟩ = some (.int .i64 0) := (blk_cell BK123.out 1).trans rfl; have hfz10_0 := blk_frozen BK123.out 0; have hfz10_1 := blk_frozen BK123.out 1))
        go_ret2
        exact ⟨by first | rfl | (simp [errW_none, errW_some] <;> rfl) | (simp [*, errW_none, errW_some] <;> rfl), by repeat (first | (with_reducible first | exact HB.out | apply below_alloc | apply pw_below_drewN | apply below_drew1 | refine below_set ?_ GE123.out) | exact HB.out)⟩
       ·rw [if_neg c8] at H
        have c8b0 : decide (8 < ((rd_T54 l0 x10_1).f0)) = false := decide_eq_false c8
        clear c8
        by_cases c11 : ((rd_T54 l0 x10_1).f1) < 0
        ·rw [if_pos c11] at H
         have c11b0 : decide (((rd_T54 l0 x10_1).f1) < 0) = true := decide_eq_true c11
         clear c11
         simp only [Option.some.injEq, Prod.mk.injEq] at H
         obtain ⟨rfl, rfl⟩ := H
         have p122 : 0 ≤ (x10_1 : Int) := of_decide_eq_true (by first | (with_reducible assumption) | assumption)
         have q122 : x10_1 < (l0.length : Int) := of_decide_eq_true (by first | (with_reducible assumption) | assumption)
         obtain ⟨ad122, e122, hx122_0, hx122_1⟩ := at_T54 HR0.out x10_1 p122 q122
         cases e122
         replace hx122_0 := (HB.out.cell (World.block_lt_of_cell? w _ hx122_0)).trans hx122_0
         replace hx122_1 := (HB.out.cell (World.block_lt_of_cell? w _ hx122_1)).trans hx122_1
         replace p122 := eq_true p122
         replace q122 := eq_true q122
         go_wp2_with (first | ((with_reducible refine gate_dst (N := 7) rfl ?_); refine box_event ?hg (N := 7) ?hd (cs := #[.int .i64 0, .int .i64 0]) (t := 54) ?hr ?_; (case hd => rfl); (case hg => rfl); (case hr => first | (go_simp; done) | (go_simp; rfl)); intro gb123 hg w12 hbox hb; have n0_ := Aside0.mk (below_step (by repeat (first | (with_reducible first | exact HB.out | apply below_alloc | apply pw_below_drewN | apply below_drew1) | exact HB.out)) hb); have n1_ := Aside0.mk (hbox); have n2_ := Aside0.mk ((by rw [hg]; exact (below_size (by repeat (first | (with_reducible first | exact HB.out | apply below_alloc | apply pw_below_drewN | apply below_drew1) | exact HB.out))) : w.heap.size ≤ gb123)); have n3_ := n2_; clear HB; have HB := n0_; have BK123 := n1_; have GW123 := n2_; have GE123 := n3_; clear n0_ n1_ n2_ n3_; clear hb hbox hg; have hcz13_0 : w12.cell? ⟨gb123, 0, none⟩ = some (.int .i64 0) := (blk_cell BK123.out 0).trans rfl; have hcz13_1 : w12.cell? ⟨gb123, 1, none⟩ = some (.int .i64 0) := (blk_cell BK123.out 1).trans rfl; have hfz13_0 := blk_frozen BK123.out 0; have hfz13_1 := blk_frozen BK123.out 1))
         go_ret2
         exact ⟨by first | rfl | (simp [errW_none, errW_some] <;> rfl) | (simp [*, errW_none, errW_some] <;> rfl), by repeat (first | (with_reducible first | exact HB.out | apply below_alloc | apply pw_below_drewN | apply below_drew1 | refine below_set ?_ GE123.out) | exact HB.out)⟩
        ·rw [if_neg c11] at H
         have c11b0 : decide (((rd_T54 l0 x10_1).f1) < 0) = false := decide_eq_false c11
         clear c11
         by_cases c14 : 0 ≤ ((rd_T54 l0 x10_1).f0)
         ·rw [if_pos c14] at H
          have c14b0 := eq_true c14
          have c14b1 : decide (0 ≤ ((rd_T54 l0 x10_1).f0)) = true := decide_eq_true c14
          clear c14
          obtain ⟨ji15, hji15⟩ : ∃ j_ : Int, (shr .i64 ((rd_T54 l0 x10_1).f1) ((rd_T54 l0 x10_1).f0)) = j_ := ⟨_, rfl⟩
          replace H : (if (ji15) = 0 then (if 0 ≤ (mn x5_1 8) then (bits_Pack.l0 k1 (Go.bits .or .i64 x4_1 (wrap64 (((rd_T54 l0 x10_1).f1) * 2 ^ (mn x5_1 8).toNat))) (mn (wrap64 (x5_1 + ((rd_T54 l0 x10_1).f0))) 9) l0 (l0.length : Int) (wrap64 (x10_1 + 1))) else (none)) else (some (0, 2))) = some (r1, r2) := by first | (rw [hji15] at H; exact H) | (simp only [hji15] at H ⊢; exact H)
          have hji15_ : (((rd_T54 l0 x10_1).f1) / 2 ^ min ((rd_T54 l0 x10_1).f0).toNat 64) = ji15 := hji15
          have hji15z : ((rd_T54 l0 x10_1).f0) ≤ 64 → (((rd_T54 l0 x10_1).f1) / 2 ^ ((rd_T54 l0 x10_1).f0).toNat) = ji15 := shr_small hji15
          by_cases c16 : (ji15) = 0
          ·rw [if_pos c16] at H
           have c16b0 : ((ji15) == 0) = true := beq_iff_eq.mpr c16
           have c16b1 : ((ji15) != 0) = false := bne_eq_false_iff_eq.mpr c16
           clear c16
           obtain ⟨ji17, hji17⟩ : ∃ j_ : Int, (mn x5_1 8) = j_ := ⟨_, rfl⟩
           replace H : (if 0 ≤ (ji17) then (bits_Pack.l0 k1 (Go.bits .or .i64 x4_1 (wrap64 (((rd_T54 l0 x10_1).f1) * 2 ^ (ji17).toNat))) (mn (wrap64 (x5_1 + ((rd_T54 l0 x10_1).f0))) 9) l0 (l0.length : Int) (wrap64 (x10_1 + 1))) else (none)) = some (r1, r2) := by first | (rw [hji17] at H; exact H) | (simp only [hji17] at H ⊢; exact H)
           (try (have hji17h : ji17 ≤ 8 := by (rw [← hji17]; unfold mn; (repeat' split) <;> omega)))
           (try (have hji17g : ji17 ≤ 64 := by omega))
           (try (have hji17t : min (ji17).toNat 64 = (ji17).toNat := by omega))
           have hji17_ : (if 8 < x5_1 then 8 else x5_1) = ji17 := hji17
           (try (have hji17_n := hji17_; simp only [Int.ofNat_lt] at hji17_n))
           by_cases c18 : 0 ≤ (ji17)
           ·rw [if_pos c18] at H
            have c18b0 := eq_true c18
            have c18b1 : decide (0 ≤ (ji17)) = true := decide_eq_true c18
            clear c18
            obtain ⟨ji19, hji19⟩ : ∃ j_ : Int, (mn (wrap64 (x5_1 + ((rd_T54 l0 x10_1).f0))) 9) = j_ := ⟨_, rfl⟩
            replace H : (bits_Pack.l0 k1 (Go.bits .or .i64 x4_1 (wrap64 (((rd_T54 l0 x10_1).f1) * 2 ^ (ji17).toNat))) ji19 l0 (l0.length : Int) (wrap64 (x10_1 + 1))) = some (r1, r2) := by first | (rw [hji19] at H; exact H) | (simp only [hji19] at H ⊢; exact H)
            (try (have hji19h : ji19 ≤ 9 := by (rw [← hji19]; unfold mn; (repeat' split) <;> omega)))
            (try (have hji19g : ji19 ≤ 64 := by omega))
            (try (have hji19t : min (ji19).toNat 64 = (ji19).toNat := by omega))
            have hji19_ : (if 9 < (wrap64 (x5_1 + ((rd_T54 l0 x10_1).f0))) then 9 else (wrap64 (x5_1 + ((rd_T54 l0 x10_1).f0)))) = ji19 := hji19
            (try (have hji19_n := hji19_; simp only [Int.ofNat_lt] at hji19_n))
            have H' := Aside0.mk H
            clear H
            have p122 : 0 ≤ (x10_1 : Int) := of_decide_eq_true (by first | (with_reducible assumption) | assumption)
            have q122 : x10_1 < (l0.length : Int) := of_decide_eq_true (by first | (with_reducible assumption) | assumption)
            obtain ⟨ad122, e122, hx122_0, hx122_1⟩ := at_T54 HR0.out x10_1 p122 q122
            cases e122
            replace hx122_0 := (HB.out.cell (World.block_lt_of_cell? w _ hx122_0)).trans hx122_0
            replace hx122_1 := (HB.out.cell (World.block_lt_of_cell? w _ hx122_1)).trans hx122_1
            replace p122 := eq_true p122
            replace q122 := eq_true q122
            go_wp2_with (first | ((with_reducible refine gate_dst (N := 7) rfl ?_); refine box_event ?hg (N := 7) ?hd (cs := #[.int .i64 0, .int .i64 0]) (t := 54) ?hr ?_; (case hd => rfl); (case hg => rfl); (case hr => first | (go_simp; done) | (go_simp; rfl)); intro gb123 hg w20 hbox hb; have n0_ := Aside0.mk (below_step (by repeat (first | (with_reducible first | exact HB.out | apply below_alloc | apply pw_below_drewN | apply below_drew1) | exact HB.out)) hb); have n1_ := Aside0.mk (hbox); have n2_ := Aside0.mk ((by rw [hg]; exact (below_size (by repeat (first | (with_reducible first | exact HB.out | apply below_alloc | apply pw_below_drewN | apply below_drew1) | exact HB.out))) : w.heap.size ≤ gb123)); have n3_ := n2_; clear HB; have HB := n0_; have BK123 := n1_; have GW123 := n2_; have GE123 := n3_; clear n0_ n1_ n2_ n3_; clear hb hbox hg; have hcz21_0 : w20.cell? ⟨gb123, 0, none⟩ = some (.int .i64 0) := (blk_cell BK123.out 0).trans rfl; have hcz21_1 : w20.cell? ⟨gb123, 1, none⟩ = some (.int .i64 0) := (blk_cell BK123.out 1).trans rfl; have hfz21_0 := blk_frozen BK123.out 0; have hfz21_1 := blk_frozen BK123.out 1))
            go_roundg k1
            case measure => have := HK1.out; omega
            case rel => exact ⟨(Go.bits .or .i64 x4_1 (wrap64 (((rd_T54 l0 x10_1).f1) * 2 ^ (ji17).toNat))), (ji19), (wrap64 (x10_1 + 1)), (by first | rfl | (simp; done) | (simp only [← hji17] <;> (first | rfl | simp)) | (simp [*]; done)), (by first | rfl | (simp; done) | (simp only [← hji19] <;> (first | rfl | simp)) | (simp [*]; done)), (by first | rfl | (simp; done) | (simp [*]; done)), H', ⟨by have := HK1.out; omega⟩, ⟨by repeat (first | (with_reducible first | exact HB.out | apply below_alloc | apply pw_below_drewN | apply below_drew1 | refine below_set ?_ GE123.out) | exact HB.out)⟩⟩
           ·rw [if_neg c18] at H
            exact absurd H (by simp)
          ·rw [if_neg c16] at H
           have c16b0 : ((ji15) == 0) = false := beq_eq_false_iff_ne.mpr c16
           have c16b1 : ((ji15) != 0) = true := bne_iff_ne.mpr c16
           simp only [Option.some.injEq, Prod.mk.injEq] at H
           obtain ⟨rfl, rfl⟩ := H
           have p122 : 0 ≤ (x10_1 : Int) := of_decide_eq_true (by first | (with_reducible assumption) | assumption)
           have q122 : x10_1 < (l0.length : Int) := of_decide_eq_true (by first | (with_reducible assumption) | assumption)
           obtain ⟨ad122, e122, hx122_0, hx122_1⟩ := at_T54 HR0.out x10_1 p122 q122
           cases e122
           replace hx122_0 := (HB.out.cell (World.block_lt_of_cell? w _ hx122_0)).trans hx122_0
           replace hx122_1 := (HB.out.cell (World.block_lt_of_cell? w _ hx122_1)).trans hx122_1
           replace p122 := eq_true p122
           replace q122 := eq_true q122
           go_wp2_with (first | ((with_reducible refine gate_dst (N := 7) rfl ?_); refine box_event ?hg (N := 7) ?hd (cs := #[.int .i64 0, .int .i64 0]) (t := 54) ?hr ?_; (case hd => rfl); (case hg => rfl); (case hr => first | (go_simp; done) | (go_simp; rfl)); intro gb123 hg w22 hbox hb; have n0_ := Aside0.mk (below_step (by repeat (first | (with_reducible first | exact HB.out | apply below_alloc | apply pw_below_drewN | apply below_drew1) | exact HB.out)) hb); have n1_ := Aside0.mk (hbox); have n2_ := Aside0.mk ((by rw [hg]; exact (below_size (by repeat (first | (with_reducible first | exact HB.out | apply below_alloc | apply pw_below_drewN | apply below_drew1) | exact HB.out))) : w.heap.size ≤ gb123)); have n3_ := n2_; clear HB; have HB := n0_; have BK123 := n1_; have GW123 := n2_; have GE123 := n3_; clear n0_ n1_ n2_ n3_; clear hb hbox hg; have hcz23_0 : w22.cell? ⟨gb123, 0, none⟩ = some (.int .i64 0) := (blk_cell BK123.out 0).trans rfl; have hcz23_1 : w22.cell? ⟨gb123, 1, none⟩ = some (.int .i64 0) := (blk_cell BK123.out 1).trans rfl; have hfz23_0 := blk_frozen BK123.out 0; have hfz23_1 := blk_frozen BK123.out 1))
           go_ret2
           exact ⟨by first | rfl | (simp [errW_none, errW_some] <;> rfl) | (simp only [← hji15]; first | rfl | (simp [errW_none, errW_some] <;> rfl)) | (simp [*, errW_none, errW_some] <;> rfl), by repeat (first | (with_reducible first | exact HB.out | apply below_alloc | apply pw_below_drewN | apply below_drew1 | refine below_set ?_ GE123.out) | exact HB.out)⟩
         ·rw [if_neg c14] at H
          exact absurd H (by simp)
     ·rw [if_neg c4] at H
      exact absurd H (by simp)
    ·rw [if_neg c3] at H
     exact absurd H (by simp)
   ·rw [if_neg c2] at H
    have c2b0 : decide (x10_1 < (l0.length : Int)) = false := decide_eq_false c2
    clear c2
    by_cases c24 : x5_1 > 8
    ·rw [if_pos c24] at H
     have c24b0 : decide (8 < x5_1) = true := decide_eq_true c24
     clear c24
     simp only [Option.some.injEq, Prod.mk.injEq] at H
     obtain ⟨rfl, rfl⟩ := H
     go_wp2
     go_ret2
     exact ⟨by first | rfl | (simp [errW_none, errW_some] <;> rfl) | (simp [*, errW_none, errW_some] <;> rfl), by repeat (first | (with_reducible first | exact HB.out | apply below_alloc | apply pw_below_drewN | apply below_drew1) | exact HB.out)⟩
    ·rw [if_neg c24] at H
     have c24b0 : decide (8 < x5_1) = false := decide_eq_false c24
     clear c24
     simp only [Option.some.injEq, Prod.mk.injEq] at H
     obtain ⟨rfl, rfl⟩ := H
     go_wp2
     go_ret2
     exact ⟨by first | rfl | (simp [errW_none, errW_some] <;> rfl) | (simp [*, errW_none, errW_some] <;> rfl), by repeat (first | (with_reducible first | exact HB.out | apply below_alloc | apply pw_below_drewN | apply below_drew1) | exact HB.out)⟩

end Go.Proofs.YtdpgdnbknmncfaaDoor.Print
