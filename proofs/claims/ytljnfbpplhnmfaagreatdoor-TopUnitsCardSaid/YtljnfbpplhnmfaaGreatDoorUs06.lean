/- Package entity by its own text: count, establish, release, data, unit, own, done. Conditions: sizes. -/
import Derived.Deep.LoopGhost
import Derived.Test.YtljnfbpplhnmfaaGreatDoorUs04
import Derived.Test.YtljnfbpplhnmfaaGreatDoorUs05
namespace Go.Proofs.YtljnfbpplhnmfaaGreatDoor.En
open Go Go.RowKit Go.Proofs.YtljnfbpplhnmfaaGreatDoorW.PrintWords Go.Proofs.YtljnfbpplhnmfaaGreatDoorW.PrintLast Go.Proofs.YtljnfbpplhnmfaaGreatDoorW.PrintMore Go.Proofs.YtljnfbpplhnmfaaGreatDoor.Str Go.Proofs.YtljnfbpplhnmfaaGreatDoor.Mp Go.Proofs.YtljnfbpplhnmfaaGreatDoor.Ra Go.Proofs.YtljnfbpplhnmfaaGreatDoor.Sl Go.Proofs.YtljnfbpplhnmfaaGreatDoor.Qu Go.Proofs.YtljnfbpplhnmfaaGreatDoor.Sq Go.Proofs.YtljnfbpplhnmfaaGreatDoor.Fl Go.Proofs.YtljnfbpplhnmfaaGreatDoor.Ru Go.Proofs.YtljnfbpplhnmfaaGreatDoor.Md
set_option linter.unusedVariables false
set_option linter.unusedSimpArgs false
set_option maxRecDepth 1000000
set_option maxHeartbeats 4000000
theorem all_append : ∀ {L M : List SP} {T : Nat → Prop} {w : World}, (all (L ++ M)).h T w → (sep (all L) (all M)).h T w
  | [], M, T, w, h => ⟨fun _ => False, T, ⟨fun _ h => h, trivial⟩, h, fun _ h => h.elim, fun k => by simp⟩
  | A :: L, M, T, w, ⟨T1, T2, h1, h2, d, e⟩ => by
    obtain ⟨T3, T4, h3, h4, d2, e2⟩ := all_append (L := L) (M := M) h2
    exact ⟨fun k => T1 k ∨ T3 k, T4, ⟨T1, T3, h1, h3, fun k a b => d k a ((e2 k).2 (Or.inl b)), fun k => Iff.rfl⟩, h4, fun k a b => by
      rcases a with a | a
      · exact d k a ((e2 k).2 (Or.inr b))
      · exact d2 k a b, fun k => by rw [e, e2]; exact or_assoc.symm⟩
theorem doneC (b mb fb : Nat) (e : E) (T : Nat → Prop) (w0 w : World) (h : Went (entAt b mb fb e) T w0 w) :
    Calls Tryz.prog 79 #[.pointer (some ⟨b, 0, none⟩)] w fun r w' => ∃ v, r = .returned v ∧ Went (all [entAt b mb fb (emptied e), orow v e.out]) T w0 w' := by
  obtain ⟨A, c, HW0, hok, hfk, hqk, hc, hm⟩ := entAt.opened h
  have HOK := Aside0.mk hok
  have HW := Aside0.mk HW0
  obtain ⟨⟨c0, c1, c2, c3, c4, c5, c6, c7, c8⟩, f0, f1, f2, f3, f4, f8⟩ := cells9 (HW0.heap 1 rfl)
  clear h hok hfk hqk HW0
  go_enter Tryz.func79, Tryz.ntmps79
  go_wp2
  go_ret
  refine ⟨_, rfl, ?_⟩
  have h1 := ((HW.out.set 1 rfl 8 (.slice none 0 0)).norow 180 11).perm (List.Perm.swap _ _ _)
  have h2 := h1.perm ((List.Perm.cons _ ((List.Perm.swap _ _ _).trans ((List.Perm.cons _ ((List.Perm.swap _ _ _).trans (List.Perm.cons _ (List.Perm.swap _ _ _))))))))
  refine h2.imp fun T1 h3 => ?_
  obtain ⟨T2, T3, h4, h5, d, e2⟩ := all_append (L := [fact (EOk e), blk b (.cells (ecells mb fb (emptied e) (.slice none 0 0)) 91 (0, 0)), runsAt mb e.r200 e.r203, flAt fb e.fl, orow (.slice none 0 0) []]) (M := [orow (.slice A e.out.length c) e.out]) h3
  refine ⟨T2, T3, ?_, h5, d, e2⟩
  obtain ⟨Ta, Tb, ha, hb, d2, e3⟩ := h4
  exact ⟨.slice none 0 0, Ta, Tb, ⟨ha.1, HOK.out.most, HOK.out.state, HOK.out.tries⟩, hb, d2, e3⟩
theorem countC (b mb fb : Nat) (e : E) (n : Nat) (hl : e.out.length ≤ 8990) (T : Nat → Prop) (w0 w : World) (h : Went (entAt b mb fb e) T w0 w) :
    Calls Tryz.prog 158 #[.pointer (some ⟨b, 0, none⟩), .int .i64 n] w fun r w' => r = .returned (.tuple #[]) ∧ Went (entAt b mb fb (count e n)) T w0 w' := by
  have HOK := Aside0.mk (entAt.ok h)
  obtain ⟨A, ca, ⟨c0, c1, c2, c3, c4, c5, c6, c7, c8⟩, f0, f1, f2, f3, f4, f8⟩ := entAt.cells h
  have HW := Aside0.mk h
  clear h
  by_cases hv : e.fl.va = e.fl.vs
  · rw [show count e n = start203 (stop200 e) from if_pos hv]
    have hb0 : (e.fl.va == e.fl.vs) = true := by rw [beq_iff_eq]; exact hv
    obtain ⟨T1, hf⟩ := entAt.flowGet HW.out
    have HV := Aside0.mk (viewC fb (e).fl T1 _ hf)
    clear hf
    clear hv
    go_enter Tryz.func158, Tryz.ntmps158
    go_wp2_with fail
    refine HV.out.mono ?_
    rintro r w1 ⟨rfl, hb⟩
    have hw := HW.out.below hb
    clear c0 c1 c2 c3 c4 c5 c6 c7 c8 f0 f1 f2 f3 f4 f8
    obtain ⟨A, ca, ⟨c0, c1, c2, c3, c4, c5, c6, c7, c8⟩, f0, f1, f2, f3, f4, f8⟩ := entAt.cells hw
    have HW := Aside0.mk hw
    clear hw hb HV
    have hbx := heap_alloc_new w1 (.cells #[.int .i64 e.fl.vs, .int .i64 e.fl.va, .int .i64 e.fl.vr, .bool e.fl.peer, .bool e.fl.own, .bool e.fl.ref, .int .i64 e.fl.q.sent, .int .i64 ((e.fl.q.list.length : Int) - e.fl.q.sent)] 47 (0, 0))
    have hw := HW.out.alloc (.cells #[.int .i64 e.fl.vs, .int .i64 e.fl.va, .int .i64 e.fl.vr, .bool e.fl.peer, .bool e.fl.own, .bool e.fl.ref, .int .i64 e.fl.q.sent, .int .i64 ((e.fl.q.list.length : Int) - e.fl.q.sent)] 47 (0, 0))
    clear c0 c1 c2 c3 c4 c5 c6 c7 c8 f0 f1 f2 f3 f4 f8
    obtain ⟨A, ca, ⟨c0, c1, c2, c3, c4, c5, c6, c7, c8⟩, f0, f1, f2, f3, f4, f8⟩ := entAt.cells hw
    obtain ⟨⟨b0, b1, b2, b3, b4, b5, b6, b7⟩, _⟩ := cells8 hbx
    have HW := Aside0.mk hw
    clear hbx hw
    go_wp2_with fail
    refine (stop200C b mb fb (e)  (Nat.le_trans hl (by omega)) T w0 _ HW.out).mono ?_
    rintro r w2 ⟨rfl, hw⟩
    clear c0 c1 c2 c3 c4 c5 c6 c7 c8 f0 f1 f2 f3 f4 f8
    obtain ⟨A, ca, ⟨c0, c1, c2, c3, c4, c5, c6, c7, c8⟩, f0, f1, f2, f3, f4, f8⟩ := entAt.cells hw
    have HW := Aside0.mk hw
    clear hw
    go_wp2_with fail
    refine (start203C b mb fb (stop200 (e))  (Nat.le_trans (len_stop200 (hl)) (by omega)) T w0 _ HW.out).mono ?_
    rintro r w3 ⟨rfl, hw⟩
    clear c0 c1 c2 c3 c4 c5 c6 c7 c8 f0 f1 f2 f3 f4 f8
    obtain ⟨A, ca, ⟨c0, c1, c2, c3, c4, c5, c6, c7, c8⟩, f0, f1, f2, f3, f4, f8⟩ := entAt.cells hw
    have HW := Aside0.mk hw
    clear hw
    go_wp2
    go_end0
    exact ⟨rfl, HW.out⟩
  · by_cases hn : 0 < n
    · rw [show count e n = start200 e from (if_neg hv).trans (if_pos hn)]
      have hb0 : (e.fl.va == e.fl.vs) = false := by rw [beq_eq_false_iff_ne]; exact hv
      have hb1 : (0 : Int) < (n : Int) := by omega
      obtain ⟨T1, hf⟩ := entAt.flowGet HW.out
      have HV := Aside0.mk (viewC fb (e).fl T1 _ hf)
      clear hf
      clear hv
      go_enter Tryz.func158, Tryz.ntmps158
      go_wp2_with fail
      refine HV.out.mono ?_
      rintro r w1 ⟨rfl, hb⟩
      have hw := HW.out.below hb
      clear c0 c1 c2 c3 c4 c5 c6 c7 c8 f0 f1 f2 f3 f4 f8
      obtain ⟨A, ca, ⟨c0, c1, c2, c3, c4, c5, c6, c7, c8⟩, f0, f1, f2, f3, f4, f8⟩ := entAt.cells hw
      have HW := Aside0.mk hw
      clear hw hb HV
      have hbx := heap_alloc_new w1 (.cells #[.int .i64 e.fl.vs, .int .i64 e.fl.va, .int .i64 e.fl.vr, .bool e.fl.peer, .bool e.fl.own, .bool e.fl.ref, .int .i64 e.fl.q.sent, .int .i64 ((e.fl.q.list.length : Int) - e.fl.q.sent)] 47 (0, 0))
      have hw := HW.out.alloc (.cells #[.int .i64 e.fl.vs, .int .i64 e.fl.va, .int .i64 e.fl.vr, .bool e.fl.peer, .bool e.fl.own, .bool e.fl.ref, .int .i64 e.fl.q.sent, .int .i64 ((e.fl.q.list.length : Int) - e.fl.q.sent)] 47 (0, 0))
      clear c0 c1 c2 c3 c4 c5 c6 c7 c8 f0 f1 f2 f3 f4 f8
      obtain ⟨A, ca, ⟨c0, c1, c2, c3, c4, c5, c6, c7, c8⟩, f0, f1, f2, f3, f4, f8⟩ := entAt.cells hw
      obtain ⟨⟨b0, b1, b2, b3, b4, b5, b6, b7⟩, _⟩ := cells8 hbx
      have HW := Aside0.mk hw
      clear hbx hw
      go_wp2_with fail
      refine (start200C b mb fb (e)  (Nat.le_trans hl (by omega)) T w0 _ HW.out).mono ?_
      rintro r w2 ⟨rfl, hw⟩
      clear c0 c1 c2 c3 c4 c5 c6 c7 c8 f0 f1 f2 f3 f4 f8
      obtain ⟨A, ca, ⟨c0, c1, c2, c3, c4, c5, c6, c7, c8⟩, f0, f1, f2, f3, f4, f8⟩ := entAt.cells hw
      have HW := Aside0.mk hw
      clear hw
      go_wp2
      go_end0
      exact ⟨rfl, HW.out⟩
    · rw [show count e n = e from (if_neg hv).trans (if_neg hn)]
      have hb0 : (e.fl.va == e.fl.vs) = false := by rw [beq_eq_false_iff_ne]; exact hv
      have hb1 : ¬ (0 : Int) < (n : Int) := by omega
      obtain ⟨T1, hf⟩ := entAt.flowGet HW.out
      have HV := Aside0.mk (viewC fb (e).fl T1 _ hf)
      clear hf
      clear hv
      go_enter Tryz.func158, Tryz.ntmps158
      go_wp2_with fail
      refine HV.out.mono ?_
      rintro r w1 ⟨rfl, hb⟩
      have hw := HW.out.below hb
      clear c0 c1 c2 c3 c4 c5 c6 c7 c8 f0 f1 f2 f3 f4 f8
      obtain ⟨A, ca, ⟨c0, c1, c2, c3, c4, c5, c6, c7, c8⟩, f0, f1, f2, f3, f4, f8⟩ := entAt.cells hw
      have HW := Aside0.mk hw
      clear hw hb HV
      have hbx := heap_alloc_new w1 (.cells #[.int .i64 e.fl.vs, .int .i64 e.fl.va, .int .i64 e.fl.vr, .bool e.fl.peer, .bool e.fl.own, .bool e.fl.ref, .int .i64 e.fl.q.sent, .int .i64 ((e.fl.q.list.length : Int) - e.fl.q.sent)] 47 (0, 0))
      have hw := HW.out.alloc (.cells #[.int .i64 e.fl.vs, .int .i64 e.fl.va, .int .i64 e.fl.vr, .bool e.fl.peer, .bool e.fl.own, .bool e.fl.ref, .int .i64 e.fl.q.sent, .int .i64 ((e.fl.q.list.length : Int) - e.fl.q.sent)] 47 (0, 0))
      clear c0 c1 c2 c3 c4 c5 c6 c7 c8 f0 f1 f2 f3 f4 f8
      obtain ⟨A, ca, ⟨c0, c1, c2, c3, c4, c5, c6, c7, c8⟩, f0, f1, f2, f3, f4, f8⟩ := entAt.cells hw
      obtain ⟨⟨b0, b1, b2, b3, b4, b5, b6, b7⟩, _⟩ := cells8 hbx
      have HW := Aside0.mk hw
      clear hbx hw
      go_wp2
      go_end0
      exact ⟨rfl, HW.out⟩
theorem establishC (b mb fb : Nat) (e : E) (hl : e.out.length ≤ 7000) (T : Nat → Prop) (w0 w : World) (h : Went (entAt b mb fb e) T w0 w) :
    Calls Tryz.prog 80 #[.pointer (some ⟨b, 0, none⟩)] w fun r w' => r = .returned (.int .i64 (establish e).1) ∧ Went (entAt b mb fb (establish e).2) T w0 w' := by
  have HOK := Aside0.mk (entAt.ok h)
  obtain ⟨A, ca, ⟨c0, c1, c2, c3, c4, c5, c6, c7, c8⟩, f0, f1, f2, f3, f4, f8⟩ := entAt.cells h
  have HW := Aside0.mk h
  clear h
  have hst : e.state = 4 ∨ e.state = 5 ∨ e.state = 6 ∨ e.state = 7 ∨ e.state = 8 := by have := HOK.out.1.state; omega
  rcases hst with hs | hs | hs | hs | hs
  · rw [show establish e = (0, call { e with asked := true }) from by unfold establish; simp [hs, up]]
    rw [hs] at c1
    clear hs
    go_enter Tryz.func80, Tryz.ntmps80
    go_wp2_with fail
    refine (callC b mb fb ({ e with asked := true })  (Nat.le_trans hl (by omega)) T w0 _ (entAt.setAsked HW.out true )).mono ?_
    rintro r w1 ⟨rfl, hw⟩
    clear c0 c1 c2 c3 c4 c5 c6 c7 c8 f0 f1 f2 f3 f4 f8
    obtain ⟨A, ca, ⟨c0, c1, c2, c3, c4, c5, c6, c7, c8⟩, f0, f1, f2, f3, f4, f8⟩ := entAt.cells hw
    have HW := Aside0.mk hw
    clear hw
    go_wp2
    go_ret
    exact ⟨rfl, HW.out⟩
  · rw [show establish e = (0, { e with fl := clearF e.fl, asked := true }) from by unfold establish; simp [hs, up]]
    rw [hs] at c1
    clear hs
    go_enter Tryz.func80, Tryz.ntmps80
    go_wp2_with fail
    refine (entAt.flow HW.out (fun T1 h1 => Fl.clearC fb e.fl T1 _ h1)).mono ?_
    rintro r w1 ⟨rfl, hw⟩
    clear c0 c1 c2 c3 c4 c5 c6 c7 c8 f0 f1 f2 f3 f4 f8
    obtain ⟨A, ca, ⟨c0, c1, c2, c3, c4, c5, c6, c7, c8⟩, f0, f1, f2, f3, f4, f8⟩ := entAt.cells hw
    have HW := Aside0.mk hw
    clear hw
    go_wp2
    go_ret
    exact ⟨rfl, (entAt.setAsked HW.out true )⟩
  · rw [show establish e = (12, e) from by unfold establish; simp [hs, up]]
    rw [hs] at c1
    clear hs
    go_enter Tryz.func80, Tryz.ntmps80
    go_wp2
    go_ret
    exact ⟨rfl, HW.out⟩
  · rw [show establish e = (0, call { e with fl := clearF e.fl, asked := true }) from by unfold establish; simp [hs, up]]
    rw [hs] at c1
    clear hs
    go_enter Tryz.func80, Tryz.ntmps80
    go_wp2_with fail
    refine (entAt.flow HW.out (fun T1 h1 => Fl.clearC fb e.fl T1 _ h1)).mono ?_
    rintro r w1 ⟨rfl, hw⟩
    clear c0 c1 c2 c3 c4 c5 c6 c7 c8 f0 f1 f2 f3 f4 f8
    obtain ⟨A, ca, ⟨c0, c1, c2, c3, c4, c5, c6, c7, c8⟩, f0, f1, f2, f3, f4, f8⟩ := entAt.cells hw
    have HW := Aside0.mk hw
    clear hw
    go_wp2_with fail
    refine (callC b mb fb ({ { e with fl := clearF e.fl } with asked := true })  (Nat.le_trans hl (by omega)) T w0 _ (entAt.setAsked HW.out true )).mono ?_
    rintro r w2 ⟨rfl, hw⟩
    clear c0 c1 c2 c3 c4 c5 c6 c7 c8 f0 f1 f2 f3 f4 f8
    obtain ⟨A, ca, ⟨c0, c1, c2, c3, c4, c5, c6, c7, c8⟩, f0, f1, f2, f3, f4, f8⟩ := entAt.cells hw
    have HW := Aside0.mk hw
    clear hw
    go_wp2
    go_ret
    exact ⟨rfl, HW.out⟩
  · rw [show establish e = (0, call { e with fl := clearF e.fl, asked := true }) from by unfold establish; simp [hs, up]]
    rw [hs] at c1
    clear hs
    go_enter Tryz.func80, Tryz.ntmps80
    go_wp2_with fail
    refine (entAt.flow HW.out (fun T1 h1 => Fl.clearC fb e.fl T1 _ h1)).mono ?_
    rintro r w1 ⟨rfl, hw⟩
    clear c0 c1 c2 c3 c4 c5 c6 c7 c8 f0 f1 f2 f3 f4 f8
    obtain ⟨A, ca, ⟨c0, c1, c2, c3, c4, c5, c6, c7, c8⟩, f0, f1, f2, f3, f4, f8⟩ := entAt.cells hw
    have HW := Aside0.mk hw
    clear hw
    go_wp2_with fail
    refine (callC b mb fb ({ { e with fl := clearF e.fl } with asked := true })  (Nat.le_trans hl (by omega)) T w0 _ (entAt.setAsked HW.out true )).mono ?_
    rintro r w2 ⟨rfl, hw⟩
    clear c0 c1 c2 c3 c4 c5 c6 c7 c8 f0 f1 f2 f3 f4 f8
    obtain ⟨A, ca, ⟨c0, c1, c2, c3, c4, c5, c6, c7, c8⟩, f0, f1, f2, f3, f4, f8⟩ := entAt.cells hw
    have HW := Aside0.mk hw
    clear hw
    go_wp2
    go_ret
    exact ⟨rfl, HW.out⟩
theorem releaseC (b mb fb : Nat) (e : E) (hl : e.out.length ≤ 7000) (T : Nat → Prop) (w0 w : World) (h : Went (entAt b mb fb e) T w0 w) :
    Calls Tryz.prog 81 #[.pointer (some ⟨b, 0, none⟩)] w fun r w' => r = .returned (.int .i64 (release e).1) ∧ Went (entAt b mb fb (release e).2) T w0 w' := by
  have HOK := Aside0.mk (entAt.ok h)
  obtain ⟨A, ca, ⟨c0, c1, c2, c3, c4, c5, c6, c7, c8⟩, f0, f1, f2, f3, f4, f8⟩ := entAt.cells h
  have HW := Aside0.mk h
  clear h
  have hst : e.state = 4 ∨ e.state = 5 ∨ e.state = 6 ∨ e.state = 7 ∨ e.state = 8 := by have := HOK.out.1.state; omega
  rcases hst with hs | hs | hs | hs | hs
  · rw [show release e = (0, told e 4 nil8) from by unfold release; simp [hs, up]]
    rw [hs] at c1
    clear hs
    go_enter Tryz.func81, Tryz.ntmps81
    go_wp2_with fail
    refine (toldC b mb fb (e) 4 nil8 (Nat.le_trans hl (by omega)) T w0 _ HW.out).mono ?_
    rintro r w1 ⟨rfl, hw⟩
    clear c0 c1 c2 c3 c4 c5 c6 c7 c8 f0 f1 f2 f3 f4 f8
    obtain ⟨A, ca, ⟨c0, c1, c2, c3, c4, c5, c6, c7, c8⟩, f0, f1, f2, f3, f4, f8⟩ := entAt.cells hw
    have HW := Aside0.mk hw
    clear hw
    go_wp2
    go_ret
    exact ⟨rfl, HW.out⟩
  · rw [show release e = (12, e) from by unfold release; simp [hs, up]]
    have hup : up e = false := by unfold up; rw [hs]; decide
    rw [hs] at c1
    clear hs
    go_enter Tryz.func81, Tryz.ntmps81
    go_wp2_with fail
    refine (upC b mb fb (e) (Nat.le_trans hl (by omega)) T w0 _ HW.out).mono ?_
    rintro r w1 ⟨rfl, hw⟩
    clear c0 c1 c2 c3 c4 c5 c6 c7 c8 f0 f1 f2 f3 f4 f8
    obtain ⟨A, ca, ⟨c0, c1, c2, c3, c4, c5, c6, c7, c8⟩, f0, f1, f2, f3, f4, f8⟩ := entAt.cells hw
    have HW := Aside0.mk hw
    clear hw
    rw [hup]
    go_wp2
    go_ret
    exact ⟨rfl, HW.out⟩
  · rw [show release e = (12, e) from by unfold release; simp [hs, up]]
    have hup : up e = false := by unfold up; rw [hs]; decide
    rw [hs] at c1
    clear hs
    go_enter Tryz.func81, Tryz.ntmps81
    go_wp2_with fail
    refine (upC b mb fb (e) (Nat.le_trans hl (by omega)) T w0 _ HW.out).mono ?_
    rintro r w1 ⟨rfl, hw⟩
    clear c0 c1 c2 c3 c4 c5 c6 c7 c8 f0 f1 f2 f3 f4 f8
    obtain ⟨A, ca, ⟨c0, c1, c2, c3, c4, c5, c6, c7, c8⟩, f0, f1, f2, f3, f4, f8⟩ := entAt.cells hw
    have HW := Aside0.mk hw
    clear hw
    rw [hup]
    go_wp2
    go_ret
    exact ⟨rfl, HW.out⟩
  · rw [show release e = (0, { start200 (stop203 (send { e with fl := clearF e.fl, tries := 0 } 7 true true)) with state := 6 }) from by unfold release; simp [hs, up]]
    have hup : up e = true := by unfold up; rw [hs]; decide
    rw [hs] at c1
    clear hs
    go_enter Tryz.func81, Tryz.ntmps81
    go_wp2_with fail
    refine (upC b mb fb (e) (Nat.le_trans hl (by omega)) T w0 _ HW.out).mono ?_
    rintro r w1 ⟨rfl, hw⟩
    clear c0 c1 c2 c3 c4 c5 c6 c7 c8 f0 f1 f2 f3 f4 f8
    obtain ⟨A, ca, ⟨c0, c1, c2, c3, c4, c5, c6, c7, c8⟩, f0, f1, f2, f3, f4, f8⟩ := entAt.cells hw
    have HW := Aside0.mk hw
    clear hw
    rw [hup]
    go_wp2_with fail
    refine (entAt.flow HW.out (fun T1 h1 => Fl.clearC fb e.fl T1 _ h1)).mono ?_
    rintro r w2 ⟨rfl, hw⟩
    clear c0 c1 c2 c3 c4 c5 c6 c7 c8 f0 f1 f2 f3 f4 f8
    obtain ⟨A, ca, ⟨c0, c1, c2, c3, c4, c5, c6, c7, c8⟩, f0, f1, f2, f3, f4, f8⟩ := entAt.cells hw
    have HW := Aside0.mk hw
    clear hw
    go_wp2_with fail
    refine (sendC b mb fb ({ { e with fl := clearF e.fl } with tries := 0 }) 7 true true (Nat.le_trans hl (by omega)) T w0 _ (entAt.setTries HW.out 0 ⟨Int.le_refl 0, Int.le_trans (by decide) HOK.out.1.most.1⟩)).mono ?_
    rintro r w3 ⟨rfl, hw⟩
    clear c0 c1 c2 c3 c4 c5 c6 c7 c8 f0 f1 f2 f3 f4 f8
    obtain ⟨A, ca, ⟨c0, c1, c2, c3, c4, c5, c6, c7, c8⟩, f0, f1, f2, f3, f4, f8⟩ := entAt.cells hw
    have HW := Aside0.mk hw
    clear hw
    go_wp2_with fail
    refine (stop203C b mb fb (send ({ { e with fl := clearF e.fl } with tries := 0 }) 7 true true)  (Nat.le_trans (len_send (hl)) (by omega)) T w0 _ HW.out).mono ?_
    rintro r w4 ⟨rfl, hw⟩
    clear c0 c1 c2 c3 c4 c5 c6 c7 c8 f0 f1 f2 f3 f4 f8
    obtain ⟨A, ca, ⟨c0, c1, c2, c3, c4, c5, c6, c7, c8⟩, f0, f1, f2, f3, f4, f8⟩ := entAt.cells hw
    have HW := Aside0.mk hw
    clear hw
    go_wp2_with fail
    refine (start200C b mb fb (stop203 (send ({ { e with fl := clearF e.fl } with tries := 0 }) 7 true true))  (Nat.le_trans (len_stop203 (len_send (hl))) (by omega)) T w0 _ HW.out).mono ?_
    rintro r w5 ⟨rfl, hw⟩
    clear c0 c1 c2 c3 c4 c5 c6 c7 c8 f0 f1 f2 f3 f4 f8
    obtain ⟨A, ca, ⟨c0, c1, c2, c3, c4, c5, c6, c7, c8⟩, f0, f1, f2, f3, f4, f8⟩ := entAt.cells hw
    have HW := Aside0.mk hw
    clear hw
    go_wp2
    go_ret
    exact ⟨rfl, entAt.setState HW.out 6 (by decide)⟩
  · rw [show release e = (0, { start200 (stop203 (send { e with fl := clearF e.fl, tries := 0 } 7 true true)) with state := 6 }) from by unfold release; simp [hs, up]]
    have hup : up e = true := by unfold up; rw [hs]; decide
    rw [hs] at c1
    clear hs
    go_enter Tryz.func81, Tryz.ntmps81
    go_wp2_with fail
    refine (upC b mb fb (e) (Nat.le_trans hl (by omega)) T w0 _ HW.out).mono ?_
    rintro r w1 ⟨rfl, hw⟩
    clear c0 c1 c2 c3 c4 c5 c6 c7 c8 f0 f1 f2 f3 f4 f8
    obtain ⟨A, ca, ⟨c0, c1, c2, c3, c4, c5, c6, c7, c8⟩, f0, f1, f2, f3, f4, f8⟩ := entAt.cells hw
    have HW := Aside0.mk hw
    clear hw
    rw [hup]
    go_wp2_with fail
    refine (entAt.flow HW.out (fun T1 h1 => Fl.clearC fb e.fl T1 _ h1)).mono ?_
    rintro r w2 ⟨rfl, hw⟩
    clear c0 c1 c2 c3 c4 c5 c6 c7 c8 f0 f1 f2 f3 f4 f8
    obtain ⟨A, ca, ⟨c0, c1, c2, c3, c4, c5, c6, c7, c8⟩, f0, f1, f2, f3, f4, f8⟩ := entAt.cells hw
    have HW := Aside0.mk hw
    clear hw
    go_wp2_with fail
    refine (sendC b mb fb ({ { e with fl := clearF e.fl } with tries := 0 }) 7 true true (Nat.le_trans hl (by omega)) T w0 _ (entAt.setTries HW.out 0 ⟨Int.le_refl 0, Int.le_trans (by decide) HOK.out.1.most.1⟩)).mono ?_
    rintro r w3 ⟨rfl, hw⟩
    clear c0 c1 c2 c3 c4 c5 c6 c7 c8 f0 f1 f2 f3 f4 f8
    obtain ⟨A, ca, ⟨c0, c1, c2, c3, c4, c5, c6, c7, c8⟩, f0, f1, f2, f3, f4, f8⟩ := entAt.cells hw
    have HW := Aside0.mk hw
    clear hw
    go_wp2_with fail
    refine (stop203C b mb fb (send ({ { e with fl := clearF e.fl } with tries := 0 }) 7 true true)  (Nat.le_trans (len_send (hl)) (by omega)) T w0 _ HW.out).mono ?_
    rintro r w4 ⟨rfl, hw⟩
    clear c0 c1 c2 c3 c4 c5 c6 c7 c8 f0 f1 f2 f3 f4 f8
    obtain ⟨A, ca, ⟨c0, c1, c2, c3, c4, c5, c6, c7, c8⟩, f0, f1, f2, f3, f4, f8⟩ := entAt.cells hw
    have HW := Aside0.mk hw
    clear hw
    go_wp2_with fail
    refine (start200C b mb fb (stop203 (send ({ { e with fl := clearF e.fl } with tries := 0 }) 7 true true))  (Nat.le_trans (len_stop203 (len_send (hl))) (by omega)) T w0 _ HW.out).mono ?_
    rintro r w5 ⟨rfl, hw⟩
    clear c0 c1 c2 c3 c4 c5 c6 c7 c8 f0 f1 f2 f3 f4 f8
    obtain ⟨A, ca, ⟨c0, c1, c2, c3, c4, c5, c6, c7, c8⟩, f0, f1, f2, f3, f4, f8⟩ := entAt.cells hw
    have HW := Aside0.mk hw
    clear hw
    go_wp2
    go_ret
    exact ⟨rfl, entAt.setState HW.out 6 (by decide)⟩
theorem unitC (b mb fb : Nat) (e : E) (s : ByteArray) (hl : e.out.length ≤ 7000) (T : Nat → Prop) (w0 w : World) (h : Went (entAt b mb fb e) T w0 w) :
    Calls Tryz.prog 77 #[.pointer (some ⟨b, 0, none⟩), .string s] w fun r w' => r = .returned (.int .i64 (unit e s).1) ∧ Went (entAt b mb fb (unit e s).2) T w0 w' := by
  have HOK := Aside0.mk (entAt.ok h)
  obtain ⟨A, ca, ⟨c0, c1, c2, c3, c4, c5, c6, c7, c8⟩, f0, f1, f2, f3, f4, f8⟩ := entAt.cells h
  have HW := Aside0.mk h
  clear h
  have hge : (4 : Int) ≤ e.state := HOK.out.1.state.1
  go_enter Tryz.func77, Tryz.ntmps77
  go_wp2_with fail
  refine (sendDataC b mb fb (e) 6 true false 0 s (Nat.le_trans hl (by omega)) T w0 _ HW.out).mono ?_
  rintro r w1 ⟨rfl, hw⟩
  clear c0 c1 c2 c3 c4 c5 c6 c7 c8 f0 f1 f2 f3 f4 f8
  obtain ⟨A, ca, ⟨c0, c1, c2, c3, c4, c5, c6, c7, c8⟩, f0, f1, f2, f3, f4, f8⟩ := entAt.cells hw
  have HW := Aside0.mk hw
  clear hw
  go_wp2
  go_ret
  exact ⟨rfl, HW.out⟩
theorem ownC (b mb fb : Nat) (e : E) (x : Bool) (hl : e.out.length ≤ 7000) (T : Nat → Prop) (w0 w : World) (h : Went (entAt b mb fb e) T w0 w) :
    Calls Tryz.prog 83 #[.pointer (some ⟨b, 0, none⟩), .bool x] w fun r w' => r = .returned (.int .i64 (own e x).1) ∧ Went (entAt b mb fb (own e x).2) T w0 w' := by
  have HOK := Aside0.mk (entAt.ok h)
  obtain ⟨A, ca, ⟨c0, c1, c2, c3, c4, c5, c6, c7, c8⟩, f0, f1, f2, f3, f4, f8⟩ := entAt.cells h
  have HW := Aside0.mk h
  clear h
  have hst : e.state = 4 ∨ e.state = 5 ∨ e.state = 6 ∨ e.state = 7 ∨ e.state = 8 := by have := HOK.out.1.state; omega
  rcases hst with hs | hs | hs | hs | hs
  · rw [show own e x = (12, e) from by unfold own; simp [hs, up]]
    have hup : up e = false := by unfold up; rw [hs]; decide
    clear hs
    go_enter Tryz.func83, Tryz.ntmps83
    go_wp2_with fail
    refine (upC b mb fb (e) (Nat.le_trans hl (by omega)) T w0 _ HW.out).mono ?_
    rintro r w1 ⟨rfl, hw⟩
    clear c0 c1 c2 c3 c4 c5 c6 c7 c8 f0 f1 f2 f3 f4 f8
    obtain ⟨A, ca, ⟨c0, c1, c2, c3, c4, c5, c6, c7, c8⟩, f0, f1, f2, f3, f4, f8⟩ := entAt.cells hw
    have HW := Aside0.mk hw
    clear hw
    rw [hup]
    go_wp2
    go_ret
    exact ⟨rfl, HW.out⟩
  · rw [show own e x = (12, e) from by unfold own; simp [hs, up]]
    have hup : up e = false := by unfold up; rw [hs]; decide
    clear hs
    go_enter Tryz.func83, Tryz.ntmps83
    go_wp2_with fail
    refine (upC b mb fb (e) (Nat.le_trans hl (by omega)) T w0 _ HW.out).mono ?_
    rintro r w1 ⟨rfl, hw⟩
    clear c0 c1 c2 c3 c4 c5 c6 c7 c8 f0 f1 f2 f3 f4 f8
    obtain ⟨A, ca, ⟨c0, c1, c2, c3, c4, c5, c6, c7, c8⟩, f0, f1, f2, f3, f4, f8⟩ := entAt.cells hw
    have HW := Aside0.mk hw
    clear hw
    rw [hup]
    go_wp2
    go_ret
    exact ⟨rfl, HW.out⟩
  · rw [show own e x = (12, e) from by unfold own; simp [hs, up]]
    have hup : up e = false := by unfold up; rw [hs]; decide
    clear hs
    go_enter Tryz.func83, Tryz.ntmps83
    go_wp2_with fail
    refine (upC b mb fb (e) (Nat.le_trans hl (by omega)) T w0 _ HW.out).mono ?_
    rintro r w1 ⟨rfl, hw⟩
    clear c0 c1 c2 c3 c4 c5 c6 c7 c8 f0 f1 f2 f3 f4 f8
    obtain ⟨A, ca, ⟨c0, c1, c2, c3, c4, c5, c6, c7, c8⟩, f0, f1, f2, f3, f4, f8⟩ := entAt.cells hw
    have HW := Aside0.mk hw
    clear hw
    rw [hup]
    go_wp2
    go_ret
    exact ⟨rfl, HW.out⟩
  · have hup : up e = true := by unfold up; rw [hs]; decide
    have hu2 : ¬ up e = false := by rw [hup]; decide
    by_cases ho : e.fl.own = x
    · rw [show own e x = (0, e) from (if_neg hu2).trans (if_pos ho)]
      have hne : (e.fl.own != x) = false := by rw [ho]; cases x <;> rfl
      have HE : Aside0 (({ e with fl := { e.fl with own := x } } : E) = e) := ⟨by rw [← ho]⟩
      clear hs hu2 ho
      go_enter Tryz.func83, Tryz.ntmps83
      go_wp2_with fail
      refine (upC b mb fb (e) (Nat.le_trans hl (by omega)) T w0 _ HW.out).mono ?_
      rintro r w1 ⟨rfl, hw⟩
      clear c0 c1 c2 c3 c4 c5 c6 c7 c8 f0 f1 f2 f3 f4 f8
      obtain ⟨A, ca, ⟨c0, c1, c2, c3, c4, c5, c6, c7, c8⟩, f0, f1, f2, f3, f4, f8⟩ := entAt.cells hw
      have HW := Aside0.mk hw
      clear hw
      rw [hup]
      go_wp2_with fail
      refine (entAt.flow HW.out (fun T1 h1 => Fl.setOwnC fb e.fl x T1 _ h1)).mono ?_
      rintro r w2 ⟨rfl, hw⟩
      clear c0 c1 c2 c3 c4 c5 c6 c7 c8 f0 f1 f2 f3 f4 f8
      obtain ⟨A, ca, ⟨c0, c1, c2, c3, c4, c5, c6, c7, c8⟩, f0, f1, f2, f3, f4, f8⟩ := entAt.cells hw
      have HW := Aside0.mk hw
      clear hw
      rw [hne]
      have HW2 := HW.out
      rw [HE.out] at HW2
      clear HW
      have HW := Aside0.mk HW2
      clear HW2
      go_wp2
      go_ret
      exact ⟨rfl, HW.out⟩
    · rw [show own e x = (0, supervise { e with fl := { e.fl with own := x } } false false) from (if_neg hu2).trans (if_neg ho)]
      have hne : (e.fl.own != x) = true := by cases x <;> cases hh : e.fl.own <;> simp_all
      clear hs hu2 ho
      go_enter Tryz.func83, Tryz.ntmps83
      go_wp2_with fail
      refine (upC b mb fb (e) (Nat.le_trans hl (by omega)) T w0 _ HW.out).mono ?_
      rintro r w1 ⟨rfl, hw⟩
      clear c0 c1 c2 c3 c4 c5 c6 c7 c8 f0 f1 f2 f3 f4 f8
      obtain ⟨A, ca, ⟨c0, c1, c2, c3, c4, c5, c6, c7, c8⟩, f0, f1, f2, f3, f4, f8⟩ := entAt.cells hw
      have HW := Aside0.mk hw
      clear hw
      rw [hup]
      go_wp2_with fail
      refine (entAt.flow HW.out (fun T1 h1 => Fl.setOwnC fb e.fl x T1 _ h1)).mono ?_
      rintro r w2 ⟨rfl, hw⟩
      clear c0 c1 c2 c3 c4 c5 c6 c7 c8 f0 f1 f2 f3 f4 f8
      obtain ⟨A, ca, ⟨c0, c1, c2, c3, c4, c5, c6, c7, c8⟩, f0, f1, f2, f3, f4, f8⟩ := entAt.cells hw
      have HW := Aside0.mk hw
      clear hw
      rw [hne]
      go_wp2_with fail
      refine (superviseC b mb fb ({ e with fl := { e.fl with own := x } }) false false (Nat.le_trans hl (by omega)) T w0 _ HW.out).mono ?_
      rintro r w3 ⟨rfl, hw⟩
      clear c0 c1 c2 c3 c4 c5 c6 c7 c8 f0 f1 f2 f3 f4 f8
      obtain ⟨A, ca, ⟨c0, c1, c2, c3, c4, c5, c6, c7, c8⟩, f0, f1, f2, f3, f4, f8⟩ := entAt.cells hw
      have HW := Aside0.mk hw
      clear hw
      go_wp2
      go_ret
      exact ⟨rfl, HW.out⟩
  · have hup : up e = true := by unfold up; rw [hs]; decide
    have hu2 : ¬ up e = false := by rw [hup]; decide
    by_cases ho : e.fl.own = x
    · rw [show own e x = (0, e) from (if_neg hu2).trans (if_pos ho)]
      have hne : (e.fl.own != x) = false := by rw [ho]; cases x <;> rfl
      have HE : Aside0 (({ e with fl := { e.fl with own := x } } : E) = e) := ⟨by rw [← ho]⟩
      clear hs hu2 ho
      go_enter Tryz.func83, Tryz.ntmps83
      go_wp2_with fail
      refine (upC b mb fb (e) (Nat.le_trans hl (by omega)) T w0 _ HW.out).mono ?_
      rintro r w1 ⟨rfl, hw⟩
      clear c0 c1 c2 c3 c4 c5 c6 c7 c8 f0 f1 f2 f3 f4 f8
      obtain ⟨A, ca, ⟨c0, c1, c2, c3, c4, c5, c6, c7, c8⟩, f0, f1, f2, f3, f4, f8⟩ := entAt.cells hw
      have HW := Aside0.mk hw
      clear hw
      rw [hup]
      go_wp2_with fail
      refine (entAt.flow HW.out (fun T1 h1 => Fl.setOwnC fb e.fl x T1 _ h1)).mono ?_
      rintro r w2 ⟨rfl, hw⟩
      clear c0 c1 c2 c3 c4 c5 c6 c7 c8 f0 f1 f2 f3 f4 f8
      obtain ⟨A, ca, ⟨c0, c1, c2, c3, c4, c5, c6, c7, c8⟩, f0, f1, f2, f3, f4, f8⟩ := entAt.cells hw
      have HW := Aside0.mk hw
      clear hw
      rw [hne]
      have HW2 := HW.out
      rw [HE.out] at HW2
      clear HW
      have HW := Aside0.mk HW2
      clear HW2
      go_wp2
      go_ret
      exact ⟨rfl, HW.out⟩
    · rw [show own e x = (0, supervise { e with fl := { e.fl with own := x } } false false) from (if_neg hu2).trans (if_neg ho)]
      have hne : (e.fl.own != x) = true := by cases x <;> cases hh : e.fl.own <;> simp_all
      clear hs hu2 ho
      go_enter Tryz.func83, Tryz.ntmps83
      go_wp2_with fail
      refine (upC b mb fb (e) (Nat.le_trans hl (by omega)) T w0 _ HW.out).mono ?_
      rintro r w1 ⟨rfl, hw⟩
      clear c0 c1 c2 c3 c4 c5 c6 c7 c8 f0 f1 f2 f3 f4 f8
      obtain ⟨A, ca, ⟨c0, c1, c2, c3, c4, c5, c6, c7, c8⟩, f0, f1, f2, f3, f4, f8⟩ := entAt.cells hw
      have HW := Aside0.mk hw
      clear hw
      rw [hup]
      go_wp2_with fail
      refine (entAt.flow HW.out (fun T1 h1 => Fl.setOwnC fb e.fl x T1 _ h1)).mono ?_
      rintro r w2 ⟨rfl, hw⟩
      clear c0 c1 c2 c3 c4 c5 c6 c7 c8 f0 f1 f2 f3 f4 f8
      obtain ⟨A, ca, ⟨c0, c1, c2, c3, c4, c5, c6, c7, c8⟩, f0, f1, f2, f3, f4, f8⟩ := entAt.cells hw
      have HW := Aside0.mk hw
      clear hw
      rw [hne]
      go_wp2_with fail
      refine (superviseC b mb fb ({ e with fl := { e.fl with own := x } }) false false (Nat.le_trans hl (by omega)) T w0 _ HW.out).mono ?_
      rintro r w3 ⟨rfl, hw⟩
      clear c0 c1 c2 c3 c4 c5 c6 c7 c8 f0 f1 f2 f3 f4 f8
      obtain ⟨A, ca, ⟨c0, c1, c2, c3, c4, c5, c6, c7, c8⟩, f0, f1, f2, f3, f4, f8⟩ := entAt.cells hw
      have HW := Aside0.mk hw
      clear hw
      go_wp2
      go_ret
      exact ⟨rfl, HW.out⟩
theorem dataC (b mb fb : Nat) (e : E) (s : ByteArray) (hl : e.out.length ≤ 7000) (hsz : s.size ≤ 260) (T : Nat → Prop) (w0 w : World) (h : Went (entAt b mb fb e) T w0 w) :
    Calls Tryz.prog 82 #[.pointer (some ⟨b, 0, none⟩), .string s] w fun r w' => r = .returned (.int .i64 (data e s).1) ∧ Went (entAt b mb fb (data e s).2) T w0 w' := by
  have HOK := Aside0.mk (entAt.ok h)
  obtain ⟨A, ca, ⟨c0, c1, c2, c3, c4, c5, c6, c7, c8⟩, f0, f1, f2, f3, f4, f8⟩ := entAt.cells h
  have HW := Aside0.mk h
  clear h
  have hst : e.state = 4 ∨ e.state = 5 ∨ e.state = 6 ∨ e.state = 7 ∨ e.state = 8 := by have := HOK.out.1.state; omega
  rcases hst with hs | hs | hs | hs | hs
  · rw [show data e s = (12, e) from if_pos ⟨by unfold up; rw [hs]; decide, Or.inl (by omega)⟩]
    have HS := Aside0.mk hs
    have hup : up e = false := by unfold up; rw [hs]; decide
    rw [hs] at c1
    clear hs
    go_enter Tryz.func82, Tryz.ntmps82
    go_wp2_with fail
    refine (upC b mb fb (e) (Nat.le_trans hl (by omega)) T w0 _ HW.out).mono ?_
    rintro r w1 ⟨rfl, hw⟩
    clear c0 c1 c2 c3 c4 c5 c6 c7 c8 f0 f1 f2 f3 f4 f8
    obtain ⟨A, ca, ⟨c0, c1, c2, c3, c4, c5, c6, c7, c8⟩, f0, f1, f2, f3, f4, f8⟩ := entAt.cells hw
    have HW := Aside0.mk hw
    clear hw
    rw [hup]
    rw [HS.out] at c1
    go_wp2
    go_ret
    exact ⟨rfl, HW.out⟩
  · have hup : up e = false := by unfold up; rw [hs]; decide
    have HS := Aside0.mk hs
    cases ha : e.asked with
    | true =>
      rw [show data e s = (12, e) from if_pos ⟨hup, Or.inr ha⟩]
      rw [hs] at c1
      have HA := Aside0.mk ha
      clear hs ha
      go_enter Tryz.func82, Tryz.ntmps82
      go_wp2_with fail
      refine (upC b mb fb (e) (Nat.le_trans hl (by omega)) T w0 _ HW.out).mono ?_
      rintro r w1 ⟨rfl, hw⟩
      clear c0 c1 c2 c3 c4 c5 c6 c7 c8 f0 f1 f2 f3 f4 f8
      obtain ⟨A, ca, ⟨c0, c1, c2, c3, c4, c5, c6, c7, c8⟩, f0, f1, f2, f3, f4, f8⟩ := entAt.cells hw
      have HW := Aside0.mk hw
      clear hw
      rw [hup]
      rw [HS.out] at c1
      rw [HA.out] at c4
      go_wp2
      go_ret
      exact ⟨rfl, HW.out⟩
    | false =>
      have hd : ¬ (up e = false ∧ (e.state ≠ 5 ∨ e.asked = true)) := fun h => by rcases h.2 with h | h; exact h hs; rw [ha] at h; cases h
      have HA := Aside0.mk ha
      clear hs ha
      by_cases hp : canPush e.fl
      · rw [show data e s = (0, goOn { e with fl := pushF e.fl s }) from (if_neg hd).trans (if_pos hp)]
        have HP : Aside0 (∀ wz, Went (entAt b mb fb e) T w0 wz → Calls Tryz.prog 119 #[.pointer (some ⟨fb, 0, none⟩), .string s] wz fun r w2 => r = .returned (.int .i64 0) ∧ Went (entAt b mb fb { e with fl := pushF e.fl s }) T w0 w2) := ⟨fun wz hz => by
          have h0 := entAt.flow hz (fun T1 h1 => Fl.pushC fb e.fl s hsz T1 _ h1)
          rw [if_pos hp, if_pos hp] at h0
          exact h0⟩
        clear hp hd
        go_enter Tryz.func82, Tryz.ntmps82
        go_wp2_with fail
        refine (upC b mb fb (e) (Nat.le_trans hl (by omega)) T w0 _ HW.out).mono ?_
        rintro r w1 ⟨rfl, hw⟩
        clear c0 c1 c2 c3 c4 c5 c6 c7 c8 f0 f1 f2 f3 f4 f8
        obtain ⟨A, ca, ⟨c0, c1, c2, c3, c4, c5, c6, c7, c8⟩, f0, f1, f2, f3, f4, f8⟩ := entAt.cells hw
        have HW := Aside0.mk hw
        clear hw
        rw [hup]
        rw [HS.out] at c1
        rw [HA.out] at c4
        go_wp2_with fail
        refine (HP.out _ HW.out).mono ?_
        rintro r w2 ⟨rfl, hw⟩
        clear c0 c1 c2 c3 c4 c5 c6 c7 c8 f0 f1 f2 f3 f4 f8
        obtain ⟨A, ca, ⟨c0, c1, c2, c3, c4, c5, c6, c7, c8⟩, f0, f1, f2, f3, f4, f8⟩ := entAt.cells hw
        have HW := Aside0.mk hw
        clear hw
        go_wp2_with fail
        refine (goOnC b mb fb ({ e with fl := pushF e.fl s }) (Nat.le_trans hl (by omega)) T w0 _ HW.out).mono ?_
        rintro r w3 ⟨rfl, hw⟩
        clear c0 c1 c2 c3 c4 c5 c6 c7 c8 f0 f1 f2 f3 f4 f8
        obtain ⟨A, ca, ⟨c0, c1, c2, c3, c4, c5, c6, c7, c8⟩, f0, f1, f2, f3, f4, f8⟩ := entAt.cells hw
        have HW := Aside0.mk hw
        clear hw
        go_wp2
        go_ret
        exact ⟨rfl, HW.out⟩
      · rw [show data e s = (10, e) from (if_neg hd).trans (if_neg hp)]
        have HP : Aside0 (∀ wz, Went (entAt b mb fb e) T w0 wz → Calls Tryz.prog 119 #[.pointer (some ⟨fb, 0, none⟩), .string s] wz fun r w2 => r = .returned (.int .i64 10) ∧ Went (entAt b mb fb e) T w0 w2) := ⟨fun wz hz => by
          have h0 := entAt.flow hz (fun T1 h1 => Fl.pushC fb e.fl s hsz T1 _ h1)
          rw [if_neg hp, if_neg hp] at h0
          exact h0⟩
        clear hp hd
        go_enter Tryz.func82, Tryz.ntmps82
        go_wp2_with fail
        refine (upC b mb fb (e) (Nat.le_trans hl (by omega)) T w0 _ HW.out).mono ?_
        rintro r w1 ⟨rfl, hw⟩
        clear c0 c1 c2 c3 c4 c5 c6 c7 c8 f0 f1 f2 f3 f4 f8
        obtain ⟨A, ca, ⟨c0, c1, c2, c3, c4, c5, c6, c7, c8⟩, f0, f1, f2, f3, f4, f8⟩ := entAt.cells hw
        have HW := Aside0.mk hw
        clear hw
        rw [hup]
        rw [HS.out] at c1
        rw [HA.out] at c4
        go_wp2_with fail
        refine (HP.out _ HW.out).mono ?_
        rintro r w2 ⟨rfl, hw⟩
        clear c0 c1 c2 c3 c4 c5 c6 c7 c8 f0 f1 f2 f3 f4 f8
        obtain ⟨A, ca, ⟨c0, c1, c2, c3, c4, c5, c6, c7, c8⟩, f0, f1, f2, f3, f4, f8⟩ := entAt.cells hw
        have HW := Aside0.mk hw
        clear hw
        go_wp2
        go_ret
        exact ⟨rfl, HW.out⟩
  · rw [show data e s = (12, e) from if_pos ⟨by unfold up; rw [hs]; decide, Or.inl (by omega)⟩]
    have HS := Aside0.mk hs
    have hup : up e = false := by unfold up; rw [hs]; decide
    rw [hs] at c1
    clear hs
    go_enter Tryz.func82, Tryz.ntmps82
    go_wp2_with fail
    refine (upC b mb fb (e) (Nat.le_trans hl (by omega)) T w0 _ HW.out).mono ?_
    rintro r w1 ⟨rfl, hw⟩
    clear c0 c1 c2 c3 c4 c5 c6 c7 c8 f0 f1 f2 f3 f4 f8
    obtain ⟨A, ca, ⟨c0, c1, c2, c3, c4, c5, c6, c7, c8⟩, f0, f1, f2, f3, f4, f8⟩ := entAt.cells hw
    have HW := Aside0.mk hw
    clear hw
    rw [hup]
    rw [HS.out] at c1
    go_wp2
    go_ret
    exact ⟨rfl, HW.out⟩
  · have hup : up e = true := by unfold up; rw [hs]; decide
    have hd : ¬ (up e = false ∧ (e.state ≠ 5 ∨ e.asked = true)) := fun h => by rw [hup] at h; cases h.1
    clear hs
    by_cases hp : canPush e.fl
    · rw [show data e s = (0, goOn { e with fl := pushF e.fl s }) from (if_neg hd).trans (if_pos hp)]
      have HP : Aside0 (∀ wz, Went (entAt b mb fb e) T w0 wz → Calls Tryz.prog 119 #[.pointer (some ⟨fb, 0, none⟩), .string s] wz fun r w2 => r = .returned (.int .i64 0) ∧ Went (entAt b mb fb { e with fl := pushF e.fl s }) T w0 w2) := ⟨fun wz hz => by
        have h0 := entAt.flow hz (fun T1 h1 => Fl.pushC fb e.fl s hsz T1 _ h1)
        rw [if_pos hp, if_pos hp] at h0
        exact h0⟩
      clear hp hd
      go_enter Tryz.func82, Tryz.ntmps82
      go_wp2_with fail
      refine (upC b mb fb (e) (Nat.le_trans hl (by omega)) T w0 _ HW.out).mono ?_
      rintro r w1 ⟨rfl, hw⟩
      clear c0 c1 c2 c3 c4 c5 c6 c7 c8 f0 f1 f2 f3 f4 f8
      obtain ⟨A, ca, ⟨c0, c1, c2, c3, c4, c5, c6, c7, c8⟩, f0, f1, f2, f3, f4, f8⟩ := entAt.cells hw
      have HW := Aside0.mk hw
      clear hw
      rw [hup]
      go_wp2_with fail
      refine (HP.out _ HW.out).mono ?_
      rintro r w2 ⟨rfl, hw⟩
      clear c0 c1 c2 c3 c4 c5 c6 c7 c8 f0 f1 f2 f3 f4 f8
      obtain ⟨A, ca, ⟨c0, c1, c2, c3, c4, c5, c6, c7, c8⟩, f0, f1, f2, f3, f4, f8⟩ := entAt.cells hw
      have HW := Aside0.mk hw
      clear hw
      go_wp2_with fail
      refine (goOnC b mb fb ({ e with fl := pushF e.fl s }) (Nat.le_trans hl (by omega)) T w0 _ HW.out).mono ?_
      rintro r w3 ⟨rfl, hw⟩
      clear c0 c1 c2 c3 c4 c5 c6 c7 c8 f0 f1 f2 f3 f4 f8
      obtain ⟨A, ca, ⟨c0, c1, c2, c3, c4, c5, c6, c7, c8⟩, f0, f1, f2, f3, f4, f8⟩ := entAt.cells hw
      have HW := Aside0.mk hw
      clear hw
      go_wp2
      go_ret
      exact ⟨rfl, HW.out⟩
    · rw [show data e s = (10, e) from (if_neg hd).trans (if_neg hp)]
      have HP : Aside0 (∀ wz, Went (entAt b mb fb e) T w0 wz → Calls Tryz.prog 119 #[.pointer (some ⟨fb, 0, none⟩), .string s] wz fun r w2 => r = .returned (.int .i64 10) ∧ Went (entAt b mb fb e) T w0 w2) := ⟨fun wz hz => by
        have h0 := entAt.flow hz (fun T1 h1 => Fl.pushC fb e.fl s hsz T1 _ h1)
        rw [if_neg hp, if_neg hp] at h0
        exact h0⟩
      clear hp hd
      go_enter Tryz.func82, Tryz.ntmps82
      go_wp2_with fail
      refine (upC b mb fb (e) (Nat.le_trans hl (by omega)) T w0 _ HW.out).mono ?_
      rintro r w1 ⟨rfl, hw⟩
      clear c0 c1 c2 c3 c4 c5 c6 c7 c8 f0 f1 f2 f3 f4 f8
      obtain ⟨A, ca, ⟨c0, c1, c2, c3, c4, c5, c6, c7, c8⟩, f0, f1, f2, f3, f4, f8⟩ := entAt.cells hw
      have HW := Aside0.mk hw
      clear hw
      rw [hup]
      go_wp2_with fail
      refine (HP.out _ HW.out).mono ?_
      rintro r w2 ⟨rfl, hw⟩
      clear c0 c1 c2 c3 c4 c5 c6 c7 c8 f0 f1 f2 f3 f4 f8
      obtain ⟨A, ca, ⟨c0, c1, c2, c3, c4, c5, c6, c7, c8⟩, f0, f1, f2, f3, f4, f8⟩ := entAt.cells hw
      have HW := Aside0.mk hw
      clear hw
      go_wp2
      go_ret
      exact ⟨rfl, HW.out⟩
  · have hup : up e = true := by unfold up; rw [hs]; decide
    have hd : ¬ (up e = false ∧ (e.state ≠ 5 ∨ e.asked = true)) := fun h => by rw [hup] at h; cases h.1
    clear hs
    by_cases hp : canPush e.fl
    · rw [show data e s = (0, goOn { e with fl := pushF e.fl s }) from (if_neg hd).trans (if_pos hp)]
      have HP : Aside0 (∀ wz, Went (entAt b mb fb e) T w0 wz → Calls Tryz.prog 119 #[.pointer (some ⟨fb, 0, none⟩), .string s] wz fun r w2 => r = .returned (.int .i64 0) ∧ Went (entAt b mb fb { e with fl := pushF e.fl s }) T w0 w2) := ⟨fun wz hz => by
        have h0 := entAt.flow hz (fun T1 h1 => Fl.pushC fb e.fl s hsz T1 _ h1)
        rw [if_pos hp, if_pos hp] at h0
        exact h0⟩
      clear hp hd
      go_enter Tryz.func82, Tryz.ntmps82
      go_wp2_with fail
      refine (upC b mb fb (e) (Nat.le_trans hl (by omega)) T w0 _ HW.out).mono ?_
      rintro r w1 ⟨rfl, hw⟩
      clear c0 c1 c2 c3 c4 c5 c6 c7 c8 f0 f1 f2 f3 f4 f8
      obtain ⟨A, ca, ⟨c0, c1, c2, c3, c4, c5, c6, c7, c8⟩, f0, f1, f2, f3, f4, f8⟩ := entAt.cells hw
      have HW := Aside0.mk hw
      clear hw
      rw [hup]
      go_wp2_with fail
      refine (HP.out _ HW.out).mono ?_
      rintro r w2 ⟨rfl, hw⟩
      clear c0 c1 c2 c3 c4 c5 c6 c7 c8 f0 f1 f2 f3 f4 f8
      obtain ⟨A, ca, ⟨c0, c1, c2, c3, c4, c5, c6, c7, c8⟩, f0, f1, f2, f3, f4, f8⟩ := entAt.cells hw
      have HW := Aside0.mk hw
      clear hw
      go_wp2_with fail
      refine (goOnC b mb fb ({ e with fl := pushF e.fl s }) (Nat.le_trans hl (by omega)) T w0 _ HW.out).mono ?_
      rintro r w3 ⟨rfl, hw⟩
      clear c0 c1 c2 c3 c4 c5 c6 c7 c8 f0 f1 f2 f3 f4 f8
      obtain ⟨A, ca, ⟨c0, c1, c2, c3, c4, c5, c6, c7, c8⟩, f0, f1, f2, f3, f4, f8⟩ := entAt.cells hw
      have HW := Aside0.mk hw
      clear hw
      go_wp2
      go_ret
      exact ⟨rfl, HW.out⟩
    · rw [show data e s = (10, e) from (if_neg hd).trans (if_neg hp)]
      have HP : Aside0 (∀ wz, Went (entAt b mb fb e) T w0 wz → Calls Tryz.prog 119 #[.pointer (some ⟨fb, 0, none⟩), .string s] wz fun r w2 => r = .returned (.int .i64 10) ∧ Went (entAt b mb fb e) T w0 w2) := ⟨fun wz hz => by
        have h0 := entAt.flow hz (fun T1 h1 => Fl.pushC fb e.fl s hsz T1 _ h1)
        rw [if_neg hp, if_neg hp] at h0
        exact h0⟩
      clear hp hd
      go_enter Tryz.func82, Tryz.ntmps82
      go_wp2_with fail
      refine (upC b mb fb (e) (Nat.le_trans hl (by omega)) T w0 _ HW.out).mono ?_
      rintro r w1 ⟨rfl, hw⟩
      clear c0 c1 c2 c3 c4 c5 c6 c7 c8 f0 f1 f2 f3 f4 f8
      obtain ⟨A, ca, ⟨c0, c1, c2, c3, c4, c5, c6, c7, c8⟩, f0, f1, f2, f3, f4, f8⟩ := entAt.cells hw
      have HW := Aside0.mk hw
      clear hw
      rw [hup]
      go_wp2_with fail
      refine (HP.out _ HW.out).mono ?_
      rintro r w2 ⟨rfl, hw⟩
      clear c0 c1 c2 c3 c4 c5 c6 c7 c8 f0 f1 f2 f3 f4 f8
      obtain ⟨A, ca, ⟨c0, c1, c2, c3, c4, c5, c6, c7, c8⟩, f0, f1, f2, f3, f4, f8⟩ := entAt.cells hw
      have HW := Aside0.mk hw
      clear hw
      go_wp2
      go_ret
      exact ⟨rfl, HW.out⟩
end Go.Proofs.YtljnfbpplhnmfaaGreatDoor.En
