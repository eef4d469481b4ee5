/- Package entity by its own text: goOn. Conditions: sizes. Package entity by its own text: open, unsure, strange, reply, up. Conditions: sizes. -/
import Derived.Deep.LoopGhost
import Derived.Test.YtljnfbpplhnmfaaGreatDoorUs04
namespace Go.Proofs.YtljnfbpplhnmfaaGreatDoor.En
open Go Go.RowKit Go.Proofs.YtljnfbpplhnmfaaGreatDoorW.PrintWords Go.Proofs.YtljnfbpplhnmfaaGreatDoorW.PrintLast Go.Proofs.YtljnfbpplhnmfaaGreatDoorW.PrintMore Go.Proofs.YtljnfbpplhnmfaaGreatDoor.Str Go.Proofs.YtljnfbpplhnmfaaGreatDoor.Mp Go.Proofs.YtljnfbpplhnmfaaGreatDoor.Ra Go.Proofs.YtljnfbpplhnmfaaGreatDoor.Sl Go.Proofs.YtljnfbpplhnmfaaGreatDoor.Qu Go.Proofs.YtljnfbpplhnmfaaGreatDoor.Sq Go.Proofs.YtljnfbpplhnmfaaGreatDoor.Fl Go.Proofs.YtljnfbpplhnmfaaGreatDoor.Ru Go.Proofs.YtljnfbpplhnmfaaGreatDoor.Md
set_option linter.unusedVariables false
set_option linter.unusedSimpArgs false
set_option maxRecDepth 1000000
set_option maxHeartbeats 4000000
theorem goOnC (b mb fb : Nat) (e : E) (hl : e.out.length ≤ 8000) (T : Nat → Prop) (w0 w : World) (h : Went (entAt b mb fb e) T w0 w) :
    Calls Tryz.prog 120 #[.pointer (some ⟨b, 0, none⟩)] w fun r w' => r = .returned (.tuple #[]) ∧ Went (entAt b mb fb (goOn e)) T w0 w' := by
  obtain ⟨hok, hfk, hqk⟩ := entAt.ok h
  have hq := hqk.len
  obtain ⟨A, ca, ⟨c0, c1, c2, c3, c4, c5, c6, c7, c8⟩, f0, f1, f2, f3, f4, f8⟩ := entAt.cells h
  have HW := Aside0.mk h
  by_cases hs : e.state = 7
  · rw [goOn_open hs]
    obtain ⟨n0, hn0⟩ : ∃ n0, left e = n0 := ⟨_, rfl⟩
    obtain ⟨en, hen⟩ : ∃ en, goOnN n0 e = en := ⟨_, rfl⟩
    have HR : Aside0 (left e = n0 ∧ goOnN n0 e = en ∧ e.state = 7 ∧ e.out.length + 3 * n0 ≤ 8990 ∧ Went (entAt b mb fb e) T w0 w) := ⟨hn0, hen, hs, by rw [← hn0]; unfold left; omega, h⟩
    rw [hn0, hen]
    clear h hs hok hfk hqk hq HW hen hl hn0
    clear c0 c1 c2 c3 c4 c5 c6 c7 c8 f0 f1 f2 f3 f4 f8
    go_enter Tryz.func120, Tryz.ntmps120
    go_wp2_with fail
    go_loopg [] n0 (fun k wr => ∃ e1, Aside0 (left e1 = k ∧ goOnN k e1 = en ∧ e1.state = 7 ∧ e1.out.length + 3 * k ≤ 8990 ∧ Went (entAt b mb fb e1) T w0 wr))
    case atStart => exact ⟨e, HR⟩
    case round =>
      clear HR
      obtain ⟨e1, HR⟩ := hrel
      have hs := HR.out.2.2.1
      obtain ⟨A, ca, ⟨c0, c1, c2, c3, c4, c5, c6, c7, c8⟩, f0, f1, f2, f3, f4, f8⟩ := entAt.cells HR.out.2.2.2.2
      rw [hs] at c1
      by_cases ht : takeOk e1.fl
      · have hk := left_pos ht
        rw [HR.out.1] at hk
        obtain ⟨k, rfl⟩ : ∃ k, gk = k + 1 := ⟨gk - 1, by omega⟩
        have hc := entAt.flow (P := Tryz.prog) HR.out.2.2.2.2 (fun T1 h1 => Fl.takeC fb e1.fl T1 _ h1)
        rw [if_pos ht, if_pos ht] at hc
        have HC := Aside0.mk hc
        clear hc hs hk
        go_wp2_with fail
        refine HC.out.mono ?_
        rintro r w1 ⟨rfl, hw⟩
        clear c0 c1 c2 c3 c4 c5 c6 c7 c8 f0 f1 f2 f3 f4 f8
        obtain ⟨A, ca, ⟨c0, c1, c2, c3, c4, c5, c6, c7, c8⟩, f0, f1, f2, f3, f4, f8⟩ := entAt.cells hw
        have HW := Aside0.mk hw
        clear hw HC
        go_wp2_with fail
        refine (sendDataC b mb fb { e1 with fl := takeF e1.fl } 0 true false e1.fl.vs (takeS e1.fl) (by show e1.out.length ≤ 9000; have := HR.out.2.2.2.1; omega) T w0 _ HW.out).mono ?_
        rintro r w2 ⟨rfl, hw⟩
        clear c0 c1 c2 c3 c4 c5 c6 c7 c8 f0 f1 f2 f3 f4 f8
        obtain ⟨A, ca, ⟨c0, c1, c2, c3, c4, c5, c6, c7, c8⟩, f0, f1, f2, f3, f4, f8⟩ := entAt.cells hw
        have hlk := (entAt.look hw).1
        have HW := Aside0.mk hw
        clear hw
        have HG : Aside0 (goOnN k (goOne e1) = en ∧ left (goOne e1) = k ∧ (goOne e1).state = 7 ∧ (goOne e1).out.length + 3 * k ≤ 8990) := ⟨by rw [← goOnN_go ht]; exact HR.out.2.1, by rw [left_goOne, HR.out.1]; rfl, by rw [goOne_state]; exact HR.out.2.2.1, by have h1 := len_goOne (Nat.le_refl e1.out.length); have := HR.out.2.2.2.1; omega⟩
        have hln : (goOne1 e1).out.length ≤ 8990 := by have h1 : (goOne1 e1).out.length ≤ e1.out.length + 1 := len_sendData (e := { e1 with fl := takeF e1.fl }) (Nat.le_refl _); have := HR.out.2.2.2.1; omega
        have HLN := Aside0.mk hln
        clear hln
        cases hr2 : (goOne1 e1).r200 with
        | true =>
          have hlk2 : (Instr.lookup 63 (.map (some mb)) (.int .i64 200) false).run Tryz.prog w2 = .ok (.bool true) w2 := hr2 ▸ hlk
          have HE : Aside0 (goOne e1 = goOne1 e1) := ⟨if_pos hr2⟩
          clear hlk hr2 ht
          go_wp2_with fail
          go_roundg k
          case measure => omega
          case rel => exact ⟨goOne e1, ⟨HG.out.2.1, HG.out.1, HG.out.2.2.1, HG.out.2.2.2, by rw [HE.out]; exact HW.out⟩⟩
        | false =>
          have hlk2 : (Instr.lookup 63 (.map (some mb)) (.int .i64 200) false).run Tryz.prog w2 = .ok (.bool false) w2 := hr2 ▸ hlk
          have HE : Aside0 (goOne e1 = start200 (stop203 (goOne1 e1))) := ⟨if_neg (by rw [hr2]; decide)⟩
          clear hlk hr2 ht
          go_wp2_with fail
          refine (stop203C b mb fb (goOne1 e1) (Nat.le_trans HLN.out (by omega)) T w0 _ HW.out).mono ?_
          rintro r w3 ⟨rfl, hw⟩
          have HW3 := Aside0.mk hw
          clear hw hlk2
          go_wp2_with fail
          refine (start200C b mb fb (stop203 (goOne1 e1)) (Nat.le_trans (len_stop203 HLN.out) (by omega)) T w0 _ HW3.out).mono ?_
          rintro r w4 ⟨rfl, hw⟩
          have HW4 := Aside0.mk hw
          clear hw
          go_wp2_with fail
          go_roundg k
          case measure => omega
          case rel => exact ⟨goOne e1, ⟨HG.out.2.1, HG.out.1, HG.out.2.2.1, HG.out.2.2.2, by rw [HE.out]; exact HW4.out⟩⟩
      · have hc := entAt.flow (P := Tryz.prog) HR.out.2.2.2.2 (fun T1 h1 => Fl.takeC fb e1.fl T1 _ h1)
        rw [if_neg ht, if_neg ht] at hc
        have HC := Aside0.mk hc
        have HE : Aside0 (en = e1) := ⟨by rw [← HR.out.2.1]; exact goOnN_stop ht gk⟩
        clear hc hs ht
        go_wp2_with fail
        refine HC.out.mono ?_
        rintro r w1 ⟨rfl, hw⟩
        have HW := Aside0.mk hw
        clear hw HC
        go_wp2
        refine bodyPost_ret (results_none rfl _ _ _) rfl ?_
        refine ⟨rfl, ?_⟩
        rw [HE.out]
        exact HW.out
  · rw [goOn_shut hs]
    have hb : (e.state == 7) = false := by rw [beq_eq_false_iff_ne]; exact hs
    clear h hs hok hfk hqk hq
    go_enter Tryz.func120, Tryz.ntmps120
    go_wp2_with fail
    go_loopg [] 0 (fun k wr => wr = w)
    case atStart => rfl
    case round =>
      subst hrel
      go_wp2
      go_end0
      exact ⟨rfl, HW.out⟩
end Go.Proofs.YtljnfbpplhnmfaaGreatDoor.En
namespace Go.Proofs.YtljnfbpplhnmfaaGreatDoor.En
open Go Go.RowKit Go.Proofs.YtljnfbpplhnmfaaGreatDoorW.PrintWords Go.Proofs.YtljnfbpplhnmfaaGreatDoorW.PrintLast Go.Proofs.YtljnfbpplhnmfaaGreatDoorW.PrintMore Go.Proofs.YtljnfbpplhnmfaaGreatDoor.Str Go.Proofs.YtljnfbpplhnmfaaGreatDoor.Mp Go.Proofs.YtljnfbpplhnmfaaGreatDoor.Ra Go.Proofs.YtljnfbpplhnmfaaGreatDoor.Sl Go.Proofs.YtljnfbpplhnmfaaGreatDoor.Qu Go.Proofs.YtljnfbpplhnmfaaGreatDoor.Sq Go.Proofs.YtljnfbpplhnmfaaGreatDoor.Fl Go.Proofs.YtljnfbpplhnmfaaGreatDoor.Ru Go.Proofs.YtljnfbpplhnmfaaGreatDoor.Md
set_option linter.unusedVariables false
set_option linter.unusedSimpArgs false
set_option maxRecDepth 1000000
set_option maxHeartbeats 4000000
theorem openC (b mb fb : Nat) (e : E) (hl : e.out.length ≤ 7900) (T : Nat → Prop) (w0 w : World) (h : Went (entAt b mb fb e) T w0 w) :
    Calls Tryz.prog 127 #[.pointer (some ⟨b, 0, none⟩)] w fun r w' => r = .returned (.tuple #[]) ∧ Went (entAt b mb fb (open_ e)) T w0 w' := by
  have HOK := Aside0.mk (entAt.ok h)
  obtain ⟨A, ca, ⟨c0, c1, c2, c3, c4, c5, c6, c7, c8⟩, f0, f1, f2, f3, f4, f8⟩ := entAt.cells h
  have HW := Aside0.mk h
  clear h
  go_enter Tryz.func127, Tryz.ntmps127
  go_wp2_with fail
  refine (entAt.flow HW.out (fun T1 h1 => Fl.resetC fb e.fl T1 _ h1)).mono ?_
  rintro r w1 ⟨rfl, hw⟩
  clear c0 c1 c2 c3 c4 c5 c6 c7 c8 f0 f1 f2 f3 f4 f8
  obtain ⟨A, ca, ⟨c0, c1, c2, c3, c4, c5, c6, c7, c8⟩, f0, f1, f2, f3, f4, f8⟩ := entAt.cells hw
  have HW := Aside0.mk hw
  clear hw
  go_wp2_with fail
  refine (stop200C b mb fb ({ e with fl := resetF e.fl })  (Nat.le_trans hl (by omega)) T w0 _ HW.out).mono ?_
  rintro r w2 ⟨rfl, hw⟩
  clear c0 c1 c2 c3 c4 c5 c6 c7 c8 f0 f1 f2 f3 f4 f8
  obtain ⟨A, ca, ⟨c0, c1, c2, c3, c4, c5, c6, c7, c8⟩, f0, f1, f2, f3, f4, f8⟩ := entAt.cells hw
  have HW := Aside0.mk hw
  clear hw
  go_wp2_with fail
  refine (start203C b mb fb (stop200 ({ e with fl := resetF e.fl }))  (Nat.le_trans (len_stop200 (hl)) (by omega)) T w0 _ HW.out).mono ?_
  rintro r w3 ⟨rfl, hw⟩
  clear c0 c1 c2 c3 c4 c5 c6 c7 c8 f0 f1 f2 f3 f4 f8
  obtain ⟨A, ca, ⟨c0, c1, c2, c3, c4, c5, c6, c7, c8⟩, f0, f1, f2, f3, f4, f8⟩ := entAt.cells hw
  have HW := Aside0.mk hw
  clear hw
  go_wp2_with fail
  refine (goOnC b mb fb ({ start203 (stop200 ({ e with fl := resetF e.fl })) with state := 7 }) (Nat.le_trans (len_start203 (len_stop200 (hl))) (by omega)) T w0 _ (entAt.setState HW.out 7 (by decide))).mono ?_
  rintro r w4 ⟨rfl, hw⟩
  clear c0 c1 c2 c3 c4 c5 c6 c7 c8 f0 f1 f2 f3 f4 f8
  obtain ⟨A, ca, ⟨c0, c1, c2, c3, c4, c5, c6, c7, c8⟩, f0, f1, f2, f3, f4, f8⟩ := entAt.cells hw
  have HW := Aside0.mk hw
  clear hw
  go_wp2
  go_end0
  exact ⟨rfl, HW.out⟩
theorem fldSent (a0 a1 a2 a3 a4 a5 a6 a7 : Value) (w : World) : Sem.run Tryz.prog (Instr.field 47 (Value.agg #[a0, a1, a2, a3, a4, a5, a6, a7]) 6) w = Result.ok a6 w := by kernel_rfl
attribute [local go_sem high] fldSent
theorem unsureC (b mb fb : Nat) (e : E) (hl : e.out.length ≤ 9000) (T : Nat → Prop) (w0 w : World) (h : Went (entAt b mb fb e) T w0 w) :
    Calls Tryz.prog 129 #[.pointer (some ⟨b, 0, none⟩)] w fun r w' => r = .returned (.tuple #[]) ∧ Went (entAt b mb fb (unsure e)) T w0 w' := by
  have HOK := Aside0.mk (entAt.ok h)
  obtain ⟨A, ca, ⟨c0, c1, c2, c3, c4, c5, c6, c7, c8⟩, f0, f1, f2, f3, f4, f8⟩ := entAt.cells h
  have HW := Aside0.mk h
  clear h
  by_cases hs : e.fl.q.sent = 0
  · have hb0 : ((e.fl.q.sent : Int) == 0) = true := by rw [beq_iff_eq]; omega
    rw [show unsure e = e from if_neg (fun h => h hs)]
    obtain ⟨T1, hf⟩ := entAt.flowGet HW.out
    have HV := Aside0.mk (viewC fb (e).fl T1 _ hf)
    clear hf
    clear hs
    go_enter Tryz.func129, Tryz.ntmps129
    go_wp2_with fail
    refine HV.out.mono ?_
    rintro r w1 ⟨rfl, hb⟩
    have hw := HW.out.below hb
    clear c0 c1 c2 c3 c4 c5 c6 c7 c8 f0 f1 f2 f3 f4 f8
    obtain ⟨A, ca, ⟨c0, c1, c2, c3, c4, c5, c6, c7, c8⟩, f0, f1, f2, f3, f4, f8⟩ := entAt.cells hw
    have HW := Aside0.mk hw
    clear hw hb HV
    go_wp2
    go_end0
    exact ⟨rfl, HW.out⟩
  · have hb0 : ((e.fl.q.sent : Int) == 0) = false := by rw [beq_eq_false_iff_ne]; omega
    rw [show unsure e = told { e with fl := clearF e.fl } 1 nil8 from if_pos hs]
    obtain ⟨T1, hf⟩ := entAt.flowGet HW.out
    have HV := Aside0.mk (viewC fb (e).fl T1 _ hf)
    clear hf
    clear hs
    go_enter Tryz.func129, Tryz.ntmps129
    go_wp2_with fail
    refine HV.out.mono ?_
    rintro r w1 ⟨rfl, hb⟩
    have hw := HW.out.below hb
    clear c0 c1 c2 c3 c4 c5 c6 c7 c8 f0 f1 f2 f3 f4 f8
    obtain ⟨A, ca, ⟨c0, c1, c2, c3, c4, c5, c6, c7, c8⟩, f0, f1, f2, f3, f4, f8⟩ := entAt.cells hw
    have HW := Aside0.mk hw
    clear hw hb HV
    go_wp2_with fail
    refine (entAt.flow HW.out (fun T1 h1 => Fl.clearC fb e.fl T1 _ h1)).mono ?_
    rintro r w2 ⟨rfl, hw⟩
    clear c0 c1 c2 c3 c4 c5 c6 c7 c8 f0 f1 f2 f3 f4 f8
    obtain ⟨A, ca, ⟨c0, c1, c2, c3, c4, c5, c6, c7, c8⟩, f0, f1, f2, f3, f4, f8⟩ := entAt.cells hw
    have HW := Aside0.mk hw
    clear hw
    go_wp2_with fail
    refine (toldC b mb fb ({ e with fl := clearF e.fl }) 1 nil8 (Nat.le_trans hl (by omega)) T w0 _ HW.out).mono ?_
    rintro r w3 ⟨rfl, hw⟩
    clear c0 c1 c2 c3 c4 c5 c6 c7 c8 f0 f1 f2 f3 f4 f8
    obtain ⟨A, ca, ⟨c0, c1, c2, c3, c4, c5, c6, c7, c8⟩, f0, f1, f2, f3, f4, f8⟩ := entAt.cells hw
    have HW := Aside0.mk hw
    clear hw
    go_wp2
    go_end0
    exact ⟨rfl, HW.out⟩
theorem strangeC (b mb fb : Nat) (e : E) (f : Fr) (hl : e.out.length ≤ 9000) (T : Nat → Prop) (w0 w : World) (h : Went (entAt b mb fb e) T w0 w) :
    Calls Tryz.prog 128 #[.pointer (some ⟨b, 0, none⟩), .agg (frCells f)] w fun r w' => r = .returned (.tuple #[]) ∧ Went (entAt b mb fb (strange e f)) T w0 w' := by
  have HOK := Aside0.mk (entAt.ok h)
  obtain ⟨A, ca, ⟨c0, c1, c2, c3, c4, c5, c6, c7, c8⟩, f0, f1, f2, f3, f4, f8⟩ := entAt.cells h
  have HW := Aside0.mk h
  clear h
  obtain ⟨t, c, k, p, ns, nr, s⟩ := f
  cases p with
  | true =>
    unfold frCells
    have hbx := heap_alloc_new w (.cells #[.int .i64 0, .int .i64 t, .bool c, .int .i64 k, .bool true, .int .i64 ns, .int .i64 nr, .string s] 144 (0, 0))
    have hw := HW.out.alloc (.cells #[.int .i64 0, .int .i64 t, .bool c, .int .i64 k, .bool true, .int .i64 ns, .int .i64 nr, .string s] 144 (0, 0))
    clear c0 c1 c2 c3 c4 c5 c6 c7 c8 f0 f1 f2 f3 f4 f8
    obtain ⟨A, ca, ⟨c0, c1, c2, c3, c4, c5, c6, c7, c8⟩, f0, f1, f2, f3, f4, f8⟩ := entAt.cells hw
    obtain ⟨⟨b0, b1, b2, b3, b4, b5, b6, b7⟩, _⟩ := cells8 hbx
    have HW := Aside0.mk hw
    clear hbx hw
    rw [show strange e ⟨t, c, k, true, ns, nr, s⟩ = told e 7 ⟨#[67]⟩ from rfl]
    go_enter Tryz.func128, Tryz.ntmps128
    go_wp2_with fail
    refine (toldC b mb fb (e) 7 ⟨#[67]⟩ (Nat.le_trans hl (by omega)) T w0 _ HW.out).mono ?_
    rintro r w1 ⟨rfl, hw⟩
    clear c0 c1 c2 c3 c4 c5 c6 c7 c8 f0 f1 f2 f3 f4 f8
    obtain ⟨A, ca, ⟨c0, c1, c2, c3, c4, c5, c6, c7, c8⟩, f0, f1, f2, f3, f4, f8⟩ := entAt.cells hw
    have HW := Aside0.mk hw
    clear hw
    go_wp2
    go_end0
    exact ⟨rfl, HW.out⟩
  | false =>
    unfold frCells
    have hbx := heap_alloc_new w (.cells #[.int .i64 0, .int .i64 t, .bool c, .int .i64 k, .bool false, .int .i64 ns, .int .i64 nr, .string s] 144 (0, 0))
    have hw := HW.out.alloc (.cells #[.int .i64 0, .int .i64 t, .bool c, .int .i64 k, .bool false, .int .i64 ns, .int .i64 nr, .string s] 144 (0, 0))
    clear c0 c1 c2 c3 c4 c5 c6 c7 c8 f0 f1 f2 f3 f4 f8
    obtain ⟨A, ca, ⟨c0, c1, c2, c3, c4, c5, c6, c7, c8⟩, f0, f1, f2, f3, f4, f8⟩ := entAt.cells hw
    obtain ⟨⟨b0, b1, b2, b3, b4, b5, b6, b7⟩, _⟩ := cells8 hbx
    have HW := Aside0.mk hw
    clear hbx hw
    rw [show strange e ⟨t, c, k, false, ns, nr, s⟩ = told e 7 ⟨#[68]⟩ from rfl]
    go_enter Tryz.func128, Tryz.ntmps128
    go_wp2_with fail
    refine (toldC b mb fb (e) 7 ⟨#[68]⟩ (Nat.le_trans hl (by omega)) T w0 _ HW.out).mono ?_
    rintro r w1 ⟨rfl, hw⟩
    clear c0 c1 c2 c3 c4 c5 c6 c7 c8 f0 f1 f2 f3 f4 f8
    obtain ⟨A, ca, ⟨c0, c1, c2, c3, c4, c5, c6, c7, c8⟩, f0, f1, f2, f3, f4, f8⟩ := entAt.cells hw
    have HW := Aside0.mk hw
    clear hw
    go_wp2
    go_end0
    exact ⟨rfl, HW.out⟩
theorem replyC (b mb fb : Nat) (e : E) (k2 : Int) (f : Fr) (hl : e.out.length ≤ 9000) (T : Nat → Prop) (w0 w : World) (h : Went (entAt b mb fb e) T w0 w) :
    Calls Tryz.prog 126 #[.pointer (some ⟨b, 0, none⟩), .int .i64 k2, .agg (frCells f)] w fun r w' => r = .returned (.tuple #[]) ∧ Went (entAt b mb fb (send e k2 false f.pf)) T w0 w' := by
  have HOK := Aside0.mk (entAt.ok h)
  obtain ⟨A, ca, ⟨c0, c1, c2, c3, c4, c5, c6, c7, c8⟩, f0, f1, f2, f3, f4, f8⟩ := entAt.cells h
  have HW := Aside0.mk h
  clear h
  obtain ⟨t, c, k, p, ns, nr, s⟩ := f
  unfold frCells
  have hbx := heap_alloc_new w (.cells #[.int .i64 0, .int .i64 t, .bool c, .int .i64 k, .bool p, .int .i64 ns, .int .i64 nr, .string s] 144 (0, 0))
  have hw := HW.out.alloc (.cells #[.int .i64 0, .int .i64 t, .bool c, .int .i64 k, .bool p, .int .i64 ns, .int .i64 nr, .string s] 144 (0, 0))
  clear c0 c1 c2 c3 c4 c5 c6 c7 c8 f0 f1 f2 f3 f4 f8
  obtain ⟨A, ca, ⟨c0, c1, c2, c3, c4, c5, c6, c7, c8⟩, f0, f1, f2, f3, f4, f8⟩ := entAt.cells hw
  obtain ⟨⟨b0, b1, b2, b3, b4, b5, b6, b7⟩, _⟩ := cells8 hbx
  have HW := Aside0.mk hw
  clear hbx hw
  go_enter Tryz.func126, Tryz.ntmps126
  go_wp2_with fail
  refine (sendC b mb fb (e) k2 false p (Nat.le_trans hl (by omega)) T w0 _ HW.out).mono ?_
  rintro r w1 ⟨rfl, hw⟩
  clear c0 c1 c2 c3 c4 c5 c6 c7 c8 f0 f1 f2 f3 f4 f8
  obtain ⟨A, ca, ⟨c0, c1, c2, c3, c4, c5, c6, c7, c8⟩, f0, f1, f2, f3, f4, f8⟩ := entAt.cells hw
  have HW := Aside0.mk hw
  clear hw
  go_wp2
  go_end0
  exact ⟨rfl, HW.out⟩
theorem upC (b mb fb : Nat) (e : E) (hl : e.out.length ≤ 9999999) (T : Nat → Prop) (w0 w : World) (h : Went (entAt b mb fb e) T w0 w) :
    Calls Tryz.prog 118 #[.pointer (some ⟨b, 0, none⟩)] w fun r w' => r = .returned (.bool (up e)) ∧ Went (entAt b mb fb (e)) T w0 w' := by
  have HOK := Aside0.mk (entAt.ok h)
  obtain ⟨A, ca, ⟨c0, c1, c2, c3, c4, c5, c6, c7, c8⟩, f0, f1, f2, f3, f4, f8⟩ := entAt.cells h
  have HW := Aside0.mk h
  clear h
  rcases (show e.state = 7 ∨ e.state = 8 ∨ (¬ e.state = 7 ∧ ¬ e.state = 8) by omega) with hs | hs | ⟨h7, h8⟩
  · rw [show up e = true from decide_eq_true (Or.inl hs)]
    rw [hs] at c1
    clear hs
    go_enter Tryz.func118, Tryz.ntmps118
    go_wp2
    go_ret
    exact ⟨rfl, HW.out⟩
  · rw [show up e = true from decide_eq_true (Or.inr hs)]
    rw [hs] at c1
    clear hs
    go_enter Tryz.func118, Tryz.ntmps118
    go_wp2
    go_ret
    exact ⟨rfl, HW.out⟩
  · rw [show up e = false from decide_eq_false (fun h => h.elim h7 h8)]
    have e7 : (e.state == 7) = false := by rw [beq_eq_false_iff_ne]; exact h7
    have e8 : (e.state == 8) = false := by rw [beq_eq_false_iff_ne]; exact h8
    clear h7 h8
    go_enter Tryz.func118, Tryz.ntmps118
    go_wp2
    go_ret
    exact ⟨rfl, HW.out⟩
end Go.Proofs.YtljnfbpplhnmfaaGreatDoor.En
