/- Package entity by its own text: inOpen, again, Timeout. Conditions: sizes. Package frame by its own text: what frames of each kind may be, and carry: those that may come over the link may. Condition: package ctrl's names stand as they were laid. Small rules that the kit's set lacks: the complement of an unsigned number; records and arrays by value, opened by their cells. The two tables of package ctrl, as a premise on a world: their cells; it stays while the call only makes memory. -/
import Derived.Deep.LoopGhost
import Derived.StillTailTactics
import Derived.Test.YtljnfbpplhnmfaaGreatDoorProg
import Derived.WalkKit
import Derived.BigCall
import Derived.LoopN
import Derived.ProofKit
import Derived.SizedLaws
import Derived.Test.YtljnfbpplhnmfaaGreatDoorUs01
import Derived.Test.YtljnfbpplhnmfaaGreatDoorUs02
import Derived.Test.YtljnfbpplhnmfaaGreatDoorUs04
import Derived.Test.YtljnfbpplhnmfaaGreatDoorUs11
import Derived.Test.YtljnfbpplhnmfaaGreatDoorUs12
namespace Go.Proofs.YtljnfbpplhnmfaaGreatDoor.En
open Go Go.RowKit Go.Proofs.YtljnfbpplhnmfaaGreatDoorW.PrintWords Go.Proofs.YtljnfbpplhnmfaaGreatDoorW.PrintLast Go.Proofs.YtljnfbpplhnmfaaGreatDoorW.PrintMore Go.Proofs.YtljnfbpplhnmfaaGreatDoor.Str Go.Proofs.YtljnfbpplhnmfaaGreatDoor.Mp Go.Proofs.YtljnfbpplhnmfaaGreatDoor.Ra Go.Proofs.YtljnfbpplhnmfaaGreatDoor.Sl Go.Proofs.YtljnfbpplhnmfaaGreatDoor.Qu Go.Proofs.YtljnfbpplhnmfaaGreatDoor.Sq Go.Proofs.YtljnfbpplhnmfaaGreatDoor.Fl Go.Proofs.YtljnfbpplhnmfaaGreatDoor.Ru Go.Proofs.YtljnfbpplhnmfaaGreatDoor.Md
set_option linter.unusedVariables false
set_option linter.unusedSimpArgs false
set_option maxRecDepth 1000000
set_option maxHeartbeats 4000000
theorem inOpenC (b mb fb : Nat) (e : E) (f : Fr) (hf : FrOk f) (h6 : f.kind ≠ 6) (hst : e.state = 7 ∨ e.state = 8) (hl : e.out.length ≤ 6900) (T : Nat → Prop) (w0 w : World) (h : Went (entAt b mb fb e) T w0 w) :
    Calls Tryz.prog 93 #[.pointer (some ⟨b, 0, none⟩), .agg (frCells f)] w fun r w' => r = .returned (.tuple #[]) ∧ Went (entAt b mb fb (inOpen e f)) T w0 w' := by
  have HOK := Aside0.mk (entAt.ok h)
  obtain ⟨A, ca, ⟨c0, c1, c2, c3, c4, c5, c6, c7, c8⟩, f0, f1, f2, f3, f4, f8⟩ := entAt.cells h
  have HW := Aside0.mk h
  clear h
  obtain ⟨t, c, k, p, ns, nr, s⟩ := f
  have hk := hf.kind
  simp only at hk h6
  clear hf
  rcases hk with ⟨rfl, rfl⟩ | rfl | rfl | rfl | ⟨rfl, rfl⟩ | ⟨rfl, rfl⟩ | ⟨rfl, rfl⟩ | ⟨rfl, rfl⟩ | ⟨rfl, rfl⟩
  · unfold frCells
    have hbx := heap_alloc_new w (.cells #[.int .i64 0, .int .i64 t, .bool true, .int .i64 0, .bool p, .int .i64 ns, .int .i64 nr, .string s] 144 (0, 0))
    have hw := HW.out.alloc (.cells #[.int .i64 0, .int .i64 t, .bool true, .int .i64 0, .bool p, .int .i64 ns, .int .i64 nr, .string s] 144 (0, 0))
    clear c0 c1 c2 c3 c4 c5 c6 c7 c8 f0 f1 f2 f3 f4 f8
    obtain ⟨A, ca, ⟨c0, c1, c2, c3, c4, c5, c6, c7, c8⟩, f0, f1, f2, f3, f4, f8⟩ := entAt.cells hw
    obtain ⟨⟨b0, b1, b2, b3, b4, b5, b6, b7⟩, _⟩ := cells8 hbx
    have HW := Aside0.mk hw
    clear hbx hw
    rw [show inOpen e (⟨t, true, 0, p, ns, nr, s⟩ : Fr) = info e ⟨t, true, 0, p, ns, nr, s⟩ from by simp [inOpen]]
    clear h6
    go_enter Tryz.func93, Tryz.ntmps93
    go_wp2_with fail
    refine (infoC b mb fb (e) ⟨t, true, 0, p, ns, nr, s⟩ rfl rfl hst (Nat.le_trans hl (by omega)) T w0 _ HW.out).mono ?_
    rintro r w1 ⟨rfl, hw⟩
    clear c0 c1 c2 c3 c4 c5 c6 c7 c8 f0 f1 f2 f3 f4 f8
    obtain ⟨A, ca, ⟨c0, c1, c2, c3, c4, c5, c6, c7, c8⟩, f0, f1, f2, f3, f4, f8⟩ := entAt.cells hw
    have HW := Aside0.mk hw
    clear hw
    go_wp2
    go_end0
    exact ⟨rfl, HW.out⟩
  · unfold frCells
    have hbx := heap_alloc_new w (.cells #[.int .i64 0, .int .i64 t, .bool c, .int .i64 1, .bool p, .int .i64 ns, .int .i64 nr, .string s] 144 (0, 0))
    have hw := HW.out.alloc (.cells #[.int .i64 0, .int .i64 t, .bool c, .int .i64 1, .bool p, .int .i64 ns, .int .i64 nr, .string s] 144 (0, 0))
    clear c0 c1 c2 c3 c4 c5 c6 c7 c8 f0 f1 f2 f3 f4 f8
    obtain ⟨A, ca, ⟨c0, c1, c2, c3, c4, c5, c6, c7, c8⟩, f0, f1, f2, f3, f4, f8⟩ := entAt.cells hw
    obtain ⟨⟨b0, b1, b2, b3, b4, b5, b6, b7⟩, _⟩ := cells8 hbx
    have HW := Aside0.mk hw
    clear hbx hw
    rw [show inOpen e (⟨t, c, 1, p, ns, nr, s⟩ : Fr) = supervised e ⟨t, c, 1, p, ns, nr, s⟩ from by simp [inOpen]]
    clear h6
    go_enter Tryz.func93, Tryz.ntmps93
    go_wp2_with fail
    refine (supervisedC b mb fb (e) ⟨t, c, 1, p, ns, nr, s⟩ (by simp) hst (Nat.le_trans hl (by omega)) T w0 _ HW.out).mono ?_
    rintro r w1 ⟨rfl, hw⟩
    clear c0 c1 c2 c3 c4 c5 c6 c7 c8 f0 f1 f2 f3 f4 f8
    obtain ⟨A, ca, ⟨c0, c1, c2, c3, c4, c5, c6, c7, c8⟩, f0, f1, f2, f3, f4, f8⟩ := entAt.cells hw
    have HW := Aside0.mk hw
    clear hw
    go_wp2
    go_end0
    exact ⟨rfl, HW.out⟩
  · unfold frCells
    have hbx := heap_alloc_new w (.cells #[.int .i64 0, .int .i64 t, .bool c, .int .i64 2, .bool p, .int .i64 ns, .int .i64 nr, .string s] 144 (0, 0))
    have hw := HW.out.alloc (.cells #[.int .i64 0, .int .i64 t, .bool c, .int .i64 2, .bool p, .int .i64 ns, .int .i64 nr, .string s] 144 (0, 0))
    clear c0 c1 c2 c3 c4 c5 c6 c7 c8 f0 f1 f2 f3 f4 f8
    obtain ⟨A, ca, ⟨c0, c1, c2, c3, c4, c5, c6, c7, c8⟩, f0, f1, f2, f3, f4, f8⟩ := entAt.cells hw
    obtain ⟨⟨b0, b1, b2, b3, b4, b5, b6, b7⟩, _⟩ := cells8 hbx
    have HW := Aside0.mk hw
    clear hbx hw
    rw [show inOpen e (⟨t, c, 2, p, ns, nr, s⟩ : Fr) = supervised e ⟨t, c, 2, p, ns, nr, s⟩ from by simp [inOpen]]
    clear h6
    go_enter Tryz.func93, Tryz.ntmps93
    go_wp2_with fail
    refine (supervisedC b mb fb (e) ⟨t, c, 2, p, ns, nr, s⟩ (by simp) hst (Nat.le_trans hl (by omega)) T w0 _ HW.out).mono ?_
    rintro r w1 ⟨rfl, hw⟩
    clear c0 c1 c2 c3 c4 c5 c6 c7 c8 f0 f1 f2 f3 f4 f8
    obtain ⟨A, ca, ⟨c0, c1, c2, c3, c4, c5, c6, c7, c8⟩, f0, f1, f2, f3, f4, f8⟩ := entAt.cells hw
    have HW := Aside0.mk hw
    clear hw
    go_wp2
    go_end0
    exact ⟨rfl, HW.out⟩
  · unfold frCells
    have hbx := heap_alloc_new w (.cells #[.int .i64 0, .int .i64 t, .bool c, .int .i64 3, .bool p, .int .i64 ns, .int .i64 nr, .string s] 144 (0, 0))
    have hw := HW.out.alloc (.cells #[.int .i64 0, .int .i64 t, .bool c, .int .i64 3, .bool p, .int .i64 ns, .int .i64 nr, .string s] 144 (0, 0))
    clear c0 c1 c2 c3 c4 c5 c6 c7 c8 f0 f1 f2 f3 f4 f8
    obtain ⟨A, ca, ⟨c0, c1, c2, c3, c4, c5, c6, c7, c8⟩, f0, f1, f2, f3, f4, f8⟩ := entAt.cells hw
    obtain ⟨⟨b0, b1, b2, b3, b4, b5, b6, b7⟩, _⟩ := cells8 hbx
    have HW := Aside0.mk hw
    clear hbx hw
    rw [show inOpen e (⟨t, c, 3, p, ns, nr, s⟩ : Fr) = supervised e ⟨t, c, 3, p, ns, nr, s⟩ from by simp [inOpen]]
    clear h6
    go_enter Tryz.func93, Tryz.ntmps93
    go_wp2_with fail
    refine (supervisedC b mb fb (e) ⟨t, c, 3, p, ns, nr, s⟩ (by simp) hst (Nat.le_trans hl (by omega)) T w0 _ HW.out).mono ?_
    rintro r w1 ⟨rfl, hw⟩
    clear c0 c1 c2 c3 c4 c5 c6 c7 c8 f0 f1 f2 f3 f4 f8
    obtain ⟨A, ca, ⟨c0, c1, c2, c3, c4, c5, c6, c7, c8⟩, f0, f1, f2, f3, f4, f8⟩ := entAt.cells hw
    have HW := Aside0.mk hw
    clear hw
    go_wp2
    go_end0
    exact ⟨rfl, HW.out⟩
  · unfold frCells
    have hbx := heap_alloc_new w (.cells #[.int .i64 0, .int .i64 t, .bool true, .int .i64 4, .bool p, .int .i64 ns, .int .i64 nr, .string s] 144 (0, 0))
    have hw := HW.out.alloc (.cells #[.int .i64 0, .int .i64 t, .bool true, .int .i64 4, .bool p, .int .i64 ns, .int .i64 nr, .string s] 144 (0, 0))
    clear c0 c1 c2 c3 c4 c5 c6 c7 c8 f0 f1 f2 f3 f4 f8
    obtain ⟨A, ca, ⟨c0, c1, c2, c3, c4, c5, c6, c7, c8⟩, f0, f1, f2, f3, f4, f8⟩ := entAt.cells hw
    obtain ⟨⟨b0, b1, b2, b3, b4, b5, b6, b7⟩, _⟩ := cells8 hbx
    have HW := Aside0.mk hw
    clear hbx hw
    rw [show inOpen e (⟨t, true, 4, p, ns, nr, s⟩ : Fr) = open_ (unsure (told (send e 8 false p) 7 ⟨#[70]⟩)) from by simp [inOpen]]
    clear h6
    go_enter Tryz.func93, Tryz.ntmps93
    go_wp2_with fail
    refine (replyC b mb fb (e) 8 ⟨t, true, 4, p, ns, nr, s⟩ (Nat.le_trans hl (by omega)) T w0 _ HW.out).mono ?_
    rintro r w1 ⟨rfl, hw⟩
    clear c0 c1 c2 c3 c4 c5 c6 c7 c8 f0 f1 f2 f3 f4 f8
    obtain ⟨A, ca, ⟨c0, c1, c2, c3, c4, c5, c6, c7, c8⟩, f0, f1, f2, f3, f4, f8⟩ := entAt.cells hw
    have HW := Aside0.mk hw
    clear hw
    go_wp2_with fail
    refine (toldC b mb fb (send (e) 8 false p) 7 ⟨#[70]⟩ (Nat.le_trans (len_send (hl)) (by omega)) T w0 _ HW.out).mono ?_
    rintro r w2 ⟨rfl, hw⟩
    clear c0 c1 c2 c3 c4 c5 c6 c7 c8 f0 f1 f2 f3 f4 f8
    obtain ⟨A, ca, ⟨c0, c1, c2, c3, c4, c5, c6, c7, c8⟩, f0, f1, f2, f3, f4, f8⟩ := entAt.cells hw
    have HW := Aside0.mk hw
    clear hw
    go_wp2_with fail
    refine (unsureC b mb fb (told (send (e) 8 false p) 7 ⟨#[70]⟩)  (Nat.le_trans (len_told (len_send (hl))) (by omega)) T w0 _ HW.out).mono ?_
    rintro r w3 ⟨rfl, hw⟩
    clear c0 c1 c2 c3 c4 c5 c6 c7 c8 f0 f1 f2 f3 f4 f8
    obtain ⟨A, ca, ⟨c0, c1, c2, c3, c4, c5, c6, c7, c8⟩, f0, f1, f2, f3, f4, f8⟩ := entAt.cells hw
    have HW := Aside0.mk hw
    clear hw
    go_wp2_with fail
    refine (openC b mb fb (unsure (told (send (e) 8 false p) 7 ⟨#[70]⟩)) (Nat.le_trans (len_unsure (len_told (len_send (hl)))) (by omega)) T w0 _ HW.out).mono ?_
    rintro r w4 ⟨rfl, hw⟩
    clear c0 c1 c2 c3 c4 c5 c6 c7 c8 f0 f1 f2 f3 f4 f8
    obtain ⟨A, ca, ⟨c0, c1, c2, c3, c4, c5, c6, c7, c8⟩, f0, f1, f2, f3, f4, f8⟩ := entAt.cells hw
    have HW := Aside0.mk hw
    clear hw
    go_wp2
    go_end0
    exact ⟨rfl, HW.out⟩
  · cases p with
    | true =>
      unfold frCells
      have hbx := heap_alloc_new w (.cells #[.int .i64 0, .int .i64 t, .bool false, .int .i64 5, .bool true, .int .i64 ns, .int .i64 nr, .string s] 144 (0, 0))
      have hw := HW.out.alloc (.cells #[.int .i64 0, .int .i64 t, .bool false, .int .i64 5, .bool true, .int .i64 ns, .int .i64 nr, .string s] 144 (0, 0))
      clear c0 c1 c2 c3 c4 c5 c6 c7 c8 f0 f1 f2 f3 f4 f8
      obtain ⟨A, ca, ⟨c0, c1, c2, c3, c4, c5, c6, c7, c8⟩, f0, f1, f2, f3, f4, f8⟩ := entAt.cells hw
      obtain ⟨⟨b0, b1, b2, b3, b4, b5, b6, b7⟩, _⟩ := cells8 hbx
      have HW := Aside0.mk hw
      clear hbx hw
      rw [show inOpen e (⟨t, false, 5, true, ns, nr, s⟩ : Fr) = anew e ⟨#[66]⟩ from by simp [inOpen]]
      clear h6
      go_enter Tryz.func93, Tryz.ntmps93
      go_wp2_with fail
      refine (anewC b mb fb (e) ⟨#[66]⟩ (Nat.le_trans hl (by omega)) T w0 _ HW.out).mono ?_
      rintro r w1 ⟨rfl, hw⟩
      clear c0 c1 c2 c3 c4 c5 c6 c7 c8 f0 f1 f2 f3 f4 f8
      obtain ⟨A, ca, ⟨c0, c1, c2, c3, c4, c5, c6, c7, c8⟩, f0, f1, f2, f3, f4, f8⟩ := entAt.cells hw
      have HW := Aside0.mk hw
      clear hw
      go_wp2
      go_end0
      exact ⟨rfl, HW.out⟩
    | false =>
      unfold frCells
      have hbx := heap_alloc_new w (.cells #[.int .i64 0, .int .i64 t, .bool false, .int .i64 5, .bool false, .int .i64 ns, .int .i64 nr, .string s] 144 (0, 0))
      have hw := HW.out.alloc (.cells #[.int .i64 0, .int .i64 t, .bool false, .int .i64 5, .bool false, .int .i64 ns, .int .i64 nr, .string s] 144 (0, 0))
      clear c0 c1 c2 c3 c4 c5 c6 c7 c8 f0 f1 f2 f3 f4 f8
      obtain ⟨A, ca, ⟨c0, c1, c2, c3, c4, c5, c6, c7, c8⟩, f0, f1, f2, f3, f4, f8⟩ := entAt.cells hw
      obtain ⟨⟨b0, b1, b2, b3, b4, b5, b6, b7⟩, _⟩ := cells8 hbx
      have HW := Aside0.mk hw
      clear hbx hw
      rw [show inOpen e (⟨t, false, 5, false, ns, nr, s⟩ : Fr) = anew e ⟨#[69]⟩ from by simp [inOpen]]
      clear h6
      go_enter Tryz.func93, Tryz.ntmps93
      go_wp2_with fail
      refine (anewC b mb fb (e) ⟨#[69]⟩ (Nat.le_trans hl (by omega)) T w0 _ HW.out).mono ?_
      rintro r w1 ⟨rfl, hw⟩
      clear c0 c1 c2 c3 c4 c5 c6 c7 c8 f0 f1 f2 f3 f4 f8
      obtain ⟨A, ca, ⟨c0, c1, c2, c3, c4, c5, c6, c7, c8⟩, f0, f1, f2, f3, f4, f8⟩ := entAt.cells hw
      have HW := Aside0.mk hw
      clear hw
      go_wp2
      go_end0
      exact ⟨rfl, HW.out⟩
  · exact absurd rfl h6
  · unfold frCells
    have hbx := heap_alloc_new w (.cells #[.int .i64 0, .int .i64 t, .bool true, .int .i64 7, .bool p, .int .i64 ns, .int .i64 nr, .string s] 144 (0, 0))
    have hw := HW.out.alloc (.cells #[.int .i64 0, .int .i64 t, .bool true, .int .i64 7, .bool p, .int .i64 ns, .int .i64 nr, .string s] 144 (0, 0))
    clear c0 c1 c2 c3 c4 c5 c6 c7 c8 f0 f1 f2 f3 f4 f8
    obtain ⟨A, ca, ⟨c0, c1, c2, c3, c4, c5, c6, c7, c8⟩, f0, f1, f2, f3, f4, f8⟩ := entAt.cells hw
    obtain ⟨⟨b0, b1, b2, b3, b4, b5, b6, b7⟩, _⟩ := cells8 hbx
    have HW := Aside0.mk hw
    clear hbx hw
    rw [show inOpen e (⟨t, true, 7, p, ns, nr, s⟩ : Fr) = end_ (told (send e 8 false p) 3 nil8) from by simp [inOpen]]
    clear h6
    go_enter Tryz.func93, Tryz.ntmps93
    go_wp2_with fail
    refine (replyC b mb fb (e) 8 ⟨t, true, 7, p, ns, nr, s⟩ (Nat.le_trans hl (by omega)) T w0 _ HW.out).mono ?_
    rintro r w1 ⟨rfl, hw⟩
    clear c0 c1 c2 c3 c4 c5 c6 c7 c8 f0 f1 f2 f3 f4 f8
    obtain ⟨A, ca, ⟨c0, c1, c2, c3, c4, c5, c6, c7, c8⟩, f0, f1, f2, f3, f4, f8⟩ := entAt.cells hw
    have HW := Aside0.mk hw
    clear hw
    go_wp2_with fail
    refine (toldC b mb fb (send (e) 8 false p) 3 nil8 (Nat.le_trans (len_send (hl)) (by omega)) T w0 _ HW.out).mono ?_
    rintro r w2 ⟨rfl, hw⟩
    clear c0 c1 c2 c3 c4 c5 c6 c7 c8 f0 f1 f2 f3 f4 f8
    obtain ⟨A, ca, ⟨c0, c1, c2, c3, c4, c5, c6, c7, c8⟩, f0, f1, f2, f3, f4, f8⟩ := entAt.cells hw
    have HW := Aside0.mk hw
    clear hw
    go_wp2_with fail
    refine (endC b mb fb (told (send (e) 8 false p) 3 nil8)  (Nat.le_trans (len_told (len_send (hl))) (by omega)) T w0 _ HW.out).mono ?_
    rintro r w3 ⟨rfl, hw⟩
    clear c0 c1 c2 c3 c4 c5 c6 c7 c8 f0 f1 f2 f3 f4 f8
    obtain ⟨A, ca, ⟨c0, c1, c2, c3, c4, c5, c6, c7, c8⟩, f0, f1, f2, f3, f4, f8⟩ := entAt.cells hw
    have HW := Aside0.mk hw
    clear hw
    go_wp2
    go_end0
    exact ⟨rfl, HW.out⟩
  · unfold frCells
    have hbx := heap_alloc_new w (.cells #[.int .i64 0, .int .i64 t, .bool false, .int .i64 8, .bool p, .int .i64 ns, .int .i64 nr, .string s] 144 (0, 0))
    have hw := HW.out.alloc (.cells #[.int .i64 0, .int .i64 t, .bool false, .int .i64 8, .bool p, .int .i64 ns, .int .i64 nr, .string s] 144 (0, 0))
    clear c0 c1 c2 c3 c4 c5 c6 c7 c8 f0 f1 f2 f3 f4 f8
    obtain ⟨A, ca, ⟨c0, c1, c2, c3, c4, c5, c6, c7, c8⟩, f0, f1, f2, f3, f4, f8⟩ := entAt.cells hw
    obtain ⟨⟨b0, b1, b2, b3, b4, b5, b6, b7⟩, _⟩ := cells8 hbx
    have HW := Aside0.mk hw
    clear hbx hw
    rw [show inOpen e (⟨t, false, 8, p, ns, nr, s⟩ : Fr) = strange e ⟨t, false, 8, p, ns, nr, s⟩ from by simp [inOpen]]
    clear h6
    go_enter Tryz.func93, Tryz.ntmps93
    go_wp2_with fail
    refine (strangeC b mb fb (e) ⟨t, false, 8, p, ns, nr, s⟩ (Nat.le_trans hl (by omega)) T w0 _ HW.out).mono ?_
    rintro r w1 ⟨rfl, hw⟩
    clear c0 c1 c2 c3 c4 c5 c6 c7 c8 f0 f1 f2 f3 f4 f8
    obtain ⟨A, ca, ⟨c0, c1, c2, c3, c4, c5, c6, c7, c8⟩, f0, f1, f2, f3, f4, f8⟩ := entAt.cells hw
    have HW := Aside0.mk hw
    clear hw
    go_wp2
    go_end0
    exact ⟨rfl, HW.out⟩
theorem againC (b mb fb : Nat) (e : E) (k : Int) (l : ByteArray) (g : Int) (hl : e.out.length ≤ 7000) (T : Nat → Prop) (w0 w : World) (h : Went (entAt b mb fb e) T w0 w) :
    Calls Tryz.prog 84 #[.pointer (some ⟨b, 0, none⟩), .int .i64 k, .string l, .int .i64 g] w fun r w' => r = .returned (.tuple #[]) ∧ Went (entAt b mb fb (again e k l g)) T w0 w' := by
  have HOK := Aside0.mk (entAt.ok h)
  obtain ⟨A, ca, ⟨c0, c1, c2, c3, c4, c5, c6, c7, c8⟩, f0, f1, f2, f3, f4, f8⟩ := entAt.cells h
  have HW := Aside0.mk h
  clear h
  by_cases ht : e.tries = e.most
  · rw [show again e k l g = end_ (told (told e 7 l) g nil8) from if_pos ht]
    have hb0 : (e.tries == e.most) = true := by rw [beq_iff_eq]; exact ht
    clear ht
    go_enter Tryz.func84, Tryz.ntmps84
    go_wp2_with fail
    go_quiet (fail)
    have hw := HW.out.drewN nq
    clear c0 c1 c2 c3 c4 c5 c6 c7 c8 f0 f1 f2 f3 f4 f8
    obtain ⟨A, ca, ⟨c0, c1, c2, c3, c4, c5, c6, c7, c8⟩, f0, f1, f2, f3, f4, f8⟩ := entAt.cells hw
    have HW := Aside0.mk hw
    generalize w.drewN nq = wx at *
    clear hw
    go_wp2_with fail
    refine (toldC b mb fb (e) 7 l (Nat.le_trans hl (by omega)) T w0 _ HW.out).mono ?_
    rintro r w1 ⟨rfl, hw⟩
    clear c0 c1 c2 c3 c4 c5 c6 c7 c8 f0 f1 f2 f3 f4 f8
    obtain ⟨A, ca, ⟨c0, c1, c2, c3, c4, c5, c6, c7, c8⟩, f0, f1, f2, f3, f4, f8⟩ := entAt.cells hw
    have HW := Aside0.mk hw
    clear hw
    go_wp2_with fail
    refine (toldC b mb fb (told (e) 7 l) g nil8 (Nat.le_trans (len_told (hl)) (by omega)) T w0 _ HW.out).mono ?_
    rintro r w2 ⟨rfl, hw⟩
    clear c0 c1 c2 c3 c4 c5 c6 c7 c8 f0 f1 f2 f3 f4 f8
    obtain ⟨A, ca, ⟨c0, c1, c2, c3, c4, c5, c6, c7, c8⟩, f0, f1, f2, f3, f4, f8⟩ := entAt.cells hw
    have HW := Aside0.mk hw
    clear hw
    go_wp2_with fail
    refine (endC b mb fb (told (told (e) 7 l) g nil8)  (Nat.le_trans (len_told (len_told (hl))) (by omega)) T w0 _ HW.out).mono ?_
    rintro r w3 ⟨rfl, hw⟩
    clear c0 c1 c2 c3 c4 c5 c6 c7 c8 f0 f1 f2 f3 f4 f8
    obtain ⟨A, ca, ⟨c0, c1, c2, c3, c4, c5, c6, c7, c8⟩, f0, f1, f2, f3, f4, f8⟩ := entAt.cells hw
    have HW := Aside0.mk hw
    clear hw
    go_wp2
    refine bodyPost_ret (results_none rfl _ _ _) rfl ?_
    exact ⟨rfl, HW.out⟩
  · rw [show again e k l g = start200 (send { e with tries := e.tries + 1 } k true true) from if_neg ht]
    have hb0 : (e.tries == e.most) = false := by rw [beq_eq_false_iff_ne]; exact ht
    have ht1 := HOK.out.1.tries
    have ht2 := HOK.out.1.most
    have ht3 : 0 ≤ e.tries + 1 ∧ e.tries + 1 ≤ e.most := by omega
    have HT3 := Aside0.mk ht3
    clear ht ht3
    go_enter Tryz.func84, Tryz.ntmps84
    go_wp2_with fail
    go_quiet (fail)
    have hw := HW.out.drewN nq
    clear c0 c1 c2 c3 c4 c5 c6 c7 c8 f0 f1 f2 f3 f4 f8
    obtain ⟨A, ca, ⟨c0, c1, c2, c3, c4, c5, c6, c7, c8⟩, f0, f1, f2, f3, f4, f8⟩ := entAt.cells hw
    have HW := Aside0.mk hw
    generalize w.drewN nq = wx at *
    clear hw
    go_wp2_with fail
    refine (sendC b mb fb ({ e with tries := (e.tries + 1) }) k true true (Nat.le_trans hl (by omega)) T w0 _ (entAt.setTries HW.out (e.tries + 1) HT3.out)).mono ?_
    rintro r w1 ⟨rfl, hw⟩
    clear c0 c1 c2 c3 c4 c5 c6 c7 c8 f0 f1 f2 f3 f4 f8
    obtain ⟨A, ca, ⟨c0, c1, c2, c3, c4, c5, c6, c7, c8⟩, f0, f1, f2, f3, f4, f8⟩ := entAt.cells hw
    have HW := Aside0.mk hw
    clear hw
    go_wp2_with fail
    refine (start200C b mb fb (send ({ e with tries := (e.tries + 1) }) k true true)  (Nat.le_trans (len_send (hl)) (by omega)) T w0 _ HW.out).mono ?_
    rintro r w2 ⟨rfl, hw⟩
    clear c0 c1 c2 c3 c4 c5 c6 c7 c8 f0 f1 f2 f3 f4 f8
    obtain ⟨A, ca, ⟨c0, c1, c2, c3, c4, c5, c6, c7, c8⟩, f0, f1, f2, f3, f4, f8⟩ := entAt.cells hw
    have HW := Aside0.mk hw
    clear hw
    go_wp2
    go_end0
    exact ⟨rfl, HW.out⟩
theorem timeout200C (b mb fb : Nat) (e : E) (hr : e.r200 = true) (hl : e.out.length ≤ 6900) (T : Nat → Prop) (w0 w : World) (h : Went (entAt b mb fb e) T w0 w) :
    Calls Tryz.prog 54 #[.pointer (some ⟨b, 0, none⟩), .int .i64 200] w fun r w' => ∃ v, r = .returned (v) ∧ Went (all [entAt b mb fb (emptied (over200 e)), orow v (over200 e).out]) T w0 w' := by
  have HOK := Aside0.mk (entAt.ok h)
  obtain ⟨A, ca, ⟨c0, c1, c2, c3, c4, c5, c6, c7, c8⟩, f0, f1, f2, f3, f4, f8⟩ := entAt.cells h
  have HW := Aside0.mk h
  have hlk := (entAt.look h).1
  rw [hr] at hlk
  obtain ⟨w1, hrun, hw1⟩ := entAt.store200 h false
  have HW1 := Aside0.mk hw1
  clear h HW hw1
  have hst : e.state = 4 ∨ e.state = 5 ∨ e.state = 6 ∨ e.state = 7 ∨ e.state = 8 := by have := HOK.out.1.state; omega
  rcases hst with hs | hs | hs | hs | hs
  · have hE : over200 e = { e with r200 := false } := by simp [over200, timeout1, hs]
    rw [hE]
    rw [hs] at c1
    have HS := Aside0.mk hs
    clear hs hE hr
    obtain ⟨A1, ca1, ⟨d0, d1, d2, d3, d4, d5, d6, d7, d8⟩, g0, g1, g2, g3, g4, g8⟩ := entAt.cells HW1.out
    have HS1 := HS.out
    rw [show ({ e with r200 := false } : E).state = 4 from HS.out] at d1
    clear HS1
    go_enter Tryz.func54, Tryz.ntmps54
    go_wp2_with fail
    refine (doneC b mb fb ({ e with r200 := false }) T w0 _ HW1.out).mono ?_
    rintro r w1 ⟨v, rfl, hw⟩
    have HW := Aside0.mk hw
    clear hw
    go_wp2
    go_ret
    exact ⟨v, rfl, HW.out⟩
  · have hE : over200 e = again ({ e with r200 := false }) 4 ⟨#[71]⟩ 3 := by simp [over200, timeout1, hs]
    rw [hE]
    rw [hs] at c1
    have HS := Aside0.mk hs
    clear hs hE hr
    obtain ⟨A1, ca1, ⟨d0, d1, d2, d3, d4, d5, d6, d7, d8⟩, g0, g1, g2, g3, g4, g8⟩ := entAt.cells HW1.out
    have HS1 := HS.out
    rw [show ({ e with r200 := false } : E).state = 5 from HS.out] at d1
    clear HS1
    go_enter Tryz.func54, Tryz.ntmps54
    go_wp2_with fail
    refine (againC b mb fb ({ e with r200 := false }) 4 ⟨#[71]⟩ 3 (Nat.le_trans hl (by omega)) T w0 _ HW1.out).mono ?_
    rintro r w1 ⟨rfl, hw⟩
    clear c0 c1 c2 c3 c4 c5 c6 c7 c8 f0 f1 f2 f3 f4 f8
    obtain ⟨A, ca, ⟨c0, c1, c2, c3, c4, c5, c6, c7, c8⟩, f0, f1, f2, f3, f4, f8⟩ := entAt.cells hw
    have HW := Aside0.mk hw
    clear hw
    go_wp2_with fail
    refine (doneC b mb fb (again ({ e with r200 := false }) 4 ⟨#[71]⟩ 3) T w0 _ HW.out).mono ?_
    rintro r w2 ⟨v, rfl, hw⟩
    have HW := Aside0.mk hw
    clear hw
    clear c0 c1 c2 c3 c4 c5 c6 c7 c8 f0 f1 f2 f3 f4 f8
    go_wp2
    go_ret
    exact ⟨v, rfl, HW.out⟩
  · have hE : over200 e = again ({ e with r200 := false }) 7 ⟨#[72]⟩ 4 := by simp [over200, timeout1, hs]
    rw [hE]
    rw [hs] at c1
    have HS := Aside0.mk hs
    clear hs hE hr
    obtain ⟨A1, ca1, ⟨d0, d1, d2, d3, d4, d5, d6, d7, d8⟩, g0, g1, g2, g3, g4, g8⟩ := entAt.cells HW1.out
    have HS1 := HS.out
    rw [show ({ e with r200 := false } : E).state = 6 from HS.out] at d1
    clear HS1
    go_enter Tryz.func54, Tryz.ntmps54
    go_wp2_with fail
    refine (againC b mb fb ({ e with r200 := false }) 7 ⟨#[72]⟩ 4 (Nat.le_trans hl (by omega)) T w0 _ HW1.out).mono ?_
    rintro r w1 ⟨rfl, hw⟩
    clear c0 c1 c2 c3 c4 c5 c6 c7 c8 f0 f1 f2 f3 f4 f8
    obtain ⟨A, ca, ⟨c0, c1, c2, c3, c4, c5, c6, c7, c8⟩, f0, f1, f2, f3, f4, f8⟩ := entAt.cells hw
    have HW := Aside0.mk hw
    clear hw
    go_wp2_with fail
    refine (doneC b mb fb (again ({ e with r200 := false }) 7 ⟨#[72]⟩ 4) T w0 _ HW.out).mono ?_
    rintro r w2 ⟨v, rfl, hw⟩
    have HW := Aside0.mk hw
    clear hw
    clear c0 c1 c2 c3 c4 c5 c6 c7 c8 f0 f1 f2 f3 f4 f8
    go_wp2
    go_ret
    exact ⟨v, rfl, HW.out⟩
  · have hE : over200 e = { inquire { { e with r200 := false } with tries := 0 } with state := 8 } := by simp [over200, timeout1, hs]
    rw [hE]
    rw [hs] at c1
    have HS := Aside0.mk hs
    clear hs hE hr
    obtain ⟨A1, ca1, ⟨d0, d1, d2, d3, d4, d5, d6, d7, d8⟩, g0, g1, g2, g3, g4, g8⟩ := entAt.cells HW1.out
    have HS1 := HS.out
    rw [show ({ e with r200 := false } : E).state = 7 from HS.out] at d1
    clear HS1
    go_enter Tryz.func54, Tryz.ntmps54
    go_wp2_with fail
    refine (inquireC b mb fb ({ { e with r200 := false } with tries := 0 })  (Nat.le_trans hl (by omega)) T w0 _ (entAt.setTries HW1.out 0 ⟨Int.le_refl 0, Int.le_trans (by decide) HOK.out.1.most.1⟩)).mono ?_
    rintro r w1 ⟨rfl, hw⟩
    clear c0 c1 c2 c3 c4 c5 c6 c7 c8 f0 f1 f2 f3 f4 f8
    obtain ⟨A, ca, ⟨c0, c1, c2, c3, c4, c5, c6, c7, c8⟩, f0, f1, f2, f3, f4, f8⟩ := entAt.cells hw
    have HW := Aside0.mk hw
    clear hw
    go_wp2_with fail
    refine (doneC b mb fb ({ inquire ({ { e with r200 := false } with tries := 0 }) with state := 8 }) T w0 _ (entAt.setState HW.out 8 (by decide))).mono ?_
    rintro r w2 ⟨v, rfl, hw⟩
    have HW := Aside0.mk hw
    clear hw
    clear c0 c1 c2 c3 c4 c5 c6 c7 c8 f0 f1 f2 f3 f4 f8
    go_wp2
    go_ret
    exact ⟨v, rfl, HW.out⟩
  · by_cases ht : e.tries = e.most
    · have hE : over200 e = anew ({ e with r200 := false }) ⟨#[73]⟩ := by simp [over200, timeout1, hs, ht]
      rw [hE]
      rw [hs] at c1
      have HS := Aside0.mk hs
      clear hs hE hr
      have hb0 : (e.tries == e.most) = true := by rw [beq_iff_eq]; exact ht
      clear ht
      obtain ⟨A1, ca1, ⟨d0, d1, d2, d3, d4, d5, d6, d7, d8⟩, g0, g1, g2, g3, g4, g8⟩ := entAt.cells HW1.out
      have HS1 := HS.out
      rw [show ({ e with r200 := false } : E).state = 8 from HS.out] at d1
      clear HS1
      go_enter Tryz.func54, Tryz.ntmps54
      go_wp2_with fail
      go_quiet (fail)
      have hw := HW1.out.drewN nq
      clear c0 c1 c2 c3 c4 c5 c6 c7 c8 f0 f1 f2 f3 f4 f8
      obtain ⟨A, ca, ⟨c0, c1, c2, c3, c4, c5, c6, c7, c8⟩, f0, f1, f2, f3, f4, f8⟩ := entAt.cells hw
      have HW := Aside0.mk hw
      clear d0 d1 d2 d3 d4 d5 d6 d7 d8 g0 g1 g2 g3 g4 g8 hrun hlk
      generalize w1.drewN nq = wx at *
      clear hw
      go_wp2_with fail
      refine (anewC b mb fb ({ e with r200 := false }) ⟨#[73]⟩ (Nat.le_trans hl (by omega)) T w0 _ HW.out).mono ?_
      rintro r w1 ⟨rfl, hw⟩
      clear c0 c1 c2 c3 c4 c5 c6 c7 c8 f0 f1 f2 f3 f4 f8
      obtain ⟨A, ca, ⟨c0, c1, c2, c3, c4, c5, c6, c7, c8⟩, f0, f1, f2, f3, f4, f8⟩ := entAt.cells hw
      have HW := Aside0.mk hw
      clear hw
      go_wp2_with fail
      refine (doneC b mb fb (anew ({ e with r200 := false }) ⟨#[73]⟩) T w0 _ HW.out).mono ?_
      rintro r w2 ⟨v, rfl, hw⟩
      have HW := Aside0.mk hw
      clear hw
      clear c0 c1 c2 c3 c4 c5 c6 c7 c8 f0 f1 f2 f3 f4 f8
      go_wp2
      go_ret
      exact ⟨v, rfl, HW.out⟩
    · have hE : over200 e = inquire { { e with r200 := false } with tries := e.tries + 1 } := by simp [over200, timeout1, hs, ht]
      rw [hE]
      rw [hs] at c1
      have HS := Aside0.mk hs
      clear hs hE hr
      have hb0 : (e.tries == e.most) = false := by rw [beq_eq_false_iff_ne]; exact ht
      have ht1 := HOK.out.1.tries
      have ht2 := HOK.out.1.most
      have HT3 : Aside0 (0 ≤ e.tries + 1 ∧ e.tries + 1 ≤ e.most) := ⟨by omega⟩
      clear ht
      obtain ⟨A1, ca1, ⟨d0, d1, d2, d3, d4, d5, d6, d7, d8⟩, g0, g1, g2, g3, g4, g8⟩ := entAt.cells HW1.out
      have HS1 := HS.out
      rw [show ({ e with r200 := false } : E).state = 8 from HS.out] at d1
      clear HS1
      go_enter Tryz.func54, Tryz.ntmps54
      go_wp2_with fail
      go_quiet (fail)
      have hw := HW1.out.drewN nq
      clear c0 c1 c2 c3 c4 c5 c6 c7 c8 f0 f1 f2 f3 f4 f8
      obtain ⟨A, ca, ⟨c0, c1, c2, c3, c4, c5, c6, c7, c8⟩, f0, f1, f2, f3, f4, f8⟩ := entAt.cells hw
      have HW := Aside0.mk hw
      clear d0 d1 d2 d3 d4 d5 d6 d7 d8 g0 g1 g2 g3 g4 g8 hrun hlk
      generalize w1.drewN nq = wx at *
      clear hw
      go_wp2_with fail
      refine (inquireC b mb fb ({ { e with r200 := false } with tries := (e.tries + 1) })  (Nat.le_trans hl (by omega)) T w0 _ (entAt.setTries HW.out (e.tries + 1) HT3.out)).mono ?_
      rintro r w1 ⟨rfl, hw⟩
      clear c0 c1 c2 c3 c4 c5 c6 c7 c8 f0 f1 f2 f3 f4 f8
      obtain ⟨A, ca, ⟨c0, c1, c2, c3, c4, c5, c6, c7, c8⟩, f0, f1, f2, f3, f4, f8⟩ := entAt.cells hw
      have HW := Aside0.mk hw
      clear hw
      go_wp2_with fail
      refine (doneC b mb fb (inquire ({ { e with r200 := false } with tries := (e.tries + 1) })) T w0 _ HW.out).mono ?_
      rintro r w2 ⟨v, rfl, hw⟩
      have HW := Aside0.mk hw
      clear hw
      clear c0 c1 c2 c3 c4 c5 c6 c7 c8 f0 f1 f2 f3 f4 f8
      go_wp2
      go_ret
      exact ⟨v, rfl, HW.out⟩
theorem timeout203C (b mb fb : Nat) (e : E) (hr : e.r203 = true) (hl : e.out.length ≤ 6900) (T : Nat → Prop) (w0 w : World) (h : Went (entAt b mb fb e) T w0 w) :
    Calls Tryz.prog 54 #[.pointer (some ⟨b, 0, none⟩), .int .i64 203] w fun r w' => ∃ v, r = .returned (v) ∧ Went (all [entAt b mb fb (emptied (over203 e)), orow v (over203 e).out]) T w0 w' := by
  have HOK := Aside0.mk (entAt.ok h)
  obtain ⟨A, ca, ⟨c0, c1, c2, c3, c4, c5, c6, c7, c8⟩, f0, f1, f2, f3, f4, f8⟩ := entAt.cells h
  have HW := Aside0.mk h
  have hlk := (entAt.look h).2
  rw [hr] at hlk
  obtain ⟨w1, hrun, hw1⟩ := entAt.store203 h false
  have HW1 := Aside0.mk hw1
  clear h HW hw1
  have hst : e.state = 4 ∨ e.state = 5 ∨ e.state = 6 ∨ e.state = 7 ∨ e.state = 8 := by have := HOK.out.1.state; omega
  rcases hst with hs | hs | hs | hs | hs
  · have hE : over203 e = { e with r203 := false } := by simp [over203, timeout1, hs]
    rw [hE]
    rw [hs] at c1
    have HS := Aside0.mk hs
    clear hs hE hr
    obtain ⟨A1, ca1, ⟨d0, d1, d2, d3, d4, d5, d6, d7, d8⟩, g0, g1, g2, g3, g4, g8⟩ := entAt.cells HW1.out
    have HS1 := HS.out
    rw [show ({ e with r203 := false } : E).state = 4 from HS.out] at d1
    clear HS1
    go_enter Tryz.func54, Tryz.ntmps54
    go_wp2_with fail
    refine (doneC b mb fb ({ e with r203 := false }) T w0 _ HW1.out).mono ?_
    rintro r w1 ⟨v, rfl, hw⟩
    have HW := Aside0.mk hw
    clear hw
    go_wp2
    go_ret
    exact ⟨v, rfl, HW.out⟩
  · have hE : over203 e = again ({ e with r203 := false }) 4 ⟨#[71]⟩ 3 := by simp [over203, timeout1, hs]
    rw [hE]
    rw [hs] at c1
    have HS := Aside0.mk hs
    clear hs hE hr
    obtain ⟨A1, ca1, ⟨d0, d1, d2, d3, d4, d5, d6, d7, d8⟩, g0, g1, g2, g3, g4, g8⟩ := entAt.cells HW1.out
    have HS1 := HS.out
    rw [show ({ e with r203 := false } : E).state = 5 from HS.out] at d1
    clear HS1
    go_enter Tryz.func54, Tryz.ntmps54
    go_wp2_with fail
    refine (againC b mb fb ({ e with r203 := false }) 4 ⟨#[71]⟩ 3 (Nat.le_trans hl (by omega)) T w0 _ HW1.out).mono ?_
    rintro r w1 ⟨rfl, hw⟩
    clear c0 c1 c2 c3 c4 c5 c6 c7 c8 f0 f1 f2 f3 f4 f8
    obtain ⟨A, ca, ⟨c0, c1, c2, c3, c4, c5, c6, c7, c8⟩, f0, f1, f2, f3, f4, f8⟩ := entAt.cells hw
    have HW := Aside0.mk hw
    clear hw
    go_wp2_with fail
    refine (doneC b mb fb (again ({ e with r203 := false }) 4 ⟨#[71]⟩ 3) T w0 _ HW.out).mono ?_
    rintro r w2 ⟨v, rfl, hw⟩
    have HW := Aside0.mk hw
    clear hw
    clear c0 c1 c2 c3 c4 c5 c6 c7 c8 f0 f1 f2 f3 f4 f8
    go_wp2
    go_ret
    exact ⟨v, rfl, HW.out⟩
  · have hE : over203 e = again ({ e with r203 := false }) 7 ⟨#[72]⟩ 4 := by simp [over203, timeout1, hs]
    rw [hE]
    rw [hs] at c1
    have HS := Aside0.mk hs
    clear hs hE hr
    obtain ⟨A1, ca1, ⟨d0, d1, d2, d3, d4, d5, d6, d7, d8⟩, g0, g1, g2, g3, g4, g8⟩ := entAt.cells HW1.out
    have HS1 := HS.out
    rw [show ({ e with r203 := false } : E).state = 6 from HS.out] at d1
    clear HS1
    go_enter Tryz.func54, Tryz.ntmps54
    go_wp2_with fail
    refine (againC b mb fb ({ e with r203 := false }) 7 ⟨#[72]⟩ 4 (Nat.le_trans hl (by omega)) T w0 _ HW1.out).mono ?_
    rintro r w1 ⟨rfl, hw⟩
    clear c0 c1 c2 c3 c4 c5 c6 c7 c8 f0 f1 f2 f3 f4 f8
    obtain ⟨A, ca, ⟨c0, c1, c2, c3, c4, c5, c6, c7, c8⟩, f0, f1, f2, f3, f4, f8⟩ := entAt.cells hw
    have HW := Aside0.mk hw
    clear hw
    go_wp2_with fail
    refine (doneC b mb fb (again ({ e with r203 := false }) 7 ⟨#[72]⟩ 4) T w0 _ HW.out).mono ?_
    rintro r w2 ⟨v, rfl, hw⟩
    have HW := Aside0.mk hw
    clear hw
    clear c0 c1 c2 c3 c4 c5 c6 c7 c8 f0 f1 f2 f3 f4 f8
    go_wp2
    go_ret
    exact ⟨v, rfl, HW.out⟩
  · have hE : over203 e = { inquire { { e with r203 := false } with tries := 0 } with state := 8 } := by simp [over203, timeout1, hs]
    rw [hE]
    rw [hs] at c1
    have HS := Aside0.mk hs
    clear hs hE hr
    obtain ⟨A1, ca1, ⟨d0, d1, d2, d3, d4, d5, d6, d7, d8⟩, g0, g1, g2, g3, g4, g8⟩ := entAt.cells HW1.out
    have HS1 := HS.out
    rw [show ({ e with r203 := false } : E).state = 7 from HS.out] at d1
    clear HS1
    go_enter Tryz.func54, Tryz.ntmps54
    go_wp2_with fail
    refine (inquireC b mb fb ({ { e with r203 := false } with tries := 0 })  (Nat.le_trans hl (by omega)) T w0 _ (entAt.setTries HW1.out 0 ⟨Int.le_refl 0, Int.le_trans (by decide) HOK.out.1.most.1⟩)).mono ?_
    rintro r w1 ⟨rfl, hw⟩
    clear c0 c1 c2 c3 c4 c5 c6 c7 c8 f0 f1 f2 f3 f4 f8
    obtain ⟨A, ca, ⟨c0, c1, c2, c3, c4, c5, c6, c7, c8⟩, f0, f1, f2, f3, f4, f8⟩ := entAt.cells hw
    have HW := Aside0.mk hw
    clear hw
    go_wp2_with fail
    refine (doneC b mb fb ({ inquire ({ { e with r203 := false } with tries := 0 }) with state := 8 }) T w0 _ (entAt.setState HW.out 8 (by decide))).mono ?_
    rintro r w2 ⟨v, rfl, hw⟩
    have HW := Aside0.mk hw
    clear hw
    clear c0 c1 c2 c3 c4 c5 c6 c7 c8 f0 f1 f2 f3 f4 f8
    go_wp2
    go_ret
    exact ⟨v, rfl, HW.out⟩
  · by_cases ht : e.tries = e.most
    · have hE : over203 e = anew ({ e with r203 := false }) ⟨#[73]⟩ := by simp [over203, timeout1, hs, ht]
      rw [hE]
      rw [hs] at c1
      have HS := Aside0.mk hs
      clear hs hE hr
      have hb0 : (e.tries == e.most) = true := by rw [beq_iff_eq]; exact ht
      clear ht
      obtain ⟨A1, ca1, ⟨d0, d1, d2, d3, d4, d5, d6, d7, d8⟩, g0, g1, g2, g3, g4, g8⟩ := entAt.cells HW1.out
      have HS1 := HS.out
      rw [show ({ e with r203 := false } : E).state = 8 from HS.out] at d1
      clear HS1
      go_enter Tryz.func54, Tryz.ntmps54
      go_wp2_with fail
      go_quiet (fail)
      have hw := HW1.out.drewN nq
      clear c0 c1 c2 c3 c4 c5 c6 c7 c8 f0 f1 f2 f3 f4 f8
      obtain ⟨A, ca, ⟨c0, c1, c2, c3, c4, c5, c6, c7, c8⟩, f0, f1, f2, f3, f4, f8⟩ := entAt.cells hw
      have HW := Aside0.mk hw
      clear d0 d1 d2 d3 d4 d5 d6 d7 d8 g0 g1 g2 g3 g4 g8 hrun hlk
      generalize w1.drewN nq = wx at *
      clear hw
      go_wp2_with fail
      refine (anewC b mb fb ({ e with r203 := false }) ⟨#[73]⟩ (Nat.le_trans hl (by omega)) T w0 _ HW.out).mono ?_
      rintro r w1 ⟨rfl, hw⟩
      clear c0 c1 c2 c3 c4 c5 c6 c7 c8 f0 f1 f2 f3 f4 f8
      obtain ⟨A, ca, ⟨c0, c1, c2, c3, c4, c5, c6, c7, c8⟩, f0, f1, f2, f3, f4, f8⟩ := entAt.cells hw
      have HW := Aside0.mk hw
      clear hw
      go_wp2_with fail
      refine (doneC b mb fb (anew ({ e with r203 := false }) ⟨#[73]⟩) T w0 _ HW.out).mono ?_
      rintro r w2 ⟨v, rfl, hw⟩
      have HW := Aside0.mk hw
      clear hw
      clear c0 c1 c2 c3 c4 c5 c6 c7 c8 f0 f1 f2 f3 f4 f8
      go_wp2
      go_ret
      exact ⟨v, rfl, HW.out⟩
    · have hE : over203 e = inquire { { e with r203 := false } with tries := e.tries + 1 } := by simp [over203, timeout1, hs, ht]
      rw [hE]
      rw [hs] at c1
      have HS := Aside0.mk hs
      clear hs hE hr
      have hb0 : (e.tries == e.most) = false := by rw [beq_eq_false_iff_ne]; exact ht
      have ht1 := HOK.out.1.tries
      have ht2 := HOK.out.1.most
      have HT3 : Aside0 (0 ≤ e.tries + 1 ∧ e.tries + 1 ≤ e.most) := ⟨by omega⟩
      clear ht
      obtain ⟨A1, ca1, ⟨d0, d1, d2, d3, d4, d5, d6, d7, d8⟩, g0, g1, g2, g3, g4, g8⟩ := entAt.cells HW1.out
      have HS1 := HS.out
      rw [show ({ e with r203 := false } : E).state = 8 from HS.out] at d1
      clear HS1
      go_enter Tryz.func54, Tryz.ntmps54
      go_wp2_with fail
      go_quiet (fail)
      have hw := HW1.out.drewN nq
      clear c0 c1 c2 c3 c4 c5 c6 c7 c8 f0 f1 f2 f3 f4 f8
      obtain ⟨A, ca, ⟨c0, c1, c2, c3, c4, c5, c6, c7, c8⟩, f0, f1, f2, f3, f4, f8⟩ := entAt.cells hw
      have HW := Aside0.mk hw
      clear d0 d1 d2 d3 d4 d5 d6 d7 d8 g0 g1 g2 g3 g4 g8 hrun hlk
      generalize w1.drewN nq = wx at *
      clear hw
      go_wp2_with fail
      refine (inquireC b mb fb ({ { e with r203 := false } with tries := (e.tries + 1) })  (Nat.le_trans hl (by omega)) T w0 _ (entAt.setTries HW.out (e.tries + 1) HT3.out)).mono ?_
      rintro r w1 ⟨rfl, hw⟩
      clear c0 c1 c2 c3 c4 c5 c6 c7 c8 f0 f1 f2 f3 f4 f8
      obtain ⟨A, ca, ⟨c0, c1, c2, c3, c4, c5, c6, c7, c8⟩, f0, f1, f2, f3, f4, f8⟩ := entAt.cells hw
      have HW := Aside0.mk hw
      clear hw
      go_wp2_with fail
      refine (doneC b mb fb (inquire ({ { e with r203 := false } with tries := (e.tries + 1) })) T w0 _ HW.out).mono ?_
      rintro r w2 ⟨v, rfl, hw⟩
      have HW := Aside0.mk hw
      clear hw
      clear c0 c1 c2 c3 c4 c5 c6 c7 c8 f0 f1 f2 f3 f4 f8
      go_wp2
      go_ret
      exact ⟨v, rfl, HW.out⟩
end Go.Proofs.YtljnfbpplhnmfaaGreatDoor.En
namespace Go.Proofs.YtljnfbpplhnmfaaGreatDoor.Fm
open Go Go.RowKit Go.Proofs.YtljnfbpplhnmfaaGreatDoorW.PrintWords Go.Proofs.YtljnfbpplhnmfaaGreatDoorW.PrintLast Go.Proofs.YtljnfbpplhnmfaaGreatDoorW.PrintMore Go.Proofs.YtljnfbpplhnmfaaGreatDoor.Md
set_option linter.unusedVariables false
set_option maxRecDepth 1000000
theorem ia0 (w : World) : (Instr.index 219 (.agg #[.int .i64 0, .int .i64 4, .int .i64 6, .int .i64 7]) (.int .i64 0)).run Tryz.prog w = .ok (.int .i64 0) w := by kernel_rfl
theorem ia1 (w : World) : (Instr.index 219 (.agg #[.int .i64 0, .int .i64 4, .int .i64 6, .int .i64 7]) (.int .i64 1)).run Tryz.prog w = .ok (.int .i64 4) w := by kernel_rfl
theorem ia2 (w : World) : (Instr.index 219 (.agg #[.int .i64 0, .int .i64 4, .int .i64 6, .int .i64 7]) (.int .i64 2)).run Tryz.prog w = .ok (.int .i64 6) w := by kernel_rfl
theorem ia3 (w : World) : (Instr.index 219 (.agg #[.int .i64 0, .int .i64 4, .int .i64 6, .int .i64 7]) (.int .i64 3)).run Tryz.prog w = .ok (.int .i64 7) w := by kernel_rfl
theorem ib0 (w : World) : (Instr.index 220 (.agg #[.int .i64 5, .int .i64 8, .int .i64 9]) (.int .i64 0)).run Tryz.prog w = .ok (.int .i64 5) w := by kernel_rfl
theorem ib1 (w : World) : (Instr.index 220 (.agg #[.int .i64 5, .int .i64 8, .int .i64 9]) (.int .i64 1)).run Tryz.prog w = .ok (.int .i64 8) w := by kernel_rfl
theorem ib2 (w : World) : (Instr.index 220 (.agg #[.int .i64 5, .int .i64 8, .int .i64 9]) (.int .i64 2)).run Tryz.prog w = .ok (.int .i64 9) w := by kernel_rfl
theorem may0 (w : World) : Calls Tryz.prog 87 #[.int .i64 0, .bool true] w fun e w' => e = .returned (.bool true) ∧ w = w' := by
  go_enter Tryz.func87, Tryz.ntmps87
  have i0 := ia0
  have i1 := ia1
  have i2 := ia2
  have i3 := ia3
  have j0 := ib0
  have j1 := ib1
  have j2 := ib2
  go_wp2_with fail
  refine wp_loop_rounds 1 ?_
  rw [rounds_succ]
  go_wp2_with fail
  go_ret
  trivial
theorem may1 (c : Bool) (w : World) : Calls Tryz.prog 87 #[.int .i64 1, .bool c] w fun e w' => e = .returned (.bool true) ∧ w = w' := by
  go_enter Tryz.func87, Tryz.ntmps87
  have i0 := ia0
  have i1 := ia1
  have i2 := ia2
  have i3 := ia3
  have j0 := ib0
  have j1 := ib1
  have j2 := ib2
  go_wp2_with fail
  refine wp_loop_rounds 5 ?_
  rw [rounds_succ]
  go_wp2_with fail
  rw [rounds_succ]
  go_wp2_with fail
  rw [rounds_succ]
  go_wp2_with fail
  rw [rounds_succ]
  go_wp2_with fail
  rw [rounds_succ]
  go_wp2_with fail
  refine wp_loop_rounds 4 ?_
  rw [rounds_succ]
  go_wp2_with fail
  rw [rounds_succ]
  go_wp2_with fail
  rw [rounds_succ]
  go_wp2_with fail
  rw [rounds_succ]
  go_wp2_with fail
  refine (Go.Proofs.YtljnfbpplhnmfaaGreatDoor.En.numC 1 w).mono ?_
  rintro e w1 ⟨rfl, rfl⟩
  rw [show numbered 1 = true from by decide]
  go_wp2
  go_ret
  trivial
theorem may2 (c : Bool) (w : World) : Calls Tryz.prog 87 #[.int .i64 2, .bool c] w fun e w' => e = .returned (.bool true) ∧ w = w' := by
  go_enter Tryz.func87, Tryz.ntmps87
  have i0 := ia0
  have i1 := ia1
  have i2 := ia2
  have i3 := ia3
  have j0 := ib0
  have j1 := ib1
  have j2 := ib2
  go_wp2_with fail
  refine wp_loop_rounds 5 ?_
  rw [rounds_succ]
  go_wp2_with fail
  rw [rounds_succ]
  go_wp2_with fail
  rw [rounds_succ]
  go_wp2_with fail
  rw [rounds_succ]
  go_wp2_with fail
  rw [rounds_succ]
  go_wp2_with fail
  refine wp_loop_rounds 4 ?_
  rw [rounds_succ]
  go_wp2_with fail
  rw [rounds_succ]
  go_wp2_with fail
  rw [rounds_succ]
  go_wp2_with fail
  rw [rounds_succ]
  go_wp2_with fail
  refine (Go.Proofs.YtljnfbpplhnmfaaGreatDoor.En.numC 2 w).mono ?_
  rintro e w1 ⟨rfl, rfl⟩
  rw [show numbered 2 = true from by decide]
  go_wp2
  go_ret
  trivial
theorem may3 (c : Bool) (w : World) : Calls Tryz.prog 87 #[.int .i64 3, .bool c] w fun e w' => e = .returned (.bool true) ∧ w = w' := by
  go_enter Tryz.func87, Tryz.ntmps87
  have i0 := ia0
  have i1 := ia1
  have i2 := ia2
  have i3 := ia3
  have j0 := ib0
  have j1 := ib1
  have j2 := ib2
  go_wp2_with fail
  refine wp_loop_rounds 5 ?_
  rw [rounds_succ]
  go_wp2_with fail
  rw [rounds_succ]
  go_wp2_with fail
  rw [rounds_succ]
  go_wp2_with fail
  rw [rounds_succ]
  go_wp2_with fail
  rw [rounds_succ]
  go_wp2_with fail
  refine wp_loop_rounds 4 ?_
  rw [rounds_succ]
  go_wp2_with fail
  rw [rounds_succ]
  go_wp2_with fail
  rw [rounds_succ]
  go_wp2_with fail
  rw [rounds_succ]
  go_wp2_with fail
  refine (Go.Proofs.YtljnfbpplhnmfaaGreatDoor.En.numC 3 w).mono ?_
  rintro e w1 ⟨rfl, rfl⟩
  rw [show numbered 3 = true from by decide]
  go_wp2
  go_ret
  trivial
theorem may4 (w : World) : Calls Tryz.prog 87 #[.int .i64 4, .bool true] w fun e w' => e = .returned (.bool true) ∧ w = w' := by
  go_enter Tryz.func87, Tryz.ntmps87
  have i0 := ia0
  have i1 := ia1
  have i2 := ia2
  have i3 := ia3
  have j0 := ib0
  have j1 := ib1
  have j2 := ib2
  go_wp2_with fail
  refine wp_loop_rounds 2 ?_
  rw [rounds_succ]
  go_wp2_with fail
  rw [rounds_succ]
  go_wp2_with fail
  go_ret
  trivial
theorem may5 (w : World) : Calls Tryz.prog 87 #[.int .i64 5, .bool false] w fun e w' => e = .returned (.bool true) ∧ w = w' := by
  go_enter Tryz.func87, Tryz.ntmps87
  have i0 := ia0
  have i1 := ia1
  have i2 := ia2
  have i3 := ia3
  have j0 := ib0
  have j1 := ib1
  have j2 := ib2
  go_wp2_with fail
  refine wp_loop_rounds 5 ?_
  rw [rounds_succ]
  go_wp2_with fail
  rw [rounds_succ]
  go_wp2_with fail
  rw [rounds_succ]
  go_wp2_with fail
  rw [rounds_succ]
  go_wp2_with fail
  rw [rounds_succ]
  go_wp2_with fail
  refine wp_loop_rounds 1 ?_
  rw [rounds_succ]
  go_wp2_with fail
  go_ret
  trivial
theorem may6 (w : World) : Calls Tryz.prog 87 #[.int .i64 6, .bool true] w fun e w' => e = .returned (.bool true) ∧ w = w' := by
  go_enter Tryz.func87, Tryz.ntmps87
  have i0 := ia0
  have i1 := ia1
  have i2 := ia2
  have i3 := ia3
  have j0 := ib0
  have j1 := ib1
  have j2 := ib2
  go_wp2_with fail
  refine wp_loop_rounds 3 ?_
  rw [rounds_succ]
  go_wp2_with fail
  rw [rounds_succ]
  go_wp2_with fail
  rw [rounds_succ]
  go_wp2_with fail
  go_ret
  trivial
theorem may7 (w : World) : Calls Tryz.prog 87 #[.int .i64 7, .bool true] w fun e w' => e = .returned (.bool true) ∧ w = w' := by
  go_enter Tryz.func87, Tryz.ntmps87
  have i0 := ia0
  have i1 := ia1
  have i2 := ia2
  have i3 := ia3
  have j0 := ib0
  have j1 := ib1
  have j2 := ib2
  go_wp2_with fail
  refine wp_loop_rounds 4 ?_
  rw [rounds_succ]
  go_wp2_with fail
  rw [rounds_succ]
  go_wp2_with fail
  rw [rounds_succ]
  go_wp2_with fail
  rw [rounds_succ]
  go_wp2_with fail
  go_ret
  trivial
theorem may8 (w : World) : Calls Tryz.prog 87 #[.int .i64 8, .bool false] w fun e w' => e = .returned (.bool true) ∧ w = w' := by
  go_enter Tryz.func87, Tryz.ntmps87
  have i0 := ia0
  have i1 := ia1
  have i2 := ia2
  have i3 := ia3
  have j0 := ib0
  have j1 := ib1
  have j2 := ib2
  go_wp2_with fail
  refine wp_loop_rounds 5 ?_
  rw [rounds_succ]
  go_wp2_with fail
  rw [rounds_succ]
  go_wp2_with fail
  rw [rounds_succ]
  go_wp2_with fail
  rw [rounds_succ]
  go_wp2_with fail
  rw [rounds_succ]
  go_wp2_with fail
  refine wp_loop_rounds 2 ?_
  rw [rounds_succ]
  go_wp2_with fail
  rw [rounds_succ]
  go_wp2_with fail
  go_ret
  trivial
end Go.Proofs.YtljnfbpplhnmfaaGreatDoor.Fm
namespace Go.Proofs.YtljnfbpplhnmfaaGreatDoorX
end Go.Proofs.YtljnfbpplhnmfaaGreatDoorX
namespace Go.Proofs.YtljnfbpplhnmfaaGreatDoorX
open Go.RowKit Go.Proofs.YtljnfbpplhnmfaaGreatDoorW.PrintWords
def glNames : List ByteArray := [⟨#[73]⟩, ⟨#[82, 82]⟩, ⟨#[82, 78, 82]⟩, ⟨#[82, 69, 74]⟩, ⟨#[83, 65, 66, 77, 69]⟩, ⟨#[68, 77]⟩, ⟨#[85, 73]⟩, ⟨#[68, 73, 83, 67]⟩, ⟨#[85, 65]⟩, ⟨#[70, 82, 77, 82]⟩]
end Go.Proofs.YtljnfbpplhnmfaaGreatDoorX
