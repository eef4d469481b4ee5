/- Package entity by its own text: inAssigned, inReleasing, inConnecting. Conditions: sizes. -/
import Derived.Deep.LoopGhost
import Derived.Test.YtljnfbpplhnmfaaGreatDoorUs04
import Derived.Test.YtljnfbpplhnmfaaGreatDoorUs06
namespace Go.Proofs.YtljnfbpplhnmfaaGreatDoor.En
open Go Go.RowKit Go.Proofs.YtljnfbpplhnmfaaGreatDoorW.PrintWords Go.Proofs.YtljnfbpplhnmfaaGreatDoorW.PrintLast Go.Proofs.YtljnfbpplhnmfaaGreatDoorW.PrintMore Go.Proofs.YtljnfbpplhnmfaaGreatDoor.Str Go.Proofs.YtljnfbpplhnmfaaGreatDoor.Mp Go.Proofs.YtljnfbpplhnmfaaGreatDoor.Ra Go.Proofs.YtljnfbpplhnmfaaGreatDoor.Sl Go.Proofs.YtljnfbpplhnmfaaGreatDoor.Qu Go.Proofs.YtljnfbpplhnmfaaGreatDoor.Sq Go.Proofs.YtljnfbpplhnmfaaGreatDoor.Fl Go.Proofs.YtljnfbpplhnmfaaGreatDoor.Ru Go.Proofs.YtljnfbpplhnmfaaGreatDoor.Md
set_option linter.unusedVariables false
set_option linter.unusedSimpArgs false
set_option maxRecDepth 1000000
set_option maxHeartbeats 4000000
theorem inAssignedC (b mb fb : Nat) (e : E) (f : Fr) (hf : FrOk f) (hl : e.out.length ≤ 7000) (T : Nat → Prop) (w0 w : World) (h : Went (entAt b mb fb e) T w0 w) :
    Calls Tryz.prog 90 #[.pointer (some ⟨b, 0, none⟩), .agg (frCells f)] w fun r w' => r = .returned (.tuple #[]) ∧ Went (entAt b mb fb (inAssigned e f)) T w0 w' := by
  have HOK := Aside0.mk (entAt.ok h)
  obtain ⟨A, ca, ⟨c0, c1, c2, c3, c4, c5, c6, c7, c8⟩, f0, f1, f2, f3, f4, f8⟩ := entAt.cells h
  have HW := Aside0.mk h
  clear h
  obtain ⟨t, c, k, p, ns, nr, s⟩ := f
  have hk := hf.kind
  simp only at hk
  clear hf
  rcases hk with ⟨rfl, rfl⟩ | rfl | rfl | rfl | ⟨rfl, rfl⟩ | ⟨rfl, rfl⟩ | ⟨rfl, rfl⟩ | ⟨rfl, rfl⟩ | ⟨rfl, rfl⟩
  · unfold frCells
    have hbx := heap_alloc_new w (.cells #[.int .i64 0, .int .i64 t, .bool true, .int .i64 0, .bool p, .int .i64 ns, .int .i64 nr, .string s] 144 (0, 0))
    have hw := HW.out.alloc (.cells #[.int .i64 0, .int .i64 t, .bool true, .int .i64 0, .bool p, .int .i64 ns, .int .i64 nr, .string s] 144 (0, 0))
    clear c0 c1 c2 c3 c4 c5 c6 c7 c8 f0 f1 f2 f3 f4 f8
    obtain ⟨A, ca, ⟨c0, c1, c2, c3, c4, c5, c6, c7, c8⟩, f0, f1, f2, f3, f4, f8⟩ := entAt.cells hw
    obtain ⟨⟨b0, b1, b2, b3, b4, b5, b6, b7⟩, _⟩ := cells8 hbx
    have HW := Aside0.mk hw
    clear hbx hw
    rw [show inAssigned e (⟨t, true, 0, p, ns, nr, s⟩ : Fr) = e from by simp [inAssigned]]
    go_enter Tryz.func90, Tryz.ntmps90
    go_wp2
    go_end0
    exact ⟨rfl, HW.out⟩
  · unfold frCells
    have hbx := heap_alloc_new w (.cells #[.int .i64 0, .int .i64 t, .bool c, .int .i64 1, .bool p, .int .i64 ns, .int .i64 nr, .string s] 144 (0, 0))
    have hw := HW.out.alloc (.cells #[.int .i64 0, .int .i64 t, .bool c, .int .i64 1, .bool p, .int .i64 ns, .int .i64 nr, .string s] 144 (0, 0))
    clear c0 c1 c2 c3 c4 c5 c6 c7 c8 f0 f1 f2 f3 f4 f8
    obtain ⟨A, ca, ⟨c0, c1, c2, c3, c4, c5, c6, c7, c8⟩, f0, f1, f2, f3, f4, f8⟩ := entAt.cells hw
    obtain ⟨⟨b0, b1, b2, b3, b4, b5, b6, b7⟩, _⟩ := cells8 hbx
    have HW := Aside0.mk hw
    clear hbx hw
    rw [show inAssigned e (⟨t, c, 1, p, ns, nr, s⟩ : Fr) = e from by simp [inAssigned]]
    go_enter Tryz.func90, Tryz.ntmps90
    go_wp2
    go_end0
    exact ⟨rfl, HW.out⟩
  · unfold frCells
    have hbx := heap_alloc_new w (.cells #[.int .i64 0, .int .i64 t, .bool c, .int .i64 2, .bool p, .int .i64 ns, .int .i64 nr, .string s] 144 (0, 0))
    have hw := HW.out.alloc (.cells #[.int .i64 0, .int .i64 t, .bool c, .int .i64 2, .bool p, .int .i64 ns, .int .i64 nr, .string s] 144 (0, 0))
    clear c0 c1 c2 c3 c4 c5 c6 c7 c8 f0 f1 f2 f3 f4 f8
    obtain ⟨A, ca, ⟨c0, c1, c2, c3, c4, c5, c6, c7, c8⟩, f0, f1, f2, f3, f4, f8⟩ := entAt.cells hw
    obtain ⟨⟨b0, b1, b2, b3, b4, b5, b6, b7⟩, _⟩ := cells8 hbx
    have HW := Aside0.mk hw
    clear hbx hw
    rw [show inAssigned e (⟨t, c, 2, p, ns, nr, s⟩ : Fr) = e from by simp [inAssigned]]
    go_enter Tryz.func90, Tryz.ntmps90
    go_wp2
    go_end0
    exact ⟨rfl, HW.out⟩
  · unfold frCells
    have hbx := heap_alloc_new w (.cells #[.int .i64 0, .int .i64 t, .bool c, .int .i64 3, .bool p, .int .i64 ns, .int .i64 nr, .string s] 144 (0, 0))
    have hw := HW.out.alloc (.cells #[.int .i64 0, .int .i64 t, .bool c, .int .i64 3, .bool p, .int .i64 ns, .int .i64 nr, .string s] 144 (0, 0))
    clear c0 c1 c2 c3 c4 c5 c6 c7 c8 f0 f1 f2 f3 f4 f8
    obtain ⟨A, ca, ⟨c0, c1, c2, c3, c4, c5, c6, c7, c8⟩, f0, f1, f2, f3, f4, f8⟩ := entAt.cells hw
    obtain ⟨⟨b0, b1, b2, b3, b4, b5, b6, b7⟩, _⟩ := cells8 hbx
    have HW := Aside0.mk hw
    clear hbx hw
    rw [show inAssigned e (⟨t, c, 3, p, ns, nr, s⟩ : Fr) = e from by simp [inAssigned]]
    go_enter Tryz.func90, Tryz.ntmps90
    go_wp2
    go_end0
    exact ⟨rfl, HW.out⟩
  · unfold frCells
    have hbx := heap_alloc_new w (.cells #[.int .i64 0, .int .i64 t, .bool true, .int .i64 4, .bool p, .int .i64 ns, .int .i64 nr, .string s] 144 (0, 0))
    have hw := HW.out.alloc (.cells #[.int .i64 0, .int .i64 t, .bool true, .int .i64 4, .bool p, .int .i64 ns, .int .i64 nr, .string s] 144 (0, 0))
    clear c0 c1 c2 c3 c4 c5 c6 c7 c8 f0 f1 f2 f3 f4 f8
    obtain ⟨A, ca, ⟨c0, c1, c2, c3, c4, c5, c6, c7, c8⟩, f0, f1, f2, f3, f4, f8⟩ := entAt.cells hw
    obtain ⟨⟨b0, b1, b2, b3, b4, b5, b6, b7⟩, _⟩ := cells8 hbx
    have HW := Aside0.mk hw
    clear hbx hw
    rw [show inAssigned e (⟨t, true, 4, p, ns, nr, s⟩ : Fr) = open_ (told (send e 8 false p) 1 nil8) from by simp [inAssigned]]
    go_enter Tryz.func90, Tryz.ntmps90
    go_wp2_with fail
    refine (replyC b mb fb (e) 8 ⟨t, true, 4, p, ns, nr, s⟩ (Nat.le_trans hl (by omega)) T w0 _ HW.out).mono ?_
    rintro r w1 ⟨rfl, hw⟩
    clear c0 c1 c2 c3 c4 c5 c6 c7 c8 f0 f1 f2 f3 f4 f8
    obtain ⟨A, ca, ⟨c0, c1, c2, c3, c4, c5, c6, c7, c8⟩, f0, f1, f2, f3, f4, f8⟩ := entAt.cells hw
    have HW := Aside0.mk hw
    clear hw
    go_wp2_with fail
    refine (toldC b mb fb (send (e) 8 false p) 1 nil8 (Nat.le_trans (len_send (hl)) (by omega)) T w0 _ HW.out).mono ?_
    rintro r w2 ⟨rfl, hw⟩
    clear c0 c1 c2 c3 c4 c5 c6 c7 c8 f0 f1 f2 f3 f4 f8
    obtain ⟨A, ca, ⟨c0, c1, c2, c3, c4, c5, c6, c7, c8⟩, f0, f1, f2, f3, f4, f8⟩ := entAt.cells hw
    have HW := Aside0.mk hw
    clear hw
    go_wp2_with fail
    refine (openC b mb fb (told (send (e) 8 false p) 1 nil8) (Nat.le_trans (len_told (len_send (hl))) (by omega)) T w0 _ HW.out).mono ?_
    rintro r w3 ⟨rfl, hw⟩
    clear c0 c1 c2 c3 c4 c5 c6 c7 c8 f0 f1 f2 f3 f4 f8
    obtain ⟨A, ca, ⟨c0, c1, c2, c3, c4, c5, c6, c7, c8⟩, f0, f1, f2, f3, f4, f8⟩ := entAt.cells hw
    have HW := Aside0.mk hw
    clear hw
    go_wp2
    go_end0
    exact ⟨rfl, HW.out⟩
  · cases p with
    | true =>
      unfold frCells
      have hbx := heap_alloc_new w (.cells #[.int .i64 0, .int .i64 t, .bool false, .int .i64 5, .bool true, .int .i64 ns, .int .i64 nr, .string s] 144 (0, 0))
      have hw := HW.out.alloc (.cells #[.int .i64 0, .int .i64 t, .bool false, .int .i64 5, .bool true, .int .i64 ns, .int .i64 nr, .string s] 144 (0, 0))
      clear c0 c1 c2 c3 c4 c5 c6 c7 c8 f0 f1 f2 f3 f4 f8
      obtain ⟨A, ca, ⟨c0, c1, c2, c3, c4, c5, c6, c7, c8⟩, f0, f1, f2, f3, f4, f8⟩ := entAt.cells hw
      obtain ⟨⟨b0, b1, b2, b3, b4, b5, b6, b7⟩, _⟩ := cells8 hbx
      have HW := Aside0.mk hw
      clear hbx hw
      rw [show inAssigned e (⟨t, false, 5, true, ns, nr, s⟩ : Fr) = e from by simp [inAssigned]]
      go_enter Tryz.func90, Tryz.ntmps90
      go_wp2
      go_end0
      exact ⟨rfl, HW.out⟩
    | false =>
      unfold frCells
      have hbx := heap_alloc_new w (.cells #[.int .i64 0, .int .i64 t, .bool false, .int .i64 5, .bool false, .int .i64 ns, .int .i64 nr, .string s] 144 (0, 0))
      have hw := HW.out.alloc (.cells #[.int .i64 0, .int .i64 t, .bool false, .int .i64 5, .bool false, .int .i64 ns, .int .i64 nr, .string s] 144 (0, 0))
      clear c0 c1 c2 c3 c4 c5 c6 c7 c8 f0 f1 f2 f3 f4 f8
      obtain ⟨A, ca, ⟨c0, c1, c2, c3, c4, c5, c6, c7, c8⟩, f0, f1, f2, f3, f4, f8⟩ := entAt.cells hw
      obtain ⟨⟨b0, b1, b2, b3, b4, b5, b6, b7⟩, _⟩ := cells8 hbx
      have HW := Aside0.mk hw
      clear hbx hw
      rw [show inAssigned e (⟨t, false, 5, false, ns, nr, s⟩ : Fr) = call { e with asked := true } from by simp [inAssigned]]
      go_enter Tryz.func90, Tryz.ntmps90
      go_wp2_with fail
      refine (callC b mb fb ({ e with asked := true })  (Nat.le_trans hl (by omega)) T w0 _ (entAt.setAsked HW.out true )).mono ?_
      rintro r w1 ⟨rfl, hw⟩
      clear c0 c1 c2 c3 c4 c5 c6 c7 c8 f0 f1 f2 f3 f4 f8
      obtain ⟨A, ca, ⟨c0, c1, c2, c3, c4, c5, c6, c7, c8⟩, f0, f1, f2, f3, f4, f8⟩ := entAt.cells hw
      have HW := Aside0.mk hw
      clear hw
      go_wp2
      go_end0
      exact ⟨rfl, HW.out⟩
  · unfold frCells
    have hbx := heap_alloc_new w (.cells #[.int .i64 0, .int .i64 t, .bool true, .int .i64 6, .bool p, .int .i64 ns, .int .i64 nr, .string s] 144 (0, 0))
    have hw := HW.out.alloc (.cells #[.int .i64 0, .int .i64 t, .bool true, .int .i64 6, .bool p, .int .i64 ns, .int .i64 nr, .string s] 144 (0, 0))
    clear c0 c1 c2 c3 c4 c5 c6 c7 c8 f0 f1 f2 f3 f4 f8
    obtain ⟨A, ca, ⟨c0, c1, c2, c3, c4, c5, c6, c7, c8⟩, f0, f1, f2, f3, f4, f8⟩ := entAt.cells hw
    obtain ⟨⟨b0, b1, b2, b3, b4, b5, b6, b7⟩, _⟩ := cells8 hbx
    have HW := Aside0.mk hw
    clear hbx hw
    rw [show inAssigned e (⟨t, true, 6, p, ns, nr, s⟩ : Fr) = e from by simp [inAssigned]]
    go_enter Tryz.func90, Tryz.ntmps90
    go_wp2
    go_end0
    exact ⟨rfl, HW.out⟩
  · unfold frCells
    have hbx := heap_alloc_new w (.cells #[.int .i64 0, .int .i64 t, .bool true, .int .i64 7, .bool p, .int .i64 ns, .int .i64 nr, .string s] 144 (0, 0))
    have hw := HW.out.alloc (.cells #[.int .i64 0, .int .i64 t, .bool true, .int .i64 7, .bool p, .int .i64 ns, .int .i64 nr, .string s] 144 (0, 0))
    clear c0 c1 c2 c3 c4 c5 c6 c7 c8 f0 f1 f2 f3 f4 f8
    obtain ⟨A, ca, ⟨c0, c1, c2, c3, c4, c5, c6, c7, c8⟩, f0, f1, f2, f3, f4, f8⟩ := entAt.cells hw
    obtain ⟨⟨b0, b1, b2, b3, b4, b5, b6, b7⟩, _⟩ := cells8 hbx
    have HW := Aside0.mk hw
    clear hbx hw
    rw [show inAssigned e (⟨t, true, 7, p, ns, nr, s⟩ : Fr) = send e 5 false p from by simp [inAssigned]]
    go_enter Tryz.func90, Tryz.ntmps90
    go_wp2_with fail
    refine (replyC b mb fb (e) 5 ⟨t, true, 7, p, ns, nr, s⟩ (Nat.le_trans hl (by omega)) T w0 _ HW.out).mono ?_
    rintro r w1 ⟨rfl, hw⟩
    clear c0 c1 c2 c3 c4 c5 c6 c7 c8 f0 f1 f2 f3 f4 f8
    obtain ⟨A, ca, ⟨c0, c1, c2, c3, c4, c5, c6, c7, c8⟩, f0, f1, f2, f3, f4, f8⟩ := entAt.cells hw
    have HW := Aside0.mk hw
    clear hw
    go_wp2
    go_end0
    exact ⟨rfl, HW.out⟩
  · unfold frCells
    have hbx := heap_alloc_new w (.cells #[.int .i64 0, .int .i64 t, .bool false, .int .i64 8, .bool p, .int .i64 ns, .int .i64 nr, .string s] 144 (0, 0))
    have hw := HW.out.alloc (.cells #[.int .i64 0, .int .i64 t, .bool false, .int .i64 8, .bool p, .int .i64 ns, .int .i64 nr, .string s] 144 (0, 0))
    clear c0 c1 c2 c3 c4 c5 c6 c7 c8 f0 f1 f2 f3 f4 f8
    obtain ⟨A, ca, ⟨c0, c1, c2, c3, c4, c5, c6, c7, c8⟩, f0, f1, f2, f3, f4, f8⟩ := entAt.cells hw
    obtain ⟨⟨b0, b1, b2, b3, b4, b5, b6, b7⟩, _⟩ := cells8 hbx
    have HW := Aside0.mk hw
    clear hbx hw
    rw [show inAssigned e (⟨t, false, 8, p, ns, nr, s⟩ : Fr) = strange e ⟨t, false, 8, p, ns, nr, s⟩ from by simp [inAssigned]]
    go_enter Tryz.func90, Tryz.ntmps90
    go_wp2_with fail
    refine (strangeC b mb fb (e) ⟨t, false, 8, p, ns, nr, s⟩ (Nat.le_trans hl (by omega)) T w0 _ HW.out).mono ?_
    rintro r w1 ⟨rfl, hw⟩
    clear c0 c1 c2 c3 c4 c5 c6 c7 c8 f0 f1 f2 f3 f4 f8
    obtain ⟨A, ca, ⟨c0, c1, c2, c3, c4, c5, c6, c7, c8⟩, f0, f1, f2, f3, f4, f8⟩ := entAt.cells hw
    have HW := Aside0.mk hw
    clear hw
    go_wp2
    go_end0
    exact ⟨rfl, HW.out⟩
theorem inReleasingC (b mb fb : Nat) (e : E) (f : Fr) (hf : FrOk f) (hl : e.out.length ≤ 7000) (T : Nat → Prop) (w0 w : World) (h : Went (entAt b mb fb e) T w0 w) :
    Calls Tryz.prog 92 #[.pointer (some ⟨b, 0, none⟩), .agg (frCells f)] w fun r w' => r = .returned (.tuple #[]) ∧ Went (entAt b mb fb (inReleasing e f)) T w0 w' := by
  have HOK := Aside0.mk (entAt.ok h)
  obtain ⟨A, ca, ⟨c0, c1, c2, c3, c4, c5, c6, c7, c8⟩, f0, f1, f2, f3, f4, f8⟩ := entAt.cells h
  have HW := Aside0.mk h
  clear h
  obtain ⟨t, c, k, p, ns, nr, s⟩ := f
  have hk := hf.kind
  simp only at hk
  clear hf
  rcases hk with ⟨rfl, rfl⟩ | rfl | rfl | rfl | ⟨rfl, rfl⟩ | ⟨rfl, rfl⟩ | ⟨rfl, rfl⟩ | ⟨rfl, rfl⟩ | ⟨rfl, rfl⟩
  · cases p with
    | true =>
      unfold frCells
      have hbx := heap_alloc_new w (.cells #[.int .i64 0, .int .i64 t, .bool true, .int .i64 0, .bool true, .int .i64 ns, .int .i64 nr, .string s] 144 (0, 0))
      have hw := HW.out.alloc (.cells #[.int .i64 0, .int .i64 t, .bool true, .int .i64 0, .bool true, .int .i64 ns, .int .i64 nr, .string s] 144 (0, 0))
      clear c0 c1 c2 c3 c4 c5 c6 c7 c8 f0 f1 f2 f3 f4 f8
      obtain ⟨A, ca, ⟨c0, c1, c2, c3, c4, c5, c6, c7, c8⟩, f0, f1, f2, f3, f4, f8⟩ := entAt.cells hw
      obtain ⟨⟨b0, b1, b2, b3, b4, b5, b6, b7⟩, _⟩ := cells8 hbx
      have HW := Aside0.mk hw
      clear hbx hw
      rw [show inReleasing e (⟨t, true, 0, true, ns, nr, s⟩ : Fr) = e from by simp [inReleasing]]
      go_enter Tryz.func92, Tryz.ntmps92
      go_wp2
      go_end0
      exact ⟨rfl, HW.out⟩
    | false =>
      unfold frCells
      have hbx := heap_alloc_new w (.cells #[.int .i64 0, .int .i64 t, .bool true, .int .i64 0, .bool false, .int .i64 ns, .int .i64 nr, .string s] 144 (0, 0))
      have hw := HW.out.alloc (.cells #[.int .i64 0, .int .i64 t, .bool true, .int .i64 0, .bool false, .int .i64 ns, .int .i64 nr, .string s] 144 (0, 0))
      clear c0 c1 c2 c3 c4 c5 c6 c7 c8 f0 f1 f2 f3 f4 f8
      obtain ⟨A, ca, ⟨c0, c1, c2, c3, c4, c5, c6, c7, c8⟩, f0, f1, f2, f3, f4, f8⟩ := entAt.cells hw
      obtain ⟨⟨b0, b1, b2, b3, b4, b5, b6, b7⟩, _⟩ := cells8 hbx
      have HW := Aside0.mk hw
      clear hbx hw
      rw [show inReleasing e (⟨t, true, 0, false, ns, nr, s⟩ : Fr) = e from by simp [inReleasing]]
      go_enter Tryz.func92, Tryz.ntmps92
      go_wp2
      go_end0
      exact ⟨rfl, HW.out⟩
  · cases p with
    | true =>
      unfold frCells
      have hbx := heap_alloc_new w (.cells #[.int .i64 0, .int .i64 t, .bool c, .int .i64 1, .bool true, .int .i64 ns, .int .i64 nr, .string s] 144 (0, 0))
      have hw := HW.out.alloc (.cells #[.int .i64 0, .int .i64 t, .bool c, .int .i64 1, .bool true, .int .i64 ns, .int .i64 nr, .string s] 144 (0, 0))
      clear c0 c1 c2 c3 c4 c5 c6 c7 c8 f0 f1 f2 f3 f4 f8
      obtain ⟨A, ca, ⟨c0, c1, c2, c3, c4, c5, c6, c7, c8⟩, f0, f1, f2, f3, f4, f8⟩ := entAt.cells hw
      obtain ⟨⟨b0, b1, b2, b3, b4, b5, b6, b7⟩, _⟩ := cells8 hbx
      have HW := Aside0.mk hw
      clear hbx hw
      rw [show inReleasing e (⟨t, c, 1, true, ns, nr, s⟩ : Fr) = e from by simp [inReleasing]]
      go_enter Tryz.func92, Tryz.ntmps92
      go_wp2
      go_end0
      exact ⟨rfl, HW.out⟩
    | false =>
      unfold frCells
      have hbx := heap_alloc_new w (.cells #[.int .i64 0, .int .i64 t, .bool c, .int .i64 1, .bool false, .int .i64 ns, .int .i64 nr, .string s] 144 (0, 0))
      have hw := HW.out.alloc (.cells #[.int .i64 0, .int .i64 t, .bool c, .int .i64 1, .bool false, .int .i64 ns, .int .i64 nr, .string s] 144 (0, 0))
      clear c0 c1 c2 c3 c4 c5 c6 c7 c8 f0 f1 f2 f3 f4 f8
      obtain ⟨A, ca, ⟨c0, c1, c2, c3, c4, c5, c6, c7, c8⟩, f0, f1, f2, f3, f4, f8⟩ := entAt.cells hw
      obtain ⟨⟨b0, b1, b2, b3, b4, b5, b6, b7⟩, _⟩ := cells8 hbx
      have HW := Aside0.mk hw
      clear hbx hw
      rw [show inReleasing e (⟨t, c, 1, false, ns, nr, s⟩ : Fr) = e from by simp [inReleasing]]
      go_enter Tryz.func92, Tryz.ntmps92
      go_wp2
      go_end0
      exact ⟨rfl, HW.out⟩
  · cases p with
    | true =>
      unfold frCells
      have hbx := heap_alloc_new w (.cells #[.int .i64 0, .int .i64 t, .bool c, .int .i64 2, .bool true, .int .i64 ns, .int .i64 nr, .string s] 144 (0, 0))
      have hw := HW.out.alloc (.cells #[.int .i64 0, .int .i64 t, .bool c, .int .i64 2, .bool true, .int .i64 ns, .int .i64 nr, .string s] 144 (0, 0))
      clear c0 c1 c2 c3 c4 c5 c6 c7 c8 f0 f1 f2 f3 f4 f8
      obtain ⟨A, ca, ⟨c0, c1, c2, c3, c4, c5, c6, c7, c8⟩, f0, f1, f2, f3, f4, f8⟩ := entAt.cells hw
      obtain ⟨⟨b0, b1, b2, b3, b4, b5, b6, b7⟩, _⟩ := cells8 hbx
      have HW := Aside0.mk hw
      clear hbx hw
      rw [show inReleasing e (⟨t, c, 2, true, ns, nr, s⟩ : Fr) = e from by simp [inReleasing]]
      go_enter Tryz.func92, Tryz.ntmps92
      go_wp2
      go_end0
      exact ⟨rfl, HW.out⟩
    | false =>
      unfold frCells
      have hbx := heap_alloc_new w (.cells #[.int .i64 0, .int .i64 t, .bool c, .int .i64 2, .bool false, .int .i64 ns, .int .i64 nr, .string s] 144 (0, 0))
      have hw := HW.out.alloc (.cells #[.int .i64 0, .int .i64 t, .bool c, .int .i64 2, .bool false, .int .i64 ns, .int .i64 nr, .string s] 144 (0, 0))
      clear c0 c1 c2 c3 c4 c5 c6 c7 c8 f0 f1 f2 f3 f4 f8
      obtain ⟨A, ca, ⟨c0, c1, c2, c3, c4, c5, c6, c7, c8⟩, f0, f1, f2, f3, f4, f8⟩ := entAt.cells hw
      obtain ⟨⟨b0, b1, b2, b3, b4, b5, b6, b7⟩, _⟩ := cells8 hbx
      have HW := Aside0.mk hw
      clear hbx hw
      rw [show inReleasing e (⟨t, c, 2, false, ns, nr, s⟩ : Fr) = e from by simp [inReleasing]]
      go_enter Tryz.func92, Tryz.ntmps92
      go_wp2
      go_end0
      exact ⟨rfl, HW.out⟩
  · cases p with
    | true =>
      unfold frCells
      have hbx := heap_alloc_new w (.cells #[.int .i64 0, .int .i64 t, .bool c, .int .i64 3, .bool true, .int .i64 ns, .int .i64 nr, .string s] 144 (0, 0))
      have hw := HW.out.alloc (.cells #[.int .i64 0, .int .i64 t, .bool c, .int .i64 3, .bool true, .int .i64 ns, .int .i64 nr, .string s] 144 (0, 0))
      clear c0 c1 c2 c3 c4 c5 c6 c7 c8 f0 f1 f2 f3 f4 f8
      obtain ⟨A, ca, ⟨c0, c1, c2, c3, c4, c5, c6, c7, c8⟩, f0, f1, f2, f3, f4, f8⟩ := entAt.cells hw
      obtain ⟨⟨b0, b1, b2, b3, b4, b5, b6, b7⟩, _⟩ := cells8 hbx
      have HW := Aside0.mk hw
      clear hbx hw
      rw [show inReleasing e (⟨t, c, 3, true, ns, nr, s⟩ : Fr) = e from by simp [inReleasing]]
      go_enter Tryz.func92, Tryz.ntmps92
      go_wp2
      go_end0
      exact ⟨rfl, HW.out⟩
    | false =>
      unfold frCells
      have hbx := heap_alloc_new w (.cells #[.int .i64 0, .int .i64 t, .bool c, .int .i64 3, .bool false, .int .i64 ns, .int .i64 nr, .string s] 144 (0, 0))
      have hw := HW.out.alloc (.cells #[.int .i64 0, .int .i64 t, .bool c, .int .i64 3, .bool false, .int .i64 ns, .int .i64 nr, .string s] 144 (0, 0))
      clear c0 c1 c2 c3 c4 c5 c6 c7 c8 f0 f1 f2 f3 f4 f8
      obtain ⟨A, ca, ⟨c0, c1, c2, c3, c4, c5, c6, c7, c8⟩, f0, f1, f2, f3, f4, f8⟩ := entAt.cells hw
      obtain ⟨⟨b0, b1, b2, b3, b4, b5, b6, b7⟩, _⟩ := cells8 hbx
      have HW := Aside0.mk hw
      clear hbx hw
      rw [show inReleasing e (⟨t, c, 3, false, ns, nr, s⟩ : Fr) = e from by simp [inReleasing]]
      go_enter Tryz.func92, Tryz.ntmps92
      go_wp2
      go_end0
      exact ⟨rfl, HW.out⟩
  · unfold frCells
    have hbx := heap_alloc_new w (.cells #[.int .i64 0, .int .i64 t, .bool true, .int .i64 4, .bool p, .int .i64 ns, .int .i64 nr, .string s] 144 (0, 0))
    have hw := HW.out.alloc (.cells #[.int .i64 0, .int .i64 t, .bool true, .int .i64 4, .bool p, .int .i64 ns, .int .i64 nr, .string s] 144 (0, 0))
    clear c0 c1 c2 c3 c4 c5 c6 c7 c8 f0 f1 f2 f3 f4 f8
    obtain ⟨A, ca, ⟨c0, c1, c2, c3, c4, c5, c6, c7, c8⟩, f0, f1, f2, f3, f4, f8⟩ := entAt.cells hw
    obtain ⟨⟨b0, b1, b2, b3, b4, b5, b6, b7⟩, _⟩ := cells8 hbx
    have HW := Aside0.mk hw
    clear hbx hw
    rw [show inReleasing e (⟨t, true, 4, p, ns, nr, s⟩ : Fr) = send e 5 false p from by simp [inReleasing]]
    go_enter Tryz.func92, Tryz.ntmps92
    go_wp2_with fail
    refine (replyC b mb fb (e) 5 ⟨t, true, 4, p, ns, nr, s⟩ (Nat.le_trans hl (by omega)) T w0 _ HW.out).mono ?_
    rintro r w1 ⟨rfl, hw⟩
    clear c0 c1 c2 c3 c4 c5 c6 c7 c8 f0 f1 f2 f3 f4 f8
    obtain ⟨A, ca, ⟨c0, c1, c2, c3, c4, c5, c6, c7, c8⟩, f0, f1, f2, f3, f4, f8⟩ := entAt.cells hw
    have HW := Aside0.mk hw
    clear hw
    go_wp2
    go_end0
    exact ⟨rfl, HW.out⟩
  · cases p with
    | true =>
      unfold frCells
      have hbx := heap_alloc_new w (.cells #[.int .i64 0, .int .i64 t, .bool false, .int .i64 5, .bool true, .int .i64 ns, .int .i64 nr, .string s] 144 (0, 0))
      have hw := HW.out.alloc (.cells #[.int .i64 0, .int .i64 t, .bool false, .int .i64 5, .bool true, .int .i64 ns, .int .i64 nr, .string s] 144 (0, 0))
      clear c0 c1 c2 c3 c4 c5 c6 c7 c8 f0 f1 f2 f3 f4 f8
      obtain ⟨A, ca, ⟨c0, c1, c2, c3, c4, c5, c6, c7, c8⟩, f0, f1, f2, f3, f4, f8⟩ := entAt.cells hw
      obtain ⟨⟨b0, b1, b2, b3, b4, b5, b6, b7⟩, _⟩ := cells8 hbx
      have HW := Aside0.mk hw
      clear hbx hw
      rw [show inReleasing e (⟨t, false, 5, true, ns, nr, s⟩ : Fr) = end_ (told e 4 nil8) from by simp [inReleasing]]
      go_enter Tryz.func92, Tryz.ntmps92
      go_wp2_with fail
      refine (toldC b mb fb (e) 4 nil8 (Nat.le_trans hl (by omega)) T w0 _ HW.out).mono ?_
      rintro r w1 ⟨rfl, hw⟩
      clear c0 c1 c2 c3 c4 c5 c6 c7 c8 f0 f1 f2 f3 f4 f8
      obtain ⟨A, ca, ⟨c0, c1, c2, c3, c4, c5, c6, c7, c8⟩, f0, f1, f2, f3, f4, f8⟩ := entAt.cells hw
      have HW := Aside0.mk hw
      clear hw
      go_wp2_with fail
      refine (endC b mb fb (told (e) 4 nil8)  (Nat.le_trans (len_told (hl)) (by omega)) T w0 _ HW.out).mono ?_
      rintro r w2 ⟨rfl, hw⟩
      clear c0 c1 c2 c3 c4 c5 c6 c7 c8 f0 f1 f2 f3 f4 f8
      obtain ⟨A, ca, ⟨c0, c1, c2, c3, c4, c5, c6, c7, c8⟩, f0, f1, f2, f3, f4, f8⟩ := entAt.cells hw
      have HW := Aside0.mk hw
      clear hw
      go_wp2
      go_end0
      exact ⟨rfl, HW.out⟩
    | false =>
      unfold frCells
      have hbx := heap_alloc_new w (.cells #[.int .i64 0, .int .i64 t, .bool false, .int .i64 5, .bool false, .int .i64 ns, .int .i64 nr, .string s] 144 (0, 0))
      have hw := HW.out.alloc (.cells #[.int .i64 0, .int .i64 t, .bool false, .int .i64 5, .bool false, .int .i64 ns, .int .i64 nr, .string s] 144 (0, 0))
      clear c0 c1 c2 c3 c4 c5 c6 c7 c8 f0 f1 f2 f3 f4 f8
      obtain ⟨A, ca, ⟨c0, c1, c2, c3, c4, c5, c6, c7, c8⟩, f0, f1, f2, f3, f4, f8⟩ := entAt.cells hw
      obtain ⟨⟨b0, b1, b2, b3, b4, b5, b6, b7⟩, _⟩ := cells8 hbx
      have HW := Aside0.mk hw
      clear hbx hw
      rw [show inReleasing e (⟨t, false, 5, false, ns, nr, s⟩ : Fr) = e from by simp [inReleasing]]
      go_enter Tryz.func92, Tryz.ntmps92
      go_wp2
      go_end0
      exact ⟨rfl, HW.out⟩
  · cases p with
    | true =>
      unfold frCells
      have hbx := heap_alloc_new w (.cells #[.int .i64 0, .int .i64 t, .bool true, .int .i64 6, .bool true, .int .i64 ns, .int .i64 nr, .string s] 144 (0, 0))
      have hw := HW.out.alloc (.cells #[.int .i64 0, .int .i64 t, .bool true, .int .i64 6, .bool true, .int .i64 ns, .int .i64 nr, .string s] 144 (0, 0))
      clear c0 c1 c2 c3 c4 c5 c6 c7 c8 f0 f1 f2 f3 f4 f8
      obtain ⟨A, ca, ⟨c0, c1, c2, c3, c4, c5, c6, c7, c8⟩, f0, f1, f2, f3, f4, f8⟩ := entAt.cells hw
      obtain ⟨⟨b0, b1, b2, b3, b4, b5, b6, b7⟩, _⟩ := cells8 hbx
      have HW := Aside0.mk hw
      clear hbx hw
      rw [show inReleasing e (⟨t, true, 6, true, ns, nr, s⟩ : Fr) = e from by simp [inReleasing]]
      go_enter Tryz.func92, Tryz.ntmps92
      go_wp2
      go_end0
      exact ⟨rfl, HW.out⟩
    | false =>
      unfold frCells
      have hbx := heap_alloc_new w (.cells #[.int .i64 0, .int .i64 t, .bool true, .int .i64 6, .bool false, .int .i64 ns, .int .i64 nr, .string s] 144 (0, 0))
      have hw := HW.out.alloc (.cells #[.int .i64 0, .int .i64 t, .bool true, .int .i64 6, .bool false, .int .i64 ns, .int .i64 nr, .string s] 144 (0, 0))
      clear c0 c1 c2 c3 c4 c5 c6 c7 c8 f0 f1 f2 f3 f4 f8
      obtain ⟨A, ca, ⟨c0, c1, c2, c3, c4, c5, c6, c7, c8⟩, f0, f1, f2, f3, f4, f8⟩ := entAt.cells hw
      obtain ⟨⟨b0, b1, b2, b3, b4, b5, b6, b7⟩, _⟩ := cells8 hbx
      have HW := Aside0.mk hw
      clear hbx hw
      rw [show inReleasing e (⟨t, true, 6, false, ns, nr, s⟩ : Fr) = e from by simp [inReleasing]]
      go_enter Tryz.func92, Tryz.ntmps92
      go_wp2
      go_end0
      exact ⟨rfl, HW.out⟩
  · unfold frCells
    have hbx := heap_alloc_new w (.cells #[.int .i64 0, .int .i64 t, .bool true, .int .i64 7, .bool p, .int .i64 ns, .int .i64 nr, .string s] 144 (0, 0))
    have hw := HW.out.alloc (.cells #[.int .i64 0, .int .i64 t, .bool true, .int .i64 7, .bool p, .int .i64 ns, .int .i64 nr, .string s] 144 (0, 0))
    clear c0 c1 c2 c3 c4 c5 c6 c7 c8 f0 f1 f2 f3 f4 f8
    obtain ⟨A, ca, ⟨c0, c1, c2, c3, c4, c5, c6, c7, c8⟩, f0, f1, f2, f3, f4, f8⟩ := entAt.cells hw
    obtain ⟨⟨b0, b1, b2, b3, b4, b5, b6, b7⟩, _⟩ := cells8 hbx
    have HW := Aside0.mk hw
    clear hbx hw
    rw [show inReleasing e (⟨t, true, 7, p, ns, nr, s⟩ : Fr) = send e 8 false p from by simp [inReleasing]]
    go_enter Tryz.func92, Tryz.ntmps92
    go_wp2_with fail
    refine (replyC b mb fb (e) 8 ⟨t, true, 7, p, ns, nr, s⟩ (Nat.le_trans hl (by omega)) T w0 _ HW.out).mono ?_
    rintro r w1 ⟨rfl, hw⟩
    clear c0 c1 c2 c3 c4 c5 c6 c7 c8 f0 f1 f2 f3 f4 f8
    obtain ⟨A, ca, ⟨c0, c1, c2, c3, c4, c5, c6, c7, c8⟩, f0, f1, f2, f3, f4, f8⟩ := entAt.cells hw
    have HW := Aside0.mk hw
    clear hw
    go_wp2
    go_end0
    exact ⟨rfl, HW.out⟩
  · cases p with
    | true =>
      unfold frCells
      have hbx := heap_alloc_new w (.cells #[.int .i64 0, .int .i64 t, .bool false, .int .i64 8, .bool true, .int .i64 ns, .int .i64 nr, .string s] 144 (0, 0))
      have hw := HW.out.alloc (.cells #[.int .i64 0, .int .i64 t, .bool false, .int .i64 8, .bool true, .int .i64 ns, .int .i64 nr, .string s] 144 (0, 0))
      clear c0 c1 c2 c3 c4 c5 c6 c7 c8 f0 f1 f2 f3 f4 f8
      obtain ⟨A, ca, ⟨c0, c1, c2, c3, c4, c5, c6, c7, c8⟩, f0, f1, f2, f3, f4, f8⟩ := entAt.cells hw
      obtain ⟨⟨b0, b1, b2, b3, b4, b5, b6, b7⟩, _⟩ := cells8 hbx
      have HW := Aside0.mk hw
      clear hbx hw
      rw [show inReleasing e (⟨t, false, 8, true, ns, nr, s⟩ : Fr) = end_ (told e 4 nil8) from by simp [inReleasing]]
      go_enter Tryz.func92, Tryz.ntmps92
      go_wp2_with fail
      refine (toldC b mb fb (e) 4 nil8 (Nat.le_trans hl (by omega)) T w0 _ HW.out).mono ?_
      rintro r w1 ⟨rfl, hw⟩
      clear c0 c1 c2 c3 c4 c5 c6 c7 c8 f0 f1 f2 f3 f4 f8
      obtain ⟨A, ca, ⟨c0, c1, c2, c3, c4, c5, c6, c7, c8⟩, f0, f1, f2, f3, f4, f8⟩ := entAt.cells hw
      have HW := Aside0.mk hw
      clear hw
      go_wp2_with fail
      refine (endC b mb fb (told (e) 4 nil8)  (Nat.le_trans (len_told (hl)) (by omega)) T w0 _ HW.out).mono ?_
      rintro r w2 ⟨rfl, hw⟩
      clear c0 c1 c2 c3 c4 c5 c6 c7 c8 f0 f1 f2 f3 f4 f8
      obtain ⟨A, ca, ⟨c0, c1, c2, c3, c4, c5, c6, c7, c8⟩, f0, f1, f2, f3, f4, f8⟩ := entAt.cells hw
      have HW := Aside0.mk hw
      clear hw
      go_wp2
      go_end0
      exact ⟨rfl, HW.out⟩
    | false =>
      unfold frCells
      have hbx := heap_alloc_new w (.cells #[.int .i64 0, .int .i64 t, .bool false, .int .i64 8, .bool false, .int .i64 ns, .int .i64 nr, .string s] 144 (0, 0))
      have hw := HW.out.alloc (.cells #[.int .i64 0, .int .i64 t, .bool false, .int .i64 8, .bool false, .int .i64 ns, .int .i64 nr, .string s] 144 (0, 0))
      clear c0 c1 c2 c3 c4 c5 c6 c7 c8 f0 f1 f2 f3 f4 f8
      obtain ⟨A, ca, ⟨c0, c1, c2, c3, c4, c5, c6, c7, c8⟩, f0, f1, f2, f3, f4, f8⟩ := entAt.cells hw
      obtain ⟨⟨b0, b1, b2, b3, b4, b5, b6, b7⟩, _⟩ := cells8 hbx
      have HW := Aside0.mk hw
      clear hbx hw
      rw [show inReleasing e (⟨t, false, 8, false, ns, nr, s⟩ : Fr) = told e 7 ⟨#[68]⟩ from by simp [inReleasing]]
      go_enter Tryz.func92, Tryz.ntmps92
      go_wp2_with fail
      refine (toldC b mb fb (e) 7 ⟨#[68]⟩ (Nat.le_trans hl (by omega)) T w0 _ HW.out).mono ?_
      rintro r w1 ⟨rfl, hw⟩
      clear c0 c1 c2 c3 c4 c5 c6 c7 c8 f0 f1 f2 f3 f4 f8
      obtain ⟨A, ca, ⟨c0, c1, c2, c3, c4, c5, c6, c7, c8⟩, f0, f1, f2, f3, f4, f8⟩ := entAt.cells hw
      have HW := Aside0.mk hw
      clear hw
      go_wp2
      go_end0
      exact ⟨rfl, HW.out⟩
theorem inConnectingC (b mb fb : Nat) (e : E) (f : Fr) (hf : FrOk f) (hl : e.out.length ≤ 7000) (T : Nat → Prop) (w0 w : World) (h : Went (entAt b mb fb e) T w0 w) :
    Calls Tryz.prog 91 #[.pointer (some ⟨b, 0, none⟩), .agg (frCells f)] w fun r w' => r = .returned (.tuple #[]) ∧ Went (entAt b mb fb (inConnecting e f)) T w0 w' := by
  have HOK := Aside0.mk (entAt.ok h)
  obtain ⟨A, ca, ⟨c0, c1, c2, c3, c4, c5, c6, c7, c8⟩, f0, f1, f2, f3, f4, f8⟩ := entAt.cells h
  have HW := Aside0.mk h
  clear h
  obtain ⟨t, c, k, p, ns, nr, s⟩ := f
  have hk := hf.kind
  simp only at hk
  clear hf
  rcases hk with ⟨rfl, rfl⟩ | rfl | rfl | rfl | ⟨rfl, rfl⟩ | ⟨rfl, rfl⟩ | ⟨rfl, rfl⟩ | ⟨rfl, rfl⟩ | ⟨rfl, rfl⟩
  · unfold frCells
    have hbx := heap_alloc_new w (.cells #[.int .i64 0, .int .i64 t, .bool true, .int .i64 0, .bool p, .int .i64 ns, .int .i64 nr, .string s] 144 (0, 0))
    have hw := HW.out.alloc (.cells #[.int .i64 0, .int .i64 t, .bool true, .int .i64 0, .bool p, .int .i64 ns, .int .i64 nr, .string s] 144 (0, 0))
    clear c0 c1 c2 c3 c4 c5 c6 c7 c8 f0 f1 f2 f3 f4 f8
    obtain ⟨A, ca, ⟨c0, c1, c2, c3, c4, c5, c6, c7, c8⟩, f0, f1, f2, f3, f4, f8⟩ := entAt.cells hw
    obtain ⟨⟨b0, b1, b2, b3, b4, b5, b6, b7⟩, _⟩ := cells8 hbx
    have HW := Aside0.mk hw
    clear hbx hw
    rw [show inConnecting e (⟨t, true, 0, p, ns, nr, s⟩ : Fr) = e from by simp [inConnecting]]
    go_enter Tryz.func91, Tryz.ntmps91
    go_wp2
    go_end0
    exact ⟨rfl, HW.out⟩
  · unfold frCells
    have hbx := heap_alloc_new w (.cells #[.int .i64 0, .int .i64 t, .bool c, .int .i64 1, .bool p, .int .i64 ns, .int .i64 nr, .string s] 144 (0, 0))
    have hw := HW.out.alloc (.cells #[.int .i64 0, .int .i64 t, .bool c, .int .i64 1, .bool p, .int .i64 ns, .int .i64 nr, .string s] 144 (0, 0))
    clear c0 c1 c2 c3 c4 c5 c6 c7 c8 f0 f1 f2 f3 f4 f8
    obtain ⟨A, ca, ⟨c0, c1, c2, c3, c4, c5, c6, c7, c8⟩, f0, f1, f2, f3, f4, f8⟩ := entAt.cells hw
    obtain ⟨⟨b0, b1, b2, b3, b4, b5, b6, b7⟩, _⟩ := cells8 hbx
    have HW := Aside0.mk hw
    clear hbx hw
    rw [show inConnecting e (⟨t, c, 1, p, ns, nr, s⟩ : Fr) = e from by simp [inConnecting]]
    go_enter Tryz.func91, Tryz.ntmps91
    go_wp2
    go_end0
    exact ⟨rfl, HW.out⟩
  · unfold frCells
    have hbx := heap_alloc_new w (.cells #[.int .i64 0, .int .i64 t, .bool c, .int .i64 2, .bool p, .int .i64 ns, .int .i64 nr, .string s] 144 (0, 0))
    have hw := HW.out.alloc (.cells #[.int .i64 0, .int .i64 t, .bool c, .int .i64 2, .bool p, .int .i64 ns, .int .i64 nr, .string s] 144 (0, 0))
    clear c0 c1 c2 c3 c4 c5 c6 c7 c8 f0 f1 f2 f3 f4 f8
    obtain ⟨A, ca, ⟨c0, c1, c2, c3, c4, c5, c6, c7, c8⟩, f0, f1, f2, f3, f4, f8⟩ := entAt.cells hw
    obtain ⟨⟨b0, b1, b2, b3, b4, b5, b6, b7⟩, _⟩ := cells8 hbx
    have HW := Aside0.mk hw
    clear hbx hw
    rw [show inConnecting e (⟨t, c, 2, p, ns, nr, s⟩ : Fr) = e from by simp [inConnecting]]
    go_enter Tryz.func91, Tryz.ntmps91
    go_wp2
    go_end0
    exact ⟨rfl, HW.out⟩
  · unfold frCells
    have hbx := heap_alloc_new w (.cells #[.int .i64 0, .int .i64 t, .bool c, .int .i64 3, .bool p, .int .i64 ns, .int .i64 nr, .string s] 144 (0, 0))
    have hw := HW.out.alloc (.cells #[.int .i64 0, .int .i64 t, .bool c, .int .i64 3, .bool p, .int .i64 ns, .int .i64 nr, .string s] 144 (0, 0))
    clear c0 c1 c2 c3 c4 c5 c6 c7 c8 f0 f1 f2 f3 f4 f8
    obtain ⟨A, ca, ⟨c0, c1, c2, c3, c4, c5, c6, c7, c8⟩, f0, f1, f2, f3, f4, f8⟩ := entAt.cells hw
    obtain ⟨⟨b0, b1, b2, b3, b4, b5, b6, b7⟩, _⟩ := cells8 hbx
    have HW := Aside0.mk hw
    clear hbx hw
    rw [show inConnecting e (⟨t, c, 3, p, ns, nr, s⟩ : Fr) = e from by simp [inConnecting]]
    go_enter Tryz.func91, Tryz.ntmps91
    go_wp2
    go_end0
    exact ⟨rfl, HW.out⟩
  · unfold frCells
    have hbx := heap_alloc_new w (.cells #[.int .i64 0, .int .i64 t, .bool true, .int .i64 4, .bool p, .int .i64 ns, .int .i64 nr, .string s] 144 (0, 0))
    have hw := HW.out.alloc (.cells #[.int .i64 0, .int .i64 t, .bool true, .int .i64 4, .bool p, .int .i64 ns, .int .i64 nr, .string s] 144 (0, 0))
    clear c0 c1 c2 c3 c4 c5 c6 c7 c8 f0 f1 f2 f3 f4 f8
    obtain ⟨A, ca, ⟨c0, c1, c2, c3, c4, c5, c6, c7, c8⟩, f0, f1, f2, f3, f4, f8⟩ := entAt.cells hw
    obtain ⟨⟨b0, b1, b2, b3, b4, b5, b6, b7⟩, _⟩ := cells8 hbx
    have HW := Aside0.mk hw
    clear hbx hw
    rw [show inConnecting e (⟨t, true, 4, p, ns, nr, s⟩ : Fr) = send e 8 false p from by simp [inConnecting]]
    go_enter Tryz.func91, Tryz.ntmps91
    go_wp2_with fail
    refine (replyC b mb fb (e) 8 ⟨t, true, 4, p, ns, nr, s⟩ (Nat.le_trans hl (by omega)) T w0 _ HW.out).mono ?_
    rintro r w1 ⟨rfl, hw⟩
    clear c0 c1 c2 c3 c4 c5 c6 c7 c8 f0 f1 f2 f3 f4 f8
    obtain ⟨A, ca, ⟨c0, c1, c2, c3, c4, c5, c6, c7, c8⟩, f0, f1, f2, f3, f4, f8⟩ := entAt.cells hw
    have HW := Aside0.mk hw
    clear hw
    go_wp2
    go_end0
    exact ⟨rfl, HW.out⟩
  · cases p with
    | true =>
      unfold frCells
      have hbx := heap_alloc_new w (.cells #[.int .i64 0, .int .i64 t, .bool false, .int .i64 5, .bool true, .int .i64 ns, .int .i64 nr, .string s] 144 (0, 0))
      have hw := HW.out.alloc (.cells #[.int .i64 0, .int .i64 t, .bool false, .int .i64 5, .bool true, .int .i64 ns, .int .i64 nr, .string s] 144 (0, 0))
      clear c0 c1 c2 c3 c4 c5 c6 c7 c8 f0 f1 f2 f3 f4 f8
      obtain ⟨A, ca, ⟨c0, c1, c2, c3, c4, c5, c6, c7, c8⟩, f0, f1, f2, f3, f4, f8⟩ := entAt.cells hw
      obtain ⟨⟨b0, b1, b2, b3, b4, b5, b6, b7⟩, _⟩ := cells8 hbx
      have HW := Aside0.mk hw
      clear hbx hw
      rw [show inConnecting e (⟨t, false, 5, true, ns, nr, s⟩ : Fr) = end_ (told e 3 nil8) from by simp [inConnecting]]
      go_enter Tryz.func91, Tryz.ntmps91
      go_wp2_with fail
      refine (toldC b mb fb (e) 3 nil8 (Nat.le_trans hl (by omega)) T w0 _ HW.out).mono ?_
      rintro r w1 ⟨rfl, hw⟩
      clear c0 c1 c2 c3 c4 c5 c6 c7 c8 f0 f1 f2 f3 f4 f8
      obtain ⟨A, ca, ⟨c0, c1, c2, c3, c4, c5, c6, c7, c8⟩, f0, f1, f2, f3, f4, f8⟩ := entAt.cells hw
      have HW := Aside0.mk hw
      clear hw
      go_wp2_with fail
      refine (endC b mb fb (told (e) 3 nil8)  (Nat.le_trans (len_told (hl)) (by omega)) T w0 _ HW.out).mono ?_
      rintro r w2 ⟨rfl, hw⟩
      clear c0 c1 c2 c3 c4 c5 c6 c7 c8 f0 f1 f2 f3 f4 f8
      obtain ⟨A, ca, ⟨c0, c1, c2, c3, c4, c5, c6, c7, c8⟩, f0, f1, f2, f3, f4, f8⟩ := entAt.cells hw
      have HW := Aside0.mk hw
      clear hw
      go_wp2
      go_end0
      exact ⟨rfl, HW.out⟩
    | false =>
      unfold frCells
      have hbx := heap_alloc_new w (.cells #[.int .i64 0, .int .i64 t, .bool false, .int .i64 5, .bool false, .int .i64 ns, .int .i64 nr, .string s] 144 (0, 0))
      have hw := HW.out.alloc (.cells #[.int .i64 0, .int .i64 t, .bool false, .int .i64 5, .bool false, .int .i64 ns, .int .i64 nr, .string s] 144 (0, 0))
      clear c0 c1 c2 c3 c4 c5 c6 c7 c8 f0 f1 f2 f3 f4 f8
      obtain ⟨A, ca, ⟨c0, c1, c2, c3, c4, c5, c6, c7, c8⟩, f0, f1, f2, f3, f4, f8⟩ := entAt.cells hw
      obtain ⟨⟨b0, b1, b2, b3, b4, b5, b6, b7⟩, _⟩ := cells8 hbx
      have HW := Aside0.mk hw
      clear hbx hw
      rw [show inConnecting e (⟨t, false, 5, false, ns, nr, s⟩ : Fr) = e from by simp [inConnecting]]
      go_enter Tryz.func91, Tryz.ntmps91
      go_wp2
      go_end0
      exact ⟨rfl, HW.out⟩
  · unfold frCells
    have hbx := heap_alloc_new w (.cells #[.int .i64 0, .int .i64 t, .bool true, .int .i64 6, .bool p, .int .i64 ns, .int .i64 nr, .string s] 144 (0, 0))
    have hw := HW.out.alloc (.cells #[.int .i64 0, .int .i64 t, .bool true, .int .i64 6, .bool p, .int .i64 ns, .int .i64 nr, .string s] 144 (0, 0))
    clear c0 c1 c2 c3 c4 c5 c6 c7 c8 f0 f1 f2 f3 f4 f8
    obtain ⟨A, ca, ⟨c0, c1, c2, c3, c4, c5, c6, c7, c8⟩, f0, f1, f2, f3, f4, f8⟩ := entAt.cells hw
    obtain ⟨⟨b0, b1, b2, b3, b4, b5, b6, b7⟩, _⟩ := cells8 hbx
    have HW := Aside0.mk hw
    clear hbx hw
    rw [show inConnecting e (⟨t, true, 6, p, ns, nr, s⟩ : Fr) = e from by simp [inConnecting]]
    go_enter Tryz.func91, Tryz.ntmps91
    go_wp2
    go_end0
    exact ⟨rfl, HW.out⟩
  · unfold frCells
    have hbx := heap_alloc_new w (.cells #[.int .i64 0, .int .i64 t, .bool true, .int .i64 7, .bool p, .int .i64 ns, .int .i64 nr, .string s] 144 (0, 0))
    have hw := HW.out.alloc (.cells #[.int .i64 0, .int .i64 t, .bool true, .int .i64 7, .bool p, .int .i64 ns, .int .i64 nr, .string s] 144 (0, 0))
    clear c0 c1 c2 c3 c4 c5 c6 c7 c8 f0 f1 f2 f3 f4 f8
    obtain ⟨A, ca, ⟨c0, c1, c2, c3, c4, c5, c6, c7, c8⟩, f0, f1, f2, f3, f4, f8⟩ := entAt.cells hw
    obtain ⟨⟨b0, b1, b2, b3, b4, b5, b6, b7⟩, _⟩ := cells8 hbx
    have HW := Aside0.mk hw
    clear hbx hw
    rw [show inConnecting e (⟨t, true, 7, p, ns, nr, s⟩ : Fr) = send e 5 false p from by simp [inConnecting]]
    go_enter Tryz.func91, Tryz.ntmps91
    go_wp2_with fail
    refine (replyC b mb fb (e) 5 ⟨t, true, 7, p, ns, nr, s⟩ (Nat.le_trans hl (by omega)) T w0 _ HW.out).mono ?_
    rintro r w1 ⟨rfl, hw⟩
    clear c0 c1 c2 c3 c4 c5 c6 c7 c8 f0 f1 f2 f3 f4 f8
    obtain ⟨A, ca, ⟨c0, c1, c2, c3, c4, c5, c6, c7, c8⟩, f0, f1, f2, f3, f4, f8⟩ := entAt.cells hw
    have HW := Aside0.mk hw
    clear hw
    go_wp2
    go_end0
    exact ⟨rfl, HW.out⟩
  · cases p with
    | false =>
      unfold frCells
      have hbx := heap_alloc_new w (.cells #[.int .i64 0, .int .i64 t, .bool false, .int .i64 8, .bool false, .int .i64 ns, .int .i64 nr, .string s] 144 (0, 0))
      have hw := HW.out.alloc (.cells #[.int .i64 0, .int .i64 t, .bool false, .int .i64 8, .bool false, .int .i64 ns, .int .i64 nr, .string s] 144 (0, 0))
      clear c0 c1 c2 c3 c4 c5 c6 c7 c8 f0 f1 f2 f3 f4 f8
      obtain ⟨A, ca, ⟨c0, c1, c2, c3, c4, c5, c6, c7, c8⟩, f0, f1, f2, f3, f4, f8⟩ := entAt.cells hw
      obtain ⟨⟨b0, b1, b2, b3, b4, b5, b6, b7⟩, _⟩ := cells8 hbx
      have HW := Aside0.mk hw
      clear hbx hw
      rw [show inConnecting e (⟨t, false, 8, false, ns, nr, s⟩ : Fr) = told e 7 ⟨#[68]⟩ from by simp [inConnecting]]
      go_enter Tryz.func91, Tryz.ntmps91
      go_wp2_with fail
      refine (toldC b mb fb (e) 7 ⟨#[68]⟩ (Nat.le_trans hl (by omega)) T w0 _ HW.out).mono ?_
      rintro r w1 ⟨rfl, hw⟩
      clear c0 c1 c2 c3 c4 c5 c6 c7 c8 f0 f1 f2 f3 f4 f8
      obtain ⟨A, ca, ⟨c0, c1, c2, c3, c4, c5, c6, c7, c8⟩, f0, f1, f2, f3, f4, f8⟩ := entAt.cells hw
      have HW := Aside0.mk hw
      clear hw
      go_wp2
      go_end0
      exact ⟨rfl, HW.out⟩
    | true =>
      cases ha : e.asked with
      | true =>
        unfold frCells
        have hbx := heap_alloc_new w (.cells #[.int .i64 0, .int .i64 t, .bool false, .int .i64 8, .bool true, .int .i64 ns, .int .i64 nr, .string s] 144 (0, 0))
        have hw := HW.out.alloc (.cells #[.int .i64 0, .int .i64 t, .bool false, .int .i64 8, .bool true, .int .i64 ns, .int .i64 nr, .string s] 144 (0, 0))
        clear c0 c1 c2 c3 c4 c5 c6 c7 c8 f0 f1 f2 f3 f4 f8
        obtain ⟨A, ca, ⟨c0, c1, c2, c3, c4, c5, c6, c7, c8⟩, f0, f1, f2, f3, f4, f8⟩ := entAt.cells hw
        obtain ⟨⟨b0, b1, b2, b3, b4, b5, b6, b7⟩, _⟩ := cells8 hbx
        have HW := Aside0.mk hw
        clear hbx hw
        rw [show inConnecting e (⟨t, false, 8, true, ns, nr, s⟩ : Fr) = open_ { told e 2 nil8 with asked := false } from by simp [inConnecting, ha]]
        rw [ha] at c4
        clear ha
        go_enter Tryz.func91, Tryz.ntmps91
        go_wp2_with fail
        refine (toldC b mb fb (e) 2 nil8 (Nat.le_trans hl (by omega)) T w0 _ HW.out).mono ?_
        rintro r w1 ⟨rfl, hw⟩
        clear c0 c1 c2 c3 c4 c5 c6 c7 c8 f0 f1 f2 f3 f4 f8
        obtain ⟨A, ca, ⟨c0, c1, c2, c3, c4, c5, c6, c7, c8⟩, f0, f1, f2, f3, f4, f8⟩ := entAt.cells hw
        have HW := Aside0.mk hw
        clear hw
        go_wp2_with fail
        refine (openC b mb fb ({ told (e) 2 nil8 with asked := false }) (Nat.le_trans (len_told (hl)) (by omega)) T w0 _ (entAt.setAsked HW.out false )).mono ?_
        rintro r w2 ⟨rfl, hw⟩
        clear c0 c1 c2 c3 c4 c5 c6 c7 c8 f0 f1 f2 f3 f4 f8
        obtain ⟨A, ca, ⟨c0, c1, c2, c3, c4, c5, c6, c7, c8⟩, f0, f1, f2, f3, f4, f8⟩ := entAt.cells hw
        have HW := Aside0.mk hw
        clear hw
        go_wp2
        go_end0
        exact ⟨rfl, HW.out⟩
      | false =>
        unfold frCells
        have hbx := heap_alloc_new w (.cells #[.int .i64 0, .int .i64 t, .bool false, .int .i64 8, .bool true, .int .i64 ns, .int .i64 nr, .string s] 144 (0, 0))
        have hw := HW.out.alloc (.cells #[.int .i64 0, .int .i64 t, .bool false, .int .i64 8, .bool true, .int .i64 ns, .int .i64 nr, .string s] 144 (0, 0))
        clear c0 c1 c2 c3 c4 c5 c6 c7 c8 f0 f1 f2 f3 f4 f8
        obtain ⟨A, ca, ⟨c0, c1, c2, c3, c4, c5, c6, c7, c8⟩, f0, f1, f2, f3, f4, f8⟩ := entAt.cells hw
        obtain ⟨⟨b0, b1, b2, b3, b4, b5, b6, b7⟩, _⟩ := cells8 hbx
        have HW := Aside0.mk hw
        clear hbx hw
        rw [show inConnecting e (⟨t, false, 8, true, ns, nr, s⟩ : Fr) = open_ { unsure e with asked := false } from by simp [inConnecting, ha]]
        rw [ha] at c4
        clear ha
        go_enter Tryz.func91, Tryz.ntmps91
        go_wp2_with fail
        refine (unsureC b mb fb (e)  (Nat.le_trans hl (by omega)) T w0 _ HW.out).mono ?_
        rintro r w1 ⟨rfl, hw⟩
        clear c0 c1 c2 c3 c4 c5 c6 c7 c8 f0 f1 f2 f3 f4 f8
        obtain ⟨A, ca, ⟨c0, c1, c2, c3, c4, c5, c6, c7, c8⟩, f0, f1, f2, f3, f4, f8⟩ := entAt.cells hw
        have HW := Aside0.mk hw
        clear hw
        go_wp2_with fail
        refine (openC b mb fb ({ unsure (e) with asked := false }) (Nat.le_trans (len_unsure (hl)) (by omega)) T w0 _ (entAt.setAsked HW.out false )).mono ?_
        rintro r w2 ⟨rfl, hw⟩
        clear c0 c1 c2 c3 c4 c5 c6 c7 c8 f0 f1 f2 f3 f4 f8
        obtain ⟨A, ca, ⟨c0, c1, c2, c3, c4, c5, c6, c7, c8⟩, f0, f1, f2, f3, f4, f8⟩ := entAt.cells hw
        have HW := Aside0.mk hw
        clear hw
        go_wp2
        go_end0
        exact ⟨rfl, HW.out⟩
theorem _root_.Go.Proofs.YtljnfbpplhnmfaaGreatDoor.Sl.Went.only {A : SP} {T : Nat → Prop} {w w1 : World} (h : Went (all [A]) T w w1) : Went A T w w1 := by
  obtain ⟨T1, ⟨T2, T3, h2, h3, _, e⟩, k1, t1⟩ := h
  exact ⟨T2, h2, k1, fun k hk => t1 k ((e k).2 (Or.inl hk))⟩
theorem _root_.Go.Proofs.YtljnfbpplhnmfaaGreatDoor.Sl.Went.single {A : SP} {T : Nat → Prop} {w w1 : World} (h : Went A T w w1) : Went (all [A]) T w w1 :=
  h.imp fun T1 h1 => ⟨T1, fun _ => False, h1, ⟨fun _ h => h, trivial⟩, fun _ _ h => h, fun k => by simp⟩
end Go.Proofs.YtljnfbpplhnmfaaGreatDoor.En
