/- Package frame by its own text: what frames of each kind may carry. Condition: package ctrl's names stand as they were laid. Package entity by its own text: Frame, Ask. Conditions: sizes. Package entity by its own text: New. Condition: none. -/
import Derived.Deep.LoopGhost
import Derived.LoopN
import Derived.Test.YtljnfbpplhnmfaaGreatDoorUs04
import Derived.Test.YtljnfbpplhnmfaaGreatDoorUs13
namespace Go.Proofs.YtljnfbpplhnmfaaGreatDoor.Fm
open Go Go.RowKit Go.Proofs.YtljnfbpplhnmfaaGreatDoorW.PrintWords Go.Proofs.YtljnfbpplhnmfaaGreatDoorW.PrintLast Go.Proofs.YtljnfbpplhnmfaaGreatDoorW.PrintMore Go.Proofs.YtljnfbpplhnmfaaGreatDoor.Md Go.Proofs.YtljnfbpplhnmfaaGreatDoorX
set_option linter.unusedVariables false
set_option maxRecDepth 1000000
theorem goodC (k : Nat) (hk : k < 10) (w : World) : Calls Tryz.prog 132 #[.int .i64 k] w fun e w' => e = .returned (.bool true) ∧ w = w' := by
  have h1 : (0 : Int) ≤ (k : Int) := by omega
  have h2 : (k : Int) < 10 := by omega
  go_enter Tryz.func132, Tryz.ntmps132
  go_wp2
  go_ret
  trivial
def LaidN (w : World) : Prop := ∀ i x, glNames[i]? = some x → w.cell? ⟨1, i, none⟩ = some (.string x)
theorem LaidN.below {w w1 : World} (h : LaidN w) (hb : Below w.heap.size w w1) : LaidN w1 := fun i x hx => pw_cell_below hb (h i x hx)
theorem name1 (w : World) (hL : LaidN w) : Calls Tryz.prog 124 #[.int .i64 1] w fun e w' => e = .returned (.string ⟨#[82, 82]⟩) ∧ w = w' := by
  have hc := hL 1 ⟨#[82, 82]⟩ rfl
  clear hL
  go_enter Tryz.func124, Tryz.ntmps124
  go_wp2_with fail
  refine (goodC 1 (by decide) w).mono ?_
  rintro e w1 ⟨rfl, rfl⟩
  go_wp2
  go_ret
  trivial
theorem name2 (w : World) (hL : LaidN w) : Calls Tryz.prog 124 #[.int .i64 2] w fun e w' => e = .returned (.string ⟨#[82, 78, 82]⟩) ∧ w = w' := by
  have hc := hL 2 ⟨#[82, 78, 82]⟩ rfl
  clear hL
  go_enter Tryz.func124, Tryz.ntmps124
  go_wp2_with fail
  refine (goodC 2 (by decide) w).mono ?_
  rintro e w1 ⟨rfl, rfl⟩
  go_wp2
  go_ret
  trivial
theorem name3 (w : World) (hL : LaidN w) : Calls Tryz.prog 124 #[.int .i64 3] w fun e w' => e = .returned (.string ⟨#[82, 69, 74]⟩) ∧ w = w' := by
  have hc := hL 3 ⟨#[82, 69, 74]⟩ rfl
  clear hL
  go_enter Tryz.func124, Tryz.ntmps124
  go_wp2_with fail
  refine (goodC 3 (by decide) w).mono ?_
  rintro e w1 ⟨rfl, rfl⟩
  go_wp2
  go_ret
  trivial
theorem name4 (w : World) (hL : LaidN w) : Calls Tryz.prog 124 #[.int .i64 4] w fun e w' => e = .returned (.string ⟨#[83, 65, 66, 77, 69]⟩) ∧ w = w' := by
  have hc := hL 4 ⟨#[83, 65, 66, 77, 69]⟩ rfl
  clear hL
  go_enter Tryz.func124, Tryz.ntmps124
  go_wp2_with fail
  refine (goodC 4 (by decide) w).mono ?_
  rintro e w1 ⟨rfl, rfl⟩
  go_wp2
  go_ret
  trivial
theorem name5 (w : World) (hL : LaidN w) : Calls Tryz.prog 124 #[.int .i64 5] w fun e w' => e = .returned (.string ⟨#[68, 77]⟩) ∧ w = w' := by
  have hc := hL 5 ⟨#[68, 77]⟩ rfl
  clear hL
  go_enter Tryz.func124, Tryz.ntmps124
  go_wp2_with fail
  refine (goodC 5 (by decide) w).mono ?_
  rintro e w1 ⟨rfl, rfl⟩
  go_wp2
  go_ret
  trivial
theorem name7 (w : World) (hL : LaidN w) : Calls Tryz.prog 124 #[.int .i64 7] w fun e w' => e = .returned (.string ⟨#[68, 73, 83, 67]⟩) ∧ w = w' := by
  have hc := hL 7 ⟨#[68, 73, 83, 67]⟩ rfl
  clear hL
  go_enter Tryz.func124, Tryz.ntmps124
  go_wp2_with fail
  refine (goodC 7 (by decide) w).mono ?_
  rintro e w1 ⟨rfl, rfl⟩
  go_wp2
  go_ret
  trivial
theorem name8 (w : World) (hL : LaidN w) : Calls Tryz.prog 124 #[.int .i64 8] w fun e w' => e = .returned (.string ⟨#[85, 65]⟩) ∧ w = w' := by
  have hc := hL 8 ⟨#[85, 65]⟩ rfl
  clear hL
  go_enter Tryz.func124, Tryz.ntmps124
  go_wp2_with fail
  refine (goodC 8 (by decide) w).mono ?_
  rintro e w1 ⟨rfl, rfl⟩
  go_wp2
  go_ret
  trivial
theorem carries0 (n : Nat) (hn : n ≤ 260) (w : World) : Calls Tryz.prog 88 #[.int .i64 0, .int .i64 n] w fun e w' => e = .returned (.bool true) ∧ w = w' := by
  have hn2 : (n : Int) ≤ 260 := by omega
  go_enter Tryz.func88, Tryz.ntmps88
  go_wp2
  go_ret
  trivial
theorem carries1 (w : World) (hL : LaidN w) : Calls Tryz.prog 88 #[.int .i64 1, .int .i64 0] w fun e w' => e = .returned (.bool true) ∧ w = w' := by
  go_enter Tryz.func88, Tryz.ntmps88
  go_wp2_with fail
  refine (name1 w hL).mono ?_
  rintro e w1 ⟨rfl, rfl⟩
  clear hL
  go_wp2
  go_ret
  trivial
theorem carries2 (w : World) (hL : LaidN w) : Calls Tryz.prog 88 #[.int .i64 2, .int .i64 0] w fun e w' => e = .returned (.bool true) ∧ w = w' := by
  go_enter Tryz.func88, Tryz.ntmps88
  go_wp2_with fail
  refine (name2 w hL).mono ?_
  rintro e w1 ⟨rfl, rfl⟩
  clear hL
  go_wp2
  go_ret
  trivial
theorem carries3 (w : World) (hL : LaidN w) : Calls Tryz.prog 88 #[.int .i64 3, .int .i64 0] w fun e w' => e = .returned (.bool true) ∧ w = w' := by
  go_enter Tryz.func88, Tryz.ntmps88
  go_wp2_with fail
  refine (name3 w hL).mono ?_
  rintro e w1 ⟨rfl, rfl⟩
  clear hL
  go_wp2
  go_ret
  trivial
theorem carries4 (w : World) (hL : LaidN w) : Calls Tryz.prog 88 #[.int .i64 4, .int .i64 0] w fun e w' => e = .returned (.bool true) ∧ w = w' := by
  go_enter Tryz.func88, Tryz.ntmps88
  go_wp2_with fail
  refine (name4 w hL).mono ?_
  rintro e w1 ⟨rfl, rfl⟩
  clear hL
  go_wp2
  go_ret
  trivial
theorem carries5 (w : World) (hL : LaidN w) : Calls Tryz.prog 88 #[.int .i64 5, .int .i64 0] w fun e w' => e = .returned (.bool true) ∧ w = w' := by
  go_enter Tryz.func88, Tryz.ntmps88
  go_wp2_with fail
  refine (name5 w hL).mono ?_
  rintro e w1 ⟨rfl, rfl⟩
  clear hL
  go_wp2
  go_ret
  trivial
theorem carries6 (n : Nat) (hn : n ≤ 260) (w : World) : Calls Tryz.prog 88 #[.int .i64 6, .int .i64 n] w fun e w' => e = .returned (.bool true) ∧ w = w' := by
  have hn2 : (n : Int) ≤ 260 := by omega
  go_enter Tryz.func88, Tryz.ntmps88
  go_wp2
  go_ret
  trivial
theorem carries7 (w : World) (hL : LaidN w) : Calls Tryz.prog 88 #[.int .i64 7, .int .i64 0] w fun e w' => e = .returned (.bool true) ∧ w = w' := by
  go_enter Tryz.func88, Tryz.ntmps88
  go_wp2_with fail
  refine (name7 w hL).mono ?_
  rintro e w1 ⟨rfl, rfl⟩
  clear hL
  go_wp2
  go_ret
  trivial
theorem carries8 (w : World) (hL : LaidN w) : Calls Tryz.prog 88 #[.int .i64 8, .int .i64 0] w fun e w' => e = .returned (.bool true) ∧ w = w' := by
  go_enter Tryz.func88, Tryz.ntmps88
  go_wp2_with fail
  refine (name8 w hL).mono ?_
  rintro e w1 ⟨rfl, rfl⟩
  clear hL
  go_wp2
  go_ret
  trivial
theorem mayC (f : Fr) (hf : FrOk f) (w : World) : Calls Tryz.prog 87 #[.int .i64 f.kind, .bool f.cmd] w fun e w' => e = .returned (.bool true) ∧ w = w' := by
  obtain ⟨t, c, k, p, ns, nr, s⟩ := f
  have hk := hf.kind
  simp only at hk ⊢
  rcases hk with ⟨rfl, rfl⟩ | rfl | rfl | rfl | ⟨rfl, rfl⟩ | ⟨rfl, rfl⟩ | ⟨rfl, rfl⟩ | ⟨rfl, rfl⟩ | ⟨rfl, rfl⟩
  · exact may0 w
  · exact may1 c w
  · exact may2 c w
  · exact may3 c w
  · exact may4 w
  · exact may5 w
  · exact may6 w
  · exact may7 w
  · exact may8 w
theorem carriesC (f : Fr) (hf : FrOk f) (w : World) (hL : LaidN w) : Calls Tryz.prog 88 #[.int .i64 f.kind, .int .i64 (f.info.size : Int)] w fun e w' => e = .returned (.bool true) ∧ w = w' := by
  obtain ⟨t, c, k, p, ns, nr, s⟩ := f
  have hk := hf.kind
  have hi := hf.info
  have hs := hf.size
  simp only at hk hi hs ⊢
  rcases hi with rfl | rfl | rfl
  · exact carries0 _ hs w
  · exact carries6 _ hs w
  · rcases hk with ⟨rfl, rfl⟩ | rfl | rfl | rfl | ⟨rfl, rfl⟩ | ⟨rfl, rfl⟩ | ⟨rfl, rfl⟩ | ⟨rfl, rfl⟩ | ⟨rfl, rfl⟩
    · exact carries0 _ hs w
    · exact carries1 w hL
    · exact carries2 w hL
    · exact carries3 w hL
    · exact carries4 w hL
    · exact carries5 w hL
    · exact carries6 _ hs w
    · exact carries7 w hL
    · exact carries8 w hL
end Go.Proofs.YtljnfbpplhnmfaaGreatDoor.Fm
namespace Go.Proofs.YtljnfbpplhnmfaaGreatDoor.En
open Go Go.RowKit Go.Proofs.YtljnfbpplhnmfaaGreatDoorW.PrintWords Go.Proofs.YtljnfbpplhnmfaaGreatDoorW.PrintLast Go.Proofs.YtljnfbpplhnmfaaGreatDoorW.PrintMore Go.Proofs.YtljnfbpplhnmfaaGreatDoor.Str Go.Proofs.YtljnfbpplhnmfaaGreatDoor.Mp Go.Proofs.YtljnfbpplhnmfaaGreatDoor.Ra Go.Proofs.YtljnfbpplhnmfaaGreatDoor.Sl Go.Proofs.YtljnfbpplhnmfaaGreatDoor.Qu Go.Proofs.YtljnfbpplhnmfaaGreatDoor.Sq Go.Proofs.YtljnfbpplhnmfaaGreatDoor.Fl Go.Proofs.YtljnfbpplhnmfaaGreatDoor.Ru Go.Proofs.YtljnfbpplhnmfaaGreatDoor.Md
set_option linter.unusedVariables false
set_option linter.unusedSimpArgs false
set_option maxRecDepth 1000000
set_option maxHeartbeats 4000000
open Go.Proofs.YtljnfbpplhnmfaaGreatDoor.Fm
theorem frameC (b mb fb : Nat) (e : E) (f : Fr) (hf : FrOk f) (hl : e.out.length ≤ 6900) (T : Nat → Prop) (w0 w : World) (hN : LaidN w) (h : Went (entAt b mb fb e) T w0 w) :
    Calls Tryz.prog 57 #[.pointer (some ⟨b, 0, none⟩), .agg (frCells f)] w fun r w' => ∃ v, r = .returned (v) ∧ Went (all [entAt b mb fb (emptied (frame1 e f)), orow v (frame1 e f).out]) T w0 w' := by
  have HOK := Aside0.mk (entAt.ok h)
  obtain ⟨A, ca, ⟨c0, c1, c2, c3, c4, c5, c6, c7, c8⟩, f0, f1, f2, f3, f4, f8⟩ := entAt.cells h
  have HW := Aside0.mk h
  obtain ⟨t, c, k, p, ns, nr, s⟩ := f
  clear h
  have hst : e.state = 4 ∨ e.state = 5 ∨ e.state = 6 ∨ (e.state = 7 ∨ e.state = 8) := by have := HOK.out.1.state; omega
  have hN2 := Aside0.mk (hN.below ((Below.refl _ w).alloc (Nat.le_refl _) (.cells #[.int .i64 0, .int .i64 t, .bool c, .int .i64 k, .bool p, .int .i64 ns, .int .i64 nr, .string s] 144 (0, 0))))
  clear hN
  by_cases h6 : k = 6
  · have hE : frame1 e (⟨t, c, k, p, ns, nr, s⟩ : Fr) = told e 6 s := if_pos h6
    rw [hE]
    have hb6 : (k == 6) = true := by rw [beq_iff_eq]; exact h6
    clear hE h6 hst
    unfold frCells
    have hbx := heap_alloc_new w (.cells #[.int .i64 0, .int .i64 t, .bool c, .int .i64 k, .bool p, .int .i64 ns, .int .i64 nr, .string s] 144 (0, 0))
    have hw := HW.out.alloc (.cells #[.int .i64 0, .int .i64 t, .bool c, .int .i64 k, .bool p, .int .i64 ns, .int .i64 nr, .string s] 144 (0, 0))
    clear c0 c1 c2 c3 c4 c5 c6 c7 c8 f0 f1 f2 f3 f4 f8
    obtain ⟨A, ca, ⟨c0, c1, c2, c3, c4, c5, c6, c7, c8⟩, f0, f1, f2, f3, f4, f8⟩ := entAt.cells hw
    obtain ⟨⟨b0, b1, b2, b3, b4, b5, b6, b7⟩, _⟩ := cells8 hbx
    have HW := Aside0.mk hw
    clear hbx hw
    go_enter Tryz.func57, Tryz.ntmps57
    go_wp2_with fail
    refine (mayC (⟨t, c, k, p, ns, nr, s⟩ : Fr) hf _).mono ?_
    rintro r w1 ⟨rfl, rfl⟩
    go_wp2_with fail
    refine (carriesC (⟨t, c, k, p, ns, nr, s⟩ : Fr) hf _ hN2.out).mono ?_
    rintro r w1 ⟨rfl, rfl⟩
    go_wp2_with fail
    refine (toldC b mb fb (e) 6 s (Nat.le_trans hl (by omega)) T w0 _ HW.out).mono ?_
    rintro r w2 ⟨rfl, hw⟩
    clear c0 c1 c2 c3 c4 c5 c6 c7 c8 f0 f1 f2 f3 f4 f8
    obtain ⟨A, ca, ⟨c0, c1, c2, c3, c4, c5, c6, c7, c8⟩, f0, f1, f2, f3, f4, f8⟩ := entAt.cells hw
    have HW := Aside0.mk hw
    clear hw
    go_wp2_with fail
    refine (doneC b mb fb (told (e) 6 s) T w0 _ HW.out).mono ?_
    rintro r w3 ⟨v, rfl, hw⟩
    have HW := Aside0.mk hw
    clear hw
    clear c0 c1 c2 c3 c4 c5 c6 c7 c8 f0 f1 f2 f3 f4 f8
    go_wp2
    go_ret
    exact ⟨v, rfl, HW.out⟩
  · have hb6 : (k == 6) = false := by rw [beq_eq_false_iff_ne]; exact h6
    rcases hst with hs | hs | hs | hs
    · have hE : frame1 e (⟨t, c, k, p, ns, nr, s⟩ : Fr) = inAssigned e (⟨t, c, k, p, ns, nr, s⟩ : Fr) := (if_neg h6).trans ((if_pos hs))
      rw [hE]
      have HS := Aside0.mk hs
      clear hE h6 hs
      unfold frCells
      have hbx := heap_alloc_new w (.cells #[.int .i64 0, .int .i64 t, .bool c, .int .i64 k, .bool p, .int .i64 ns, .int .i64 nr, .string s] 144 (0, 0))
      have hw := HW.out.alloc (.cells #[.int .i64 0, .int .i64 t, .bool c, .int .i64 k, .bool p, .int .i64 ns, .int .i64 nr, .string s] 144 (0, 0))
      clear c0 c1 c2 c3 c4 c5 c6 c7 c8 f0 f1 f2 f3 f4 f8
      obtain ⟨A, ca, ⟨c0, c1, c2, c3, c4, c5, c6, c7, c8⟩, f0, f1, f2, f3, f4, f8⟩ := entAt.cells hw
      obtain ⟨⟨b0, b1, b2, b3, b4, b5, b6, b7⟩, _⟩ := cells8 hbx
      have HW := Aside0.mk hw
      clear hbx hw
      rw [HS.out] at c1
      go_enter Tryz.func57, Tryz.ntmps57
      go_wp2_with fail
      refine (mayC (⟨t, c, k, p, ns, nr, s⟩ : Fr) hf _).mono ?_
      rintro r w1 ⟨rfl, rfl⟩
      go_wp2_with fail
      refine (carriesC (⟨t, c, k, p, ns, nr, s⟩ : Fr) hf _ hN2.out).mono ?_
      rintro r w1 ⟨rfl, rfl⟩
      go_wp2_with fail
      refine (inAssignedC b mb fb (e) (⟨t, c, k, p, ns, nr, s⟩ : Fr) hf (Nat.le_trans hl (by omega)) T w0 _ HW.out).mono ?_
      rintro r w2 ⟨rfl, hw⟩
      clear c0 c1 c2 c3 c4 c5 c6 c7 c8 f0 f1 f2 f3 f4 f8
      obtain ⟨A, ca, ⟨c0, c1, c2, c3, c4, c5, c6, c7, c8⟩, f0, f1, f2, f3, f4, f8⟩ := entAt.cells hw
      have HW := Aside0.mk hw
      clear hw
      go_wp2_with fail
      refine (doneC b mb fb (inAssigned e (⟨t, c, k, p, ns, nr, s⟩ : Fr)) T w0 _ HW.out).mono ?_
      rintro r w3 ⟨v, rfl, hw⟩
      have HW := Aside0.mk hw
      clear hw
      clear c0 c1 c2 c3 c4 c5 c6 c7 c8 f0 f1 f2 f3 f4 f8
      go_wp2
      go_ret
      exact ⟨v, rfl, HW.out⟩
    · have hE : frame1 e (⟨t, c, k, p, ns, nr, s⟩ : Fr) = inConnecting e (⟨t, c, k, p, ns, nr, s⟩ : Fr) := (if_neg h6).trans ((if_neg (fun h => by have h1 : (5 : Int) = 4 := hs.symm.trans h; omega)).trans ((if_pos hs)))
      rw [hE]
      have HS := Aside0.mk hs
      clear hE h6 hs
      unfold frCells
      have hbx := heap_alloc_new w (.cells #[.int .i64 0, .int .i64 t, .bool c, .int .i64 k, .bool p, .int .i64 ns, .int .i64 nr, .string s] 144 (0, 0))
      have hw := HW.out.alloc (.cells #[.int .i64 0, .int .i64 t, .bool c, .int .i64 k, .bool p, .int .i64 ns, .int .i64 nr, .string s] 144 (0, 0))
      clear c0 c1 c2 c3 c4 c5 c6 c7 c8 f0 f1 f2 f3 f4 f8
      obtain ⟨A, ca, ⟨c0, c1, c2, c3, c4, c5, c6, c7, c8⟩, f0, f1, f2, f3, f4, f8⟩ := entAt.cells hw
      obtain ⟨⟨b0, b1, b2, b3, b4, b5, b6, b7⟩, _⟩ := cells8 hbx
      have HW := Aside0.mk hw
      clear hbx hw
      rw [HS.out] at c1
      go_enter Tryz.func57, Tryz.ntmps57
      go_wp2_with fail
      refine (mayC (⟨t, c, k, p, ns, nr, s⟩ : Fr) hf _).mono ?_
      rintro r w1 ⟨rfl, rfl⟩
      go_wp2_with fail
      refine (carriesC (⟨t, c, k, p, ns, nr, s⟩ : Fr) hf _ hN2.out).mono ?_
      rintro r w1 ⟨rfl, rfl⟩
      go_wp2_with fail
      refine (inConnectingC b mb fb (e) (⟨t, c, k, p, ns, nr, s⟩ : Fr) hf (Nat.le_trans hl (by omega)) T w0 _ HW.out).mono ?_
      rintro r w2 ⟨rfl, hw⟩
      clear c0 c1 c2 c3 c4 c5 c6 c7 c8 f0 f1 f2 f3 f4 f8
      obtain ⟨A, ca, ⟨c0, c1, c2, c3, c4, c5, c6, c7, c8⟩, f0, f1, f2, f3, f4, f8⟩ := entAt.cells hw
      have HW := Aside0.mk hw
      clear hw
      go_wp2_with fail
      refine (doneC b mb fb (inConnecting e (⟨t, c, k, p, ns, nr, s⟩ : Fr)) T w0 _ HW.out).mono ?_
      rintro r w3 ⟨v, rfl, hw⟩
      have HW := Aside0.mk hw
      clear hw
      clear c0 c1 c2 c3 c4 c5 c6 c7 c8 f0 f1 f2 f3 f4 f8
      go_wp2
      go_ret
      exact ⟨v, rfl, HW.out⟩
    · have hE : frame1 e (⟨t, c, k, p, ns, nr, s⟩ : Fr) = inReleasing e (⟨t, c, k, p, ns, nr, s⟩ : Fr) := (if_neg h6).trans ((if_neg (fun h => by have h1 : (6 : Int) = 4 := hs.symm.trans h; omega)).trans ((if_neg (fun h => by have h1 : (6 : Int) = 5 := hs.symm.trans h; omega)).trans ((if_pos hs))))
      rw [hE]
      have HS := Aside0.mk hs
      clear hE h6 hs
      unfold frCells
      have hbx := heap_alloc_new w (.cells #[.int .i64 0, .int .i64 t, .bool c, .int .i64 k, .bool p, .int .i64 ns, .int .i64 nr, .string s] 144 (0, 0))
      have hw := HW.out.alloc (.cells #[.int .i64 0, .int .i64 t, .bool c, .int .i64 k, .bool p, .int .i64 ns, .int .i64 nr, .string s] 144 (0, 0))
      clear c0 c1 c2 c3 c4 c5 c6 c7 c8 f0 f1 f2 f3 f4 f8
      obtain ⟨A, ca, ⟨c0, c1, c2, c3, c4, c5, c6, c7, c8⟩, f0, f1, f2, f3, f4, f8⟩ := entAt.cells hw
      obtain ⟨⟨b0, b1, b2, b3, b4, b5, b6, b7⟩, _⟩ := cells8 hbx
      have HW := Aside0.mk hw
      clear hbx hw
      rw [HS.out] at c1
      go_enter Tryz.func57, Tryz.ntmps57
      go_wp2_with fail
      refine (mayC (⟨t, c, k, p, ns, nr, s⟩ : Fr) hf _).mono ?_
      rintro r w1 ⟨rfl, rfl⟩
      go_wp2_with fail
      refine (carriesC (⟨t, c, k, p, ns, nr, s⟩ : Fr) hf _ hN2.out).mono ?_
      rintro r w1 ⟨rfl, rfl⟩
      go_wp2_with fail
      refine (inReleasingC b mb fb (e) (⟨t, c, k, p, ns, nr, s⟩ : Fr) hf (Nat.le_trans hl (by omega)) T w0 _ HW.out).mono ?_
      rintro r w2 ⟨rfl, hw⟩
      clear c0 c1 c2 c3 c4 c5 c6 c7 c8 f0 f1 f2 f3 f4 f8
      obtain ⟨A, ca, ⟨c0, c1, c2, c3, c4, c5, c6, c7, c8⟩, f0, f1, f2, f3, f4, f8⟩ := entAt.cells hw
      have HW := Aside0.mk hw
      clear hw
      go_wp2_with fail
      refine (doneC b mb fb (inReleasing e (⟨t, c, k, p, ns, nr, s⟩ : Fr)) T w0 _ HW.out).mono ?_
      rintro r w3 ⟨v, rfl, hw⟩
      have HW := Aside0.mk hw
      clear hw
      clear c0 c1 c2 c3 c4 c5 c6 c7 c8 f0 f1 f2 f3 f4 f8
      go_wp2
      go_ret
      exact ⟨v, rfl, HW.out⟩
    · have hE : frame1 e (⟨t, c, k, p, ns, nr, s⟩ : Fr) = inOpen e (⟨t, c, k, p, ns, nr, s⟩ : Fr) := (if_neg h6).trans ((if_neg (by omega)).trans ((if_neg (by omega)).trans (if_neg (by omega))))
      rw [hE]
      have H6 := Aside0.mk h6
      have hs4 : (e.state == 4) = false := by rw [beq_eq_false_iff_ne]; omega
      have hs5 : (e.state == 5) = false := by rw [beq_eq_false_iff_ne]; omega
      have hs6 : (e.state == 6) = false := by rw [beq_eq_false_iff_ne]; omega
      have HS := Aside0.mk hs
      clear hE h6 hs
      unfold frCells
      have hbx := heap_alloc_new w (.cells #[.int .i64 0, .int .i64 t, .bool c, .int .i64 k, .bool p, .int .i64 ns, .int .i64 nr, .string s] 144 (0, 0))
      have hw := HW.out.alloc (.cells #[.int .i64 0, .int .i64 t, .bool c, .int .i64 k, .bool p, .int .i64 ns, .int .i64 nr, .string s] 144 (0, 0))
      clear c0 c1 c2 c3 c4 c5 c6 c7 c8 f0 f1 f2 f3 f4 f8
      obtain ⟨A, ca, ⟨c0, c1, c2, c3, c4, c5, c6, c7, c8⟩, f0, f1, f2, f3, f4, f8⟩ := entAt.cells hw
      obtain ⟨⟨b0, b1, b2, b3, b4, b5, b6, b7⟩, _⟩ := cells8 hbx
      have HW := Aside0.mk hw
      clear hbx hw
      go_enter Tryz.func57, Tryz.ntmps57
      go_wp2_with fail
      refine (mayC (⟨t, c, k, p, ns, nr, s⟩ : Fr) hf _).mono ?_
      rintro r w1 ⟨rfl, rfl⟩
      go_wp2_with fail
      refine (carriesC (⟨t, c, k, p, ns, nr, s⟩ : Fr) hf _ hN2.out).mono ?_
      rintro r w1 ⟨rfl, rfl⟩
      go_wp2_with fail
      refine (inOpenC b mb fb (e) (⟨t, c, k, p, ns, nr, s⟩ : Fr) hf H6.out HS.out (Nat.le_trans hl (by omega)) T w0 _ HW.out).mono ?_
      rintro r w2 ⟨rfl, hw⟩
      clear c0 c1 c2 c3 c4 c5 c6 c7 c8 f0 f1 f2 f3 f4 f8
      obtain ⟨A, ca, ⟨c0, c1, c2, c3, c4, c5, c6, c7, c8⟩, f0, f1, f2, f3, f4, f8⟩ := entAt.cells hw
      have HW := Aside0.mk hw
      clear hw
      go_wp2_with fail
      refine (doneC b mb fb (inOpen e (⟨t, c, k, p, ns, nr, s⟩ : Fr)) T w0 _ HW.out).mono ?_
      rintro r w3 ⟨v, rfl, hw⟩
      have HW := Aside0.mk hw
      clear hw
      clear c0 c1 c2 c3 c4 c5 c6 c7 c8 f0 f1 f2 f3 f4 f8
      go_wp2
      go_ret
      exact ⟨v, rfl, HW.out⟩
theorem ask0C (b mb fb : Nat) (e : E) (s : ByteArray) (hsz : s.size ≤ 260) (hl : e.out.length ≤ 6900) (T : Nat → Prop) (w0 w : World) (h : Went (entAt b mb fb e) T w0 w) :
    Calls Tryz.prog 51 #[.pointer (some ⟨b, 0, none⟩), .int .i64 0, .string s] w fun r w' => ∃ v, r = .returned (.tuple #[v, .int .i64 (establish e).1]) ∧ Went (all [entAt b mb fb (emptied ((establish e).2)), orow v ((establish e).2).out]) T w0 w' := by
  have HOK := Aside0.mk (entAt.ok h)
  obtain ⟨A, ca, ⟨c0, c1, c2, c3, c4, c5, c6, c7, c8⟩, f0, f1, f2, f3, f4, f8⟩ := entAt.cells h
  have HW := Aside0.mk h
  clear h
  have hsz2 : ¬ (260 : Int) < (s.size : Int) := by omega
  have HSZ := Aside0.mk hsz
  go_enter Tryz.func51, Tryz.ntmps51
  go_wp2_with fail
  refine (establishC b mb fb e (Nat.le_trans hl (by omega)) T w0 _ HW.out).mono ?_
  rintro r w1 ⟨rfl, hw⟩
  clear c0 c1 c2 c3 c4 c5 c6 c7 c8 f0 f1 f2 f3 f4 f8
  obtain ⟨A, ca, ⟨c0, c1, c2, c3, c4, c5, c6, c7, c8⟩, f0, f1, f2, f3, f4, f8⟩ := entAt.cells hw
  have HW := Aside0.mk hw
  clear hw
  go_wp2_with fail
  refine (doneC b mb fb ((establish e).2) T w0 _ HW.out).mono ?_
  rintro r w2 ⟨v, rfl, hw⟩
  have HW := Aside0.mk hw
  clear hw
  clear c0 c1 c2 c3 c4 c5 c6 c7 c8 f0 f1 f2 f3 f4 f8
  go_wp2
  go_ret2
  exact ⟨v, rfl, HW.out⟩
theorem ask1C (b mb fb : Nat) (e : E) (s : ByteArray) (hsz : s.size ≤ 260) (hl : e.out.length ≤ 6900) (T : Nat → Prop) (w0 w : World) (h : Went (entAt b mb fb e) T w0 w) :
    Calls Tryz.prog 51 #[.pointer (some ⟨b, 0, none⟩), .int .i64 1, .string s] w fun r w' => ∃ v, r = .returned (.tuple #[v, .int .i64 (release e).1]) ∧ Went (all [entAt b mb fb (emptied ((release e).2)), orow v ((release e).2).out]) T w0 w' := by
  have HOK := Aside0.mk (entAt.ok h)
  obtain ⟨A, ca, ⟨c0, c1, c2, c3, c4, c5, c6, c7, c8⟩, f0, f1, f2, f3, f4, f8⟩ := entAt.cells h
  have HW := Aside0.mk h
  clear h
  have hsz2 : ¬ (260 : Int) < (s.size : Int) := by omega
  have HSZ := Aside0.mk hsz
  go_enter Tryz.func51, Tryz.ntmps51
  go_wp2_with fail
  refine (releaseC b mb fb e (Nat.le_trans hl (by omega)) T w0 _ HW.out).mono ?_
  rintro r w1 ⟨rfl, hw⟩
  clear c0 c1 c2 c3 c4 c5 c6 c7 c8 f0 f1 f2 f3 f4 f8
  obtain ⟨A, ca, ⟨c0, c1, c2, c3, c4, c5, c6, c7, c8⟩, f0, f1, f2, f3, f4, f8⟩ := entAt.cells hw
  have HW := Aside0.mk hw
  clear hw
  go_wp2_with fail
  refine (doneC b mb fb ((release e).2) T w0 _ HW.out).mono ?_
  rintro r w2 ⟨v, rfl, hw⟩
  have HW := Aside0.mk hw
  clear hw
  clear c0 c1 c2 c3 c4 c5 c6 c7 c8 f0 f1 f2 f3 f4 f8
  go_wp2
  go_ret2
  exact ⟨v, rfl, HW.out⟩
theorem ask2C (b mb fb : Nat) (e : E) (s : ByteArray) (hsz : s.size ≤ 260) (hl : e.out.length ≤ 6900) (T : Nat → Prop) (w0 w : World) (h : Went (entAt b mb fb e) T w0 w) :
    Calls Tryz.prog 51 #[.pointer (some ⟨b, 0, none⟩), .int .i64 2, .string s] w fun r w' => ∃ v, r = .returned (.tuple #[v, .int .i64 (data e s).1]) ∧ Went (all [entAt b mb fb (emptied ((data e s).2)), orow v ((data e s).2).out]) T w0 w' := by
  have HOK := Aside0.mk (entAt.ok h)
  obtain ⟨A, ca, ⟨c0, c1, c2, c3, c4, c5, c6, c7, c8⟩, f0, f1, f2, f3, f4, f8⟩ := entAt.cells h
  have HW := Aside0.mk h
  clear h
  have hsz2 : ¬ (260 : Int) < (s.size : Int) := by omega
  have HSZ := Aside0.mk hsz
  go_enter Tryz.func51, Tryz.ntmps51
  go_wp2_with fail
  refine (dataC b mb fb e s (Nat.le_trans hl (by omega)) HSZ.out T w0 _ HW.out).mono ?_
  rintro r w1 ⟨rfl, hw⟩
  clear c0 c1 c2 c3 c4 c5 c6 c7 c8 f0 f1 f2 f3 f4 f8
  obtain ⟨A, ca, ⟨c0, c1, c2, c3, c4, c5, c6, c7, c8⟩, f0, f1, f2, f3, f4, f8⟩ := entAt.cells hw
  have HW := Aside0.mk hw
  clear hw
  go_wp2_with fail
  refine (doneC b mb fb ((data e s).2) T w0 _ HW.out).mono ?_
  rintro r w2 ⟨v, rfl, hw⟩
  have HW := Aside0.mk hw
  clear hw
  clear c0 c1 c2 c3 c4 c5 c6 c7 c8 f0 f1 f2 f3 f4 f8
  go_wp2
  go_ret2
  exact ⟨v, rfl, HW.out⟩
theorem ask3C (b mb fb : Nat) (e : E) (s : ByteArray) (hsz : s.size ≤ 260) (hl : e.out.length ≤ 6900) (T : Nat → Prop) (w0 w : World) (h : Went (entAt b mb fb e) T w0 w) :
    Calls Tryz.prog 51 #[.pointer (some ⟨b, 0, none⟩), .int .i64 3, .string s] w fun r w' => ∃ v, r = .returned (.tuple #[v, .int .i64 (unit e s).1]) ∧ Went (all [entAt b mb fb (emptied ((unit e s).2)), orow v ((unit e s).2).out]) T w0 w' := by
  have HOK := Aside0.mk (entAt.ok h)
  obtain ⟨A, ca, ⟨c0, c1, c2, c3, c4, c5, c6, c7, c8⟩, f0, f1, f2, f3, f4, f8⟩ := entAt.cells h
  have HW := Aside0.mk h
  clear h
  have hsz2 : ¬ (260 : Int) < (s.size : Int) := by omega
  have HSZ := Aside0.mk hsz
  go_enter Tryz.func51, Tryz.ntmps51
  go_wp2_with fail
  refine (unitC b mb fb e s (Nat.le_trans hl (by omega)) T w0 _ HW.out).mono ?_
  rintro r w1 ⟨rfl, hw⟩
  clear c0 c1 c2 c3 c4 c5 c6 c7 c8 f0 f1 f2 f3 f4 f8
  obtain ⟨A, ca, ⟨c0, c1, c2, c3, c4, c5, c6, c7, c8⟩, f0, f1, f2, f3, f4, f8⟩ := entAt.cells hw
  have HW := Aside0.mk hw
  clear hw
  go_wp2_with fail
  refine (doneC b mb fb ((unit e s).2) T w0 _ HW.out).mono ?_
  rintro r w2 ⟨v, rfl, hw⟩
  have HW := Aside0.mk hw
  clear hw
  clear c0 c1 c2 c3 c4 c5 c6 c7 c8 f0 f1 f2 f3 f4 f8
  go_wp2
  go_ret2
  exact ⟨v, rfl, HW.out⟩
theorem ask4C (b mb fb : Nat) (e : E) (s : ByteArray) (hsz : s.size ≤ 260) (hl : e.out.length ≤ 6900) (T : Nat → Prop) (w0 w : World) (h : Went (entAt b mb fb e) T w0 w) :
    Calls Tryz.prog 51 #[.pointer (some ⟨b, 0, none⟩), .int .i64 4, .string s] w fun r w' => ∃ v, r = .returned (.tuple #[v, .int .i64 (own e true).1]) ∧ Went (all [entAt b mb fb (emptied ((own e true).2)), orow v ((own e true).2).out]) T w0 w' := by
  have HOK := Aside0.mk (entAt.ok h)
  obtain ⟨A, ca, ⟨c0, c1, c2, c3, c4, c5, c6, c7, c8⟩, f0, f1, f2, f3, f4, f8⟩ := entAt.cells h
  have HW := Aside0.mk h
  clear h
  have hsz2 : ¬ (260 : Int) < (s.size : Int) := by omega
  have HSZ := Aside0.mk hsz
  go_enter Tryz.func51, Tryz.ntmps51
  go_wp2_with fail
  refine (ownC b mb fb e true (Nat.le_trans hl (by omega)) T w0 _ HW.out).mono ?_
  rintro r w1 ⟨rfl, hw⟩
  clear c0 c1 c2 c3 c4 c5 c6 c7 c8 f0 f1 f2 f3 f4 f8
  obtain ⟨A, ca, ⟨c0, c1, c2, c3, c4, c5, c6, c7, c8⟩, f0, f1, f2, f3, f4, f8⟩ := entAt.cells hw
  have HW := Aside0.mk hw
  clear hw
  go_wp2_with fail
  refine (doneC b mb fb ((own e true).2) T w0 _ HW.out).mono ?_
  rintro r w2 ⟨v, rfl, hw⟩
  have HW := Aside0.mk hw
  clear hw
  clear c0 c1 c2 c3 c4 c5 c6 c7 c8 f0 f1 f2 f3 f4 f8
  go_wp2
  go_ret2
  exact ⟨v, rfl, HW.out⟩
theorem ask5C (b mb fb : Nat) (e : E) (s : ByteArray) (hsz : s.size ≤ 260) (hl : e.out.length ≤ 6900) (T : Nat → Prop) (w0 w : World) (h : Went (entAt b mb fb e) T w0 w) :
    Calls Tryz.prog 51 #[.pointer (some ⟨b, 0, none⟩), .int .i64 5, .string s] w fun r w' => ∃ v, r = .returned (.tuple #[v, .int .i64 (own e false).1]) ∧ Went (all [entAt b mb fb (emptied ((own e false).2)), orow v ((own e false).2).out]) T w0 w' := by
  have HOK := Aside0.mk (entAt.ok h)
  obtain ⟨A, ca, ⟨c0, c1, c2, c3, c4, c5, c6, c7, c8⟩, f0, f1, f2, f3, f4, f8⟩ := entAt.cells h
  have HW := Aside0.mk h
  clear h
  have hsz2 : ¬ (260 : Int) < (s.size : Int) := by omega
  have HSZ := Aside0.mk hsz
  go_enter Tryz.func51, Tryz.ntmps51
  go_wp2_with fail
  refine (ownC b mb fb e false (Nat.le_trans hl (by omega)) T w0 _ HW.out).mono ?_
  rintro r w1 ⟨rfl, hw⟩
  clear c0 c1 c2 c3 c4 c5 c6 c7 c8 f0 f1 f2 f3 f4 f8
  obtain ⟨A, ca, ⟨c0, c1, c2, c3, c4, c5, c6, c7, c8⟩, f0, f1, f2, f3, f4, f8⟩ := entAt.cells hw
  have HW := Aside0.mk hw
  clear hw
  go_wp2_with fail
  refine (doneC b mb fb ((own e false).2) T w0 _ HW.out).mono ?_
  rintro r w2 ⟨v, rfl, hw⟩
  have HW := Aside0.mk hw
  clear hw
  clear c0 c1 c2 c3 c4 c5 c6 c7 c8 f0 f1 f2 f3 f4 f8
  go_wp2
  go_ret2
  exact ⟨v, rfl, HW.out⟩
end Go.Proofs.YtljnfbpplhnmfaaGreatDoor.En
namespace Go.Proofs.YtljnfbpplhnmfaaGreatDoor.En
open Go Go.RowKit Go.Proofs.YtljnfbpplhnmfaaGreatDoorW.PrintWords Go.Proofs.YtljnfbpplhnmfaaGreatDoorW.PrintLast Go.Proofs.YtljnfbpplhnmfaaGreatDoorW.PrintMore Go.Proofs.YtljnfbpplhnmfaaGreatDoor.Str Go.Proofs.YtljnfbpplhnmfaaGreatDoor.Mp Go.Proofs.YtljnfbpplhnmfaaGreatDoor.Ra Go.Proofs.YtljnfbpplhnmfaaGreatDoor.Sl Go.Proofs.YtljnfbpplhnmfaaGreatDoor.Qu Go.Proofs.YtljnfbpplhnmfaaGreatDoor.Sq Go.Proofs.YtljnfbpplhnmfaaGreatDoor.Fl Go.Proofs.YtljnfbpplhnmfaaGreatDoor.Ru Go.Proofs.YtljnfbpplhnmfaaGreatDoor.Md
set_option linter.unusedVariables false
set_option linter.unusedSimpArgs false
set_option maxRecDepth 1000000
set_option maxHeartbeats 4000000
theorem _root_.Go.Proofs.YtljnfbpplhnmfaaGreatDoor.Sl.Went.add {A : SP} {L : List SP} {T : Nat → Prop} {w0 w w1 : World} (h : Went (all L) T w0 w) (k : Went A (fun _ => False) w w1) : Went (all (A :: L)) T w0 w1 := by
  obtain ⟨T2, h2, k2, t2⟩ := k
  refine h.bind fun T1 h1 => ⟨fun j => T2 j ∨ T1 j, ⟨T2, T1, h2, (all L).same h1 (fun j hj => k2.block j ((all L).lt h1 j hj) (fun h => h)) k2.size, fun j a b => ?_, fun j => Iff.rfl⟩, k2.mono (fun _ h => h.elim), fun j hj => ?_⟩
  · rcases t2 j a with h | h
    · exact h
    · have := (all L).lt h1 j b; omega
  · rcases hj with h | h
    · rcases t2 j h with h | h
      · exact h.elim
      · exact Or.inr h
    · exact Or.inl h
theorem _root_.Go.Proofs.YtljnfbpplhnmfaaGreatDoor.Sl.Went.cellKept {A : SP} {w w1 : World} (h : Went A (fun _ => False) w w1) {a : Addr} {v : Value} (hc : w.cell? a = some v) : w1.cell? a = some v := by
  have hk := h.keeps
  exact pw_cell_below (hk.below (Nat.le_refl _) (fun k hk => hk.elim)) hc
def most20 (n : Int) : Int := max 1 (min n 32)
def fl0 (k : Int) : F := ⟨0, 0, 0, false, false, false, k, ⟨256, [], 0⟩⟩
def fcells0 (n : Int) (mb fb : Nat) : Array Value := #[.int .i64 (most20 n), .int .i64 1, .int .i64 (-1), .int .i64 0, .bool false, .map (some mb), .slice none 0 0, .pointer (some ⟨fb, 0, none⟩), .slice none 0 0]
theorem newA {k n : Int} {w w1 wf : World} {fb : Nat} (h : Went (all []) (fun _ => False) w w1) (hf : Went (flAt fb (fl0 k)) (fun _ => False) ((w1.alloc (.map #[] 0)).drew) wf) :
    Went (all [blk wf.heap.size (.cells (fcells0 n w1.heap.size fb) 91 (0, 0)), flAt fb (fl0 k), runsAt w1.heap.size false false]) (fun _ => False) w (wf.alloc (.cells (fcells0 n w1.heap.size fb) 91 (0, 0))) :=
  ((runs_new h).drew.add hf).new _
theorem newA2 {k n : Int} {w wf : World} {o : Obj} {fb : Nat} (h : Went (all []) (fun _ => False) w (w.alloc o)) (hf : Went (flAt fb (fl0 k)) (fun _ => False) (((w.alloc o).alloc (.map #[] 0)).drew) wf) :
    Went (all [blk wf.heap.size (.cells (fcells0 n (w.heap.size + 1) fb) 91 (0, 0)), flAt fb (fl0 k), runsAt (w.heap.size + 1) false false]) (fun _ => False) w (wf.alloc (.cells (fcells0 n (w.heap.size + 1) fb) 91 (0, 0))) := by
  have hz : (w.alloc o).heap.size = w.heap.size + 1 := by show (w.heap.push _).size = _; simp
  have h1 := newA (n := n) h hf
  rw [hz] at h1
  exact h1
theorem newB2 {k n : Int} {w w1 wf : World} {fb : Nat} (h : Went (all []) (fun _ => False) w w1) (hf : Went (flAt fb (fl0 k)) (fun _ => False) w1.drew wf) :
    Went (all [blk (wf.heap.size + 1) (.cells (fcells0 n wf.heap.size fb) 91 (0, 0)), flAt fb (fl0 k), runsAt wf.heap.size false false]) (fun _ => False) w ((wf.alloc (.map #[] 0)).alloc (.cells (fcells0 n wf.heap.size fb) 91 (0, 0))) := by
  have hz : (wf.alloc (.map #[] 0)).heap.size = wf.heap.size + 1 := by show (wf.heap.push _).size = _; simp
  have h1 := ((runs_new (h.drew.add hf)).perm (List.Perm.swap _ _ _)).new (.cells (fcells0 n wf.heap.size fb) 91 (0, 0))
  rw [hz] at h1
  exact h1
theorem newC (k n : Int) (w : World) :
    Calls Tryz.prog 49 #[.agg #[.int .i64 k, .int .i64 n]] w fun r w' => ∃ b mb fb, r = .returned (.pointer (some ⟨b, 0, none⟩)) ∧ Went (all [blk b (.cells (fcells0 n mb fb) 91 (0, 0)), flAt fb (fl0 k), runsAt mb false false]) (fun _ => False) w w' := by
  have hmk := @run_makeMap Tryz.prog
  have hbx := heap_alloc_new w (.cells #[.int .i64 k, .int .i64 n] 128 (0, 0))
  have HW := Aside0.mk ((Went.nothing (w := w)).alloc (.cells #[.int .i64 k, .int .i64 n] 128 (0, 0)))
  have b0 : (w.alloc (.cells #[.int .i64 k, .int .i64 n] 128 (0, 0))).cell? ⟨w.heap.size, 0, none⟩ = some (.int .i64 k) := by rw [Lib.cell_of_heap hbx]; rfl
  have b1 : (w.alloc (.cells #[.int .i64 k, .int .i64 n] 128 (0, 0))).cell? ⟨w.heap.size, 1, none⟩ = some (.int .i64 n) := by rw [Lib.cell_of_heap hbx]; rfl
  have hd0 := Below.block ((Below.refl _ (w.alloc (.cells #[.int .i64 k, .int .i64 n] 128 (0, 0)))).alloc (Nat.le_refl _) (.map #[] 0)) w.heap.size (by show w.heap.size < (w.heap.push _).size; simp)
  have hdx := hd0.trans hbx
  have d0 : ((w.alloc (.cells #[.int .i64 k, .int .i64 n] 128 (0, 0))).alloc (.map #[] 0)).cell? ⟨w.heap.size, 0, none⟩ = some (.int .i64 k) := by rw [Lib.cell_of_heap hdx]; rfl
  have d1 : ((w.alloc (.cells #[.int .i64 k, .int .i64 n] 128 (0, 0))).alloc (.map #[] 0)).cell? ⟨w.heap.size, 1, none⟩ = some (.int .i64 n) := by rw [Lib.cell_of_heap hdx]; rfl
  clear hd0 hdx hbx
  go_enter Tryz.func49, Tryz.ntmps49
  go_wp2_with fail
  go_region_held3 (fun w' => w'.cell? ⟨w.heap.size, 0, none⟩ = some (.int .i64 k) ∧ w'.cell? ⟨w.heap.size, 1, none⟩ = some (.int .i64 n)) (go_keep) ((go_at_call 76; refine (Fl.newC k _).mono ?_; rintro r wf ⟨fb, rfl, hf⟩; first | (have q0 := Went.cellKept hf b0; have q1 := Went.cellKept hf b1) | (have q0 := Went.cellKept hf d0; have q1 := Went.cellKept hf d1)))
  all_goals
    clear q0 q1 b0 b1 d0 d1 hmk
    have HF := Aside0.mk hf
    clear hf
    go_wp2
    go_ret
    first
      | exact ⟨_, _, fb, rfl, newA2 HW.out HF.out⟩
      | exact ⟨_, _, fb, rfl, newB2 HW.out HF.out⟩
theorem entAt.made {b mb fb : Nat} {e : E} {T : Nat → Prop} {w0 w : World} (h : Went (all [blk b (.cells (ecells mb fb e (.slice none 0 0)) 91 (0, 0)), flAt fb e.fl, runsAt mb e.r200 e.r203]) T w0 w) (hok : EOk e) (ho : e.out = []) : Went (entAt b mb fb e) T w0 w := by
  have h1 := (h.norow 180 11).know (p := True) trivial
  have h2 := h1.perm (List.Perm.cons _ ((List.Perm.swap _ _ _).trans (List.Perm.cons _ (List.reverse_perm [runsAt mb e.r200 e.r203, flAt fb e.fl, row 180 11 (.slice none 0 0) 0 []]))))
  exact entAt.close h2 hok rfl rfl rfl (by rw [ho]; rfl) (by rw [ho]; rfl)
def ent0 (k n : Int) : E := ⟨most20 n, 4, 0, false, false, false, fl0 k, []⟩
theorem ent0_ok (k n : Int) : EOk (ent0 k n) := ⟨by show 1 ≤ max 1 (min n 32) ∧ max 1 (min n 32) ≤ 32; omega, ⟨(by decide : (4 : Int) ≤ 4), (by decide : (4 : Int) ≤ 8)⟩, ⟨Int.le_refl 0, by show (0 : Int) ≤ max 1 (min n 32); omega⟩⟩
theorem assignC (b mb fb : Nat) (k n : Int) (T : Nat → Prop) (w0 w : World) (h : Went (all [blk b (.cells (fcells0 n mb fb) 91 (0, 0)), flAt fb (fl0 k), runsAt mb false false]) T w0 w) :
    Calls Tryz.prog 50 #[.pointer (some ⟨b, 0, none⟩), .int .i64 70] w fun r w' => ∃ v, r = .returned (.tuple #[v, .int .i64 0]) ∧ Went (entAt b mb fb (ent0 k n)) T w0 w' := by
  have HH := Aside0.mk h
  obtain ⟨⟨c0, c1, c2, c3, c4, c5, c6, c7, c8⟩, f0, f1, f2, f3, f4, f8⟩ := cells9 (h.heap 0 rfl)
  clear h
  go_enter Tryz.func50, Tryz.ntmps50
  go_wp2_with fail
  go_quiet (fail)
  have HW := Aside0.mk (HH.out.drewN nq)
  generalize w.drewN nq = w1 at HW ⊢
  clear c0 c1 c2 c3 c4 c5 c6 c7 c8 f0 f1 f2 f3 f4 f8
  obtain ⟨⟨c0, c1, c2, c3, c4, c5, c6, c7, c8⟩, f0, f1, f2, f3, f4, f8⟩ := cells9 (HW.out.heap 0 rfl)
  have f6 := Lib.frozen_of_heap (HW.out.heap 0 rfl) 6
  have HE := Aside0.mk (entAt.made (e := ent0 k n) (((HW.out.set 0 rfl 2 (.int .i64 70)).set 0 rfl 1 (.int .i64 4)).set 0 rfl 6 (.slice none 0 0)) (ent0_ok k n) rfl)
  go_wp2_with fail
  refine wp_loop_rounds 1 ?_
  rw [rounds_succ]
  go_wp2_with fail
  refine (doneC b mb fb (ent0 k n) T w0 _ HE.out).mono ?_
  rintro r w2 ⟨v, rfl, hw⟩
  have HW2 := Aside0.mk hw
  clear hw c0 c1 c2 c3 c4 c5 c6 c7 c8 f0 f1 f2 f3 f4 f8 f6
  go_wp2
  go_ret2
  refine ⟨v, rfl, ?_⟩
  exact Went.only ((HW2.out.perm (List.Perm.swap _ _ _)).drop)
end Go.Proofs.YtljnfbpplhnmfaaGreatDoor.En
