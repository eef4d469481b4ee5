/- Package entity by its own text: supervised, way by way. Conditions: sizes. -/
import Derived.Deep.LoopGhost
import Derived.StillTailTactics
import Derived.Test.YtljnfbpplhnmfaaGreatDoorUs04
import Derived.Test.YtljnfbpplhnmfaaGreatDoorUs07
import Derived.Test.YtljnfbpplhnmfaaGreatDoorUs08
namespace Go.Proofs.YtljnfbpplhnmfaaGreatDoor.En
open Go Go.RowKit Go.Proofs.YtljnfbpplhnmfaaGreatDoorW.PrintWords Go.Proofs.YtljnfbpplhnmfaaGreatDoorW.PrintLast Go.Proofs.YtljnfbpplhnmfaaGreatDoorW.PrintMore Go.Proofs.YtljnfbpplhnmfaaGreatDoor.Str Go.Proofs.YtljnfbpplhnmfaaGreatDoor.Mp Go.Proofs.YtljnfbpplhnmfaaGreatDoor.Ra Go.Proofs.YtljnfbpplhnmfaaGreatDoor.Sl Go.Proofs.YtljnfbpplhnmfaaGreatDoor.Qu Go.Proofs.YtljnfbpplhnmfaaGreatDoor.Sq Go.Proofs.YtljnfbpplhnmfaaGreatDoor.Fl Go.Proofs.YtljnfbpplhnmfaaGreatDoor.Ru Go.Proofs.YtljnfbpplhnmfaaGreatDoor.Md
set_option linter.unusedVariables false
set_option linter.unusedSimpArgs false
set_option maxRecDepth 1000000
set_option maxHeartbeats 4000000
theorem sup10 (b mb fb : Nat) (e : E) (t k ns nr : Int) (s : ByteArray) (hl : e.out.length ≤ 7000) (hs : e.state = 8) (ha : ackOk e.fl nr) (T : Nat → Prop) (w0 w : World) (h : Went (entAt b mb fb e) T w0 w) :
    Calls Tryz.prog 131 #[.pointer (some ⟨b, 0, none⟩), .agg (frCells (⟨t, true, k, true, ns, nr, s⟩ : Fr))] w fun r w' => r = .returned (.tuple #[]) ∧ Went (entAt b mb fb (supervised e (⟨t, true, k, true, ns, nr, s⟩ : Fr))) T w0 w' := by
  have HOK := Aside0.mk (entAt.ok h)
  obtain ⟨A, ca, ⟨c0, c1, c2, c3, c4, c5, c6, c7, c8⟩, f0, f1, f2, f3, f4, f8⟩ := entAt.cells h
  have HW := Aside0.mk h
  clear h
  have hE1 : supervised1 e (⟨t, true, k, true, ns, nr, s⟩ : Fr) = supervise (e) false true := by simp [supervised1, final, hs]
  have hE2 : supervised e (⟨t, true, k, true, ns, nr, s⟩ : Fr) = supervised3 { supervise (e) false true with fl := ({ (supervise (e) false true).fl with peer := (k == 2) } : F) } (⟨t, true, k, true, ns, nr, s⟩ : Fr) := by unfold supervised; rw [hE1]; rfl
  have hE3 : supervised3 { supervise (e) false true with fl := ({ (supervise (e) false true).fl with peer := (k == 2) } : F) } (⟨t, true, k, true, ns, nr, s⟩ : Fr) = { { supervise (e) false true with fl := ({ (supervise (e) false true).fl with peer := (k == 2) } : F) } with fl := ackF ({ (supervise (e) false true).fl with peer := (k == 2) } : F) nr } := (if_pos ha).trans (if_pos ⟨hs, rfl⟩)
  rw [hE2, hE3]
  clear hE1 hE2 hE3
  have HK : Aside0 (∀ T1 wz, (flAt fb ({ (supervise (e) false true).fl with peer := (k == 2) } : F)).h T1 wz → Calls Tryz.prog 157 #[.pointer (some ⟨fb, 0, none⟩), .int .i64 nr] wz fun r w2 => r = .returned (.tuple #[.int .i64 (ackN ({ (supervise (e) false true).fl with peer := (k == 2) } : F) nr : Int), .int .i64 0]) ∧ Went (flAt fb (ackF ({ (supervise (e) false true).fl with peer := (k == 2) } : F) nr)) T1 wz w2) := ⟨fun T1 wz hz => by
    have h0 := Fl.ackC fb ({ (supervise (e) false true).fl with peer := (k == 2) } : F) nr T1 wz hz
    rw [if_pos (show ackOk ({ (supervise (e) false true).fl with peer := (k == 2) } : F) nr from ha), if_pos (show ackOk ({ (supervise (e) false true).fl with peer := (k == 2) } : F) nr from ha)] at h0
    exact h0⟩
  have HS := Aside0.mk hs
  rw [hs] at c1
  clear ha hs
  have hbx := heap_alloc_new w (.cells #[.int .i64 0, .int .i64 t, .bool true, .int .i64 k, .bool true, .int .i64 ns, .int .i64 nr, .string s] 144 (0, 0))
  have hw := (Went.single HW.out).new (.cells #[.int .i64 0, .int .i64 t, .bool true, .int .i64 k, .bool true, .int .i64 ns, .int .i64 nr, .string s] 144 (0, 0))
  obtain ⟨g, HG⟩ : ∃ g, Aside0 (w.heap.size = g) := ⟨_, ⟨rfl⟩⟩
  rw [HG.out] at hw hbx
  clear HW
  have HW : Aside0 (Went (all [blk g (.cells #[.int .i64 0, .int .i64 t, .bool true, .int .i64 k, .bool true, .int .i64 ns, .int .i64 nr, .string s] 144 (0, 0)), entAt b mb fb (e)]) T w0 (w.alloc (.cells #[.int .i64 0, .int .i64 t, .bool true, .int .i64 k, .bool true, .int .i64 ns, .int .i64 nr, .string s] 144 (0, 0)))) := ⟨hw⟩
  clear hw
  obtain ⟨⟨b0, b1, b2, b3, b4, b5, b6, b7⟩, _⟩ := cells8 hbx
  clear hbx
  clear b0 b1 b2 b3 b4 b5 b6 b7
  clear c0 c1 c2 c3 c4 c5 c6 c7 c8 f0 f1 f2 f3 f4 f8
  obtain ⟨⟨b0, b1, b2, b3, b4, b5, b6, b7⟩, _⟩ := cells8 (HW.out.heap 0 rfl)
  obtain ⟨Tz, hz⟩ := HW.out.get 1 rfl
  obtain ⟨A, ca, ⟨c0, c1, c2, c3, c4, c5, c6, c7, c8⟩, f0, f1, f2, f3, f4, f8⟩ := entAt.cells (Went.refl hz)
  clear hz
  rw [HS.out] at c1
  have hg := HG.out
  unfold frCells
  go_enter Tryz.func131, Tryz.ntmps131
  go_wp2_with fail
  refine (HW.out.call_at 1 rfl (fun T1 h1 => superviseC b mb fb (e) false true (Nat.le_trans hl (by omega)) T1 _ _ (Went.refl h1))).mono ?_
  rintro r w1 ⟨rfl, hw⟩
  have HW : Aside0 (Went (all [blk g (.cells #[.int .i64 0, .int .i64 t, .bool true, .int .i64 k, .bool true, .int .i64 ns, .int .i64 nr, .string s] 144 (0, 0)), entAt b mb fb (supervise (e) false true)]) T w0 w1) := ⟨hw⟩
  clear hw
  clear b0 b1 b2 b3 b4 b5 b6 b7
  clear c0 c1 c2 c3 c4 c5 c6 c7 c8 f0 f1 f2 f3 f4 f8
  obtain ⟨⟨b0, b1, b2, b3, b4, b5, b6, b7⟩, _⟩ := cells8 (HW.out.heap 0 rfl)
  obtain ⟨Tz, hz⟩ := HW.out.get 1 rfl
  obtain ⟨A, ca, ⟨c0, c1, c2, c3, c4, c5, c6, c7, c8⟩, f0, f1, f2, f3, f4, f8⟩ := entAt.cells (Went.refl hz)
  clear hz
  go_wp2_with fail
  go_still_tail 7, (by kernel_rfl)
  change wpList _ _ _ _ _ (World.drew _)
  have HW := Aside0.mk HW.out.drew
  go_wp2_with fail
  refine (HW.out.call_at 1 rfl (fun T1 h1 => entAt.flow (Went.refl h1) (fun T2 h2 => Fl.setPeerC fb _ (k == 2) T2 _ h2))).mono ?_
  rintro r w2 ⟨rfl, hw⟩
  have HW : Aside0 (Went (all [blk g (.cells #[.int .i64 0, .int .i64 t, .bool true, .int .i64 k, .bool true, .int .i64 ns, .int .i64 nr, .string s] 144 (0, 0)), entAt b mb fb ({ supervise (e) false true with fl := { (supervise (e) false true).fl with peer := (k == 2) } })]) T w0 w2) := ⟨hw⟩
  clear hw
  clear b0 b1 b2 b3 b4 b5 b6 b7
  clear c0 c1 c2 c3 c4 c5 c6 c7 c8 f0 f1 f2 f3 f4 f8
  obtain ⟨⟨b0, b1, b2, b3, b4, b5, b6, b7⟩, _⟩ := cells8 (HW.out.heap 0 rfl)
  obtain ⟨Tz, hz⟩ := HW.out.get 1 rfl
  obtain ⟨A, ca, ⟨c0, c1, c2, c3, c4, c5, c6, c7, c8⟩, f0, f1, f2, f3, f4, f8⟩ := entAt.cells (Went.refl hz)
  clear hz
  go_wp2_with fail
  have HW := Aside0.mk HW.out.drew
  go_region_law (go_simp; go_at_call 157; refine (HW.out.call_at 1 rfl (fun T1 h1 => entAt.flow (Went.refl h1) (fun T2 h2 => HK.out T2 _ h2))).mono ?_; rintro r w3 ⟨rfl, hw⟩)
  all_goals
    have HW : Aside0 (Went (all [blk g (.cells #[.int .i64 0, .int .i64 t, .bool true, .int .i64 k, .bool true, .int .i64 ns, .int .i64 nr, .string s] 144 (0, 0)), entAt b mb fb ({ { supervise (e) false true with fl := { (supervise (e) false true).fl with peer := (k == 2) } } with fl := ackF ({ (supervise (e) false true).fl with peer := (k == 2) } : F) nr })]) T w0 w3) := ⟨hw⟩
    clear hw
    clear b0 b1 b2 b3 b4 b5 b6 b7
    clear c0 c1 c2 c3 c4 c5 c6 c7 c8 f0 f1 f2 f3 f4 f8
    obtain ⟨⟨b0, b1, b2, b3, b4, b5, b6, b7⟩, _⟩ := cells8 (HW.out.heap 0 rfl)
    obtain ⟨Tz, hz⟩ := HW.out.get 1 rfl
    obtain ⟨A, ca, ⟨c0, c1, c2, c3, c4, c5, c6, c7, c8⟩, f0, f1, f2, f3, f4, f8⟩ := entAt.cells (Went.refl hz)
    clear hz
    have hst : ({ { supervise (e) false true with fl := { (supervise (e) false true).fl with peer := (k == 2) } } with fl := ackF ({ (supervise (e) false true).fl with peer := (k == 2) } : F) nr }).state = 8 := HS.out
    rw [hst] at c1
    clear hst
    go_wp2
    refine bodyPost_ret (results_none rfl _ _ _) rfl ?_
    exact ⟨rfl, Went.only (HW.out).drop⟩
theorem sup30 (b mb fb : Nat) (e : E) (t k ns nr : Int) (s : ByteArray) (hl : e.out.length ≤ 7000) (hs : e.state = 8) (ha : ackOk e.fl nr) (T : Nat → Prop) (w0 w : World) (h : Went (entAt b mb fb e) T w0 w) :
    Calls Tryz.prog 131 #[.pointer (some ⟨b, 0, none⟩), .agg (frCells (⟨t, true, k, false, ns, nr, s⟩ : Fr))] w fun r w' => r = .returned (.tuple #[]) ∧ Went (entAt b mb fb (supervised e (⟨t, true, k, false, ns, nr, s⟩ : Fr))) T w0 w' := by
  have HOK := Aside0.mk (entAt.ok h)
  obtain ⟨A, ca, ⟨c0, c1, c2, c3, c4, c5, c6, c7, c8⟩, f0, f1, f2, f3, f4, f8⟩ := entAt.cells h
  have HW := Aside0.mk h
  clear h
  have hE1 : supervised1 e (⟨t, true, k, false, ns, nr, s⟩ : Fr) = e := by simp [supervised1, final, hs]
  have hE2 : supervised e (⟨t, true, k, false, ns, nr, s⟩ : Fr) = supervised3 { e with fl := ({ (e).fl with peer := (k == 2) } : F) } (⟨t, true, k, false, ns, nr, s⟩ : Fr) := by unfold supervised; rw [hE1]; rfl
  have hE3 : supervised3 { e with fl := ({ (e).fl with peer := (k == 2) } : F) } (⟨t, true, k, false, ns, nr, s⟩ : Fr) = { { e with fl := ({ (e).fl with peer := (k == 2) } : F) } with fl := ackF ({ (e).fl with peer := (k == 2) } : F) nr } := (if_pos ha).trans (if_pos ⟨hs, rfl⟩)
  rw [hE2, hE3]
  clear hE1 hE2 hE3
  have HK : Aside0 (∀ T1 wz, (flAt fb ({ (e).fl with peer := (k == 2) } : F)).h T1 wz → Calls Tryz.prog 157 #[.pointer (some ⟨fb, 0, none⟩), .int .i64 nr] wz fun r w2 => r = .returned (.tuple #[.int .i64 (ackN ({ (e).fl with peer := (k == 2) } : F) nr : Int), .int .i64 0]) ∧ Went (flAt fb (ackF ({ (e).fl with peer := (k == 2) } : F) nr)) T1 wz w2) := ⟨fun T1 wz hz => by
    have h0 := Fl.ackC fb ({ (e).fl with peer := (k == 2) } : F) nr T1 wz hz
    rw [if_pos (show ackOk ({ (e).fl with peer := (k == 2) } : F) nr from ha), if_pos (show ackOk ({ (e).fl with peer := (k == 2) } : F) nr from ha)] at h0
    exact h0⟩
  have HS := Aside0.mk hs
  rw [hs] at c1
  clear ha hs
  have hbx := heap_alloc_new w (.cells #[.int .i64 0, .int .i64 t, .bool true, .int .i64 k, .bool false, .int .i64 ns, .int .i64 nr, .string s] 144 (0, 0))
  have hw := (Went.single HW.out).new (.cells #[.int .i64 0, .int .i64 t, .bool true, .int .i64 k, .bool false, .int .i64 ns, .int .i64 nr, .string s] 144 (0, 0))
  obtain ⟨g, HG⟩ : ∃ g, Aside0 (w.heap.size = g) := ⟨_, ⟨rfl⟩⟩
  rw [HG.out] at hw hbx
  clear HW
  have HW : Aside0 (Went (all [blk g (.cells #[.int .i64 0, .int .i64 t, .bool true, .int .i64 k, .bool false, .int .i64 ns, .int .i64 nr, .string s] 144 (0, 0)), entAt b mb fb (e)]) T w0 (w.alloc (.cells #[.int .i64 0, .int .i64 t, .bool true, .int .i64 k, .bool false, .int .i64 ns, .int .i64 nr, .string s] 144 (0, 0)))) := ⟨hw⟩
  clear hw
  obtain ⟨⟨b0, b1, b2, b3, b4, b5, b6, b7⟩, _⟩ := cells8 hbx
  clear hbx
  clear b0 b1 b2 b3 b4 b5 b6 b7
  clear c0 c1 c2 c3 c4 c5 c6 c7 c8 f0 f1 f2 f3 f4 f8
  obtain ⟨⟨b0, b1, b2, b3, b4, b5, b6, b7⟩, _⟩ := cells8 (HW.out.heap 0 rfl)
  obtain ⟨Tz, hz⟩ := HW.out.get 1 rfl
  obtain ⟨A, ca, ⟨c0, c1, c2, c3, c4, c5, c6, c7, c8⟩, f0, f1, f2, f3, f4, f8⟩ := entAt.cells (Went.refl hz)
  clear hz
  rw [HS.out] at c1
  have hg := HG.out
  unfold frCells
  go_enter Tryz.func131, Tryz.ntmps131
  go_wp2_with fail
  generalize w.alloc (.cells #[.int .i64 0, .int .i64 t, .bool true, .int .i64 k, .bool false, .int .i64 ns, .int .i64 nr, .string s] 144 (0, 0)) = wx at *
  go_still_tail 7, (by kernel_rfl)
  change wpList _ _ _ _ _ (World.drew _)
  have HW := Aside0.mk HW.out.drew
  go_wp2_with fail
  refine (HW.out.call_at 1 rfl (fun T1 h1 => entAt.flow (Went.refl h1) (fun T2 h2 => Fl.setPeerC fb _ (k == 2) T2 _ h2))).mono ?_
  rintro r w1 ⟨rfl, hw⟩
  have HW : Aside0 (Went (all [blk g (.cells #[.int .i64 0, .int .i64 t, .bool true, .int .i64 k, .bool false, .int .i64 ns, .int .i64 nr, .string s] 144 (0, 0)), entAt b mb fb ({ e with fl := { (e).fl with peer := (k == 2) } })]) T w0 w1) := ⟨hw⟩
  clear hw
  clear b0 b1 b2 b3 b4 b5 b6 b7
  clear c0 c1 c2 c3 c4 c5 c6 c7 c8 f0 f1 f2 f3 f4 f8
  obtain ⟨⟨b0, b1, b2, b3, b4, b5, b6, b7⟩, _⟩ := cells8 (HW.out.heap 0 rfl)
  obtain ⟨Tz, hz⟩ := HW.out.get 1 rfl
  obtain ⟨A, ca, ⟨c0, c1, c2, c3, c4, c5, c6, c7, c8⟩, f0, f1, f2, f3, f4, f8⟩ := entAt.cells (Went.refl hz)
  clear hz
  go_wp2_with fail
  have HW := Aside0.mk HW.out.drew
  go_region_law (go_simp; go_at_call 157; refine (HW.out.call_at 1 rfl (fun T1 h1 => entAt.flow (Went.refl h1) (fun T2 h2 => HK.out T2 _ h2))).mono ?_; rintro r w2 ⟨rfl, hw⟩)
  all_goals
    have HW : Aside0 (Went (all [blk g (.cells #[.int .i64 0, .int .i64 t, .bool true, .int .i64 k, .bool false, .int .i64 ns, .int .i64 nr, .string s] 144 (0, 0)), entAt b mb fb ({ { e with fl := { (e).fl with peer := (k == 2) } } with fl := ackF ({ (e).fl with peer := (k == 2) } : F) nr })]) T w0 w2) := ⟨hw⟩
    clear hw
    clear b0 b1 b2 b3 b4 b5 b6 b7
    clear c0 c1 c2 c3 c4 c5 c6 c7 c8 f0 f1 f2 f3 f4 f8
    obtain ⟨⟨b0, b1, b2, b3, b4, b5, b6, b7⟩, _⟩ := cells8 (HW.out.heap 0 rfl)
    obtain ⟨Tz, hz⟩ := HW.out.get 1 rfl
    obtain ⟨A, ca, ⟨c0, c1, c2, c3, c4, c5, c6, c7, c8⟩, f0, f1, f2, f3, f4, f8⟩ := entAt.cells (Went.refl hz)
    clear hz
    have hst : ({ { e with fl := { (e).fl with peer := (k == 2) } } with fl := ackF ({ (e).fl with peer := (k == 2) } : F) nr }).state = 8 := HS.out
    rw [hst] at c1
    clear hst
    go_wp2
    refine bodyPost_ret (results_none rfl _ _ _) rfl ?_
    exact ⟨rfl, Went.only (HW.out).drop⟩
theorem sup40 (b mb fb : Nat) (e : E) (t k ns nr : Int) (s : ByteArray) (hl : e.out.length ≤ 7000) (hs : e.state = 8) (ha : ackOk e.fl nr) (T : Nat → Prop) (w0 w : World) (h : Went (entAt b mb fb e) T w0 w) :
    Calls Tryz.prog 131 #[.pointer (some ⟨b, 0, none⟩), .agg (frCells (⟨t, false, k, false, ns, nr, s⟩ : Fr))] w fun r w' => r = .returned (.tuple #[]) ∧ Went (entAt b mb fb (supervised e (⟨t, false, k, false, ns, nr, s⟩ : Fr))) T w0 w' := by
  have HOK := Aside0.mk (entAt.ok h)
  obtain ⟨A, ca, ⟨c0, c1, c2, c3, c4, c5, c6, c7, c8⟩, f0, f1, f2, f3, f4, f8⟩ := entAt.cells h
  have HW := Aside0.mk h
  clear h
  have hE1 : supervised1 e (⟨t, false, k, false, ns, nr, s⟩ : Fr) = e := by simp [supervised1, final, hs]
  have hE2 : supervised e (⟨t, false, k, false, ns, nr, s⟩ : Fr) = supervised3 { e with fl := ({ (e).fl with peer := (k == 2) } : F) } (⟨t, false, k, false, ns, nr, s⟩ : Fr) := by unfold supervised; rw [hE1]; rfl
  have hE3 : supervised3 { e with fl := ({ (e).fl with peer := (k == 2) } : F) } (⟨t, false, k, false, ns, nr, s⟩ : Fr) = { { e with fl := ({ (e).fl with peer := (k == 2) } : F) } with fl := ackF ({ (e).fl with peer := (k == 2) } : F) nr } := (if_pos ha).trans (if_pos ⟨hs, rfl⟩)
  rw [hE2, hE3]
  clear hE1 hE2 hE3
  have HK : Aside0 (∀ T1 wz, (flAt fb ({ (e).fl with peer := (k == 2) } : F)).h T1 wz → Calls Tryz.prog 157 #[.pointer (some ⟨fb, 0, none⟩), .int .i64 nr] wz fun r w2 => r = .returned (.tuple #[.int .i64 (ackN ({ (e).fl with peer := (k == 2) } : F) nr : Int), .int .i64 0]) ∧ Went (flAt fb (ackF ({ (e).fl with peer := (k == 2) } : F) nr)) T1 wz w2) := ⟨fun T1 wz hz => by
    have h0 := Fl.ackC fb ({ (e).fl with peer := (k == 2) } : F) nr T1 wz hz
    rw [if_pos (show ackOk ({ (e).fl with peer := (k == 2) } : F) nr from ha), if_pos (show ackOk ({ (e).fl with peer := (k == 2) } : F) nr from ha)] at h0
    exact h0⟩
  have HS := Aside0.mk hs
  rw [hs] at c1
  clear ha hs
  have hbx := heap_alloc_new w (.cells #[.int .i64 0, .int .i64 t, .bool false, .int .i64 k, .bool false, .int .i64 ns, .int .i64 nr, .string s] 144 (0, 0))
  have hw := (Went.single HW.out).new (.cells #[.int .i64 0, .int .i64 t, .bool false, .int .i64 k, .bool false, .int .i64 ns, .int .i64 nr, .string s] 144 (0, 0))
  obtain ⟨g, HG⟩ : ∃ g, Aside0 (w.heap.size = g) := ⟨_, ⟨rfl⟩⟩
  rw [HG.out] at hw hbx
  clear HW
  have HW : Aside0 (Went (all [blk g (.cells #[.int .i64 0, .int .i64 t, .bool false, .int .i64 k, .bool false, .int .i64 ns, .int .i64 nr, .string s] 144 (0, 0)), entAt b mb fb (e)]) T w0 (w.alloc (.cells #[.int .i64 0, .int .i64 t, .bool false, .int .i64 k, .bool false, .int .i64 ns, .int .i64 nr, .string s] 144 (0, 0)))) := ⟨hw⟩
  clear hw
  obtain ⟨⟨b0, b1, b2, b3, b4, b5, b6, b7⟩, _⟩ := cells8 hbx
  clear hbx
  clear b0 b1 b2 b3 b4 b5 b6 b7
  clear c0 c1 c2 c3 c4 c5 c6 c7 c8 f0 f1 f2 f3 f4 f8
  obtain ⟨⟨b0, b1, b2, b3, b4, b5, b6, b7⟩, _⟩ := cells8 (HW.out.heap 0 rfl)
  obtain ⟨Tz, hz⟩ := HW.out.get 1 rfl
  obtain ⟨A, ca, ⟨c0, c1, c2, c3, c4, c5, c6, c7, c8⟩, f0, f1, f2, f3, f4, f8⟩ := entAt.cells (Went.refl hz)
  clear hz
  rw [HS.out] at c1
  have hg := HG.out
  unfold frCells
  go_enter Tryz.func131, Tryz.ntmps131
  go_wp2_with fail
  generalize w.alloc (.cells #[.int .i64 0, .int .i64 t, .bool false, .int .i64 k, .bool false, .int .i64 ns, .int .i64 nr, .string s] 144 (0, 0)) = wx at *
  go_still_tail 7, (by kernel_rfl)
  change wpList _ _ _ _ _ (World.drew _)
  have HW := Aside0.mk HW.out.drew
  go_wp2_with fail
  refine (HW.out.call_at 1 rfl (fun T1 h1 => entAt.flow (Went.refl h1) (fun T2 h2 => Fl.setPeerC fb _ (k == 2) T2 _ h2))).mono ?_
  rintro r w1 ⟨rfl, hw⟩
  have HW : Aside0 (Went (all [blk g (.cells #[.int .i64 0, .int .i64 t, .bool false, .int .i64 k, .bool false, .int .i64 ns, .int .i64 nr, .string s] 144 (0, 0)), entAt b mb fb ({ e with fl := { (e).fl with peer := (k == 2) } })]) T w0 w1) := ⟨hw⟩
  clear hw
  clear b0 b1 b2 b3 b4 b5 b6 b7
  clear c0 c1 c2 c3 c4 c5 c6 c7 c8 f0 f1 f2 f3 f4 f8
  obtain ⟨⟨b0, b1, b2, b3, b4, b5, b6, b7⟩, _⟩ := cells8 (HW.out.heap 0 rfl)
  obtain ⟨Tz, hz⟩ := HW.out.get 1 rfl
  obtain ⟨A, ca, ⟨c0, c1, c2, c3, c4, c5, c6, c7, c8⟩, f0, f1, f2, f3, f4, f8⟩ := entAt.cells (Went.refl hz)
  clear hz
  go_wp2_with fail
  have HW := Aside0.mk HW.out.drew
  go_region_law (go_simp; go_at_call 157; refine (HW.out.call_at 1 rfl (fun T1 h1 => entAt.flow (Went.refl h1) (fun T2 h2 => HK.out T2 _ h2))).mono ?_; rintro r w2 ⟨rfl, hw⟩)
  all_goals
    have HW : Aside0 (Went (all [blk g (.cells #[.int .i64 0, .int .i64 t, .bool false, .int .i64 k, .bool false, .int .i64 ns, .int .i64 nr, .string s] 144 (0, 0)), entAt b mb fb ({ { e with fl := { (e).fl with peer := (k == 2) } } with fl := ackF ({ (e).fl with peer := (k == 2) } : F) nr })]) T w0 w2) := ⟨hw⟩
    clear hw
    clear b0 b1 b2 b3 b4 b5 b6 b7
    clear c0 c1 c2 c3 c4 c5 c6 c7 c8 f0 f1 f2 f3 f4 f8
    obtain ⟨⟨b0, b1, b2, b3, b4, b5, b6, b7⟩, _⟩ := cells8 (HW.out.heap 0 rfl)
    obtain ⟨Tz, hz⟩ := HW.out.get 1 rfl
    obtain ⟨A, ca, ⟨c0, c1, c2, c3, c4, c5, c6, c7, c8⟩, f0, f1, f2, f3, f4, f8⟩ := entAt.cells (Went.refl hz)
    clear hz
    have hst : ({ { e with fl := { (e).fl with peer := (k == 2) } } with fl := ackF ({ (e).fl with peer := (k == 2) } : F) nr }).state = 8 := HS.out
    rw [hst] at c1
    clear hst
    go_wp2
    refine bodyPost_ret (results_none rfl _ _ _) rfl ?_
    exact ⟨rfl, Went.only (HW.out).drop⟩
theorem sup11 (b mb fb : Nat) (e : E) (t ns nr : Int) (s : ByteArray) (hl : e.out.length ≤ 7000) (hs : e.state = 7) (ha : ackOk e.fl nr) (T : Nat → Prop) (w0 w : World) (h : Went (entAt b mb fb e) T w0 w) :
    Calls Tryz.prog 131 #[.pointer (some ⟨b, 0, none⟩), .agg (frCells (⟨t, true, 1, true, ns, nr, s⟩ : Fr))] w fun r w' => r = .returned (.tuple #[]) ∧ Went (entAt b mb fb (supervised e (⟨t, true, 1, true, ns, nr, s⟩ : Fr))) T w0 w' := by
  have HOK := Aside0.mk (entAt.ok h)
  obtain ⟨A, ca, ⟨c0, c1, c2, c3, c4, c5, c6, c7, c8⟩, f0, f1, f2, f3, f4, f8⟩ := entAt.cells h
  have HW := Aside0.mk h
  clear h
  have hE1 : supervised1 e (⟨t, true, 1, true, ns, nr, s⟩ : Fr) = supervise (e) false true := by simp [supervised1, final, hs]
  have hE2 : supervised e (⟨t, true, 1, true, ns, nr, s⟩ : Fr) = supervised3 { supervise (e) false true with fl := ({ (supervise (e) false true).fl with peer := false } : F) } (⟨t, true, 1, true, ns, nr, s⟩ : Fr) := by unfold supervised; rw [hE1]; rfl
  have hE3 : supervised3 { supervise (e) false true with fl := ({ (supervise (e) false true).fl with peer := false } : F) } (⟨t, true, 1, true, ns, nr, s⟩ : Fr) = goOn (count ({ { supervise (e) false true with fl := ({ (supervise (e) false true).fl with peer := false } : F) } with fl := ackF ({ (supervise (e) false true).fl with peer := false } : F) nr }) (ackN ({ (supervise (e) false true).fl with peer := false } : F) nr)) := (if_pos ha).trans ((if_neg (fun h => by have h1 : (7 : Int) = 8 := hs.symm.trans h.1; omega)).trans (if_pos ⟨hs, rfl⟩))
  rw [hE2, hE3]
  clear hE1 hE2 hE3
  have HK : Aside0 (∀ T1 wz, (flAt fb ({ (supervise (e) false true).fl with peer := false } : F)).h T1 wz → Calls Tryz.prog 157 #[.pointer (some ⟨fb, 0, none⟩), .int .i64 nr] wz fun r w2 => r = .returned (.tuple #[.int .i64 (ackN ({ (supervise (e) false true).fl with peer := false } : F) nr : Int), .int .i64 0]) ∧ Went (flAt fb (ackF ({ (supervise (e) false true).fl with peer := false } : F) nr)) T1 wz w2) := ⟨fun T1 wz hz => by
    have h0 := Fl.ackC fb ({ (supervise (e) false true).fl with peer := false } : F) nr T1 wz hz
    rw [if_pos (show ackOk ({ (supervise (e) false true).fl with peer := false } : F) nr from ha), if_pos (show ackOk ({ (supervise (e) false true).fl with peer := false } : F) nr from ha)] at h0
    exact h0⟩
  have HS := Aside0.mk hs
  rw [hs] at c1
  clear ha hs
  have hbx := heap_alloc_new w (.cells #[.int .i64 0, .int .i64 t, .bool true, .int .i64 1, .bool true, .int .i64 ns, .int .i64 nr, .string s] 144 (0, 0))
  have hw := (Went.single HW.out).new (.cells #[.int .i64 0, .int .i64 t, .bool true, .int .i64 1, .bool true, .int .i64 ns, .int .i64 nr, .string s] 144 (0, 0))
  obtain ⟨g, HG⟩ : ∃ g, Aside0 (w.heap.size = g) := ⟨_, ⟨rfl⟩⟩
  rw [HG.out] at hw hbx
  clear HW
  have HW : Aside0 (Went (all [blk g (.cells #[.int .i64 0, .int .i64 t, .bool true, .int .i64 1, .bool true, .int .i64 ns, .int .i64 nr, .string s] 144 (0, 0)), entAt b mb fb (e)]) T w0 (w.alloc (.cells #[.int .i64 0, .int .i64 t, .bool true, .int .i64 1, .bool true, .int .i64 ns, .int .i64 nr, .string s] 144 (0, 0)))) := ⟨hw⟩
  clear hw
  obtain ⟨⟨b0, b1, b2, b3, b4, b5, b6, b7⟩, _⟩ := cells8 hbx
  clear hbx
  clear b0 b1 b2 b3 b4 b5 b6 b7
  clear c0 c1 c2 c3 c4 c5 c6 c7 c8 f0 f1 f2 f3 f4 f8
  obtain ⟨⟨b0, b1, b2, b3, b4, b5, b6, b7⟩, _⟩ := cells8 (HW.out.heap 0 rfl)
  obtain ⟨Tz, hz⟩ := HW.out.get 1 rfl
  obtain ⟨A, ca, ⟨c0, c1, c2, c3, c4, c5, c6, c7, c8⟩, f0, f1, f2, f3, f4, f8⟩ := entAt.cells (Went.refl hz)
  clear hz
  rw [HS.out] at c1
  have hg := HG.out
  unfold frCells
  go_enter Tryz.func131, Tryz.ntmps131
  go_wp2_with fail
  refine (HW.out.call_at 1 rfl (fun T1 h1 => superviseC b mb fb (e) false true (Nat.le_trans hl (by omega)) T1 _ _ (Went.refl h1))).mono ?_
  rintro r w1 ⟨rfl, hw⟩
  have HW : Aside0 (Went (all [blk g (.cells #[.int .i64 0, .int .i64 t, .bool true, .int .i64 1, .bool true, .int .i64 ns, .int .i64 nr, .string s] 144 (0, 0)), entAt b mb fb (supervise (e) false true)]) T w0 w1) := ⟨hw⟩
  clear hw
  clear b0 b1 b2 b3 b4 b5 b6 b7
  clear c0 c1 c2 c3 c4 c5 c6 c7 c8 f0 f1 f2 f3 f4 f8
  obtain ⟨⟨b0, b1, b2, b3, b4, b5, b6, b7⟩, _⟩ := cells8 (HW.out.heap 0 rfl)
  obtain ⟨Tz, hz⟩ := HW.out.get 1 rfl
  obtain ⟨A, ca, ⟨c0, c1, c2, c3, c4, c5, c6, c7, c8⟩, f0, f1, f2, f3, f4, f8⟩ := entAt.cells (Went.refl hz)
  clear hz
  go_wp2_with fail
  go_still_tail 7, (by kernel_rfl)
  change wpList _ _ _ _ _ (World.drew _)
  have HW := Aside0.mk HW.out.drew
  go_wp2_with fail
  refine (HW.out.call_at 1 rfl (fun T1 h1 => entAt.flow (Went.refl h1) (fun T2 h2 => Fl.setPeerC fb _ false T2 _ h2))).mono ?_
  rintro r w2 ⟨rfl, hw⟩
  have HW : Aside0 (Went (all [blk g (.cells #[.int .i64 0, .int .i64 t, .bool true, .int .i64 1, .bool true, .int .i64 ns, .int .i64 nr, .string s] 144 (0, 0)), entAt b mb fb ({ supervise (e) false true with fl := { (supervise (e) false true).fl with peer := false } })]) T w0 w2) := ⟨hw⟩
  clear hw
  clear b0 b1 b2 b3 b4 b5 b6 b7
  clear c0 c1 c2 c3 c4 c5 c6 c7 c8 f0 f1 f2 f3 f4 f8
  obtain ⟨⟨b0, b1, b2, b3, b4, b5, b6, b7⟩, _⟩ := cells8 (HW.out.heap 0 rfl)
  obtain ⟨Tz, hz⟩ := HW.out.get 1 rfl
  obtain ⟨A, ca, ⟨c0, c1, c2, c3, c4, c5, c6, c7, c8⟩, f0, f1, f2, f3, f4, f8⟩ := entAt.cells (Went.refl hz)
  clear hz
  go_wp2_with fail
  have HW := Aside0.mk HW.out.drew
  go_region_law (go_simp; go_at_call 157; refine (HW.out.call_at 1 rfl (fun T1 h1 => entAt.flow (Went.refl h1) (fun T2 h2 => HK.out T2 _ h2))).mono ?_; rintro r w3 ⟨rfl, hw⟩)
  all_goals
    have HW : Aside0 (Went (all [blk g (.cells #[.int .i64 0, .int .i64 t, .bool true, .int .i64 1, .bool true, .int .i64 ns, .int .i64 nr, .string s] 144 (0, 0)), entAt b mb fb ({ { supervise (e) false true with fl := { (supervise (e) false true).fl with peer := false } } with fl := ackF ({ (supervise (e) false true).fl with peer := false } : F) nr })]) T w0 w3) := ⟨hw⟩
    clear hw
    clear b0 b1 b2 b3 b4 b5 b6 b7
    clear c0 c1 c2 c3 c4 c5 c6 c7 c8 f0 f1 f2 f3 f4 f8
    obtain ⟨⟨b0, b1, b2, b3, b4, b5, b6, b7⟩, _⟩ := cells8 (HW.out.heap 0 rfl)
    obtain ⟨Tz, hz⟩ := HW.out.get 1 rfl
    obtain ⟨A, ca, ⟨c0, c1, c2, c3, c4, c5, c6, c7, c8⟩, f0, f1, f2, f3, f4, f8⟩ := entAt.cells (Went.refl hz)
    clear hz
    have hst : ({ { supervise (e) false true with fl := { (supervise (e) false true).fl with peer := false } } with fl := ackF ({ (supervise (e) false true).fl with peer := false } : F) nr }).state = 7 := HS.out
    rw [hst] at c1
    clear hst
    go_wp2_with fail
    refine (HW.out.call_at 1 rfl (fun T1 h1 => countC b mb fb ({ { supervise (e) false true with fl := { (supervise (e) false true).fl with peer := false } } with fl := ackF ({ (supervise (e) false true).fl with peer := false } : F) nr }) (ackN ({ (supervise (e) false true).fl with peer := false } : F) nr) (Nat.le_trans (len_supervise (hl)) (by omega)) T1 _ _ (Went.refl h1))).mono ?_
    rintro r w4 ⟨rfl, hw⟩
    have HW : Aside0 (Went (all [blk g (.cells #[.int .i64 0, .int .i64 t, .bool true, .int .i64 1, .bool true, .int .i64 ns, .int .i64 nr, .string s] 144 (0, 0)), entAt b mb fb (count ({ { supervise (e) false true with fl := { (supervise (e) false true).fl with peer := false } } with fl := ackF ({ (supervise (e) false true).fl with peer := false } : F) nr }) (ackN ({ (supervise (e) false true).fl with peer := false } : F) nr))]) T w0 w4) := ⟨hw⟩
    clear hw
    clear b0 b1 b2 b3 b4 b5 b6 b7
    clear c0 c1 c2 c3 c4 c5 c6 c7 c8 f0 f1 f2 f3 f4 f8
    obtain ⟨⟨b0, b1, b2, b3, b4, b5, b6, b7⟩, _⟩ := cells8 (HW.out.heap 0 rfl)
    obtain ⟨Tz, hz⟩ := HW.out.get 1 rfl
    obtain ⟨A, ca, ⟨c0, c1, c2, c3, c4, c5, c6, c7, c8⟩, f0, f1, f2, f3, f4, f8⟩ := entAt.cells (Went.refl hz)
    clear hz
    go_wp2_with fail
    refine (HW.out.call_at 1 rfl (fun T1 h1 => goOnC b mb fb (count ({ { supervise (e) false true with fl := { (supervise (e) false true).fl with peer := false } } with fl := ackF ({ (supervise (e) false true).fl with peer := false } : F) nr }) (ackN ({ (supervise (e) false true).fl with peer := false } : F) nr)) (by have h9 : (count ({ { supervise (e) false true with fl := { (supervise (e) false true).fl with peer := false } } with fl := ackF ({ (supervise (e) false true).fl with peer := false } : F) nr }) (ackN ({ (supervise (e) false true).fl with peer := false } : F) nr)).out.length ≤ 7000 + 3 := len_count (len_supervise (hl)); exact Nat.le_trans h9 (by omega)) T1 _ _ (Went.refl h1))).mono ?_
    rintro r w5 ⟨rfl, hw⟩
    have HW : Aside0 (Went (all [blk g (.cells #[.int .i64 0, .int .i64 t, .bool true, .int .i64 1, .bool true, .int .i64 ns, .int .i64 nr, .string s] 144 (0, 0)), entAt b mb fb (goOn (count ({ { supervise (e) false true with fl := { (supervise (e) false true).fl with peer := false } } with fl := ackF ({ (supervise (e) false true).fl with peer := false } : F) nr }) (ackN ({ (supervise (e) false true).fl with peer := false } : F) nr)))]) T w0 w5) := ⟨hw⟩
    clear hw
    clear b0 b1 b2 b3 b4 b5 b6 b7
    clear c0 c1 c2 c3 c4 c5 c6 c7 c8 f0 f1 f2 f3 f4 f8
    obtain ⟨⟨b0, b1, b2, b3, b4, b5, b6, b7⟩, _⟩ := cells8 (HW.out.heap 0 rfl)
    obtain ⟨Tz, hz⟩ := HW.out.get 1 rfl
    obtain ⟨A, ca, ⟨c0, c1, c2, c3, c4, c5, c6, c7, c8⟩, f0, f1, f2, f3, f4, f8⟩ := entAt.cells (Went.refl hz)
    clear hz
    go_wp2
    refine bodyPost_ret (results_none rfl _ _ _) rfl ?_
    exact ⟨rfl, Went.only (HW.out).drop⟩
theorem sup21 (b mb fb : Nat) (e : E) (t ns nr : Int) (s : ByteArray) (hl : e.out.length ≤ 7000) (hs : e.state = 7) (ha : ackOk e.fl nr) (T : Nat → Prop) (w0 w : World) (h : Went (entAt b mb fb e) T w0 w) :
    Calls Tryz.prog 131 #[.pointer (some ⟨b, 0, none⟩), .agg (frCells (⟨t, false, 1, true, ns, nr, s⟩ : Fr))] w fun r w' => r = .returned (.tuple #[]) ∧ Went (entAt b mb fb (supervised e (⟨t, false, 1, true, ns, nr, s⟩ : Fr))) T w0 w' := by
  have HOK := Aside0.mk (entAt.ok h)
  obtain ⟨A, ca, ⟨c0, c1, c2, c3, c4, c5, c6, c7, c8⟩, f0, f1, f2, f3, f4, f8⟩ := entAt.cells h
  have HW := Aside0.mk h
  clear h
  have hE1 : supervised1 e (⟨t, false, 1, true, ns, nr, s⟩ : Fr) = told (e) 7 ⟨#[65]⟩ := by simp [supervised1, final, hs]
  have hE2 : supervised e (⟨t, false, 1, true, ns, nr, s⟩ : Fr) = supervised3 { told (e) 7 ⟨#[65]⟩ with fl := ({ (told (e) 7 ⟨#[65]⟩).fl with peer := false } : F) } (⟨t, false, 1, true, ns, nr, s⟩ : Fr) := by unfold supervised; rw [hE1]; rfl
  have hE3 : supervised3 { told (e) 7 ⟨#[65]⟩ with fl := ({ (told (e) 7 ⟨#[65]⟩).fl with peer := false } : F) } (⟨t, false, 1, true, ns, nr, s⟩ : Fr) = goOn (count ({ { told (e) 7 ⟨#[65]⟩ with fl := ({ (told (e) 7 ⟨#[65]⟩).fl with peer := false } : F) } with fl := ackF ({ (told (e) 7 ⟨#[65]⟩).fl with peer := false } : F) nr }) (ackN ({ (told (e) 7 ⟨#[65]⟩).fl with peer := false } : F) nr)) := (if_pos ha).trans ((if_neg (fun h => by have h1 : (7 : Int) = 8 := hs.symm.trans h.1; omega)).trans (if_pos ⟨hs, rfl⟩))
  rw [hE2, hE3]
  clear hE1 hE2 hE3
  have HK : Aside0 (∀ T1 wz, (flAt fb ({ (told (e) 7 ⟨#[65]⟩).fl with peer := false } : F)).h T1 wz → Calls Tryz.prog 157 #[.pointer (some ⟨fb, 0, none⟩), .int .i64 nr] wz fun r w2 => r = .returned (.tuple #[.int .i64 (ackN ({ (told (e) 7 ⟨#[65]⟩).fl with peer := false } : F) nr : Int), .int .i64 0]) ∧ Went (flAt fb (ackF ({ (told (e) 7 ⟨#[65]⟩).fl with peer := false } : F) nr)) T1 wz w2) := ⟨fun T1 wz hz => by
    have h0 := Fl.ackC fb ({ (told (e) 7 ⟨#[65]⟩).fl with peer := false } : F) nr T1 wz hz
    rw [if_pos (show ackOk ({ (told (e) 7 ⟨#[65]⟩).fl with peer := false } : F) nr from ha), if_pos (show ackOk ({ (told (e) 7 ⟨#[65]⟩).fl with peer := false } : F) nr from ha)] at h0
    exact h0⟩
  have HS := Aside0.mk hs
  rw [hs] at c1
  clear ha hs
  have hbx := heap_alloc_new w (.cells #[.int .i64 0, .int .i64 t, .bool false, .int .i64 1, .bool true, .int .i64 ns, .int .i64 nr, .string s] 144 (0, 0))
  have hw := (Went.single HW.out).new (.cells #[.int .i64 0, .int .i64 t, .bool false, .int .i64 1, .bool true, .int .i64 ns, .int .i64 nr, .string s] 144 (0, 0))
  obtain ⟨g, HG⟩ : ∃ g, Aside0 (w.heap.size = g) := ⟨_, ⟨rfl⟩⟩
  rw [HG.out] at hw hbx
  clear HW
  have HW : Aside0 (Went (all [blk g (.cells #[.int .i64 0, .int .i64 t, .bool false, .int .i64 1, .bool true, .int .i64 ns, .int .i64 nr, .string s] 144 (0, 0)), entAt b mb fb (e)]) T w0 (w.alloc (.cells #[.int .i64 0, .int .i64 t, .bool false, .int .i64 1, .bool true, .int .i64 ns, .int .i64 nr, .string s] 144 (0, 0)))) := ⟨hw⟩
  clear hw
  obtain ⟨⟨b0, b1, b2, b3, b4, b5, b6, b7⟩, _⟩ := cells8 hbx
  clear hbx
  clear b0 b1 b2 b3 b4 b5 b6 b7
  clear c0 c1 c2 c3 c4 c5 c6 c7 c8 f0 f1 f2 f3 f4 f8
  obtain ⟨⟨b0, b1, b2, b3, b4, b5, b6, b7⟩, _⟩ := cells8 (HW.out.heap 0 rfl)
  obtain ⟨Tz, hz⟩ := HW.out.get 1 rfl
  obtain ⟨A, ca, ⟨c0, c1, c2, c3, c4, c5, c6, c7, c8⟩, f0, f1, f2, f3, f4, f8⟩ := entAt.cells (Went.refl hz)
  clear hz
  rw [HS.out] at c1
  have hg := HG.out
  unfold frCells
  go_enter Tryz.func131, Tryz.ntmps131
  go_wp2_with fail
  refine (HW.out.call_at 1 rfl (fun T1 h1 => toldC b mb fb (e) 7 ⟨#[65]⟩ (Nat.le_trans hl (by omega)) T1 _ _ (Went.refl h1))).mono ?_
  rintro r w1 ⟨rfl, hw⟩
  have HW : Aside0 (Went (all [blk g (.cells #[.int .i64 0, .int .i64 t, .bool false, .int .i64 1, .bool true, .int .i64 ns, .int .i64 nr, .string s] 144 (0, 0)), entAt b mb fb (told (e) 7 ⟨#[65]⟩)]) T w0 w1) := ⟨hw⟩
  clear hw
  clear b0 b1 b2 b3 b4 b5 b6 b7
  clear c0 c1 c2 c3 c4 c5 c6 c7 c8 f0 f1 f2 f3 f4 f8
  obtain ⟨⟨b0, b1, b2, b3, b4, b5, b6, b7⟩, _⟩ := cells8 (HW.out.heap 0 rfl)
  obtain ⟨Tz, hz⟩ := HW.out.get 1 rfl
  obtain ⟨A, ca, ⟨c0, c1, c2, c3, c4, c5, c6, c7, c8⟩, f0, f1, f2, f3, f4, f8⟩ := entAt.cells (Went.refl hz)
  clear hz
  go_wp2_with fail
  go_still_tail 7, (by kernel_rfl)
  change wpList _ _ _ _ _ (World.drew _)
  have HW := Aside0.mk HW.out.drew
  go_wp2_with fail
  refine (HW.out.call_at 1 rfl (fun T1 h1 => entAt.flow (Went.refl h1) (fun T2 h2 => Fl.setPeerC fb _ false T2 _ h2))).mono ?_
  rintro r w2 ⟨rfl, hw⟩
  have HW : Aside0 (Went (all [blk g (.cells #[.int .i64 0, .int .i64 t, .bool false, .int .i64 1, .bool true, .int .i64 ns, .int .i64 nr, .string s] 144 (0, 0)), entAt b mb fb ({ told (e) 7 ⟨#[65]⟩ with fl := { (told (e) 7 ⟨#[65]⟩).fl with peer := false } })]) T w0 w2) := ⟨hw⟩
  clear hw
  clear b0 b1 b2 b3 b4 b5 b6 b7
  clear c0 c1 c2 c3 c4 c5 c6 c7 c8 f0 f1 f2 f3 f4 f8
  obtain ⟨⟨b0, b1, b2, b3, b4, b5, b6, b7⟩, _⟩ := cells8 (HW.out.heap 0 rfl)
  obtain ⟨Tz, hz⟩ := HW.out.get 1 rfl
  obtain ⟨A, ca, ⟨c0, c1, c2, c3, c4, c5, c6, c7, c8⟩, f0, f1, f2, f3, f4, f8⟩ := entAt.cells (Went.refl hz)
  clear hz
  go_wp2_with fail
  have HW := Aside0.mk HW.out.drew
  go_region_law (go_simp; go_at_call 157; refine (HW.out.call_at 1 rfl (fun T1 h1 => entAt.flow (Went.refl h1) (fun T2 h2 => HK.out T2 _ h2))).mono ?_; rintro r w3 ⟨rfl, hw⟩)
  all_goals
    have HW : Aside0 (Went (all [blk g (.cells #[.int .i64 0, .int .i64 t, .bool false, .int .i64 1, .bool true, .int .i64 ns, .int .i64 nr, .string s] 144 (0, 0)), entAt b mb fb ({ { told (e) 7 ⟨#[65]⟩ with fl := { (told (e) 7 ⟨#[65]⟩).fl with peer := false } } with fl := ackF ({ (told (e) 7 ⟨#[65]⟩).fl with peer := false } : F) nr })]) T w0 w3) := ⟨hw⟩
    clear hw
    clear b0 b1 b2 b3 b4 b5 b6 b7
    clear c0 c1 c2 c3 c4 c5 c6 c7 c8 f0 f1 f2 f3 f4 f8
    obtain ⟨⟨b0, b1, b2, b3, b4, b5, b6, b7⟩, _⟩ := cells8 (HW.out.heap 0 rfl)
    obtain ⟨Tz, hz⟩ := HW.out.get 1 rfl
    obtain ⟨A, ca, ⟨c0, c1, c2, c3, c4, c5, c6, c7, c8⟩, f0, f1, f2, f3, f4, f8⟩ := entAt.cells (Went.refl hz)
    clear hz
    have hst : ({ { told (e) 7 ⟨#[65]⟩ with fl := { (told (e) 7 ⟨#[65]⟩).fl with peer := false } } with fl := ackF ({ (told (e) 7 ⟨#[65]⟩).fl with peer := false } : F) nr }).state = 7 := HS.out
    rw [hst] at c1
    clear hst
    go_wp2_with fail
    refine (HW.out.call_at 1 rfl (fun T1 h1 => countC b mb fb ({ { told (e) 7 ⟨#[65]⟩ with fl := { (told (e) 7 ⟨#[65]⟩).fl with peer := false } } with fl := ackF ({ (told (e) 7 ⟨#[65]⟩).fl with peer := false } : F) nr }) (ackN ({ (told (e) 7 ⟨#[65]⟩).fl with peer := false } : F) nr) (Nat.le_trans (len_told (hl)) (by omega)) T1 _ _ (Went.refl h1))).mono ?_
    rintro r w4 ⟨rfl, hw⟩
    have HW : Aside0 (Went (all [blk g (.cells #[.int .i64 0, .int .i64 t, .bool false, .int .i64 1, .bool true, .int .i64 ns, .int .i64 nr, .string s] 144 (0, 0)), entAt b mb fb (count ({ { told (e) 7 ⟨#[65]⟩ with fl := { (told (e) 7 ⟨#[65]⟩).fl with peer := false } } with fl := ackF ({ (told (e) 7 ⟨#[65]⟩).fl with peer := false } : F) nr }) (ackN ({ (told (e) 7 ⟨#[65]⟩).fl with peer := false } : F) nr))]) T w0 w4) := ⟨hw⟩
    clear hw
    clear b0 b1 b2 b3 b4 b5 b6 b7
    clear c0 c1 c2 c3 c4 c5 c6 c7 c8 f0 f1 f2 f3 f4 f8
    obtain ⟨⟨b0, b1, b2, b3, b4, b5, b6, b7⟩, _⟩ := cells8 (HW.out.heap 0 rfl)
    obtain ⟨Tz, hz⟩ := HW.out.get 1 rfl
    obtain ⟨A, ca, ⟨c0, c1, c2, c3, c4, c5, c6, c7, c8⟩, f0, f1, f2, f3, f4, f8⟩ := entAt.cells (Went.refl hz)
    clear hz
    go_wp2_with fail
    refine (HW.out.call_at 1 rfl (fun T1 h1 => goOnC b mb fb (count ({ { told (e) 7 ⟨#[65]⟩ with fl := { (told (e) 7 ⟨#[65]⟩).fl with peer := false } } with fl := ackF ({ (told (e) 7 ⟨#[65]⟩).fl with peer := false } : F) nr }) (ackN ({ (told (e) 7 ⟨#[65]⟩).fl with peer := false } : F) nr)) (by have h9 : (count ({ { told (e) 7 ⟨#[65]⟩ with fl := { (told (e) 7 ⟨#[65]⟩).fl with peer := false } } with fl := ackF ({ (told (e) 7 ⟨#[65]⟩).fl with peer := false } : F) nr }) (ackN ({ (told (e) 7 ⟨#[65]⟩).fl with peer := false } : F) nr)).out.length ≤ 7000 + 3 := len_count (len_told (hl)); exact Nat.le_trans h9 (by omega)) T1 _ _ (Went.refl h1))).mono ?_
    rintro r w5 ⟨rfl, hw⟩
    have HW : Aside0 (Went (all [blk g (.cells #[.int .i64 0, .int .i64 t, .bool false, .int .i64 1, .bool true, .int .i64 ns, .int .i64 nr, .string s] 144 (0, 0)), entAt b mb fb (goOn (count ({ { told (e) 7 ⟨#[65]⟩ with fl := { (told (e) 7 ⟨#[65]⟩).fl with peer := false } } with fl := ackF ({ (told (e) 7 ⟨#[65]⟩).fl with peer := false } : F) nr }) (ackN ({ (told (e) 7 ⟨#[65]⟩).fl with peer := false } : F) nr)))]) T w0 w5) := ⟨hw⟩
    clear hw
    clear b0 b1 b2 b3 b4 b5 b6 b7
    clear c0 c1 c2 c3 c4 c5 c6 c7 c8 f0 f1 f2 f3 f4 f8
    obtain ⟨⟨b0, b1, b2, b3, b4, b5, b6, b7⟩, _⟩ := cells8 (HW.out.heap 0 rfl)
    obtain ⟨Tz, hz⟩ := HW.out.get 1 rfl
    obtain ⟨A, ca, ⟨c0, c1, c2, c3, c4, c5, c6, c7, c8⟩, f0, f1, f2, f3, f4, f8⟩ := entAt.cells (Went.refl hz)
    clear hz
    go_wp2
    refine bodyPost_ret (results_none rfl _ _ _) rfl ?_
    exact ⟨rfl, Went.only (HW.out).drop⟩
theorem sup31 (b mb fb : Nat) (e : E) (t ns nr : Int) (s : ByteArray) (hl : e.out.length ≤ 7000) (hs : e.state = 7) (ha : ackOk e.fl nr) (T : Nat → Prop) (w0 w : World) (h : Went (entAt b mb fb e) T w0 w) :
    Calls Tryz.prog 131 #[.pointer (some ⟨b, 0, none⟩), .agg (frCells (⟨t, true, 1, false, ns, nr, s⟩ : Fr))] w fun r w' => r = .returned (.tuple #[]) ∧ Went (entAt b mb fb (supervised e (⟨t, true, 1, false, ns, nr, s⟩ : Fr))) T w0 w' := by
  have HOK := Aside0.mk (entAt.ok h)
  obtain ⟨A, ca, ⟨c0, c1, c2, c3, c4, c5, c6, c7, c8⟩, f0, f1, f2, f3, f4, f8⟩ := entAt.cells h
  have HW := Aside0.mk h
  clear h
  have hE1 : supervised1 e (⟨t, true, 1, false, ns, nr, s⟩ : Fr) = e := by simp [supervised1, final, hs]
  have hE2 : supervised e (⟨t, true, 1, false, ns, nr, s⟩ : Fr) = supervised3 { e with fl := ({ (e).fl with peer := false } : F) } (⟨t, true, 1, false, ns, nr, s⟩ : Fr) := by unfold supervised; rw [hE1]; rfl
  have hE3 : supervised3 { e with fl := ({ (e).fl with peer := false } : F) } (⟨t, true, 1, false, ns, nr, s⟩ : Fr) = goOn (count ({ { e with fl := ({ (e).fl with peer := false } : F) } with fl := ackF ({ (e).fl with peer := false } : F) nr }) (ackN ({ (e).fl with peer := false } : F) nr)) := (if_pos ha).trans ((if_neg (fun h => by have h1 : (7 : Int) = 8 := hs.symm.trans h.1; omega)).trans (if_pos ⟨hs, rfl⟩))
  rw [hE2, hE3]
  clear hE1 hE2 hE3
  have HK : Aside0 (∀ T1 wz, (flAt fb ({ (e).fl with peer := false } : F)).h T1 wz → Calls Tryz.prog 157 #[.pointer (some ⟨fb, 0, none⟩), .int .i64 nr] wz fun r w2 => r = .returned (.tuple #[.int .i64 (ackN ({ (e).fl with peer := false } : F) nr : Int), .int .i64 0]) ∧ Went (flAt fb (ackF ({ (e).fl with peer := false } : F) nr)) T1 wz w2) := ⟨fun T1 wz hz => by
    have h0 := Fl.ackC fb ({ (e).fl with peer := false } : F) nr T1 wz hz
    rw [if_pos (show ackOk ({ (e).fl with peer := false } : F) nr from ha), if_pos (show ackOk ({ (e).fl with peer := false } : F) nr from ha)] at h0
    exact h0⟩
  have HS := Aside0.mk hs
  rw [hs] at c1
  clear ha hs
  have hbx := heap_alloc_new w (.cells #[.int .i64 0, .int .i64 t, .bool true, .int .i64 1, .bool false, .int .i64 ns, .int .i64 nr, .string s] 144 (0, 0))
  have hw := (Went.single HW.out).new (.cells #[.int .i64 0, .int .i64 t, .bool true, .int .i64 1, .bool false, .int .i64 ns, .int .i64 nr, .string s] 144 (0, 0))
  obtain ⟨g, HG⟩ : ∃ g, Aside0 (w.heap.size = g) := ⟨_, ⟨rfl⟩⟩
  rw [HG.out] at hw hbx
  clear HW
  have HW : Aside0 (Went (all [blk g (.cells #[.int .i64 0, .int .i64 t, .bool true, .int .i64 1, .bool false, .int .i64 ns, .int .i64 nr, .string s] 144 (0, 0)), entAt b mb fb (e)]) T w0 (w.alloc (.cells #[.int .i64 0, .int .i64 t, .bool true, .int .i64 1, .bool false, .int .i64 ns, .int .i64 nr, .string s] 144 (0, 0)))) := ⟨hw⟩
  clear hw
  obtain ⟨⟨b0, b1, b2, b3, b4, b5, b6, b7⟩, _⟩ := cells8 hbx
  clear hbx
  clear b0 b1 b2 b3 b4 b5 b6 b7
  clear c0 c1 c2 c3 c4 c5 c6 c7 c8 f0 f1 f2 f3 f4 f8
  obtain ⟨⟨b0, b1, b2, b3, b4, b5, b6, b7⟩, _⟩ := cells8 (HW.out.heap 0 rfl)
  obtain ⟨Tz, hz⟩ := HW.out.get 1 rfl
  obtain ⟨A, ca, ⟨c0, c1, c2, c3, c4, c5, c6, c7, c8⟩, f0, f1, f2, f3, f4, f8⟩ := entAt.cells (Went.refl hz)
  clear hz
  rw [HS.out] at c1
  have hg := HG.out
  unfold frCells
  go_enter Tryz.func131, Tryz.ntmps131
  go_wp2_with fail
  generalize w.alloc (.cells #[.int .i64 0, .int .i64 t, .bool true, .int .i64 1, .bool false, .int .i64 ns, .int .i64 nr, .string s] 144 (0, 0)) = wx at *
  go_still_tail 7, (by kernel_rfl)
  change wpList _ _ _ _ _ (World.drew _)
  have HW := Aside0.mk HW.out.drew
  go_wp2_with fail
  refine (HW.out.call_at 1 rfl (fun T1 h1 => entAt.flow (Went.refl h1) (fun T2 h2 => Fl.setPeerC fb _ false T2 _ h2))).mono ?_
  rintro r w1 ⟨rfl, hw⟩
  have HW : Aside0 (Went (all [blk g (.cells #[.int .i64 0, .int .i64 t, .bool true, .int .i64 1, .bool false, .int .i64 ns, .int .i64 nr, .string s] 144 (0, 0)), entAt b mb fb ({ e with fl := { (e).fl with peer := false } })]) T w0 w1) := ⟨hw⟩
  clear hw
  clear b0 b1 b2 b3 b4 b5 b6 b7
  clear c0 c1 c2 c3 c4 c5 c6 c7 c8 f0 f1 f2 f3 f4 f8
  obtain ⟨⟨b0, b1, b2, b3, b4, b5, b6, b7⟩, _⟩ := cells8 (HW.out.heap 0 rfl)
  obtain ⟨Tz, hz⟩ := HW.out.get 1 rfl
  obtain ⟨A, ca, ⟨c0, c1, c2, c3, c4, c5, c6, c7, c8⟩, f0, f1, f2, f3, f4, f8⟩ := entAt.cells (Went.refl hz)
  clear hz
  go_wp2_with fail
  have HW := Aside0.mk HW.out.drew
  go_region_law (go_simp; go_at_call 157; refine (HW.out.call_at 1 rfl (fun T1 h1 => entAt.flow (Went.refl h1) (fun T2 h2 => HK.out T2 _ h2))).mono ?_; rintro r w2 ⟨rfl, hw⟩)
  all_goals
    have HW : Aside0 (Went (all [blk g (.cells #[.int .i64 0, .int .i64 t, .bool true, .int .i64 1, .bool false, .int .i64 ns, .int .i64 nr, .string s] 144 (0, 0)), entAt b mb fb ({ { e with fl := { (e).fl with peer := false } } with fl := ackF ({ (e).fl with peer := false } : F) nr })]) T w0 w2) := ⟨hw⟩
    clear hw
    clear b0 b1 b2 b3 b4 b5 b6 b7
    clear c0 c1 c2 c3 c4 c5 c6 c7 c8 f0 f1 f2 f3 f4 f8
    obtain ⟨⟨b0, b1, b2, b3, b4, b5, b6, b7⟩, _⟩ := cells8 (HW.out.heap 0 rfl)
    obtain ⟨Tz, hz⟩ := HW.out.get 1 rfl
    obtain ⟨A, ca, ⟨c0, c1, c2, c3, c4, c5, c6, c7, c8⟩, f0, f1, f2, f3, f4, f8⟩ := entAt.cells (Went.refl hz)
    clear hz
    have hst : ({ { e with fl := { (e).fl with peer := false } } with fl := ackF ({ (e).fl with peer := false } : F) nr }).state = 7 := HS.out
    rw [hst] at c1
    clear hst
    go_wp2_with fail
    refine (HW.out.call_at 1 rfl (fun T1 h1 => countC b mb fb ({ { e with fl := { (e).fl with peer := false } } with fl := ackF ({ (e).fl with peer := false } : F) nr }) (ackN ({ (e).fl with peer := false } : F) nr) (Nat.le_trans hl (by omega)) T1 _ _ (Went.refl h1))).mono ?_
    rintro r w3 ⟨rfl, hw⟩
    have HW : Aside0 (Went (all [blk g (.cells #[.int .i64 0, .int .i64 t, .bool true, .int .i64 1, .bool false, .int .i64 ns, .int .i64 nr, .string s] 144 (0, 0)), entAt b mb fb (count ({ { e with fl := { (e).fl with peer := false } } with fl := ackF ({ (e).fl with peer := false } : F) nr }) (ackN ({ (e).fl with peer := false } : F) nr))]) T w0 w3) := ⟨hw⟩
    clear hw
    clear b0 b1 b2 b3 b4 b5 b6 b7
    clear c0 c1 c2 c3 c4 c5 c6 c7 c8 f0 f1 f2 f3 f4 f8
    obtain ⟨⟨b0, b1, b2, b3, b4, b5, b6, b7⟩, _⟩ := cells8 (HW.out.heap 0 rfl)
    obtain ⟨Tz, hz⟩ := HW.out.get 1 rfl
    obtain ⟨A, ca, ⟨c0, c1, c2, c3, c4, c5, c6, c7, c8⟩, f0, f1, f2, f3, f4, f8⟩ := entAt.cells (Went.refl hz)
    clear hz
    go_wp2_with fail
    refine (HW.out.call_at 1 rfl (fun T1 h1 => goOnC b mb fb (count ({ { e with fl := { (e).fl with peer := false } } with fl := ackF ({ (e).fl with peer := false } : F) nr }) (ackN ({ (e).fl with peer := false } : F) nr)) (by have h9 : (count ({ { e with fl := { (e).fl with peer := false } } with fl := ackF ({ (e).fl with peer := false } : F) nr }) (ackN ({ (e).fl with peer := false } : F) nr)).out.length ≤ 7000 + 2 := len_count (hl); exact Nat.le_trans h9 (by omega)) T1 _ _ (Went.refl h1))).mono ?_
    rintro r w4 ⟨rfl, hw⟩
    have HW : Aside0 (Went (all [blk g (.cells #[.int .i64 0, .int .i64 t, .bool true, .int .i64 1, .bool false, .int .i64 ns, .int .i64 nr, .string s] 144 (0, 0)), entAt b mb fb (goOn (count ({ { e with fl := { (e).fl with peer := false } } with fl := ackF ({ (e).fl with peer := false } : F) nr }) (ackN ({ (e).fl with peer := false } : F) nr)))]) T w0 w4) := ⟨hw⟩
    clear hw
    clear b0 b1 b2 b3 b4 b5 b6 b7
    clear c0 c1 c2 c3 c4 c5 c6 c7 c8 f0 f1 f2 f3 f4 f8
    obtain ⟨⟨b0, b1, b2, b3, b4, b5, b6, b7⟩, _⟩ := cells8 (HW.out.heap 0 rfl)
    obtain ⟨Tz, hz⟩ := HW.out.get 1 rfl
    obtain ⟨A, ca, ⟨c0, c1, c2, c3, c4, c5, c6, c7, c8⟩, f0, f1, f2, f3, f4, f8⟩ := entAt.cells (Went.refl hz)
    clear hz
    go_wp2
    refine bodyPost_ret (results_none rfl _ _ _) rfl ?_
    exact ⟨rfl, Went.only (HW.out).drop⟩
theorem sup41 (b mb fb : Nat) (e : E) (t ns nr : Int) (s : ByteArray) (hl : e.out.length ≤ 7000) (hs : e.state = 7) (ha : ackOk e.fl nr) (T : Nat → Prop) (w0 w : World) (h : Went (entAt b mb fb e) T w0 w) :
    Calls Tryz.prog 131 #[.pointer (some ⟨b, 0, none⟩), .agg (frCells (⟨t, false, 1, false, ns, nr, s⟩ : Fr))] w fun r w' => r = .returned (.tuple #[]) ∧ Went (entAt b mb fb (supervised e (⟨t, false, 1, false, ns, nr, s⟩ : Fr))) T w0 w' := by
  have HOK := Aside0.mk (entAt.ok h)
  obtain ⟨A, ca, ⟨c0, c1, c2, c3, c4, c5, c6, c7, c8⟩, f0, f1, f2, f3, f4, f8⟩ := entAt.cells h
  have HW := Aside0.mk h
  clear h
  have hE1 : supervised1 e (⟨t, false, 1, false, ns, nr, s⟩ : Fr) = e := by simp [supervised1, final, hs]
  have hE2 : supervised e (⟨t, false, 1, false, ns, nr, s⟩ : Fr) = supervised3 { e with fl := ({ (e).fl with peer := false } : F) } (⟨t, false, 1, false, ns, nr, s⟩ : Fr) := by unfold supervised; rw [hE1]; rfl
  have hE3 : supervised3 { e with fl := ({ (e).fl with peer := false } : F) } (⟨t, false, 1, false, ns, nr, s⟩ : Fr) = goOn (count ({ { e with fl := ({ (e).fl with peer := false } : F) } with fl := ackF ({ (e).fl with peer := false } : F) nr }) (ackN ({ (e).fl with peer := false } : F) nr)) := (if_pos ha).trans ((if_neg (fun h => by have h1 : (7 : Int) = 8 := hs.symm.trans h.1; omega)).trans (if_pos ⟨hs, rfl⟩))
  rw [hE2, hE3]
  clear hE1 hE2 hE3
  have HK : Aside0 (∀ T1 wz, (flAt fb ({ (e).fl with peer := false } : F)).h T1 wz → Calls Tryz.prog 157 #[.pointer (some ⟨fb, 0, none⟩), .int .i64 nr] wz fun r w2 => r = .returned (.tuple #[.int .i64 (ackN ({ (e).fl with peer := false } : F) nr : Int), .int .i64 0]) ∧ Went (flAt fb (ackF ({ (e).fl with peer := false } : F) nr)) T1 wz w2) := ⟨fun T1 wz hz => by
    have h0 := Fl.ackC fb ({ (e).fl with peer := false } : F) nr T1 wz hz
    rw [if_pos (show ackOk ({ (e).fl with peer := false } : F) nr from ha), if_pos (show ackOk ({ (e).fl with peer := false } : F) nr from ha)] at h0
    exact h0⟩
  have HS := Aside0.mk hs
  rw [hs] at c1
  clear ha hs
  have hbx := heap_alloc_new w (.cells #[.int .i64 0, .int .i64 t, .bool false, .int .i64 1, .bool false, .int .i64 ns, .int .i64 nr, .string s] 144 (0, 0))
  have hw := (Went.single HW.out).new (.cells #[.int .i64 0, .int .i64 t, .bool false, .int .i64 1, .bool false, .int .i64 ns, .int .i64 nr, .string s] 144 (0, 0))
  obtain ⟨g, HG⟩ : ∃ g, Aside0 (w.heap.size = g) := ⟨_, ⟨rfl⟩⟩
  rw [HG.out] at hw hbx
  clear HW
  have HW : Aside0 (Went (all [blk g (.cells #[.int .i64 0, .int .i64 t, .bool false, .int .i64 1, .bool false, .int .i64 ns, .int .i64 nr, .string s] 144 (0, 0)), entAt b mb fb (e)]) T w0 (w.alloc (.cells #[.int .i64 0, .int .i64 t, .bool false, .int .i64 1, .bool false, .int .i64 ns, .int .i64 nr, .string s] 144 (0, 0)))) := ⟨hw⟩
  clear hw
  obtain ⟨⟨b0, b1, b2, b3, b4, b5, b6, b7⟩, _⟩ := cells8 hbx
  clear hbx
  clear b0 b1 b2 b3 b4 b5 b6 b7
  clear c0 c1 c2 c3 c4 c5 c6 c7 c8 f0 f1 f2 f3 f4 f8
  obtain ⟨⟨b0, b1, b2, b3, b4, b5, b6, b7⟩, _⟩ := cells8 (HW.out.heap 0 rfl)
  obtain ⟨Tz, hz⟩ := HW.out.get 1 rfl
  obtain ⟨A, ca, ⟨c0, c1, c2, c3, c4, c5, c6, c7, c8⟩, f0, f1, f2, f3, f4, f8⟩ := entAt.cells (Went.refl hz)
  clear hz
  rw [HS.out] at c1
  have hg := HG.out
  unfold frCells
  go_enter Tryz.func131, Tryz.ntmps131
  go_wp2_with fail
  generalize w.alloc (.cells #[.int .i64 0, .int .i64 t, .bool false, .int .i64 1, .bool false, .int .i64 ns, .int .i64 nr, .string s] 144 (0, 0)) = wx at *
  go_still_tail 7, (by kernel_rfl)
  change wpList _ _ _ _ _ (World.drew _)
  have HW := Aside0.mk HW.out.drew
  go_wp2_with fail
  refine (HW.out.call_at 1 rfl (fun T1 h1 => entAt.flow (Went.refl h1) (fun T2 h2 => Fl.setPeerC fb _ false T2 _ h2))).mono ?_
  rintro r w1 ⟨rfl, hw⟩
  have HW : Aside0 (Went (all [blk g (.cells #[.int .i64 0, .int .i64 t, .bool false, .int .i64 1, .bool false, .int .i64 ns, .int .i64 nr, .string s] 144 (0, 0)), entAt b mb fb ({ e with fl := { (e).fl with peer := false } })]) T w0 w1) := ⟨hw⟩
  clear hw
  clear b0 b1 b2 b3 b4 b5 b6 b7
  clear c0 c1 c2 c3 c4 c5 c6 c7 c8 f0 f1 f2 f3 f4 f8
  obtain ⟨⟨b0, b1, b2, b3, b4, b5, b6, b7⟩, _⟩ := cells8 (HW.out.heap 0 rfl)
  obtain ⟨Tz, hz⟩ := HW.out.get 1 rfl
  obtain ⟨A, ca, ⟨c0, c1, c2, c3, c4, c5, c6, c7, c8⟩, f0, f1, f2, f3, f4, f8⟩ := entAt.cells (Went.refl hz)
  clear hz
  go_wp2_with fail
  have HW := Aside0.mk HW.out.drew
  go_region_law (go_simp; go_at_call 157; refine (HW.out.call_at 1 rfl (fun T1 h1 => entAt.flow (Went.refl h1) (fun T2 h2 => HK.out T2 _ h2))).mono ?_; rintro r w2 ⟨rfl, hw⟩)
  all_goals
    have HW : Aside0 (Went (all [blk g (.cells #[.int .i64 0, .int .i64 t, .bool false, .int .i64 1, .bool false, .int .i64 ns, .int .i64 nr, .string s] 144 (0, 0)), entAt b mb fb ({ { e with fl := { (e).fl with peer := false } } with fl := ackF ({ (e).fl with peer := false } : F) nr })]) T w0 w2) := ⟨hw⟩
    clear hw
    clear b0 b1 b2 b3 b4 b5 b6 b7
    clear c0 c1 c2 c3 c4 c5 c6 c7 c8 f0 f1 f2 f3 f4 f8
    obtain ⟨⟨b0, b1, b2, b3, b4, b5, b6, b7⟩, _⟩ := cells8 (HW.out.heap 0 rfl)
    obtain ⟨Tz, hz⟩ := HW.out.get 1 rfl
    obtain ⟨A, ca, ⟨c0, c1, c2, c3, c4, c5, c6, c7, c8⟩, f0, f1, f2, f3, f4, f8⟩ := entAt.cells (Went.refl hz)
    clear hz
    have hst : ({ { e with fl := { (e).fl with peer := false } } with fl := ackF ({ (e).fl with peer := false } : F) nr }).state = 7 := HS.out
    rw [hst] at c1
    clear hst
    go_wp2_with fail
    refine (HW.out.call_at 1 rfl (fun T1 h1 => countC b mb fb ({ { e with fl := { (e).fl with peer := false } } with fl := ackF ({ (e).fl with peer := false } : F) nr }) (ackN ({ (e).fl with peer := false } : F) nr) (Nat.le_trans hl (by omega)) T1 _ _ (Went.refl h1))).mono ?_
    rintro r w3 ⟨rfl, hw⟩
    have HW : Aside0 (Went (all [blk g (.cells #[.int .i64 0, .int .i64 t, .bool false, .int .i64 1, .bool false, .int .i64 ns, .int .i64 nr, .string s] 144 (0, 0)), entAt b mb fb (count ({ { e with fl := { (e).fl with peer := false } } with fl := ackF ({ (e).fl with peer := false } : F) nr }) (ackN ({ (e).fl with peer := false } : F) nr))]) T w0 w3) := ⟨hw⟩
    clear hw
    clear b0 b1 b2 b3 b4 b5 b6 b7
    clear c0 c1 c2 c3 c4 c5 c6 c7 c8 f0 f1 f2 f3 f4 f8
    obtain ⟨⟨b0, b1, b2, b3, b4, b5, b6, b7⟩, _⟩ := cells8 (HW.out.heap 0 rfl)
    obtain ⟨Tz, hz⟩ := HW.out.get 1 rfl
    obtain ⟨A, ca, ⟨c0, c1, c2, c3, c4, c5, c6, c7, c8⟩, f0, f1, f2, f3, f4, f8⟩ := entAt.cells (Went.refl hz)
    clear hz
    go_wp2_with fail
    refine (HW.out.call_at 1 rfl (fun T1 h1 => goOnC b mb fb (count ({ { e with fl := { (e).fl with peer := false } } with fl := ackF ({ (e).fl with peer := false } : F) nr }) (ackN ({ (e).fl with peer := false } : F) nr)) (by have h9 : (count ({ { e with fl := { (e).fl with peer := false } } with fl := ackF ({ (e).fl with peer := false } : F) nr }) (ackN ({ (e).fl with peer := false } : F) nr)).out.length ≤ 7000 + 2 := len_count (hl); exact Nat.le_trans h9 (by omega)) T1 _ _ (Went.refl h1))).mono ?_
    rintro r w4 ⟨rfl, hw⟩
    have HW : Aside0 (Went (all [blk g (.cells #[.int .i64 0, .int .i64 t, .bool false, .int .i64 1, .bool false, .int .i64 ns, .int .i64 nr, .string s] 144 (0, 0)), entAt b mb fb (goOn (count ({ { e with fl := { (e).fl with peer := false } } with fl := ackF ({ (e).fl with peer := false } : F) nr }) (ackN ({ (e).fl with peer := false } : F) nr)))]) T w0 w4) := ⟨hw⟩
    clear hw
    clear b0 b1 b2 b3 b4 b5 b6 b7
    clear c0 c1 c2 c3 c4 c5 c6 c7 c8 f0 f1 f2 f3 f4 f8
    obtain ⟨⟨b0, b1, b2, b3, b4, b5, b6, b7⟩, _⟩ := cells8 (HW.out.heap 0 rfl)
    obtain ⟨Tz, hz⟩ := HW.out.get 1 rfl
    obtain ⟨A, ca, ⟨c0, c1, c2, c3, c4, c5, c6, c7, c8⟩, f0, f1, f2, f3, f4, f8⟩ := entAt.cells (Went.refl hz)
    clear hz
    go_wp2
    refine bodyPost_ret (results_none rfl _ _ _) rfl ?_
    exact ⟨rfl, Went.only (HW.out).drop⟩
theorem sup17 (b mb fb : Nat) (e : E) (t k ns nr : Int) (s : ByteArray) (hl : e.out.length ≤ 7000) (ha : ¬ ackOk e.fl nr) (T : Nat → Prop) (w0 w : World) (h : Went (entAt b mb fb e) T w0 w) :
    Calls Tryz.prog 131 #[.pointer (some ⟨b, 0, none⟩), .agg (frCells (⟨t, true, k, true, ns, nr, s⟩ : Fr))] w fun r w' => r = .returned (.tuple #[]) ∧ Went (entAt b mb fb (supervised e (⟨t, true, k, true, ns, nr, s⟩ : Fr))) T w0 w' := by
  have HOK := Aside0.mk (entAt.ok h)
  obtain ⟨A, ca, ⟨c0, c1, c2, c3, c4, c5, c6, c7, c8⟩, f0, f1, f2, f3, f4, f8⟩ := entAt.cells h
  have HW := Aside0.mk h
  clear h
  have hE1 : supervised1 e (⟨t, true, k, true, ns, nr, s⟩ : Fr) = supervise (e) false true := by simp [supervised1, final]
  have hE2 : supervised e (⟨t, true, k, true, ns, nr, s⟩ : Fr) = supervised3 { supervise (e) false true with fl := ({ (supervise (e) false true).fl with peer := (k == 2) } : F) } (⟨t, true, k, true, ns, nr, s⟩ : Fr) := by unfold supervised; rw [hE1]; rfl
  have hE3 : supervised3 { supervise (e) false true with fl := ({ (supervise (e) false true).fl with peer := (k == 2) } : F) } (⟨t, true, k, true, ns, nr, s⟩ : Fr) = anew { supervise (e) false true with fl := ({ (supervise (e) false true).fl with peer := (k == 2) } : F) } ⟨#[74]⟩ := if_neg ha
  rw [hE2, hE3]
  clear hE1 hE2 hE3
  have HK : Aside0 (∀ T1 wz, (flAt fb ({ (supervise (e) false true).fl with peer := (k == 2) } : F)).h T1 wz → Calls Tryz.prog 157 #[.pointer (some ⟨fb, 0, none⟩), .int .i64 nr] wz fun r w2 => r = .returned (.tuple #[.int .i64 0, .int .i64 2]) ∧ Went (flAt fb ({ (supervise (e) false true).fl with peer := (k == 2) } : F)) T1 wz w2) := ⟨fun T1 wz hz => by
    have h0 := Fl.ackC fb ({ (supervise (e) false true).fl with peer := (k == 2) } : F) nr T1 wz hz
    rw [if_neg (show ¬ ackOk ({ (supervise (e) false true).fl with peer := (k == 2) } : F) nr from ha), if_neg (show ¬ ackOk ({ (supervise (e) false true).fl with peer := (k == 2) } : F) nr from ha)] at h0
    exact h0⟩
  clear ha
  have hbx := heap_alloc_new w (.cells #[.int .i64 0, .int .i64 t, .bool true, .int .i64 k, .bool true, .int .i64 ns, .int .i64 nr, .string s] 144 (0, 0))
  have hw := (Went.single HW.out).new (.cells #[.int .i64 0, .int .i64 t, .bool true, .int .i64 k, .bool true, .int .i64 ns, .int .i64 nr, .string s] 144 (0, 0))
  obtain ⟨g, HG⟩ : ∃ g, Aside0 (w.heap.size = g) := ⟨_, ⟨rfl⟩⟩
  rw [HG.out] at hw hbx
  clear HW
  have HW : Aside0 (Went (all [blk g (.cells #[.int .i64 0, .int .i64 t, .bool true, .int .i64 k, .bool true, .int .i64 ns, .int .i64 nr, .string s] 144 (0, 0)), entAt b mb fb (e)]) T w0 (w.alloc (.cells #[.int .i64 0, .int .i64 t, .bool true, .int .i64 k, .bool true, .int .i64 ns, .int .i64 nr, .string s] 144 (0, 0)))) := ⟨hw⟩
  clear hw
  obtain ⟨⟨b0, b1, b2, b3, b4, b5, b6, b7⟩, _⟩ := cells8 hbx
  clear hbx
  clear b0 b1 b2 b3 b4 b5 b6 b7
  clear c0 c1 c2 c3 c4 c5 c6 c7 c8 f0 f1 f2 f3 f4 f8
  obtain ⟨⟨b0, b1, b2, b3, b4, b5, b6, b7⟩, _⟩ := cells8 (HW.out.heap 0 rfl)
  obtain ⟨Tz, hz⟩ := HW.out.get 1 rfl
  obtain ⟨A, ca, ⟨c0, c1, c2, c3, c4, c5, c6, c7, c8⟩, f0, f1, f2, f3, f4, f8⟩ := entAt.cells (Went.refl hz)
  clear hz
  have hg := HG.out
  unfold frCells
  go_enter Tryz.func131, Tryz.ntmps131
  go_wp2_with fail
  refine (HW.out.call_at 1 rfl (fun T1 h1 => superviseC b mb fb (e) false true (Nat.le_trans hl (by omega)) T1 _ _ (Went.refl h1))).mono ?_
  rintro r w1 ⟨rfl, hw⟩
  have HW : Aside0 (Went (all [blk g (.cells #[.int .i64 0, .int .i64 t, .bool true, .int .i64 k, .bool true, .int .i64 ns, .int .i64 nr, .string s] 144 (0, 0)), entAt b mb fb (supervise (e) false true)]) T w0 w1) := ⟨hw⟩
  clear hw
  clear b0 b1 b2 b3 b4 b5 b6 b7
  clear c0 c1 c2 c3 c4 c5 c6 c7 c8 f0 f1 f2 f3 f4 f8
  obtain ⟨⟨b0, b1, b2, b3, b4, b5, b6, b7⟩, _⟩ := cells8 (HW.out.heap 0 rfl)
  obtain ⟨Tz, hz⟩ := HW.out.get 1 rfl
  obtain ⟨A, ca, ⟨c0, c1, c2, c3, c4, c5, c6, c7, c8⟩, f0, f1, f2, f3, f4, f8⟩ := entAt.cells (Went.refl hz)
  clear hz
  go_wp2_with fail
  go_still_tail 7, (by kernel_rfl)
  change wpList _ _ _ _ _ (World.drew _)
  have HW := Aside0.mk HW.out.drew
  go_wp2_with fail
  refine (HW.out.call_at 1 rfl (fun T1 h1 => entAt.flow (Went.refl h1) (fun T2 h2 => Fl.setPeerC fb _ (k == 2) T2 _ h2))).mono ?_
  rintro r w2 ⟨rfl, hw⟩
  have HW : Aside0 (Went (all [blk g (.cells #[.int .i64 0, .int .i64 t, .bool true, .int .i64 k, .bool true, .int .i64 ns, .int .i64 nr, .string s] 144 (0, 0)), entAt b mb fb ({ supervise (e) false true with fl := { (supervise (e) false true).fl with peer := (k == 2) } })]) T w0 w2) := ⟨hw⟩
  clear hw
  clear b0 b1 b2 b3 b4 b5 b6 b7
  clear c0 c1 c2 c3 c4 c5 c6 c7 c8 f0 f1 f2 f3 f4 f8
  obtain ⟨⟨b0, b1, b2, b3, b4, b5, b6, b7⟩, _⟩ := cells8 (HW.out.heap 0 rfl)
  obtain ⟨Tz, hz⟩ := HW.out.get 1 rfl
  obtain ⟨A, ca, ⟨c0, c1, c2, c3, c4, c5, c6, c7, c8⟩, f0, f1, f2, f3, f4, f8⟩ := entAt.cells (Went.refl hz)
  clear hz
  go_wp2_with fail
  have HW := Aside0.mk HW.out.drew
  go_region_law (go_simp; go_at_call 157; refine (HW.out.call_at 1 rfl (fun T1 h1 => entAt.flow (Went.refl h1) (fun T2 h2 => HK.out T2 _ h2))).mono ?_; rintro r w3 ⟨rfl, hw⟩)
  all_goals
    have HW : Aside0 (Went (all [blk g (.cells #[.int .i64 0, .int .i64 t, .bool true, .int .i64 k, .bool true, .int .i64 ns, .int .i64 nr, .string s] 144 (0, 0)), entAt b mb fb ({ { supervise (e) false true with fl := { (supervise (e) false true).fl with peer := (k == 2) } } with fl := ({ (supervise (e) false true).fl with peer := (k == 2) } : F) })]) T w0 w3) := ⟨hw⟩
    clear hw
    clear b0 b1 b2 b3 b4 b5 b6 b7
    clear c0 c1 c2 c3 c4 c5 c6 c7 c8 f0 f1 f2 f3 f4 f8
    obtain ⟨⟨b0, b1, b2, b3, b4, b5, b6, b7⟩, _⟩ := cells8 (HW.out.heap 0 rfl)
    obtain ⟨Tz, hz⟩ := HW.out.get 1 rfl
    obtain ⟨A, ca, ⟨c0, c1, c2, c3, c4, c5, c6, c7, c8⟩, f0, f1, f2, f3, f4, f8⟩ := entAt.cells (Went.refl hz)
    clear hz
    go_wp2_with fail
    refine (HW.out.call_at 1 rfl (fun T1 h1 => anewC b mb fb ({ { supervise (e) false true with fl := { (supervise (e) false true).fl with peer := (k == 2) } } with fl := ({ (supervise (e) false true).fl with peer := (k == 2) } : F) }) ⟨#[74]⟩ (Nat.le_trans (len_supervise (hl)) (by omega)) T1 _ _ (Went.refl h1))).mono ?_
    rintro r w4 ⟨rfl, hw⟩
    have HW : Aside0 (Went (all [blk g (.cells #[.int .i64 0, .int .i64 t, .bool true, .int .i64 k, .bool true, .int .i64 ns, .int .i64 nr, .string s] 144 (0, 0)), entAt b mb fb (anew ({ { supervise (e) false true with fl := { (supervise (e) false true).fl with peer := (k == 2) } } with fl := ({ (supervise (e) false true).fl with peer := (k == 2) } : F) }) ⟨#[74]⟩)]) T w0 w4) := ⟨hw⟩
    clear hw
    clear b0 b1 b2 b3 b4 b5 b6 b7
    clear c0 c1 c2 c3 c4 c5 c6 c7 c8 f0 f1 f2 f3 f4 f8
    obtain ⟨⟨b0, b1, b2, b3, b4, b5, b6, b7⟩, _⟩ := cells8 (HW.out.heap 0 rfl)
    obtain ⟨Tz, hz⟩ := HW.out.get 1 rfl
    obtain ⟨A, ca, ⟨c0, c1, c2, c3, c4, c5, c6, c7, c8⟩, f0, f1, f2, f3, f4, f8⟩ := entAt.cells (Went.refl hz)
    clear hz
    go_wp2
    refine bodyPost_ret (results_none rfl _ _ _) rfl ?_
    exact ⟨rfl, Went.only (HW.out).drop⟩
theorem sup27 (b mb fb : Nat) (e : E) (t k ns nr : Int) (s : ByteArray) (hl : e.out.length ≤ 7000) (hs : e.state = 7) (ha : ¬ ackOk e.fl nr) (T : Nat → Prop) (w0 w : World) (h : Went (entAt b mb fb e) T w0 w) :
    Calls Tryz.prog 131 #[.pointer (some ⟨b, 0, none⟩), .agg (frCells (⟨t, false, k, true, ns, nr, s⟩ : Fr))] w fun r w' => r = .returned (.tuple #[]) ∧ Went (entAt b mb fb (supervised e (⟨t, false, k, true, ns, nr, s⟩ : Fr))) T w0 w' := by
  have HOK := Aside0.mk (entAt.ok h)
  obtain ⟨A, ca, ⟨c0, c1, c2, c3, c4, c5, c6, c7, c8⟩, f0, f1, f2, f3, f4, f8⟩ := entAt.cells h
  have HW := Aside0.mk h
  clear h
  have hE1 : supervised1 e (⟨t, false, k, true, ns, nr, s⟩ : Fr) = told (e) 7 ⟨#[65]⟩ := by simp [supervised1, final, hs]
  have hE2 : supervised e (⟨t, false, k, true, ns, nr, s⟩ : Fr) = supervised3 { told (e) 7 ⟨#[65]⟩ with fl := ({ (told (e) 7 ⟨#[65]⟩).fl with peer := (k == 2) } : F) } (⟨t, false, k, true, ns, nr, s⟩ : Fr) := by unfold supervised; rw [hE1]; rfl
  have hE3 : supervised3 { told (e) 7 ⟨#[65]⟩ with fl := ({ (told (e) 7 ⟨#[65]⟩).fl with peer := (k == 2) } : F) } (⟨t, false, k, true, ns, nr, s⟩ : Fr) = anew { told (e) 7 ⟨#[65]⟩ with fl := ({ (told (e) 7 ⟨#[65]⟩).fl with peer := (k == 2) } : F) } ⟨#[74]⟩ := if_neg ha
  rw [hE2, hE3]
  clear hE1 hE2 hE3
  have HK : Aside0 (∀ T1 wz, (flAt fb ({ (told (e) 7 ⟨#[65]⟩).fl with peer := (k == 2) } : F)).h T1 wz → Calls Tryz.prog 157 #[.pointer (some ⟨fb, 0, none⟩), .int .i64 nr] wz fun r w2 => r = .returned (.tuple #[.int .i64 0, .int .i64 2]) ∧ Went (flAt fb ({ (told (e) 7 ⟨#[65]⟩).fl with peer := (k == 2) } : F)) T1 wz w2) := ⟨fun T1 wz hz => by
    have h0 := Fl.ackC fb ({ (told (e) 7 ⟨#[65]⟩).fl with peer := (k == 2) } : F) nr T1 wz hz
    rw [if_neg (show ¬ ackOk ({ (told (e) 7 ⟨#[65]⟩).fl with peer := (k == 2) } : F) nr from ha), if_neg (show ¬ ackOk ({ (told (e) 7 ⟨#[65]⟩).fl with peer := (k == 2) } : F) nr from ha)] at h0
    exact h0⟩
  have HS := Aside0.mk hs
  rw [hs] at c1
  clear ha hs
  have hbx := heap_alloc_new w (.cells #[.int .i64 0, .int .i64 t, .bool false, .int .i64 k, .bool true, .int .i64 ns, .int .i64 nr, .string s] 144 (0, 0))
  have hw := (Went.single HW.out).new (.cells #[.int .i64 0, .int .i64 t, .bool false, .int .i64 k, .bool true, .int .i64 ns, .int .i64 nr, .string s] 144 (0, 0))
  obtain ⟨g, HG⟩ : ∃ g, Aside0 (w.heap.size = g) := ⟨_, ⟨rfl⟩⟩
  rw [HG.out] at hw hbx
  clear HW
  have HW : Aside0 (Went (all [blk g (.cells #[.int .i64 0, .int .i64 t, .bool false, .int .i64 k, .bool true, .int .i64 ns, .int .i64 nr, .string s] 144 (0, 0)), entAt b mb fb (e)]) T w0 (w.alloc (.cells #[.int .i64 0, .int .i64 t, .bool false, .int .i64 k, .bool true, .int .i64 ns, .int .i64 nr, .string s] 144 (0, 0)))) := ⟨hw⟩
  clear hw
  obtain ⟨⟨b0, b1, b2, b3, b4, b5, b6, b7⟩, _⟩ := cells8 hbx
  clear hbx
  clear b0 b1 b2 b3 b4 b5 b6 b7
  clear c0 c1 c2 c3 c4 c5 c6 c7 c8 f0 f1 f2 f3 f4 f8
  obtain ⟨⟨b0, b1, b2, b3, b4, b5, b6, b7⟩, _⟩ := cells8 (HW.out.heap 0 rfl)
  obtain ⟨Tz, hz⟩ := HW.out.get 1 rfl
  obtain ⟨A, ca, ⟨c0, c1, c2, c3, c4, c5, c6, c7, c8⟩, f0, f1, f2, f3, f4, f8⟩ := entAt.cells (Went.refl hz)
  clear hz
  rw [HS.out] at c1
  have hg := HG.out
  unfold frCells
  go_enter Tryz.func131, Tryz.ntmps131
  go_wp2_with fail
  refine (HW.out.call_at 1 rfl (fun T1 h1 => toldC b mb fb (e) 7 ⟨#[65]⟩ (Nat.le_trans hl (by omega)) T1 _ _ (Went.refl h1))).mono ?_
  rintro r w1 ⟨rfl, hw⟩
  have HW : Aside0 (Went (all [blk g (.cells #[.int .i64 0, .int .i64 t, .bool false, .int .i64 k, .bool true, .int .i64 ns, .int .i64 nr, .string s] 144 (0, 0)), entAt b mb fb (told (e) 7 ⟨#[65]⟩)]) T w0 w1) := ⟨hw⟩
  clear hw
  clear b0 b1 b2 b3 b4 b5 b6 b7
  clear c0 c1 c2 c3 c4 c5 c6 c7 c8 f0 f1 f2 f3 f4 f8
  obtain ⟨⟨b0, b1, b2, b3, b4, b5, b6, b7⟩, _⟩ := cells8 (HW.out.heap 0 rfl)
  obtain ⟨Tz, hz⟩ := HW.out.get 1 rfl
  obtain ⟨A, ca, ⟨c0, c1, c2, c3, c4, c5, c6, c7, c8⟩, f0, f1, f2, f3, f4, f8⟩ := entAt.cells (Went.refl hz)
  clear hz
  go_wp2_with fail
  go_still_tail 7, (by kernel_rfl)
  change wpList _ _ _ _ _ (World.drew _)
  have HW := Aside0.mk HW.out.drew
  go_wp2_with fail
  refine (HW.out.call_at 1 rfl (fun T1 h1 => entAt.flow (Went.refl h1) (fun T2 h2 => Fl.setPeerC fb _ (k == 2) T2 _ h2))).mono ?_
  rintro r w2 ⟨rfl, hw⟩
  have HW : Aside0 (Went (all [blk g (.cells #[.int .i64 0, .int .i64 t, .bool false, .int .i64 k, .bool true, .int .i64 ns, .int .i64 nr, .string s] 144 (0, 0)), entAt b mb fb ({ told (e) 7 ⟨#[65]⟩ with fl := { (told (e) 7 ⟨#[65]⟩).fl with peer := (k == 2) } })]) T w0 w2) := ⟨hw⟩
  clear hw
  clear b0 b1 b2 b3 b4 b5 b6 b7
  clear c0 c1 c2 c3 c4 c5 c6 c7 c8 f0 f1 f2 f3 f4 f8
  obtain ⟨⟨b0, b1, b2, b3, b4, b5, b6, b7⟩, _⟩ := cells8 (HW.out.heap 0 rfl)
  obtain ⟨Tz, hz⟩ := HW.out.get 1 rfl
  obtain ⟨A, ca, ⟨c0, c1, c2, c3, c4, c5, c6, c7, c8⟩, f0, f1, f2, f3, f4, f8⟩ := entAt.cells (Went.refl hz)
  clear hz
  go_wp2_with fail
  have HW := Aside0.mk HW.out.drew
  go_region_law (go_simp; go_at_call 157; refine (HW.out.call_at 1 rfl (fun T1 h1 => entAt.flow (Went.refl h1) (fun T2 h2 => HK.out T2 _ h2))).mono ?_; rintro r w3 ⟨rfl, hw⟩)
  all_goals
    have HW : Aside0 (Went (all [blk g (.cells #[.int .i64 0, .int .i64 t, .bool false, .int .i64 k, .bool true, .int .i64 ns, .int .i64 nr, .string s] 144 (0, 0)), entAt b mb fb ({ { told (e) 7 ⟨#[65]⟩ with fl := { (told (e) 7 ⟨#[65]⟩).fl with peer := (k == 2) } } with fl := ({ (told (e) 7 ⟨#[65]⟩).fl with peer := (k == 2) } : F) })]) T w0 w3) := ⟨hw⟩
    clear hw
    clear b0 b1 b2 b3 b4 b5 b6 b7
    clear c0 c1 c2 c3 c4 c5 c6 c7 c8 f0 f1 f2 f3 f4 f8
    obtain ⟨⟨b0, b1, b2, b3, b4, b5, b6, b7⟩, _⟩ := cells8 (HW.out.heap 0 rfl)
    obtain ⟨Tz, hz⟩ := HW.out.get 1 rfl
    obtain ⟨A, ca, ⟨c0, c1, c2, c3, c4, c5, c6, c7, c8⟩, f0, f1, f2, f3, f4, f8⟩ := entAt.cells (Went.refl hz)
    clear hz
    have hst : ({ { told (e) 7 ⟨#[65]⟩ with fl := { (told (e) 7 ⟨#[65]⟩).fl with peer := (k == 2) } } with fl := ({ (told (e) 7 ⟨#[65]⟩).fl with peer := (k == 2) } : F) }).state = 7 := HS.out
    rw [hst] at c1
    clear hst
    go_wp2_with fail
    refine (HW.out.call_at 1 rfl (fun T1 h1 => anewC b mb fb ({ { told (e) 7 ⟨#[65]⟩ with fl := { (told (e) 7 ⟨#[65]⟩).fl with peer := (k == 2) } } with fl := ({ (told (e) 7 ⟨#[65]⟩).fl with peer := (k == 2) } : F) }) ⟨#[74]⟩ (Nat.le_trans (len_told (hl)) (by omega)) T1 _ _ (Went.refl h1))).mono ?_
    rintro r w4 ⟨rfl, hw⟩
    have HW : Aside0 (Went (all [blk g (.cells #[.int .i64 0, .int .i64 t, .bool false, .int .i64 k, .bool true, .int .i64 ns, .int .i64 nr, .string s] 144 (0, 0)), entAt b mb fb (anew ({ { told (e) 7 ⟨#[65]⟩ with fl := { (told (e) 7 ⟨#[65]⟩).fl with peer := (k == 2) } } with fl := ({ (told (e) 7 ⟨#[65]⟩).fl with peer := (k == 2) } : F) }) ⟨#[74]⟩)]) T w0 w4) := ⟨hw⟩
    clear hw
    clear b0 b1 b2 b3 b4 b5 b6 b7
    clear c0 c1 c2 c3 c4 c5 c6 c7 c8 f0 f1 f2 f3 f4 f8
    obtain ⟨⟨b0, b1, b2, b3, b4, b5, b6, b7⟩, _⟩ := cells8 (HW.out.heap 0 rfl)
    obtain ⟨Tz, hz⟩ := HW.out.get 1 rfl
    obtain ⟨A, ca, ⟨c0, c1, c2, c3, c4, c5, c6, c7, c8⟩, f0, f1, f2, f3, f4, f8⟩ := entAt.cells (Went.refl hz)
    clear hz
    go_wp2
    refine bodyPost_ret (results_none rfl _ _ _) rfl ?_
    exact ⟨rfl, Went.only (HW.out).drop⟩
theorem sup37 (b mb fb : Nat) (e : E) (t k ns nr : Int) (s : ByteArray) (hl : e.out.length ≤ 7000) (ha : ¬ ackOk e.fl nr) (T : Nat → Prop) (w0 w : World) (h : Went (entAt b mb fb e) T w0 w) :
    Calls Tryz.prog 131 #[.pointer (some ⟨b, 0, none⟩), .agg (frCells (⟨t, true, k, false, ns, nr, s⟩ : Fr))] w fun r w' => r = .returned (.tuple #[]) ∧ Went (entAt b mb fb (supervised e (⟨t, true, k, false, ns, nr, s⟩ : Fr))) T w0 w' := by
  have HOK := Aside0.mk (entAt.ok h)
  obtain ⟨A, ca, ⟨c0, c1, c2, c3, c4, c5, c6, c7, c8⟩, f0, f1, f2, f3, f4, f8⟩ := entAt.cells h
  have HW := Aside0.mk h
  clear h
  have hE1 : supervised1 e (⟨t, true, k, false, ns, nr, s⟩ : Fr) = e := by simp [supervised1, final]
  have hE2 : supervised e (⟨t, true, k, false, ns, nr, s⟩ : Fr) = supervised3 { e with fl := ({ (e).fl with peer := (k == 2) } : F) } (⟨t, true, k, false, ns, nr, s⟩ : Fr) := by unfold supervised; rw [hE1]; rfl
  have hE3 : supervised3 { e with fl := ({ (e).fl with peer := (k == 2) } : F) } (⟨t, true, k, false, ns, nr, s⟩ : Fr) = anew { e with fl := ({ (e).fl with peer := (k == 2) } : F) } ⟨#[74]⟩ := if_neg ha
  rw [hE2, hE3]
  clear hE1 hE2 hE3
  have HK : Aside0 (∀ T1 wz, (flAt fb ({ (e).fl with peer := (k == 2) } : F)).h T1 wz → Calls Tryz.prog 157 #[.pointer (some ⟨fb, 0, none⟩), .int .i64 nr] wz fun r w2 => r = .returned (.tuple #[.int .i64 0, .int .i64 2]) ∧ Went (flAt fb ({ (e).fl with peer := (k == 2) } : F)) T1 wz w2) := ⟨fun T1 wz hz => by
    have h0 := Fl.ackC fb ({ (e).fl with peer := (k == 2) } : F) nr T1 wz hz
    rw [if_neg (show ¬ ackOk ({ (e).fl with peer := (k == 2) } : F) nr from ha), if_neg (show ¬ ackOk ({ (e).fl with peer := (k == 2) } : F) nr from ha)] at h0
    exact h0⟩
  clear ha
  have hbx := heap_alloc_new w (.cells #[.int .i64 0, .int .i64 t, .bool true, .int .i64 k, .bool false, .int .i64 ns, .int .i64 nr, .string s] 144 (0, 0))
  have hw := (Went.single HW.out).new (.cells #[.int .i64 0, .int .i64 t, .bool true, .int .i64 k, .bool false, .int .i64 ns, .int .i64 nr, .string s] 144 (0, 0))
  obtain ⟨g, HG⟩ : ∃ g, Aside0 (w.heap.size = g) := ⟨_, ⟨rfl⟩⟩
  rw [HG.out] at hw hbx
  clear HW
  have HW : Aside0 (Went (all [blk g (.cells #[.int .i64 0, .int .i64 t, .bool true, .int .i64 k, .bool false, .int .i64 ns, .int .i64 nr, .string s] 144 (0, 0)), entAt b mb fb (e)]) T w0 (w.alloc (.cells #[.int .i64 0, .int .i64 t, .bool true, .int .i64 k, .bool false, .int .i64 ns, .int .i64 nr, .string s] 144 (0, 0)))) := ⟨hw⟩
  clear hw
  obtain ⟨⟨b0, b1, b2, b3, b4, b5, b6, b7⟩, _⟩ := cells8 hbx
  clear hbx
  clear b0 b1 b2 b3 b4 b5 b6 b7
  clear c0 c1 c2 c3 c4 c5 c6 c7 c8 f0 f1 f2 f3 f4 f8
  obtain ⟨⟨b0, b1, b2, b3, b4, b5, b6, b7⟩, _⟩ := cells8 (HW.out.heap 0 rfl)
  obtain ⟨Tz, hz⟩ := HW.out.get 1 rfl
  obtain ⟨A, ca, ⟨c0, c1, c2, c3, c4, c5, c6, c7, c8⟩, f0, f1, f2, f3, f4, f8⟩ := entAt.cells (Went.refl hz)
  clear hz
  have hg := HG.out
  unfold frCells
  go_enter Tryz.func131, Tryz.ntmps131
  go_wp2_with fail
  generalize w.alloc (.cells #[.int .i64 0, .int .i64 t, .bool true, .int .i64 k, .bool false, .int .i64 ns, .int .i64 nr, .string s] 144 (0, 0)) = wx at *
  go_still_tail 7, (by kernel_rfl)
  change wpList _ _ _ _ _ (World.drew _)
  have HW := Aside0.mk HW.out.drew
  go_wp2_with fail
  refine (HW.out.call_at 1 rfl (fun T1 h1 => entAt.flow (Went.refl h1) (fun T2 h2 => Fl.setPeerC fb _ (k == 2) T2 _ h2))).mono ?_
  rintro r w1 ⟨rfl, hw⟩
  have HW : Aside0 (Went (all [blk g (.cells #[.int .i64 0, .int .i64 t, .bool true, .int .i64 k, .bool false, .int .i64 ns, .int .i64 nr, .string s] 144 (0, 0)), entAt b mb fb ({ e with fl := { (e).fl with peer := (k == 2) } })]) T w0 w1) := ⟨hw⟩
  clear hw
  clear b0 b1 b2 b3 b4 b5 b6 b7
  clear c0 c1 c2 c3 c4 c5 c6 c7 c8 f0 f1 f2 f3 f4 f8
  obtain ⟨⟨b0, b1, b2, b3, b4, b5, b6, b7⟩, _⟩ := cells8 (HW.out.heap 0 rfl)
  obtain ⟨Tz, hz⟩ := HW.out.get 1 rfl
  obtain ⟨A, ca, ⟨c0, c1, c2, c3, c4, c5, c6, c7, c8⟩, f0, f1, f2, f3, f4, f8⟩ := entAt.cells (Went.refl hz)
  clear hz
  go_wp2_with fail
  have HW := Aside0.mk HW.out.drew
  go_region_law (go_simp; go_at_call 157; refine (HW.out.call_at 1 rfl (fun T1 h1 => entAt.flow (Went.refl h1) (fun T2 h2 => HK.out T2 _ h2))).mono ?_; rintro r w2 ⟨rfl, hw⟩)
  all_goals
    have HW : Aside0 (Went (all [blk g (.cells #[.int .i64 0, .int .i64 t, .bool true, .int .i64 k, .bool false, .int .i64 ns, .int .i64 nr, .string s] 144 (0, 0)), entAt b mb fb ({ { e with fl := { (e).fl with peer := (k == 2) } } with fl := ({ (e).fl with peer := (k == 2) } : F) })]) T w0 w2) := ⟨hw⟩
    clear hw
    clear b0 b1 b2 b3 b4 b5 b6 b7
    clear c0 c1 c2 c3 c4 c5 c6 c7 c8 f0 f1 f2 f3 f4 f8
    obtain ⟨⟨b0, b1, b2, b3, b4, b5, b6, b7⟩, _⟩ := cells8 (HW.out.heap 0 rfl)
    obtain ⟨Tz, hz⟩ := HW.out.get 1 rfl
    obtain ⟨A, ca, ⟨c0, c1, c2, c3, c4, c5, c6, c7, c8⟩, f0, f1, f2, f3, f4, f8⟩ := entAt.cells (Went.refl hz)
    clear hz
    go_wp2_with fail
    refine (HW.out.call_at 1 rfl (fun T1 h1 => anewC b mb fb ({ { e with fl := { (e).fl with peer := (k == 2) } } with fl := ({ (e).fl with peer := (k == 2) } : F) }) ⟨#[74]⟩ (Nat.le_trans hl (by omega)) T1 _ _ (Went.refl h1))).mono ?_
    rintro r w3 ⟨rfl, hw⟩
    have HW : Aside0 (Went (all [blk g (.cells #[.int .i64 0, .int .i64 t, .bool true, .int .i64 k, .bool false, .int .i64 ns, .int .i64 nr, .string s] 144 (0, 0)), entAt b mb fb (anew ({ { e with fl := { (e).fl with peer := (k == 2) } } with fl := ({ (e).fl with peer := (k == 2) } : F) }) ⟨#[74]⟩)]) T w0 w3) := ⟨hw⟩
    clear hw
    clear b0 b1 b2 b3 b4 b5 b6 b7
    clear c0 c1 c2 c3 c4 c5 c6 c7 c8 f0 f1 f2 f3 f4 f8
    obtain ⟨⟨b0, b1, b2, b3, b4, b5, b6, b7⟩, _⟩ := cells8 (HW.out.heap 0 rfl)
    obtain ⟨Tz, hz⟩ := HW.out.get 1 rfl
    obtain ⟨A, ca, ⟨c0, c1, c2, c3, c4, c5, c6, c7, c8⟩, f0, f1, f2, f3, f4, f8⟩ := entAt.cells (Went.refl hz)
    clear hz
    go_wp2
    refine bodyPost_ret (results_none rfl _ _ _) rfl ?_
    exact ⟨rfl, Went.only (HW.out).drop⟩
theorem sup47 (b mb fb : Nat) (e : E) (t k ns nr : Int) (s : ByteArray) (hl : e.out.length ≤ 7000) (ha : ¬ ackOk e.fl nr) (T : Nat → Prop) (w0 w : World) (h : Went (entAt b mb fb e) T w0 w) :
    Calls Tryz.prog 131 #[.pointer (some ⟨b, 0, none⟩), .agg (frCells (⟨t, false, k, false, ns, nr, s⟩ : Fr))] w fun r w' => r = .returned (.tuple #[]) ∧ Went (entAt b mb fb (supervised e (⟨t, false, k, false, ns, nr, s⟩ : Fr))) T w0 w' := by
  have HOK := Aside0.mk (entAt.ok h)
  obtain ⟨A, ca, ⟨c0, c1, c2, c3, c4, c5, c6, c7, c8⟩, f0, f1, f2, f3, f4, f8⟩ := entAt.cells h
  have HW := Aside0.mk h
  clear h
  have hE1 : supervised1 e (⟨t, false, k, false, ns, nr, s⟩ : Fr) = e := by simp [supervised1, final]
  have hE2 : supervised e (⟨t, false, k, false, ns, nr, s⟩ : Fr) = supervised3 { e with fl := ({ (e).fl with peer := (k == 2) } : F) } (⟨t, false, k, false, ns, nr, s⟩ : Fr) := by unfold supervised; rw [hE1]; rfl
  have hE3 : supervised3 { e with fl := ({ (e).fl with peer := (k == 2) } : F) } (⟨t, false, k, false, ns, nr, s⟩ : Fr) = anew { e with fl := ({ (e).fl with peer := (k == 2) } : F) } ⟨#[74]⟩ := if_neg ha
  rw [hE2, hE3]
  clear hE1 hE2 hE3
  have HK : Aside0 (∀ T1 wz, (flAt fb ({ (e).fl with peer := (k == 2) } : F)).h T1 wz → Calls Tryz.prog 157 #[.pointer (some ⟨fb, 0, none⟩), .int .i64 nr] wz fun r w2 => r = .returned (.tuple #[.int .i64 0, .int .i64 2]) ∧ Went (flAt fb ({ (e).fl with peer := (k == 2) } : F)) T1 wz w2) := ⟨fun T1 wz hz => by
    have h0 := Fl.ackC fb ({ (e).fl with peer := (k == 2) } : F) nr T1 wz hz
    rw [if_neg (show ¬ ackOk ({ (e).fl with peer := (k == 2) } : F) nr from ha), if_neg (show ¬ ackOk ({ (e).fl with peer := (k == 2) } : F) nr from ha)] at h0
    exact h0⟩
  clear ha
  have hbx := heap_alloc_new w (.cells #[.int .i64 0, .int .i64 t, .bool false, .int .i64 k, .bool false, .int .i64 ns, .int .i64 nr, .string s] 144 (0, 0))
  have hw := (Went.single HW.out).new (.cells #[.int .i64 0, .int .i64 t, .bool false, .int .i64 k, .bool false, .int .i64 ns, .int .i64 nr, .string s] 144 (0, 0))
  obtain ⟨g, HG⟩ : ∃ g, Aside0 (w.heap.size = g) := ⟨_, ⟨rfl⟩⟩
  rw [HG.out] at hw hbx
  clear HW
  have HW : Aside0 (Went (all [blk g (.cells #[.int .i64 0, .int .i64 t, .bool false, .int .i64 k, .bool false, .int .i64 ns, .int .i64 nr, .string s] 144 (0, 0)), entAt b mb fb (e)]) T w0 (w.alloc (.cells #[.int .i64 0, .int .i64 t, .bool false, .int .i64 k, .bool false, .int .i64 ns, .int .i64 nr, .string s] 144 (0, 0)))) := ⟨hw⟩
  clear hw
  obtain ⟨⟨b0, b1, b2, b3, b4, b5, b6, b7⟩, _⟩ := cells8 hbx
  clear hbx
  clear b0 b1 b2 b3 b4 b5 b6 b7
  clear c0 c1 c2 c3 c4 c5 c6 c7 c8 f0 f1 f2 f3 f4 f8
  obtain ⟨⟨b0, b1, b2, b3, b4, b5, b6, b7⟩, _⟩ := cells8 (HW.out.heap 0 rfl)
  obtain ⟨Tz, hz⟩ := HW.out.get 1 rfl
  obtain ⟨A, ca, ⟨c0, c1, c2, c3, c4, c5, c6, c7, c8⟩, f0, f1, f2, f3, f4, f8⟩ := entAt.cells (Went.refl hz)
  clear hz
  have hg := HG.out
  unfold frCells
  go_enter Tryz.func131, Tryz.ntmps131
  go_wp2_with fail
  generalize w.alloc (.cells #[.int .i64 0, .int .i64 t, .bool false, .int .i64 k, .bool false, .int .i64 ns, .int .i64 nr, .string s] 144 (0, 0)) = wx at *
  go_still_tail 7, (by kernel_rfl)
  change wpList _ _ _ _ _ (World.drew _)
  have HW := Aside0.mk HW.out.drew
  go_wp2_with fail
  refine (HW.out.call_at 1 rfl (fun T1 h1 => entAt.flow (Went.refl h1) (fun T2 h2 => Fl.setPeerC fb _ (k == 2) T2 _ h2))).mono ?_
  rintro r w1 ⟨rfl, hw⟩
  have HW : Aside0 (Went (all [blk g (.cells #[.int .i64 0, .int .i64 t, .bool false, .int .i64 k, .bool false, .int .i64 ns, .int .i64 nr, .string s] 144 (0, 0)), entAt b mb fb ({ e with fl := { (e).fl with peer := (k == 2) } })]) T w0 w1) := ⟨hw⟩
  clear hw
  clear b0 b1 b2 b3 b4 b5 b6 b7
  clear c0 c1 c2 c3 c4 c5 c6 c7 c8 f0 f1 f2 f3 f4 f8
  obtain ⟨⟨b0, b1, b2, b3, b4, b5, b6, b7⟩, _⟩ := cells8 (HW.out.heap 0 rfl)
  obtain ⟨Tz, hz⟩ := HW.out.get 1 rfl
  obtain ⟨A, ca, ⟨c0, c1, c2, c3, c4, c5, c6, c7, c8⟩, f0, f1, f2, f3, f4, f8⟩ := entAt.cells (Went.refl hz)
  clear hz
  go_wp2_with fail
  have HW := Aside0.mk HW.out.drew
  go_region_law (go_simp; go_at_call 157; refine (HW.out.call_at 1 rfl (fun T1 h1 => entAt.flow (Went.refl h1) (fun T2 h2 => HK.out T2 _ h2))).mono ?_; rintro r w2 ⟨rfl, hw⟩)
  all_goals
    have HW : Aside0 (Went (all [blk g (.cells #[.int .i64 0, .int .i64 t, .bool false, .int .i64 k, .bool false, .int .i64 ns, .int .i64 nr, .string s] 144 (0, 0)), entAt b mb fb ({ { e with fl := { (e).fl with peer := (k == 2) } } with fl := ({ (e).fl with peer := (k == 2) } : F) })]) T w0 w2) := ⟨hw⟩
    clear hw
    clear b0 b1 b2 b3 b4 b5 b6 b7
    clear c0 c1 c2 c3 c4 c5 c6 c7 c8 f0 f1 f2 f3 f4 f8
    obtain ⟨⟨b0, b1, b2, b3, b4, b5, b6, b7⟩, _⟩ := cells8 (HW.out.heap 0 rfl)
    obtain ⟨Tz, hz⟩ := HW.out.get 1 rfl
    obtain ⟨A, ca, ⟨c0, c1, c2, c3, c4, c5, c6, c7, c8⟩, f0, f1, f2, f3, f4, f8⟩ := entAt.cells (Went.refl hz)
    clear hz
    go_wp2_with fail
    refine (HW.out.call_at 1 rfl (fun T1 h1 => anewC b mb fb ({ { e with fl := { (e).fl with peer := (k == 2) } } with fl := ({ (e).fl with peer := (k == 2) } : F) }) ⟨#[74]⟩ (Nat.le_trans hl (by omega)) T1 _ _ (Went.refl h1))).mono ?_
    rintro r w3 ⟨rfl, hw⟩
    have HW : Aside0 (Went (all [blk g (.cells #[.int .i64 0, .int .i64 t, .bool false, .int .i64 k, .bool false, .int .i64 ns, .int .i64 nr, .string s] 144 (0, 0)), entAt b mb fb (anew ({ { e with fl := { (e).fl with peer := (k == 2) } } with fl := ({ (e).fl with peer := (k == 2) } : F) }) ⟨#[74]⟩)]) T w0 w3) := ⟨hw⟩
    clear hw
    clear b0 b1 b2 b3 b4 b5 b6 b7
    clear c0 c1 c2 c3 c4 c5 c6 c7 c8 f0 f1 f2 f3 f4 f8
    obtain ⟨⟨b0, b1, b2, b3, b4, b5, b6, b7⟩, _⟩ := cells8 (HW.out.heap 0 rfl)
    obtain ⟨Tz, hz⟩ := HW.out.get 1 rfl
    obtain ⟨A, ca, ⟨c0, c1, c2, c3, c4, c5, c6, c7, c8⟩, f0, f1, f2, f3, f4, f8⟩ := entAt.cells (Went.refl hz)
    clear hz
    go_wp2
    refine bodyPost_ret (results_none rfl _ _ _) rfl ?_
    exact ⟨rfl, Went.only (HW.out).drop⟩
theorem sup57 (b mb fb : Nat) (e : E) (t k ns nr : Int) (s : ByteArray) (hl : e.out.length ≤ 7000) (hs : e.state = 8) (ha : ¬ ackOk e.fl nr) (T : Nat → Prop) (w0 w : World) (h : Went (entAt b mb fb e) T w0 w) :
    Calls Tryz.prog 131 #[.pointer (some ⟨b, 0, none⟩), .agg (frCells (⟨t, false, k, true, ns, nr, s⟩ : Fr))] w fun r w' => r = .returned (.tuple #[]) ∧ Went (entAt b mb fb (supervised e (⟨t, false, k, true, ns, nr, s⟩ : Fr))) T w0 w' := by
  have HOK := Aside0.mk (entAt.ok h)
  obtain ⟨A, ca, ⟨c0, c1, c2, c3, c4, c5, c6, c7, c8⟩, f0, f1, f2, f3, f4, f8⟩ := entAt.cells h
  have HW := Aside0.mk h
  clear h
  have hE1 : supervised1 e (⟨t, false, k, true, ns, nr, s⟩ : Fr) = e := by simp [supervised1, final, hs]
  have hE2 : supervised e (⟨t, false, k, true, ns, nr, s⟩ : Fr) = supervised3 { e with fl := ({ (e).fl with peer := (k == 2) } : F) } (⟨t, false, k, true, ns, nr, s⟩ : Fr) := by unfold supervised; rw [hE1]; rfl
  have hE3 : supervised3 { e with fl := ({ (e).fl with peer := (k == 2) } : F) } (⟨t, false, k, true, ns, nr, s⟩ : Fr) = anew { e with fl := ({ (e).fl with peer := (k == 2) } : F) } ⟨#[74]⟩ := if_neg ha
  rw [hE2, hE3]
  clear hE1 hE2 hE3
  have HK : Aside0 (∀ T1 wz, (flAt fb ({ (e).fl with peer := (k == 2) } : F)).h T1 wz → Calls Tryz.prog 157 #[.pointer (some ⟨fb, 0, none⟩), .int .i64 nr] wz fun r w2 => r = .returned (.tuple #[.int .i64 0, .int .i64 2]) ∧ Went (flAt fb ({ (e).fl with peer := (k == 2) } : F)) T1 wz w2) := ⟨fun T1 wz hz => by
    have h0 := Fl.ackC fb ({ (e).fl with peer := (k == 2) } : F) nr T1 wz hz
    rw [if_neg (show ¬ ackOk ({ (e).fl with peer := (k == 2) } : F) nr from ha), if_neg (show ¬ ackOk ({ (e).fl with peer := (k == 2) } : F) nr from ha)] at h0
    exact h0⟩
  have HS := Aside0.mk hs
  rw [hs] at c1
  clear ha hs
  have hbx := heap_alloc_new w (.cells #[.int .i64 0, .int .i64 t, .bool false, .int .i64 k, .bool true, .int .i64 ns, .int .i64 nr, .string s] 144 (0, 0))
  have hw := (Went.single HW.out).new (.cells #[.int .i64 0, .int .i64 t, .bool false, .int .i64 k, .bool true, .int .i64 ns, .int .i64 nr, .string s] 144 (0, 0))
  obtain ⟨g, HG⟩ : ∃ g, Aside0 (w.heap.size = g) := ⟨_, ⟨rfl⟩⟩
  rw [HG.out] at hw hbx
  clear HW
  have HW : Aside0 (Went (all [blk g (.cells #[.int .i64 0, .int .i64 t, .bool false, .int .i64 k, .bool true, .int .i64 ns, .int .i64 nr, .string s] 144 (0, 0)), entAt b mb fb (e)]) T w0 (w.alloc (.cells #[.int .i64 0, .int .i64 t, .bool false, .int .i64 k, .bool true, .int .i64 ns, .int .i64 nr, .string s] 144 (0, 0)))) := ⟨hw⟩
  clear hw
  obtain ⟨⟨b0, b1, b2, b3, b4, b5, b6, b7⟩, _⟩ := cells8 hbx
  clear hbx
  clear b0 b1 b2 b3 b4 b5 b6 b7
  clear c0 c1 c2 c3 c4 c5 c6 c7 c8 f0 f1 f2 f3 f4 f8
  obtain ⟨⟨b0, b1, b2, b3, b4, b5, b6, b7⟩, _⟩ := cells8 (HW.out.heap 0 rfl)
  obtain ⟨Tz, hz⟩ := HW.out.get 1 rfl
  obtain ⟨A, ca, ⟨c0, c1, c2, c3, c4, c5, c6, c7, c8⟩, f0, f1, f2, f3, f4, f8⟩ := entAt.cells (Went.refl hz)
  clear hz
  rw [HS.out] at c1
  have hg := HG.out
  unfold frCells
  go_enter Tryz.func131, Tryz.ntmps131
  go_wp2_with fail
  generalize w.alloc (.cells #[.int .i64 0, .int .i64 t, .bool false, .int .i64 k, .bool true, .int .i64 ns, .int .i64 nr, .string s] 144 (0, 0)) = wx at *
  go_still_tail 7, (by kernel_rfl)
  change wpList _ _ _ _ _ (World.drew _)
  have HW := Aside0.mk HW.out.drew
  go_wp2_with fail
  refine (HW.out.call_at 1 rfl (fun T1 h1 => entAt.flow (Went.refl h1) (fun T2 h2 => Fl.setPeerC fb _ (k == 2) T2 _ h2))).mono ?_
  rintro r w1 ⟨rfl, hw⟩
  have HW : Aside0 (Went (all [blk g (.cells #[.int .i64 0, .int .i64 t, .bool false, .int .i64 k, .bool true, .int .i64 ns, .int .i64 nr, .string s] 144 (0, 0)), entAt b mb fb ({ e with fl := { (e).fl with peer := (k == 2) } })]) T w0 w1) := ⟨hw⟩
  clear hw
  clear b0 b1 b2 b3 b4 b5 b6 b7
  clear c0 c1 c2 c3 c4 c5 c6 c7 c8 f0 f1 f2 f3 f4 f8
  obtain ⟨⟨b0, b1, b2, b3, b4, b5, b6, b7⟩, _⟩ := cells8 (HW.out.heap 0 rfl)
  obtain ⟨Tz, hz⟩ := HW.out.get 1 rfl
  obtain ⟨A, ca, ⟨c0, c1, c2, c3, c4, c5, c6, c7, c8⟩, f0, f1, f2, f3, f4, f8⟩ := entAt.cells (Went.refl hz)
  clear hz
  go_wp2_with fail
  have HW := Aside0.mk HW.out.drew
  go_region_law (go_simp; go_at_call 157; refine (HW.out.call_at 1 rfl (fun T1 h1 => entAt.flow (Went.refl h1) (fun T2 h2 => HK.out T2 _ h2))).mono ?_; rintro r w2 ⟨rfl, hw⟩)
  all_goals
    have HW : Aside0 (Went (all [blk g (.cells #[.int .i64 0, .int .i64 t, .bool false, .int .i64 k, .bool true, .int .i64 ns, .int .i64 nr, .string s] 144 (0, 0)), entAt b mb fb ({ { e with fl := { (e).fl with peer := (k == 2) } } with fl := ({ (e).fl with peer := (k == 2) } : F) })]) T w0 w2) := ⟨hw⟩
    clear hw
    clear b0 b1 b2 b3 b4 b5 b6 b7
    clear c0 c1 c2 c3 c4 c5 c6 c7 c8 f0 f1 f2 f3 f4 f8
    obtain ⟨⟨b0, b1, b2, b3, b4, b5, b6, b7⟩, _⟩ := cells8 (HW.out.heap 0 rfl)
    obtain ⟨Tz, hz⟩ := HW.out.get 1 rfl
    obtain ⟨A, ca, ⟨c0, c1, c2, c3, c4, c5, c6, c7, c8⟩, f0, f1, f2, f3, f4, f8⟩ := entAt.cells (Went.refl hz)
    clear hz
    have hst : ({ { e with fl := { (e).fl with peer := (k == 2) } } with fl := ({ (e).fl with peer := (k == 2) } : F) }).state = 8 := HS.out
    rw [hst] at c1
    clear hst
    go_wp2_with fail
    refine (HW.out.call_at 1 rfl (fun T1 h1 => anewC b mb fb ({ { e with fl := { (e).fl with peer := (k == 2) } } with fl := ({ (e).fl with peer := (k == 2) } : F) }) ⟨#[74]⟩ (Nat.le_trans hl (by omega)) T1 _ _ (Went.refl h1))).mono ?_
    rintro r w3 ⟨rfl, hw⟩
    have HW : Aside0 (Went (all [blk g (.cells #[.int .i64 0, .int .i64 t, .bool false, .int .i64 k, .bool true, .int .i64 ns, .int .i64 nr, .string s] 144 (0, 0)), entAt b mb fb (anew ({ { e with fl := { (e).fl with peer := (k == 2) } } with fl := ({ (e).fl with peer := (k == 2) } : F) }) ⟨#[74]⟩)]) T w0 w3) := ⟨hw⟩
    clear hw
    clear b0 b1 b2 b3 b4 b5 b6 b7
    clear c0 c1 c2 c3 c4 c5 c6 c7 c8 f0 f1 f2 f3 f4 f8
    obtain ⟨⟨b0, b1, b2, b3, b4, b5, b6, b7⟩, _⟩ := cells8 (HW.out.heap 0 rfl)
    obtain ⟨Tz, hz⟩ := HW.out.get 1 rfl
    obtain ⟨A, ca, ⟨c0, c1, c2, c3, c4, c5, c6, c7, c8⟩, f0, f1, f2, f3, f4, f8⟩ := entAt.cells (Went.refl hz)
    clear hz
    go_wp2
    refine bodyPost_ret (results_none rfl _ _ _) rfl ?_
    exact ⟨rfl, Went.only (HW.out).drop⟩
end Go.Proofs.YtljnfbpplhnmfaaGreatDoor.En
