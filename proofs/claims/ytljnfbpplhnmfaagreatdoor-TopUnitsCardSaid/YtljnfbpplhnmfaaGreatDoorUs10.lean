/- Package entity by its own text: supervised, way by way. Conditions: sizes. -/
import Derived.Deep.LoopGhost
import Derived.StillTailTactics
import Derived.Test.YtljnfbpplhnmfaaGreatDoorUs04
import Derived.Test.YtljnfbpplhnmfaaGreatDoorUs07
import Derived.Test.YtljnfbpplhnmfaaGreatDoorUs08
namespace Go.Proofs.YtljnfbpplhnmfaaGreatDoor.En
open Go Go.RowKit Go.Proofs.YtljnfbpplhnmfaaGreatDoorW.PrintWords Go.Proofs.YtljnfbpplhnmfaaGreatDoorW.PrintLast Go.Proofs.YtljnfbpplhnmfaaGreatDoorW.PrintMore Go.Proofs.YtljnfbpplhnmfaaGreatDoor.Str Go.Proofs.YtljnfbpplhnmfaaGreatDoor.Mp Go.Proofs.YtljnfbpplhnmfaaGreatDoor.Ra Go.Proofs.YtljnfbpplhnmfaaGreatDoor.Sl Go.Proofs.YtljnfbpplhnmfaaGreatDoor.Qu Go.Proofs.YtljnfbpplhnmfaaGreatDoor.Sq Go.Proofs.YtljnfbpplhnmfaaGreatDoor.Fl Go.Proofs.YtljnfbpplhnmfaaGreatDoor.Ru Go.Proofs.YtljnfbpplhnmfaaGreatDoor.Md
set_option linter.unusedVariables false
set_option linter.unusedSimpArgs false
set_option maxRecDepth 1000000
set_option maxHeartbeats 4000000
theorem sup12 (b mb fb : Nat) (e : E) (t ns nr : Int) (s : ByteArray) (hl : e.out.length ≤ 7000) (hs : e.state = 7) (ha : ackOk e.fl nr) (T : Nat → Prop) (w0 w : World) (h : Went (entAt b mb fb e) T w0 w) :
    Calls Tryz.prog 131 #[.pointer (some ⟨b, 0, none⟩), .agg (frCells (⟨t, true, 2, true, ns, nr, s⟩ : Fr))] w fun r w' => r = .returned (.tuple #[]) ∧ Went (entAt b mb fb (supervised e (⟨t, true, 2, true, ns, nr, s⟩ : Fr))) T w0 w' := by
  have HOK := Aside0.mk (entAt.ok h)
  obtain ⟨A, ca, ⟨c0, c1, c2, c3, c4, c5, c6, c7, c8⟩, f0, f1, f2, f3, f4, f8⟩ := entAt.cells h
  have HW := Aside0.mk h
  clear h
  have hE1 : supervised1 e (⟨t, true, 2, true, ns, nr, s⟩ : Fr) = supervise (e) false true := by simp [supervised1, final, hs]
  have hE2 : supervised e (⟨t, true, 2, true, ns, nr, s⟩ : Fr) = supervised3 { supervise (e) false true with fl := ({ (supervise (e) false true).fl with peer := true } : F) } (⟨t, true, 2, true, ns, nr, s⟩ : Fr) := by unfold supervised; rw [hE1]; rfl
  have hS2 : supervised2 ({ { supervise (e) false true with fl := ({ (supervise (e) false true).fl with peer := true } : F) } with fl := ackF ({ (supervise (e) false true).fl with peer := true } : F) nr }) (⟨t, true, 2, true, ns, nr, s⟩ : Fr) = start200 (stop203 ({ { supervise (e) false true with fl := ({ (supervise (e) false true).fl with peer := true } : F) } with fl := ackF ({ (supervise (e) false true).fl with peer := true } : F) nr })) := (if_neg (show ¬ (2 : Int) ≠ 2 by decide)).trans (congrArg start200 (if_pos hs))
  have hE3 : supervised3 { supervise (e) false true with fl := ({ (supervise (e) false true).fl with peer := true } : F) } (⟨t, true, 2, true, ns, nr, s⟩ : Fr) = goOn { start200 (stop203 ({ { supervise (e) false true with fl := ({ (supervise (e) false true).fl with peer := true } : F) } with fl := ackF ({ (supervise (e) false true).fl with peer := true } : F) nr })) with state := 7 } := (if_pos ha).trans ((if_neg (fun h => by have h1 : (7 : Int) = 8 := hs.symm.trans h.1; omega)).trans ((if_neg (fun h => by have h1 : (2 : Int) = 1 := h.2; omega)).trans ((if_neg (fun h => by rcases h with h | h; have h1 : (7 : Int) = 8 := hs.symm.trans h; omega; have h1 : (2 : Int) = 3 := h; omega)).trans (by rw [hS2]))))
  rw [hE2, hE3]
  clear hE1 hE2 hE3 hS2
  have HK : Aside0 (∀ T1 wz, (flAt fb ({ (supervise (e) false true).fl with peer := true } : F)).h T1 wz → Calls Tryz.prog 157 #[.pointer (some ⟨fb, 0, none⟩), .int .i64 nr] wz fun r w2 => r = .returned (.tuple #[.int .i64 (ackN ({ (supervise (e) false true).fl with peer := true } : F) nr : Int), .int .i64 0]) ∧ Went (flAt fb (ackF ({ (supervise (e) false true).fl with peer := true } : F) nr)) T1 wz w2) := ⟨fun T1 wz hz => by
    have h0 := Fl.ackC fb ({ (supervise (e) false true).fl with peer := true } : F) nr T1 wz hz
    rw [if_pos (show ackOk ({ (supervise (e) false true).fl with peer := true } : F) nr from ha), if_pos (show ackOk ({ (supervise (e) false true).fl with peer := true } : F) nr from ha)] at h0
    exact h0⟩
  have HS := Aside0.mk hs
  rw [hs] at c1
  clear ha hs
  have hbx := heap_alloc_new w (.cells #[.int .i64 0, .int .i64 t, .bool true, .int .i64 2, .bool true, .int .i64 ns, .int .i64 nr, .string s] 144 (0, 0))
  have hw := (Went.single HW.out).new (.cells #[.int .i64 0, .int .i64 t, .bool true, .int .i64 2, .bool true, .int .i64 ns, .int .i64 nr, .string s] 144 (0, 0))
  obtain ⟨g, HG⟩ : ∃ g, Aside0 (w.heap.size = g) := ⟨_, ⟨rfl⟩⟩
  rw [HG.out] at hw hbx
  clear HW
  have HW : Aside0 (Went (all [blk g (.cells #[.int .i64 0, .int .i64 t, .bool true, .int .i64 2, .bool true, .int .i64 ns, .int .i64 nr, .string s] 144 (0, 0)), entAt b mb fb (e)]) T w0 (w.alloc (.cells #[.int .i64 0, .int .i64 t, .bool true, .int .i64 2, .bool true, .int .i64 ns, .int .i64 nr, .string s] 144 (0, 0)))) := ⟨hw⟩
  clear hw
  obtain ⟨⟨b0, b1, b2, b3, b4, b5, b6, b7⟩, _⟩ := cells8 hbx
  clear hbx
  clear b0 b1 b2 b3 b4 b5 b6 b7
  clear c0 c1 c2 c3 c4 c5 c6 c7 c8 f0 f1 f2 f3 f4 f8
  obtain ⟨⟨b0, b1, b2, b3, b4, b5, b6, b7⟩, _⟩ := cells8 (HW.out.heap 0 rfl)
  obtain ⟨Tz, hz⟩ := HW.out.get 1 rfl
  obtain ⟨A, ca, ⟨c0, c1, c2, c3, c4, c5, c6, c7, c8⟩, f0, f1, f2, f3, f4, f8⟩ := entAt.cells (Went.refl hz)
  clear hz
  rw [HS.out] at c1
  have hg := HG.out
  unfold frCells
  go_enter Tryz.func131, Tryz.ntmps131
  go_wp2_with fail
  refine (HW.out.call_at 1 rfl (fun T1 h1 => superviseC b mb fb (e) false true (Nat.le_trans hl (by omega)) T1 _ _ (Went.refl h1))).mono ?_
  rintro r w1 ⟨rfl, hw⟩
  have HW : Aside0 (Went (all [blk g (.cells #[.int .i64 0, .int .i64 t, .bool true, .int .i64 2, .bool true, .int .i64 ns, .int .i64 nr, .string s] 144 (0, 0)), entAt b mb fb (supervise (e) false true)]) T w0 w1) := ⟨hw⟩
  clear hw
  clear b0 b1 b2 b3 b4 b5 b6 b7
  clear c0 c1 c2 c3 c4 c5 c6 c7 c8 f0 f1 f2 f3 f4 f8
  obtain ⟨⟨b0, b1, b2, b3, b4, b5, b6, b7⟩, _⟩ := cells8 (HW.out.heap 0 rfl)
  obtain ⟨Tz, hz⟩ := HW.out.get 1 rfl
  obtain ⟨A, ca, ⟨c0, c1, c2, c3, c4, c5, c6, c7, c8⟩, f0, f1, f2, f3, f4, f8⟩ := entAt.cells (Went.refl hz)
  clear hz
  go_wp2_with fail
  go_still_tail 7, (by kernel_rfl)
  change wpList _ _ _ _ _ (World.drew _)
  have HW := Aside0.mk HW.out.drew
  go_wp2_with fail
  refine (HW.out.call_at 1 rfl (fun T1 h1 => entAt.flow (Went.refl h1) (fun T2 h2 => Fl.setPeerC fb _ true T2 _ h2))).mono ?_
  rintro r w2 ⟨rfl, hw⟩
  have HW : Aside0 (Went (all [blk g (.cells #[.int .i64 0, .int .i64 t, .bool true, .int .i64 2, .bool true, .int .i64 ns, .int .i64 nr, .string s] 144 (0, 0)), entAt b mb fb ({ supervise (e) false true with fl := { (supervise (e) false true).fl with peer := true } })]) T w0 w2) := ⟨hw⟩
  clear hw
  clear b0 b1 b2 b3 b4 b5 b6 b7
  clear c0 c1 c2 c3 c4 c5 c6 c7 c8 f0 f1 f2 f3 f4 f8
  obtain ⟨⟨b0, b1, b2, b3, b4, b5, b6, b7⟩, _⟩ := cells8 (HW.out.heap 0 rfl)
  obtain ⟨Tz, hz⟩ := HW.out.get 1 rfl
  obtain ⟨A, ca, ⟨c0, c1, c2, c3, c4, c5, c6, c7, c8⟩, f0, f1, f2, f3, f4, f8⟩ := entAt.cells (Went.refl hz)
  clear hz
  go_wp2_with fail
  have HW := Aside0.mk HW.out.drew
  go_region_law (go_simp; go_at_call 157; refine (HW.out.call_at 1 rfl (fun T1 h1 => entAt.flow (Went.refl h1) (fun T2 h2 => HK.out T2 _ h2))).mono ?_; rintro r w3 ⟨rfl, hw⟩)
  all_goals
    have HW : Aside0 (Went (all [blk g (.cells #[.int .i64 0, .int .i64 t, .bool true, .int .i64 2, .bool true, .int .i64 ns, .int .i64 nr, .string s] 144 (0, 0)), entAt b mb fb ({ { supervise (e) false true with fl := { (supervise (e) false true).fl with peer := true } } with fl := ackF ({ (supervise (e) false true).fl with peer := true } : F) nr })]) T w0 w3) := ⟨hw⟩
    clear hw
    clear b0 b1 b2 b3 b4 b5 b6 b7
    clear c0 c1 c2 c3 c4 c5 c6 c7 c8 f0 f1 f2 f3 f4 f8
    obtain ⟨⟨b0, b1, b2, b3, b4, b5, b6, b7⟩, _⟩ := cells8 (HW.out.heap 0 rfl)
    obtain ⟨Tz, hz⟩ := HW.out.get 1 rfl
    obtain ⟨A, ca, ⟨c0, c1, c2, c3, c4, c5, c6, c7, c8⟩, f0, f1, f2, f3, f4, f8⟩ := entAt.cells (Went.refl hz)
    clear hz
    have hst : ({ { supervise (e) false true with fl := { (supervise (e) false true).fl with peer := true } } with fl := ackF ({ (supervise (e) false true).fl with peer := true } : F) nr }).state = 7 := HS.out
    rw [hst] at c1
    clear hst
    go_wp2_with fail
    refine (HW.out.call_at 1 rfl (fun T1 h1 => stop203C b mb fb ({ { supervise (e) false true with fl := { (supervise (e) false true).fl with peer := true } } with fl := ackF ({ (supervise (e) false true).fl with peer := true } : F) nr })  (Nat.le_trans (len_supervise (hl)) (by omega)) T1 _ _ (Went.refl h1))).mono ?_
    rintro r w4 ⟨rfl, hw⟩
    have HW : Aside0 (Went (all [blk g (.cells #[.int .i64 0, .int .i64 t, .bool true, .int .i64 2, .bool true, .int .i64 ns, .int .i64 nr, .string s] 144 (0, 0)), entAt b mb fb (stop203 ({ { supervise (e) false true with fl := { (supervise (e) false true).fl with peer := true } } with fl := ackF ({ (supervise (e) false true).fl with peer := true } : F) nr }))]) T w0 w4) := ⟨hw⟩
    clear hw
    clear b0 b1 b2 b3 b4 b5 b6 b7
    clear c0 c1 c2 c3 c4 c5 c6 c7 c8 f0 f1 f2 f3 f4 f8
    obtain ⟨⟨b0, b1, b2, b3, b4, b5, b6, b7⟩, _⟩ := cells8 (HW.out.heap 0 rfl)
    obtain ⟨Tz, hz⟩ := HW.out.get 1 rfl
    obtain ⟨A, ca, ⟨c0, c1, c2, c3, c4, c5, c6, c7, c8⟩, f0, f1, f2, f3, f4, f8⟩ := entAt.cells (Went.refl hz)
    clear hz
    go_wp2_with fail
    refine (HW.out.call_at 1 rfl (fun T1 h1 => start200C b mb fb (stop203 ({ { supervise (e) false true with fl := { (supervise (e) false true).fl with peer := true } } with fl := ackF ({ (supervise (e) false true).fl with peer := true } : F) nr }))  (Nat.le_trans (len_stop203 (len_supervise (hl))) (by omega)) T1 _ _ (Went.refl h1))).mono ?_
    rintro r w5 ⟨rfl, hw⟩
    have HW : Aside0 (Went (all [blk g (.cells #[.int .i64 0, .int .i64 t, .bool true, .int .i64 2, .bool true, .int .i64 ns, .int .i64 nr, .string s] 144 (0, 0)), entAt b mb fb (start200 (stop203 ({ { supervise (e) false true with fl := { (supervise (e) false true).fl with peer := true } } with fl := ackF ({ (supervise (e) false true).fl with peer := true } : F) nr })))]) T w0 w5) := ⟨hw⟩
    clear hw
    clear b0 b1 b2 b3 b4 b5 b6 b7
    clear c0 c1 c2 c3 c4 c5 c6 c7 c8 f0 f1 f2 f3 f4 f8
    obtain ⟨⟨b0, b1, b2, b3, b4, b5, b6, b7⟩, _⟩ := cells8 (HW.out.heap 0 rfl)
    obtain ⟨Tz, hz⟩ := HW.out.get 1 rfl
    obtain ⟨A, ca, ⟨c0, c1, c2, c3, c4, c5, c6, c7, c8⟩, f0, f1, f2, f3, f4, f8⟩ := entAt.cells (Went.refl hz)
    clear hz
    have hst : (start200 (stop203 ({ { supervise (e) false true with fl := { (supervise (e) false true).fl with peer := true } } with fl := ackF ({ (supervise (e) false true).fl with peer := true } : F) nr }))).state = 7 := ((same_stop203 _).trans (same_start200 _)).state.trans HS.out
    rw [hst] at c1
    clear hst
    go_wp2_with fail
    refine ((HW.out.at_ 1 rfl (fun T1 h1 => (entAt.setState (Went.refl h1) 7 (by decide)))).call_at 1 rfl (fun T1 h1 => goOnC b mb fb ({ start200 (stop203 ({ { supervise (e) false true with fl := { (supervise (e) false true).fl with peer := true } } with fl := ackF ({ (supervise (e) false true).fl with peer := true } : F) nr })) with state := 7 }) (by have h9 : ({ start200 (stop203 ({ { supervise (e) false true with fl := { (supervise (e) false true).fl with peer := true } } with fl := ackF ({ (supervise (e) false true).fl with peer := true } : F) nr })) with state := 7 }).out.length ≤ 7000 + 3 := len_start200 (len_stop203 (len_supervise (hl))); exact Nat.le_trans h9 (by omega)) T1 _ _ (Went.refl h1))).mono ?_
    rintro r w6 ⟨rfl, hw⟩
    have HW : Aside0 (Went (all [blk g (.cells #[.int .i64 0, .int .i64 t, .bool true, .int .i64 2, .bool true, .int .i64 ns, .int .i64 nr, .string s] 144 (0, 0)), entAt b mb fb (goOn ({ start200 (stop203 ({ { supervise (e) false true with fl := { (supervise (e) false true).fl with peer := true } } with fl := ackF ({ (supervise (e) false true).fl with peer := true } : F) nr })) with state := 7 }))]) T w0 w6) := ⟨hw⟩
    clear hw
    clear b0 b1 b2 b3 b4 b5 b6 b7
    clear c0 c1 c2 c3 c4 c5 c6 c7 c8 f0 f1 f2 f3 f4 f8
    obtain ⟨⟨b0, b1, b2, b3, b4, b5, b6, b7⟩, _⟩ := cells8 (HW.out.heap 0 rfl)
    obtain ⟨Tz, hz⟩ := HW.out.get 1 rfl
    obtain ⟨A, ca, ⟨c0, c1, c2, c3, c4, c5, c6, c7, c8⟩, f0, f1, f2, f3, f4, f8⟩ := entAt.cells (Went.refl hz)
    clear hz
    go_wp2
    go_end0
    exact ⟨rfl, Went.only (HW.out).drop⟩
theorem sup22 (b mb fb : Nat) (e : E) (t ns nr : Int) (s : ByteArray) (hl : e.out.length ≤ 7000) (hs : e.state = 7) (ha : ackOk e.fl nr) (T : Nat → Prop) (w0 w : World) (h : Went (entAt b mb fb e) T w0 w) :
    Calls Tryz.prog 131 #[.pointer (some ⟨b, 0, none⟩), .agg (frCells (⟨t, false, 2, true, ns, nr, s⟩ : Fr))] w fun r w' => r = .returned (.tuple #[]) ∧ Went (entAt b mb fb (supervised e (⟨t, false, 2, true, ns, nr, s⟩ : Fr))) T w0 w' := by
  have HOK := Aside0.mk (entAt.ok h)
  obtain ⟨A, ca, ⟨c0, c1, c2, c3, c4, c5, c6, c7, c8⟩, f0, f1, f2, f3, f4, f8⟩ := entAt.cells h
  have HW := Aside0.mk h
  clear h
  have hE1 : supervised1 e (⟨t, false, 2, true, ns, nr, s⟩ : Fr) = told (e) 7 ⟨#[65]⟩ := by simp [supervised1, final, hs]
  have hE2 : supervised e (⟨t, false, 2, true, ns, nr, s⟩ : Fr) = supervised3 { told (e) 7 ⟨#[65]⟩ with fl := ({ (told (e) 7 ⟨#[65]⟩).fl with peer := true } : F) } (⟨t, false, 2, true, ns, nr, s⟩ : Fr) := by unfold supervised; rw [hE1]; rfl
  have hS2 : supervised2 ({ { told (e) 7 ⟨#[65]⟩ with fl := ({ (told (e) 7 ⟨#[65]⟩).fl with peer := true } : F) } with fl := ackF ({ (told (e) 7 ⟨#[65]⟩).fl with peer := true } : F) nr }) (⟨t, false, 2, true, ns, nr, s⟩ : Fr) = start200 (stop203 ({ { told (e) 7 ⟨#[65]⟩ with fl := ({ (told (e) 7 ⟨#[65]⟩).fl with peer := true } : F) } with fl := ackF ({ (told (e) 7 ⟨#[65]⟩).fl with peer := true } : F) nr })) := (if_neg (show ¬ (2 : Int) ≠ 2 by decide)).trans (congrArg start200 (if_pos hs))
  have hE3 : supervised3 { told (e) 7 ⟨#[65]⟩ with fl := ({ (told (e) 7 ⟨#[65]⟩).fl with peer := true } : F) } (⟨t, false, 2, true, ns, nr, s⟩ : Fr) = goOn { start200 (stop203 ({ { told (e) 7 ⟨#[65]⟩ with fl := ({ (told (e) 7 ⟨#[65]⟩).fl with peer := true } : F) } with fl := ackF ({ (told (e) 7 ⟨#[65]⟩).fl with peer := true } : F) nr })) with state := 7 } := (if_pos ha).trans ((if_neg (fun h => by have h1 : (7 : Int) = 8 := hs.symm.trans h.1; omega)).trans ((if_neg (fun h => by have h1 : (2 : Int) = 1 := h.2; omega)).trans ((if_neg (fun h => by rcases h with h | h; have h1 : (7 : Int) = 8 := hs.symm.trans h; omega; have h1 : (2 : Int) = 3 := h; omega)).trans (by rw [hS2]))))
  rw [hE2, hE3]
  clear hE1 hE2 hE3 hS2
  have HK : Aside0 (∀ T1 wz, (flAt fb ({ (told (e) 7 ⟨#[65]⟩).fl with peer := true } : F)).h T1 wz → Calls Tryz.prog 157 #[.pointer (some ⟨fb, 0, none⟩), .int .i64 nr] wz fun r w2 => r = .returned (.tuple #[.int .i64 (ackN ({ (told (e) 7 ⟨#[65]⟩).fl with peer := true } : F) nr : Int), .int .i64 0]) ∧ Went (flAt fb (ackF ({ (told (e) 7 ⟨#[65]⟩).fl with peer := true } : F) nr)) T1 wz w2) := ⟨fun T1 wz hz => by
    have h0 := Fl.ackC fb ({ (told (e) 7 ⟨#[65]⟩).fl with peer := true } : F) nr T1 wz hz
    rw [if_pos (show ackOk ({ (told (e) 7 ⟨#[65]⟩).fl with peer := true } : F) nr from ha), if_pos (show ackOk ({ (told (e) 7 ⟨#[65]⟩).fl with peer := true } : F) nr from ha)] at h0
    exact h0⟩
  have HS := Aside0.mk hs
  rw [hs] at c1
  clear ha hs
  have hbx := heap_alloc_new w (.cells #[.int .i64 0, .int .i64 t, .bool false, .int .i64 2, .bool true, .int .i64 ns, .int .i64 nr, .string s] 144 (0, 0))
  have hw := (Went.single HW.out).new (.cells #[.int .i64 0, .int .i64 t, .bool false, .int .i64 2, .bool true, .int .i64 ns, .int .i64 nr, .string s] 144 (0, 0))
  obtain ⟨g, HG⟩ : ∃ g, Aside0 (w.heap.size = g) := ⟨_, ⟨rfl⟩⟩
  rw [HG.out] at hw hbx
  clear HW
  have HW : Aside0 (Went (all [blk g (.cells #[.int .i64 0, .int .i64 t, .bool false, .int .i64 2, .bool true, .int .i64 ns, .int .i64 nr, .string s] 144 (0, 0)), entAt b mb fb (e)]) T w0 (w.alloc (.cells #[.int .i64 0, .int .i64 t, .bool false, .int .i64 2, .bool true, .int .i64 ns, .int .i64 nr, .string s] 144 (0, 0)))) := ⟨hw⟩
  clear hw
  obtain ⟨⟨b0, b1, b2, b3, b4, b5, b6, b7⟩, _⟩ := cells8 hbx
  clear hbx
  clear b0 b1 b2 b3 b4 b5 b6 b7
  clear c0 c1 c2 c3 c4 c5 c6 c7 c8 f0 f1 f2 f3 f4 f8
  obtain ⟨⟨b0, b1, b2, b3, b4, b5, b6, b7⟩, _⟩ := cells8 (HW.out.heap 0 rfl)
  obtain ⟨Tz, hz⟩ := HW.out.get 1 rfl
  obtain ⟨A, ca, ⟨c0, c1, c2, c3, c4, c5, c6, c7, c8⟩, f0, f1, f2, f3, f4, f8⟩ := entAt.cells (Went.refl hz)
  clear hz
  rw [HS.out] at c1
  have hg := HG.out
  unfold frCells
  go_enter Tryz.func131, Tryz.ntmps131
  go_wp2_with fail
  refine (HW.out.call_at 1 rfl (fun T1 h1 => toldC b mb fb (e) 7 ⟨#[65]⟩ (Nat.le_trans hl (by omega)) T1 _ _ (Went.refl h1))).mono ?_
  rintro r w1 ⟨rfl, hw⟩
  have HW : Aside0 (Went (all [blk g (.cells #[.int .i64 0, .int .i64 t, .bool false, .int .i64 2, .bool true, .int .i64 ns, .int .i64 nr, .string s] 144 (0, 0)), entAt b mb fb (told (e) 7 ⟨#[65]⟩)]) T w0 w1) := ⟨hw⟩
  clear hw
  clear b0 b1 b2 b3 b4 b5 b6 b7
  clear c0 c1 c2 c3 c4 c5 c6 c7 c8 f0 f1 f2 f3 f4 f8
  obtain ⟨⟨b0, b1, b2, b3, b4, b5, b6, b7⟩, _⟩ := cells8 (HW.out.heap 0 rfl)
  obtain ⟨Tz, hz⟩ := HW.out.get 1 rfl
  obtain ⟨A, ca, ⟨c0, c1, c2, c3, c4, c5, c6, c7, c8⟩, f0, f1, f2, f3, f4, f8⟩ := entAt.cells (Went.refl hz)
  clear hz
  go_wp2_with fail
  go_still_tail 7, (by kernel_rfl)
  change wpList _ _ _ _ _ (World.drew _)
  have HW := Aside0.mk HW.out.drew
  go_wp2_with fail
  refine (HW.out.call_at 1 rfl (fun T1 h1 => entAt.flow (Went.refl h1) (fun T2 h2 => Fl.setPeerC fb _ true T2 _ h2))).mono ?_
  rintro r w2 ⟨rfl, hw⟩
  have HW : Aside0 (Went (all [blk g (.cells #[.int .i64 0, .int .i64 t, .bool false, .int .i64 2, .bool true, .int .i64 ns, .int .i64 nr, .string s] 144 (0, 0)), entAt b mb fb ({ told (e) 7 ⟨#[65]⟩ with fl := { (told (e) 7 ⟨#[65]⟩).fl with peer := true } })]) T w0 w2) := ⟨hw⟩
  clear hw
  clear b0 b1 b2 b3 b4 b5 b6 b7
  clear c0 c1 c2 c3 c4 c5 c6 c7 c8 f0 f1 f2 f3 f4 f8
  obtain ⟨⟨b0, b1, b2, b3, b4, b5, b6, b7⟩, _⟩ := cells8 (HW.out.heap 0 rfl)
  obtain ⟨Tz, hz⟩ := HW.out.get 1 rfl
  obtain ⟨A, ca, ⟨c0, c1, c2, c3, c4, c5, c6, c7, c8⟩, f0, f1, f2, f3, f4, f8⟩ := entAt.cells (Went.refl hz)
  clear hz
  go_wp2_with fail
  have HW := Aside0.mk HW.out.drew
  go_region_law (go_simp; go_at_call 157; refine (HW.out.call_at 1 rfl (fun T1 h1 => entAt.flow (Went.refl h1) (fun T2 h2 => HK.out T2 _ h2))).mono ?_; rintro r w3 ⟨rfl, hw⟩)
  all_goals
    have HW : Aside0 (Went (all [blk g (.cells #[.int .i64 0, .int .i64 t, .bool false, .int .i64 2, .bool true, .int .i64 ns, .int .i64 nr, .string s] 144 (0, 0)), entAt b mb fb ({ { told (e) 7 ⟨#[65]⟩ with fl := { (told (e) 7 ⟨#[65]⟩).fl with peer := true } } with fl := ackF ({ (told (e) 7 ⟨#[65]⟩).fl with peer := true } : F) nr })]) T w0 w3) := ⟨hw⟩
    clear hw
    clear b0 b1 b2 b3 b4 b5 b6 b7
    clear c0 c1 c2 c3 c4 c5 c6 c7 c8 f0 f1 f2 f3 f4 f8
    obtain ⟨⟨b0, b1, b2, b3, b4, b5, b6, b7⟩, _⟩ := cells8 (HW.out.heap 0 rfl)
    obtain ⟨Tz, hz⟩ := HW.out.get 1 rfl
    obtain ⟨A, ca, ⟨c0, c1, c2, c3, c4, c5, c6, c7, c8⟩, f0, f1, f2, f3, f4, f8⟩ := entAt.cells (Went.refl hz)
    clear hz
    have hst : ({ { told (e) 7 ⟨#[65]⟩ with fl := { (told (e) 7 ⟨#[65]⟩).fl with peer := true } } with fl := ackF ({ (told (e) 7 ⟨#[65]⟩).fl with peer := true } : F) nr }).state = 7 := HS.out
    rw [hst] at c1
    clear hst
    go_wp2_with fail
    refine (HW.out.call_at 1 rfl (fun T1 h1 => stop203C b mb fb ({ { told (e) 7 ⟨#[65]⟩ with fl := { (told (e) 7 ⟨#[65]⟩).fl with peer := true } } with fl := ackF ({ (told (e) 7 ⟨#[65]⟩).fl with peer := true } : F) nr })  (Nat.le_trans (len_told (hl)) (by omega)) T1 _ _ (Went.refl h1))).mono ?_
    rintro r w4 ⟨rfl, hw⟩
    have HW : Aside0 (Went (all [blk g (.cells #[.int .i64 0, .int .i64 t, .bool false, .int .i64 2, .bool true, .int .i64 ns, .int .i64 nr, .string s] 144 (0, 0)), entAt b mb fb (stop203 ({ { told (e) 7 ⟨#[65]⟩ with fl := { (told (e) 7 ⟨#[65]⟩).fl with peer := true } } with fl := ackF ({ (told (e) 7 ⟨#[65]⟩).fl with peer := true } : F) nr }))]) T w0 w4) := ⟨hw⟩
    clear hw
    clear b0 b1 b2 b3 b4 b5 b6 b7
    clear c0 c1 c2 c3 c4 c5 c6 c7 c8 f0 f1 f2 f3 f4 f8
    obtain ⟨⟨b0, b1, b2, b3, b4, b5, b6, b7⟩, _⟩ := cells8 (HW.out.heap 0 rfl)
    obtain ⟨Tz, hz⟩ := HW.out.get 1 rfl
    obtain ⟨A, ca, ⟨c0, c1, c2, c3, c4, c5, c6, c7, c8⟩, f0, f1, f2, f3, f4, f8⟩ := entAt.cells (Went.refl hz)
    clear hz
    go_wp2_with fail
    refine (HW.out.call_at 1 rfl (fun T1 h1 => start200C b mb fb (stop203 ({ { told (e) 7 ⟨#[65]⟩ with fl := { (told (e) 7 ⟨#[65]⟩).fl with peer := true } } with fl := ackF ({ (told (e) 7 ⟨#[65]⟩).fl with peer := true } : F) nr }))  (Nat.le_trans (len_stop203 (len_told (hl))) (by omega)) T1 _ _ (Went.refl h1))).mono ?_
    rintro r w5 ⟨rfl, hw⟩
    have HW : Aside0 (Went (all [blk g (.cells #[.int .i64 0, .int .i64 t, .bool false, .int .i64 2, .bool true, .int .i64 ns, .int .i64 nr, .string s] 144 (0, 0)), entAt b mb fb (start200 (stop203 ({ { told (e) 7 ⟨#[65]⟩ with fl := { (told (e) 7 ⟨#[65]⟩).fl with peer := true } } with fl := ackF ({ (told (e) 7 ⟨#[65]⟩).fl with peer := true } : F) nr })))]) T w0 w5) := ⟨hw⟩
    clear hw
    clear b0 b1 b2 b3 b4 b5 b6 b7
    clear c0 c1 c2 c3 c4 c5 c6 c7 c8 f0 f1 f2 f3 f4 f8
    obtain ⟨⟨b0, b1, b2, b3, b4, b5, b6, b7⟩, _⟩ := cells8 (HW.out.heap 0 rfl)
    obtain ⟨Tz, hz⟩ := HW.out.get 1 rfl
    obtain ⟨A, ca, ⟨c0, c1, c2, c3, c4, c5, c6, c7, c8⟩, f0, f1, f2, f3, f4, f8⟩ := entAt.cells (Went.refl hz)
    clear hz
    have hst : (start200 (stop203 ({ { told (e) 7 ⟨#[65]⟩ with fl := { (told (e) 7 ⟨#[65]⟩).fl with peer := true } } with fl := ackF ({ (told (e) 7 ⟨#[65]⟩).fl with peer := true } : F) nr }))).state = 7 := ((same_stop203 _).trans (same_start200 _)).state.trans HS.out
    rw [hst] at c1
    clear hst
    go_wp2_with fail
    refine ((HW.out.at_ 1 rfl (fun T1 h1 => (entAt.setState (Went.refl h1) 7 (by decide)))).call_at 1 rfl (fun T1 h1 => goOnC b mb fb ({ start200 (stop203 ({ { told (e) 7 ⟨#[65]⟩ with fl := { (told (e) 7 ⟨#[65]⟩).fl with peer := true } } with fl := ackF ({ (told (e) 7 ⟨#[65]⟩).fl with peer := true } : F) nr })) with state := 7 }) (by have h9 : ({ start200 (stop203 ({ { told (e) 7 ⟨#[65]⟩ with fl := { (told (e) 7 ⟨#[65]⟩).fl with peer := true } } with fl := ackF ({ (told (e) 7 ⟨#[65]⟩).fl with peer := true } : F) nr })) with state := 7 }).out.length ≤ 7000 + 3 := len_start200 (len_stop203 (len_told (hl))); exact Nat.le_trans h9 (by omega)) T1 _ _ (Went.refl h1))).mono ?_
    rintro r w6 ⟨rfl, hw⟩
    have HW : Aside0 (Went (all [blk g (.cells #[.int .i64 0, .int .i64 t, .bool false, .int .i64 2, .bool true, .int .i64 ns, .int .i64 nr, .string s] 144 (0, 0)), entAt b mb fb (goOn ({ start200 (stop203 ({ { told (e) 7 ⟨#[65]⟩ with fl := { (told (e) 7 ⟨#[65]⟩).fl with peer := true } } with fl := ackF ({ (told (e) 7 ⟨#[65]⟩).fl with peer := true } : F) nr })) with state := 7 }))]) T w0 w6) := ⟨hw⟩
    clear hw
    clear b0 b1 b2 b3 b4 b5 b6 b7
    clear c0 c1 c2 c3 c4 c5 c6 c7 c8 f0 f1 f2 f3 f4 f8
    obtain ⟨⟨b0, b1, b2, b3, b4, b5, b6, b7⟩, _⟩ := cells8 (HW.out.heap 0 rfl)
    obtain ⟨Tz, hz⟩ := HW.out.get 1 rfl
    obtain ⟨A, ca, ⟨c0, c1, c2, c3, c4, c5, c6, c7, c8⟩, f0, f1, f2, f3, f4, f8⟩ := entAt.cells (Went.refl hz)
    clear hz
    go_wp2
    go_end0
    exact ⟨rfl, Went.only (HW.out).drop⟩
theorem sup32 (b mb fb : Nat) (e : E) (t ns nr : Int) (s : ByteArray) (hl : e.out.length ≤ 7000) (hs : e.state = 7) (ha : ackOk e.fl nr) (T : Nat → Prop) (w0 w : World) (h : Went (entAt b mb fb e) T w0 w) :
    Calls Tryz.prog 131 #[.pointer (some ⟨b, 0, none⟩), .agg (frCells (⟨t, true, 2, false, ns, nr, s⟩ : Fr))] w fun r w' => r = .returned (.tuple #[]) ∧ Went (entAt b mb fb (supervised e (⟨t, true, 2, false, ns, nr, s⟩ : Fr))) T w0 w' := by
  have HOK := Aside0.mk (entAt.ok h)
  obtain ⟨A, ca, ⟨c0, c1, c2, c3, c4, c5, c6, c7, c8⟩, f0, f1, f2, f3, f4, f8⟩ := entAt.cells h
  have HW := Aside0.mk h
  clear h
  have hE1 : supervised1 e (⟨t, true, 2, false, ns, nr, s⟩ : Fr) = e := by simp [supervised1, final, hs]
  have hE2 : supervised e (⟨t, true, 2, false, ns, nr, s⟩ : Fr) = supervised3 { e with fl := ({ (e).fl with peer := true } : F) } (⟨t, true, 2, false, ns, nr, s⟩ : Fr) := by unfold supervised; rw [hE1]; rfl
  have hS2 : supervised2 ({ { e with fl := ({ (e).fl with peer := true } : F) } with fl := ackF ({ (e).fl with peer := true } : F) nr }) (⟨t, true, 2, false, ns, nr, s⟩ : Fr) = start200 (stop203 ({ { e with fl := ({ (e).fl with peer := true } : F) } with fl := ackF ({ (e).fl with peer := true } : F) nr })) := (if_neg (show ¬ (2 : Int) ≠ 2 by decide)).trans (congrArg start200 (if_pos hs))
  have hE3 : supervised3 { e with fl := ({ (e).fl with peer := true } : F) } (⟨t, true, 2, false, ns, nr, s⟩ : Fr) = goOn { start200 (stop203 ({ { e with fl := ({ (e).fl with peer := true } : F) } with fl := ackF ({ (e).fl with peer := true } : F) nr })) with state := 7 } := (if_pos ha).trans ((if_neg (fun h => by have h1 : (7 : Int) = 8 := hs.symm.trans h.1; omega)).trans ((if_neg (fun h => by have h1 : (2 : Int) = 1 := h.2; omega)).trans ((if_neg (fun h => by rcases h with h | h; have h1 : (7 : Int) = 8 := hs.symm.trans h; omega; have h1 : (2 : Int) = 3 := h; omega)).trans (by rw [hS2]))))
  rw [hE2, hE3]
  clear hE1 hE2 hE3 hS2
  have HK : Aside0 (∀ T1 wz, (flAt fb ({ (e).fl with peer := true } : F)).h T1 wz → Calls Tryz.prog 157 #[.pointer (some ⟨fb, 0, none⟩), .int .i64 nr] wz fun r w2 => r = .returned (.tuple #[.int .i64 (ackN ({ (e).fl with peer := true } : F) nr : Int), .int .i64 0]) ∧ Went (flAt fb (ackF ({ (e).fl with peer := true } : F) nr)) T1 wz w2) := ⟨fun T1 wz hz => by
    have h0 := Fl.ackC fb ({ (e).fl with peer := true } : F) nr T1 wz hz
    rw [if_pos (show ackOk ({ (e).fl with peer := true } : F) nr from ha), if_pos (show ackOk ({ (e).fl with peer := true } : F) nr from ha)] at h0
    exact h0⟩
  have HS := Aside0.mk hs
  rw [hs] at c1
  clear ha hs
  have hbx := heap_alloc_new w (.cells #[.int .i64 0, .int .i64 t, .bool true, .int .i64 2, .bool false, .int .i64 ns, .int .i64 nr, .string s] 144 (0, 0))
  have hw := (Went.single HW.out).new (.cells #[.int .i64 0, .int .i64 t, .bool true, .int .i64 2, .bool false, .int .i64 ns, .int .i64 nr, .string s] 144 (0, 0))
  obtain ⟨g, HG⟩ : ∃ g, Aside0 (w.heap.size = g) := ⟨_, ⟨rfl⟩⟩
  rw [HG.out] at hw hbx
  clear HW
  have HW : Aside0 (Went (all [blk g (.cells #[.int .i64 0, .int .i64 t, .bool true, .int .i64 2, .bool false, .int .i64 ns, .int .i64 nr, .string s] 144 (0, 0)), entAt b mb fb (e)]) T w0 (w.alloc (.cells #[.int .i64 0, .int .i64 t, .bool true, .int .i64 2, .bool false, .int .i64 ns, .int .i64 nr, .string s] 144 (0, 0)))) := ⟨hw⟩
  clear hw
  obtain ⟨⟨b0, b1, b2, b3, b4, b5, b6, b7⟩, _⟩ := cells8 hbx
  clear hbx
  clear b0 b1 b2 b3 b4 b5 b6 b7
  clear c0 c1 c2 c3 c4 c5 c6 c7 c8 f0 f1 f2 f3 f4 f8
  obtain ⟨⟨b0, b1, b2, b3, b4, b5, b6, b7⟩, _⟩ := cells8 (HW.out.heap 0 rfl)
  obtain ⟨Tz, hz⟩ := HW.out.get 1 rfl
  obtain ⟨A, ca, ⟨c0, c1, c2, c3, c4, c5, c6, c7, c8⟩, f0, f1, f2, f3, f4, f8⟩ := entAt.cells (Went.refl hz)
  clear hz
  rw [HS.out] at c1
  have hg := HG.out
  unfold frCells
  go_enter Tryz.func131, Tryz.ntmps131
  go_wp2_with fail
  generalize w.alloc (.cells #[.int .i64 0, .int .i64 t, .bool true, .int .i64 2, .bool false, .int .i64 ns, .int .i64 nr, .string s] 144 (0, 0)) = wx at *
  go_still_tail 7, (by kernel_rfl)
  change wpList _ _ _ _ _ (World.drew _)
  have HW := Aside0.mk HW.out.drew
  go_wp2_with fail
  refine (HW.out.call_at 1 rfl (fun T1 h1 => entAt.flow (Went.refl h1) (fun T2 h2 => Fl.setPeerC fb _ true T2 _ h2))).mono ?_
  rintro r w1 ⟨rfl, hw⟩
  have HW : Aside0 (Went (all [blk g (.cells #[.int .i64 0, .int .i64 t, .bool true, .int .i64 2, .bool false, .int .i64 ns, .int .i64 nr, .string s] 144 (0, 0)), entAt b mb fb ({ e with fl := { (e).fl with peer := true } })]) T w0 w1) := ⟨hw⟩
  clear hw
  clear b0 b1 b2 b3 b4 b5 b6 b7
  clear c0 c1 c2 c3 c4 c5 c6 c7 c8 f0 f1 f2 f3 f4 f8
  obtain ⟨⟨b0, b1, b2, b3, b4, b5, b6, b7⟩, _⟩ := cells8 (HW.out.heap 0 rfl)
  obtain ⟨Tz, hz⟩ := HW.out.get 1 rfl
  obtain ⟨A, ca, ⟨c0, c1, c2, c3, c4, c5, c6, c7, c8⟩, f0, f1, f2, f3, f4, f8⟩ := entAt.cells (Went.refl hz)
  clear hz
  go_wp2_with fail
  have HW := Aside0.mk HW.out.drew
  go_region_law (go_simp; go_at_call 157; refine (HW.out.call_at 1 rfl (fun T1 h1 => entAt.flow (Went.refl h1) (fun T2 h2 => HK.out T2 _ h2))).mono ?_; rintro r w2 ⟨rfl, hw⟩)
  all_goals
    have HW : Aside0 (Went (all [blk g (.cells #[.int .i64 0, .int .i64 t, .bool true, .int .i64 2, .bool false, .int .i64 ns, .int .i64 nr, .string s] 144 (0, 0)), entAt b mb fb ({ { e with fl := { (e).fl with peer := true } } with fl := ackF ({ (e).fl with peer := true } : F) nr })]) T w0 w2) := ⟨hw⟩
    clear hw
    clear b0 b1 b2 b3 b4 b5 b6 b7
    clear c0 c1 c2 c3 c4 c5 c6 c7 c8 f0 f1 f2 f3 f4 f8
    obtain ⟨⟨b0, b1, b2, b3, b4, b5, b6, b7⟩, _⟩ := cells8 (HW.out.heap 0 rfl)
    obtain ⟨Tz, hz⟩ := HW.out.get 1 rfl
    obtain ⟨A, ca, ⟨c0, c1, c2, c3, c4, c5, c6, c7, c8⟩, f0, f1, f2, f3, f4, f8⟩ := entAt.cells (Went.refl hz)
    clear hz
    have hst : ({ { e with fl := { (e).fl with peer := true } } with fl := ackF ({ (e).fl with peer := true } : F) nr }).state = 7 := HS.out
    rw [hst] at c1
    clear hst
    go_wp2_with fail
    refine (HW.out.call_at 1 rfl (fun T1 h1 => stop203C b mb fb ({ { e with fl := { (e).fl with peer := true } } with fl := ackF ({ (e).fl with peer := true } : F) nr })  (Nat.le_trans hl (by omega)) T1 _ _ (Went.refl h1))).mono ?_
    rintro r w3 ⟨rfl, hw⟩
    have HW : Aside0 (Went (all [blk g (.cells #[.int .i64 0, .int .i64 t, .bool true, .int .i64 2, .bool false, .int .i64 ns, .int .i64 nr, .string s] 144 (0, 0)), entAt b mb fb (stop203 ({ { e with fl := { (e).fl with peer := true } } with fl := ackF ({ (e).fl with peer := true } : F) nr }))]) T w0 w3) := ⟨hw⟩
    clear hw
    clear b0 b1 b2 b3 b4 b5 b6 b7
    clear c0 c1 c2 c3 c4 c5 c6 c7 c8 f0 f1 f2 f3 f4 f8
    obtain ⟨⟨b0, b1, b2, b3, b4, b5, b6, b7⟩, _⟩ := cells8 (HW.out.heap 0 rfl)
    obtain ⟨Tz, hz⟩ := HW.out.get 1 rfl
    obtain ⟨A, ca, ⟨c0, c1, c2, c3, c4, c5, c6, c7, c8⟩, f0, f1, f2, f3, f4, f8⟩ := entAt.cells (Went.refl hz)
    clear hz
    go_wp2_with fail
    refine (HW.out.call_at 1 rfl (fun T1 h1 => start200C b mb fb (stop203 ({ { e with fl := { (e).fl with peer := true } } with fl := ackF ({ (e).fl with peer := true } : F) nr }))  (Nat.le_trans (len_stop203 (hl)) (by omega)) T1 _ _ (Went.refl h1))).mono ?_
    rintro r w4 ⟨rfl, hw⟩
    have HW : Aside0 (Went (all [blk g (.cells #[.int .i64 0, .int .i64 t, .bool true, .int .i64 2, .bool false, .int .i64 ns, .int .i64 nr, .string s] 144 (0, 0)), entAt b mb fb (start200 (stop203 ({ { e with fl := { (e).fl with peer := true } } with fl := ackF ({ (e).fl with peer := true } : F) nr })))]) T w0 w4) := ⟨hw⟩
    clear hw
    clear b0 b1 b2 b3 b4 b5 b6 b7
    clear c0 c1 c2 c3 c4 c5 c6 c7 c8 f0 f1 f2 f3 f4 f8
    obtain ⟨⟨b0, b1, b2, b3, b4, b5, b6, b7⟩, _⟩ := cells8 (HW.out.heap 0 rfl)
    obtain ⟨Tz, hz⟩ := HW.out.get 1 rfl
    obtain ⟨A, ca, ⟨c0, c1, c2, c3, c4, c5, c6, c7, c8⟩, f0, f1, f2, f3, f4, f8⟩ := entAt.cells (Went.refl hz)
    clear hz
    have hst : (start200 (stop203 ({ { e with fl := { (e).fl with peer := true } } with fl := ackF ({ (e).fl with peer := true } : F) nr }))).state = 7 := ((same_stop203 _).trans (same_start200 _)).state.trans HS.out
    rw [hst] at c1
    clear hst
    go_wp2_with fail
    refine ((HW.out.at_ 1 rfl (fun T1 h1 => (entAt.setState (Went.refl h1) 7 (by decide)))).call_at 1 rfl (fun T1 h1 => goOnC b mb fb ({ start200 (stop203 ({ { e with fl := { (e).fl with peer := true } } with fl := ackF ({ (e).fl with peer := true } : F) nr })) with state := 7 }) (by have h9 : ({ start200 (stop203 ({ { e with fl := { (e).fl with peer := true } } with fl := ackF ({ (e).fl with peer := true } : F) nr })) with state := 7 }).out.length ≤ 7000 + 2 := len_start200 (len_stop203 (hl)); exact Nat.le_trans h9 (by omega)) T1 _ _ (Went.refl h1))).mono ?_
    rintro r w5 ⟨rfl, hw⟩
    have HW : Aside0 (Went (all [blk g (.cells #[.int .i64 0, .int .i64 t, .bool true, .int .i64 2, .bool false, .int .i64 ns, .int .i64 nr, .string s] 144 (0, 0)), entAt b mb fb (goOn ({ start200 (stop203 ({ { e with fl := { (e).fl with peer := true } } with fl := ackF ({ (e).fl with peer := true } : F) nr })) with state := 7 }))]) T w0 w5) := ⟨hw⟩
    clear hw
    clear b0 b1 b2 b3 b4 b5 b6 b7
    clear c0 c1 c2 c3 c4 c5 c6 c7 c8 f0 f1 f2 f3 f4 f8
    obtain ⟨⟨b0, b1, b2, b3, b4, b5, b6, b7⟩, _⟩ := cells8 (HW.out.heap 0 rfl)
    obtain ⟨Tz, hz⟩ := HW.out.get 1 rfl
    obtain ⟨A, ca, ⟨c0, c1, c2, c3, c4, c5, c6, c7, c8⟩, f0, f1, f2, f3, f4, f8⟩ := entAt.cells (Went.refl hz)
    clear hz
    go_wp2
    go_end0
    exact ⟨rfl, Went.only (HW.out).drop⟩
theorem sup42 (b mb fb : Nat) (e : E) (t ns nr : Int) (s : ByteArray) (hl : e.out.length ≤ 7000) (hs : e.state = 7) (ha : ackOk e.fl nr) (T : Nat → Prop) (w0 w : World) (h : Went (entAt b mb fb e) T w0 w) :
    Calls Tryz.prog 131 #[.pointer (some ⟨b, 0, none⟩), .agg (frCells (⟨t, false, 2, false, ns, nr, s⟩ : Fr))] w fun r w' => r = .returned (.tuple #[]) ∧ Went (entAt b mb fb (supervised e (⟨t, false, 2, false, ns, nr, s⟩ : Fr))) T w0 w' := by
  have HOK := Aside0.mk (entAt.ok h)
  obtain ⟨A, ca, ⟨c0, c1, c2, c3, c4, c5, c6, c7, c8⟩, f0, f1, f2, f3, f4, f8⟩ := entAt.cells h
  have HW := Aside0.mk h
  clear h
  have hE1 : supervised1 e (⟨t, false, 2, false, ns, nr, s⟩ : Fr) = e := by simp [supervised1, final, hs]
  have hE2 : supervised e (⟨t, false, 2, false, ns, nr, s⟩ : Fr) = supervised3 { e with fl := ({ (e).fl with peer := true } : F) } (⟨t, false, 2, false, ns, nr, s⟩ : Fr) := by unfold supervised; rw [hE1]; rfl
  have hS2 : supervised2 ({ { e with fl := ({ (e).fl with peer := true } : F) } with fl := ackF ({ (e).fl with peer := true } : F) nr }) (⟨t, false, 2, false, ns, nr, s⟩ : Fr) = start200 (stop203 ({ { e with fl := ({ (e).fl with peer := true } : F) } with fl := ackF ({ (e).fl with peer := true } : F) nr })) := (if_neg (show ¬ (2 : Int) ≠ 2 by decide)).trans (congrArg start200 (if_pos hs))
  have hE3 : supervised3 { e with fl := ({ (e).fl with peer := true } : F) } (⟨t, false, 2, false, ns, nr, s⟩ : Fr) = goOn { start200 (stop203 ({ { e with fl := ({ (e).fl with peer := true } : F) } with fl := ackF ({ (e).fl with peer := true } : F) nr })) with state := 7 } := (if_pos ha).trans ((if_neg (fun h => by have h1 : (7 : Int) = 8 := hs.symm.trans h.1; omega)).trans ((if_neg (fun h => by have h1 : (2 : Int) = 1 := h.2; omega)).trans ((if_neg (fun h => by rcases h with h | h; have h1 : (7 : Int) = 8 := hs.symm.trans h; omega; have h1 : (2 : Int) = 3 := h; omega)).trans (by rw [hS2]))))
  rw [hE2, hE3]
  clear hE1 hE2 hE3 hS2
  have HK : Aside0 (∀ T1 wz, (flAt fb ({ (e).fl with peer := true } : F)).h T1 wz → Calls Tryz.prog 157 #[.pointer (some ⟨fb, 0, none⟩), .int .i64 nr] wz fun r w2 => r = .returned (.tuple #[.int .i64 (ackN ({ (e).fl with peer := true } : F) nr : Int), .int .i64 0]) ∧ Went (flAt fb (ackF ({ (e).fl with peer := true } : F) nr)) T1 wz w2) := ⟨fun T1 wz hz => by
    have h0 := Fl.ackC fb ({ (e).fl with peer := true } : F) nr T1 wz hz
    rw [if_pos (show ackOk ({ (e).fl with peer := true } : F) nr from ha), if_pos (show ackOk ({ (e).fl with peer := true } : F) nr from ha)] at h0
    exact h0⟩
  have HS := Aside0.mk hs
  rw [hs] at c1
  clear ha hs
  have hbx := heap_alloc_new w (.cells #[.int .i64 0, .int .i64 t, .bool false, .int .i64 2, .bool false, .int .i64 ns, .int .i64 nr, .string s] 144 (0, 0))
  have hw := (Went.single HW.out).new (.cells #[.int .i64 0, .int .i64 t, .bool false, .int .i64 2, .bool false, .int .i64 ns, .int .i64 nr, .string s] 144 (0, 0))
  obtain ⟨g, HG⟩ : ∃ g, Aside0 (w.heap.size = g) := ⟨_, ⟨rfl⟩⟩
  rw [HG.out] at hw hbx
  clear HW
  have HW : Aside0 (Went (all [blk g (.cells #[.int .i64 0, .int .i64 t, .bool false, .int .i64 2, .bool false, .int .i64 ns, .int .i64 nr, .string s] 144 (0, 0)), entAt b mb fb (e)]) T w0 (w.alloc (.cells #[.int .i64 0, .int .i64 t, .bool false, .int .i64 2, .bool false, .int .i64 ns, .int .i64 nr, .string s] 144 (0, 0)))) := ⟨hw⟩
  clear hw
  obtain ⟨⟨b0, b1, b2, b3, b4, b5, b6, b7⟩, _⟩ := cells8 hbx
  clear hbx
  clear b0 b1 b2 b3 b4 b5 b6 b7
  clear c0 c1 c2 c3 c4 c5 c6 c7 c8 f0 f1 f2 f3 f4 f8
  obtain ⟨⟨b0, b1, b2, b3, b4, b5, b6, b7⟩, _⟩ := cells8 (HW.out.heap 0 rfl)
  obtain ⟨Tz, hz⟩ := HW.out.get 1 rfl
  obtain ⟨A, ca, ⟨c0, c1, c2, c3, c4, c5, c6, c7, c8⟩, f0, f1, f2, f3, f4, f8⟩ := entAt.cells (Went.refl hz)
  clear hz
  rw [HS.out] at c1
  have hg := HG.out
  unfold frCells
  go_enter Tryz.func131, Tryz.ntmps131
  go_wp2_with fail
  generalize w.alloc (.cells #[.int .i64 0, .int .i64 t, .bool false, .int .i64 2, .bool false, .int .i64 ns, .int .i64 nr, .string s] 144 (0, 0)) = wx at *
  go_still_tail 7, (by kernel_rfl)
  change wpList _ _ _ _ _ (World.drew _)
  have HW := Aside0.mk HW.out.drew
  go_wp2_with fail
  refine (HW.out.call_at 1 rfl (fun T1 h1 => entAt.flow (Went.refl h1) (fun T2 h2 => Fl.setPeerC fb _ true T2 _ h2))).mono ?_
  rintro r w1 ⟨rfl, hw⟩
  have HW : Aside0 (Went (all [blk g (.cells #[.int .i64 0, .int .i64 t, .bool false, .int .i64 2, .bool false, .int .i64 ns, .int .i64 nr, .string s] 144 (0, 0)), entAt b mb fb ({ e with fl := { (e).fl with peer := true } })]) T w0 w1) := ⟨hw⟩
  clear hw
  clear b0 b1 b2 b3 b4 b5 b6 b7
  clear c0 c1 c2 c3 c4 c5 c6 c7 c8 f0 f1 f2 f3 f4 f8
  obtain ⟨⟨b0, b1, b2, b3, b4, b5, b6, b7⟩, _⟩ := cells8 (HW.out.heap 0 rfl)
  obtain ⟨Tz, hz⟩ := HW.out.get 1 rfl
  obtain ⟨A, ca, ⟨c0, c1, c2, c3, c4, c5, c6, c7, c8⟩, f0, f1, f2, f3, f4, f8⟩ := entAt.cells (Went.refl hz)
  clear hz
  go_wp2_with fail
  have HW := Aside0.mk HW.out.drew
  go_region_law (go_simp; go_at_call 157; refine (HW.out.call_at 1 rfl (fun T1 h1 => entAt.flow (Went.refl h1) (fun T2 h2 => HK.out T2 _ h2))).mono ?_; rintro r w2 ⟨rfl, hw⟩)
  all_goals
    have HW : Aside0 (Went (all [blk g (.cells #[.int .i64 0, .int .i64 t, .bool false, .int .i64 2, .bool false, .int .i64 ns, .int .i64 nr, .string s] 144 (0, 0)), entAt b mb fb ({ { e with fl := { (e).fl with peer := true } } with fl := ackF ({ (e).fl with peer := true } : F) nr })]) T w0 w2) := ⟨hw⟩
    clear hw
    clear b0 b1 b2 b3 b4 b5 b6 b7
    clear c0 c1 c2 c3 c4 c5 c6 c7 c8 f0 f1 f2 f3 f4 f8
    obtain ⟨⟨b0, b1, b2, b3, b4, b5, b6, b7⟩, _⟩ := cells8 (HW.out.heap 0 rfl)
    obtain ⟨Tz, hz⟩ := HW.out.get 1 rfl
    obtain ⟨A, ca, ⟨c0, c1, c2, c3, c4, c5, c6, c7, c8⟩, f0, f1, f2, f3, f4, f8⟩ := entAt.cells (Went.refl hz)
    clear hz
    have hst : ({ { e with fl := { (e).fl with peer := true } } with fl := ackF ({ (e).fl with peer := true } : F) nr }).state = 7 := HS.out
    rw [hst] at c1
    clear hst
    go_wp2_with fail
    refine (HW.out.call_at 1 rfl (fun T1 h1 => stop203C b mb fb ({ { e with fl := { (e).fl with peer := true } } with fl := ackF ({ (e).fl with peer := true } : F) nr })  (Nat.le_trans hl (by omega)) T1 _ _ (Went.refl h1))).mono ?_
    rintro r w3 ⟨rfl, hw⟩
    have HW : Aside0 (Went (all [blk g (.cells #[.int .i64 0, .int .i64 t, .bool false, .int .i64 2, .bool false, .int .i64 ns, .int .i64 nr, .string s] 144 (0, 0)), entAt b mb fb (stop203 ({ { e with fl := { (e).fl with peer := true } } with fl := ackF ({ (e).fl with peer := true } : F) nr }))]) T w0 w3) := ⟨hw⟩
    clear hw
    clear b0 b1 b2 b3 b4 b5 b6 b7
    clear c0 c1 c2 c3 c4 c5 c6 c7 c8 f0 f1 f2 f3 f4 f8
    obtain ⟨⟨b0, b1, b2, b3, b4, b5, b6, b7⟩, _⟩ := cells8 (HW.out.heap 0 rfl)
    obtain ⟨Tz, hz⟩ := HW.out.get 1 rfl
    obtain ⟨A, ca, ⟨c0, c1, c2, c3, c4, c5, c6, c7, c8⟩, f0, f1, f2, f3, f4, f8⟩ := entAt.cells (Went.refl hz)
    clear hz
    go_wp2_with fail
    refine (HW.out.call_at 1 rfl (fun T1 h1 => start200C b mb fb (stop203 ({ { e with fl := { (e).fl with peer := true } } with fl := ackF ({ (e).fl with peer := true } : F) nr }))  (Nat.le_trans (len_stop203 (hl)) (by omega)) T1 _ _ (Went.refl h1))).mono ?_
    rintro r w4 ⟨rfl, hw⟩
    have HW : Aside0 (Went (all [blk g (.cells #[.int .i64 0, .int .i64 t, .bool false, .int .i64 2, .bool false, .int .i64 ns, .int .i64 nr, .string s] 144 (0, 0)), entAt b mb fb (start200 (stop203 ({ { e with fl := { (e).fl with peer := true } } with fl := ackF ({ (e).fl with peer := true } : F) nr })))]) T w0 w4) := ⟨hw⟩
    clear hw
    clear b0 b1 b2 b3 b4 b5 b6 b7
    clear c0 c1 c2 c3 c4 c5 c6 c7 c8 f0 f1 f2 f3 f4 f8
    obtain ⟨⟨b0, b1, b2, b3, b4, b5, b6, b7⟩, _⟩ := cells8 (HW.out.heap 0 rfl)
    obtain ⟨Tz, hz⟩ := HW.out.get 1 rfl
    obtain ⟨A, ca, ⟨c0, c1, c2, c3, c4, c5, c6, c7, c8⟩, f0, f1, f2, f3, f4, f8⟩ := entAt.cells (Went.refl hz)
    clear hz
    have hst : (start200 (stop203 ({ { e with fl := { (e).fl with peer := true } } with fl := ackF ({ (e).fl with peer := true } : F) nr }))).state = 7 := ((same_stop203 _).trans (same_start200 _)).state.trans HS.out
    rw [hst] at c1
    clear hst
    go_wp2_with fail
    refine ((HW.out.at_ 1 rfl (fun T1 h1 => (entAt.setState (Went.refl h1) 7 (by decide)))).call_at 1 rfl (fun T1 h1 => goOnC b mb fb ({ start200 (stop203 ({ { e with fl := { (e).fl with peer := true } } with fl := ackF ({ (e).fl with peer := true } : F) nr })) with state := 7 }) (by have h9 : ({ start200 (stop203 ({ { e with fl := { (e).fl with peer := true } } with fl := ackF ({ (e).fl with peer := true } : F) nr })) with state := 7 }).out.length ≤ 7000 + 2 := len_start200 (len_stop203 (hl)); exact Nat.le_trans h9 (by omega)) T1 _ _ (Went.refl h1))).mono ?_
    rintro r w5 ⟨rfl, hw⟩
    have HW : Aside0 (Went (all [blk g (.cells #[.int .i64 0, .int .i64 t, .bool false, .int .i64 2, .bool false, .int .i64 ns, .int .i64 nr, .string s] 144 (0, 0)), entAt b mb fb (goOn ({ start200 (stop203 ({ { e with fl := { (e).fl with peer := true } } with fl := ackF ({ (e).fl with peer := true } : F) nr })) with state := 7 }))]) T w0 w5) := ⟨hw⟩
    clear hw
    clear b0 b1 b2 b3 b4 b5 b6 b7
    clear c0 c1 c2 c3 c4 c5 c6 c7 c8 f0 f1 f2 f3 f4 f8
    obtain ⟨⟨b0, b1, b2, b3, b4, b5, b6, b7⟩, _⟩ := cells8 (HW.out.heap 0 rfl)
    obtain ⟨Tz, hz⟩ := HW.out.get 1 rfl
    obtain ⟨A, ca, ⟨c0, c1, c2, c3, c4, c5, c6, c7, c8⟩, f0, f1, f2, f3, f4, f8⟩ := entAt.cells (Went.refl hz)
    clear hz
    go_wp2
    go_end0
    exact ⟨rfl, Went.only (HW.out).drop⟩
theorem sup13 (b mb fb : Nat) (e : E) (t ns nr : Int) (s : ByteArray) (hl : e.out.length ≤ 7000) (hs : e.state = 7) (ha : ackOk e.fl nr) (T : Nat → Prop) (w0 w : World) (h : Went (entAt b mb fb e) T w0 w) :
    Calls Tryz.prog 131 #[.pointer (some ⟨b, 0, none⟩), .agg (frCells (⟨t, true, 3, true, ns, nr, s⟩ : Fr))] w fun r w' => r = .returned (.tuple #[]) ∧ Went (entAt b mb fb (supervised e (⟨t, true, 3, true, ns, nr, s⟩ : Fr))) T w0 w' := by
  have HOK := Aside0.mk (entAt.ok h)
  obtain ⟨A, ca, ⟨c0, c1, c2, c3, c4, c5, c6, c7, c8⟩, f0, f1, f2, f3, f4, f8⟩ := entAt.cells h
  have HW := Aside0.mk h
  clear h
  have hE1 : supervised1 e (⟨t, true, 3, true, ns, nr, s⟩ : Fr) = supervise (e) false true := by simp [supervised1, final, hs]
  have hE2 : supervised e (⟨t, true, 3, true, ns, nr, s⟩ : Fr) = supervised3 { supervise (e) false true with fl := ({ (supervise (e) false true).fl with peer := false } : F) } (⟨t, true, 3, true, ns, nr, s⟩ : Fr) := by unfold supervised; rw [hE1]; rfl
  have hS2 : supervised2 ({ { supervise (e) false true with fl := ({ (supervise (e) false true).fl with peer := false } : F) } with fl := ackF ({ (supervise (e) false true).fl with peer := false } : F) nr }) (⟨t, true, 3, true, ns, nr, s⟩ : Fr) = start203 (stop200 ({ { supervise (e) false true with fl := ({ (supervise (e) false true).fl with peer := false } : F) } with fl := ackF ({ (supervise (e) false true).fl with peer := false } : F) nr })) := if_pos (show (3 : Int) ≠ 2 by decide)
  have hE3 : supervised3 { supervise (e) false true with fl := ({ (supervise (e) false true).fl with peer := false } : F) } (⟨t, true, 3, true, ns, nr, s⟩ : Fr) = goOn { { start203 (stop200 ({ { supervise (e) false true with fl := ({ (supervise (e) false true).fl with peer := false } : F) } with fl := ackF ({ (supervise (e) false true).fl with peer := false } : F) nr })) with fl := backF (ackF ({ (supervise (e) false true).fl with peer := false } : F) nr) } with state := 7 } := (if_pos ha).trans ((if_neg (fun h => by have h1 : (7 : Int) = 8 := hs.symm.trans h.1; omega)).trans ((if_neg (fun h => by have h1 : (3 : Int) = 1 := h.2; omega)).trans ((if_pos (Or.inr rfl)).trans (by rw [hS2]))))
  rw [hE2, hE3]
  clear hE1 hE2 hE3 hS2
  have HK : Aside0 (∀ T1 wz, (flAt fb ({ (supervise (e) false true).fl with peer := false } : F)).h T1 wz → Calls Tryz.prog 157 #[.pointer (some ⟨fb, 0, none⟩), .int .i64 nr] wz fun r w2 => r = .returned (.tuple #[.int .i64 (ackN ({ (supervise (e) false true).fl with peer := false } : F) nr : Int), .int .i64 0]) ∧ Went (flAt fb (ackF ({ (supervise (e) false true).fl with peer := false } : F) nr)) T1 wz w2) := ⟨fun T1 wz hz => by
    have h0 := Fl.ackC fb ({ (supervise (e) false true).fl with peer := false } : F) nr T1 wz hz
    rw [if_pos (show ackOk ({ (supervise (e) false true).fl with peer := false } : F) nr from ha), if_pos (show ackOk ({ (supervise (e) false true).fl with peer := false } : F) nr from ha)] at h0
    exact h0⟩
  have HS := Aside0.mk hs
  rw [hs] at c1
  clear ha hs
  have hbx := heap_alloc_new w (.cells #[.int .i64 0, .int .i64 t, .bool true, .int .i64 3, .bool true, .int .i64 ns, .int .i64 nr, .string s] 144 (0, 0))
  have hw := (Went.single HW.out).new (.cells #[.int .i64 0, .int .i64 t, .bool true, .int .i64 3, .bool true, .int .i64 ns, .int .i64 nr, .string s] 144 (0, 0))
  obtain ⟨g, HG⟩ : ∃ g, Aside0 (w.heap.size = g) := ⟨_, ⟨rfl⟩⟩
  rw [HG.out] at hw hbx
  clear HW
  have HW : Aside0 (Went (all [blk g (.cells #[.int .i64 0, .int .i64 t, .bool true, .int .i64 3, .bool true, .int .i64 ns, .int .i64 nr, .string s] 144 (0, 0)), entAt b mb fb (e)]) T w0 (w.alloc (.cells #[.int .i64 0, .int .i64 t, .bool true, .int .i64 3, .bool true, .int .i64 ns, .int .i64 nr, .string s] 144 (0, 0)))) := ⟨hw⟩
  clear hw
  obtain ⟨⟨b0, b1, b2, b3, b4, b5, b6, b7⟩, _⟩ := cells8 hbx
  clear hbx
  clear b0 b1 b2 b3 b4 b5 b6 b7
  clear c0 c1 c2 c3 c4 c5 c6 c7 c8 f0 f1 f2 f3 f4 f8
  obtain ⟨⟨b0, b1, b2, b3, b4, b5, b6, b7⟩, _⟩ := cells8 (HW.out.heap 0 rfl)
  obtain ⟨Tz, hz⟩ := HW.out.get 1 rfl
  obtain ⟨A, ca, ⟨c0, c1, c2, c3, c4, c5, c6, c7, c8⟩, f0, f1, f2, f3, f4, f8⟩ := entAt.cells (Went.refl hz)
  clear hz
  rw [HS.out] at c1
  have hg := HG.out
  unfold frCells
  go_enter Tryz.func131, Tryz.ntmps131
  go_wp2_with fail
  refine (HW.out.call_at 1 rfl (fun T1 h1 => superviseC b mb fb (e) false true (Nat.le_trans hl (by omega)) T1 _ _ (Went.refl h1))).mono ?_
  rintro r w1 ⟨rfl, hw⟩
  have HW : Aside0 (Went (all [blk g (.cells #[.int .i64 0, .int .i64 t, .bool true, .int .i64 3, .bool true, .int .i64 ns, .int .i64 nr, .string s] 144 (0, 0)), entAt b mb fb (supervise (e) false true)]) T w0 w1) := ⟨hw⟩
  clear hw
  clear b0 b1 b2 b3 b4 b5 b6 b7
  clear c0 c1 c2 c3 c4 c5 c6 c7 c8 f0 f1 f2 f3 f4 f8
  obtain ⟨⟨b0, b1, b2, b3, b4, b5, b6, b7⟩, _⟩ := cells8 (HW.out.heap 0 rfl)
  obtain ⟨Tz, hz⟩ := HW.out.get 1 rfl
  obtain ⟨A, ca, ⟨c0, c1, c2, c3, c4, c5, c6, c7, c8⟩, f0, f1, f2, f3, f4, f8⟩ := entAt.cells (Went.refl hz)
  clear hz
  go_wp2_with fail
  go_still_tail 7, (by kernel_rfl)
  change wpList _ _ _ _ _ (World.drew _)
  have HW := Aside0.mk HW.out.drew
  go_wp2_with fail
  refine (HW.out.call_at 1 rfl (fun T1 h1 => entAt.flow (Went.refl h1) (fun T2 h2 => Fl.setPeerC fb _ false T2 _ h2))).mono ?_
  rintro r w2 ⟨rfl, hw⟩
  have HW : Aside0 (Went (all [blk g (.cells #[.int .i64 0, .int .i64 t, .bool true, .int .i64 3, .bool true, .int .i64 ns, .int .i64 nr, .string s] 144 (0, 0)), entAt b mb fb ({ supervise (e) false true with fl := { (supervise (e) false true).fl with peer := false } })]) T w0 w2) := ⟨hw⟩
  clear hw
  clear b0 b1 b2 b3 b4 b5 b6 b7
  clear c0 c1 c2 c3 c4 c5 c6 c7 c8 f0 f1 f2 f3 f4 f8
  obtain ⟨⟨b0, b1, b2, b3, b4, b5, b6, b7⟩, _⟩ := cells8 (HW.out.heap 0 rfl)
  obtain ⟨Tz, hz⟩ := HW.out.get 1 rfl
  obtain ⟨A, ca, ⟨c0, c1, c2, c3, c4, c5, c6, c7, c8⟩, f0, f1, f2, f3, f4, f8⟩ := entAt.cells (Went.refl hz)
  clear hz
  go_wp2_with fail
  have HW := Aside0.mk HW.out.drew
  go_region_law (go_simp; go_at_call 157; refine (HW.out.call_at 1 rfl (fun T1 h1 => entAt.flow (Went.refl h1) (fun T2 h2 => HK.out T2 _ h2))).mono ?_; rintro r w3 ⟨rfl, hw⟩)
  all_goals
    have HW : Aside0 (Went (all [blk g (.cells #[.int .i64 0, .int .i64 t, .bool true, .int .i64 3, .bool true, .int .i64 ns, .int .i64 nr, .string s] 144 (0, 0)), entAt b mb fb ({ { supervise (e) false true with fl := { (supervise (e) false true).fl with peer := false } } with fl := ackF ({ (supervise (e) false true).fl with peer := false } : F) nr })]) T w0 w3) := ⟨hw⟩
    clear hw
    clear b0 b1 b2 b3 b4 b5 b6 b7
    clear c0 c1 c2 c3 c4 c5 c6 c7 c8 f0 f1 f2 f3 f4 f8
    obtain ⟨⟨b0, b1, b2, b3, b4, b5, b6, b7⟩, _⟩ := cells8 (HW.out.heap 0 rfl)
    obtain ⟨Tz, hz⟩ := HW.out.get 1 rfl
    obtain ⟨A, ca, ⟨c0, c1, c2, c3, c4, c5, c6, c7, c8⟩, f0, f1, f2, f3, f4, f8⟩ := entAt.cells (Went.refl hz)
    clear hz
    have hst : ({ { supervise (e) false true with fl := { (supervise (e) false true).fl with peer := false } } with fl := ackF ({ (supervise (e) false true).fl with peer := false } : F) nr }).state = 7 := HS.out
    rw [hst] at c1
    clear hst
    go_wp2_with fail
    refine (HW.out.call_at 1 rfl (fun T1 h1 => stop200C b mb fb ({ { supervise (e) false true with fl := { (supervise (e) false true).fl with peer := false } } with fl := ackF ({ (supervise (e) false true).fl with peer := false } : F) nr })  (Nat.le_trans (len_supervise (hl)) (by omega)) T1 _ _ (Went.refl h1))).mono ?_
    rintro r w4 ⟨rfl, hw⟩
    have HW : Aside0 (Went (all [blk g (.cells #[.int .i64 0, .int .i64 t, .bool true, .int .i64 3, .bool true, .int .i64 ns, .int .i64 nr, .string s] 144 (0, 0)), entAt b mb fb (stop200 ({ { supervise (e) false true with fl := { (supervise (e) false true).fl with peer := false } } with fl := ackF ({ (supervise (e) false true).fl with peer := false } : F) nr }))]) T w0 w4) := ⟨hw⟩
    clear hw
    clear b0 b1 b2 b3 b4 b5 b6 b7
    clear c0 c1 c2 c3 c4 c5 c6 c7 c8 f0 f1 f2 f3 f4 f8
    obtain ⟨⟨b0, b1, b2, b3, b4, b5, b6, b7⟩, _⟩ := cells8 (HW.out.heap 0 rfl)
    obtain ⟨Tz, hz⟩ := HW.out.get 1 rfl
    obtain ⟨A, ca, ⟨c0, c1, c2, c3, c4, c5, c6, c7, c8⟩, f0, f1, f2, f3, f4, f8⟩ := entAt.cells (Went.refl hz)
    clear hz
    go_wp2_with fail
    refine (HW.out.call_at 1 rfl (fun T1 h1 => start203C b mb fb (stop200 ({ { supervise (e) false true with fl := { (supervise (e) false true).fl with peer := false } } with fl := ackF ({ (supervise (e) false true).fl with peer := false } : F) nr }))  (Nat.le_trans (len_stop200 (len_supervise (hl))) (by omega)) T1 _ _ (Went.refl h1))).mono ?_
    rintro r w5 ⟨rfl, hw⟩
    have HW : Aside0 (Went (all [blk g (.cells #[.int .i64 0, .int .i64 t, .bool true, .int .i64 3, .bool true, .int .i64 ns, .int .i64 nr, .string s] 144 (0, 0)), entAt b mb fb (start203 (stop200 ({ { supervise (e) false true with fl := { (supervise (e) false true).fl with peer := false } } with fl := ackF ({ (supervise (e) false true).fl with peer := false } : F) nr })))]) T w0 w5) := ⟨hw⟩
    clear hw
    clear b0 b1 b2 b3 b4 b5 b6 b7
    clear c0 c1 c2 c3 c4 c5 c6 c7 c8 f0 f1 f2 f3 f4 f8
    obtain ⟨⟨b0, b1, b2, b3, b4, b5, b6, b7⟩, _⟩ := cells8 (HW.out.heap 0 rfl)
    obtain ⟨Tz, hz⟩ := HW.out.get 1 rfl
    obtain ⟨A, ca, ⟨c0, c1, c2, c3, c4, c5, c6, c7, c8⟩, f0, f1, f2, f3, f4, f8⟩ := entAt.cells (Went.refl hz)
    clear hz
    have hst : (start203 (stop200 ({ { supervise (e) false true with fl := { (supervise (e) false true).fl with peer := false } } with fl := ackF ({ (supervise (e) false true).fl with peer := false } : F) nr }))).state = 7 := ((same_stop200 _).trans (same_start203 _)).state.trans HS.out
    rw [hst] at c1
    clear hst
    have hfl : (start203 (stop200 ({ { supervise (e) false true with fl := { (supervise (e) false true).fl with peer := false } } with fl := ackF ({ (supervise (e) false true).fl with peer := false } : F) nr }))).fl = ackF ({ (supervise (e) false true).fl with peer := false } : F) nr := ((same_stop200 _).trans (same_start203 _)).fl
    have HFL := Aside0.mk hfl
    clear hfl
    go_wp2_with fail
    refine (HW.out.call_at 1 rfl (fun T1 h1 => entAt.flow (Went.refl h1) (fun T2 h2 => Fl.backC fb _ T2 _ h2))).mono ?_
    rintro r w6 ⟨rfl, hy⟩
    have hy2 : Went (all [blk g (.cells #[.int .i64 0, .int .i64 t, .bool true, .int .i64 3, .bool true, .int .i64 ns, .int .i64 nr, .string s] 144 (0, 0)), entAt b mb fb ({ start203 (stop200 ({ { supervise (e) false true with fl := { (supervise (e) false true).fl with peer := false } } with fl := ackF ({ (supervise (e) false true).fl with peer := false } : F) nr })) with fl := backF (start203 (stop200 ({ { supervise (e) false true with fl := { (supervise (e) false true).fl with peer := false } } with fl := ackF ({ (supervise (e) false true).fl with peer := false } : F) nr }))).fl })]) T w0 w6 := hy
    rw [HFL.out] at hy2
    have HW : Aside0 (Went (all [blk g (.cells #[.int .i64 0, .int .i64 t, .bool true, .int .i64 3, .bool true, .int .i64 ns, .int .i64 nr, .string s] 144 (0, 0)), entAt b mb fb ({ start203 (stop200 ({ { supervise (e) false true with fl := { (supervise (e) false true).fl with peer := false } } with fl := ackF ({ (supervise (e) false true).fl with peer := false } : F) nr })) with fl := backF (ackF ({ (supervise (e) false true).fl with peer := false } : F) nr) })]) T w0 w6) := ⟨hy2⟩
    clear hy hy2 HFL
    clear b0 b1 b2 b3 b4 b5 b6 b7
    clear c0 c1 c2 c3 c4 c5 c6 c7 c8 f0 f1 f2 f3 f4 f8
    obtain ⟨⟨b0, b1, b2, b3, b4, b5, b6, b7⟩, _⟩ := cells8 (HW.out.heap 0 rfl)
    obtain ⟨Tz, hz⟩ := HW.out.get 1 rfl
    obtain ⟨A, ca, ⟨c0, c1, c2, c3, c4, c5, c6, c7, c8⟩, f0, f1, f2, f3, f4, f8⟩ := entAt.cells (Went.refl hz)
    clear hz
    go_wp2_with fail
    refine ((HW.out.at_ 1 rfl (fun T1 h1 => (entAt.setState (Went.refl h1) 7 (by decide)))).call_at 1 rfl (fun T1 h1 => goOnC b mb fb ({ { start203 (stop200 ({ { supervise (e) false true with fl := { (supervise (e) false true).fl with peer := false } } with fl := ackF ({ (supervise (e) false true).fl with peer := false } : F) nr })) with fl := backF (ackF ({ (supervise (e) false true).fl with peer := false } : F) nr) } with state := 7 }) (by have h9 : ({ { start203 (stop200 ({ { supervise (e) false true with fl := { (supervise (e) false true).fl with peer := false } } with fl := ackF ({ (supervise (e) false true).fl with peer := false } : F) nr })) with fl := backF (ackF ({ (supervise (e) false true).fl with peer := false } : F) nr) } with state := 7 }).out.length ≤ 7000 + 3 := len_start203 (len_stop200 (len_supervise (hl))); exact Nat.le_trans h9 (by omega)) T1 _ _ (Went.refl h1))).mono ?_
    rintro r w7 ⟨rfl, hw⟩
    have HW : Aside0 (Went (all [blk g (.cells #[.int .i64 0, .int .i64 t, .bool true, .int .i64 3, .bool true, .int .i64 ns, .int .i64 nr, .string s] 144 (0, 0)), entAt b mb fb (goOn ({ { start203 (stop200 ({ { supervise (e) false true with fl := { (supervise (e) false true).fl with peer := false } } with fl := ackF ({ (supervise (e) false true).fl with peer := false } : F) nr })) with fl := backF (ackF ({ (supervise (e) false true).fl with peer := false } : F) nr) } with state := 7 }))]) T w0 w7) := ⟨hw⟩
    clear hw
    clear b0 b1 b2 b3 b4 b5 b6 b7
    clear c0 c1 c2 c3 c4 c5 c6 c7 c8 f0 f1 f2 f3 f4 f8
    obtain ⟨⟨b0, b1, b2, b3, b4, b5, b6, b7⟩, _⟩ := cells8 (HW.out.heap 0 rfl)
    obtain ⟨Tz, hz⟩ := HW.out.get 1 rfl
    obtain ⟨A, ca, ⟨c0, c1, c2, c3, c4, c5, c6, c7, c8⟩, f0, f1, f2, f3, f4, f8⟩ := entAt.cells (Went.refl hz)
    clear hz
    go_wp2
    go_end0
    exact ⟨rfl, Went.only (HW.out).drop⟩
theorem sup23 (b mb fb : Nat) (e : E) (t ns nr : Int) (s : ByteArray) (hl : e.out.length ≤ 7000) (hs : e.state = 7) (ha : ackOk e.fl nr) (T : Nat → Prop) (w0 w : World) (h : Went (entAt b mb fb e) T w0 w) :
    Calls Tryz.prog 131 #[.pointer (some ⟨b, 0, none⟩), .agg (frCells (⟨t, false, 3, true, ns, nr, s⟩ : Fr))] w fun r w' => r = .returned (.tuple #[]) ∧ Went (entAt b mb fb (supervised e (⟨t, false, 3, true, ns, nr, s⟩ : Fr))) T w0 w' := by
  have HOK := Aside0.mk (entAt.ok h)
  obtain ⟨A, ca, ⟨c0, c1, c2, c3, c4, c5, c6, c7, c8⟩, f0, f1, f2, f3, f4, f8⟩ := entAt.cells h
  have HW := Aside0.mk h
  clear h
  have hE1 : supervised1 e (⟨t, false, 3, true, ns, nr, s⟩ : Fr) = told (e) 7 ⟨#[65]⟩ := by simp [supervised1, final, hs]
  have hE2 : supervised e (⟨t, false, 3, true, ns, nr, s⟩ : Fr) = supervised3 { told (e) 7 ⟨#[65]⟩ with fl := ({ (told (e) 7 ⟨#[65]⟩).fl with peer := false } : F) } (⟨t, false, 3, true, ns, nr, s⟩ : Fr) := by unfold supervised; rw [hE1]; rfl
  have hS2 : supervised2 ({ { told (e) 7 ⟨#[65]⟩ with fl := ({ (told (e) 7 ⟨#[65]⟩).fl with peer := false } : F) } with fl := ackF ({ (told (e) 7 ⟨#[65]⟩).fl with peer := false } : F) nr }) (⟨t, false, 3, true, ns, nr, s⟩ : Fr) = start203 (stop200 ({ { told (e) 7 ⟨#[65]⟩ with fl := ({ (told (e) 7 ⟨#[65]⟩).fl with peer := false } : F) } with fl := ackF ({ (told (e) 7 ⟨#[65]⟩).fl with peer := false } : F) nr })) := if_pos (show (3 : Int) ≠ 2 by decide)
  have hE3 : supervised3 { told (e) 7 ⟨#[65]⟩ with fl := ({ (told (e) 7 ⟨#[65]⟩).fl with peer := false } : F) } (⟨t, false, 3, true, ns, nr, s⟩ : Fr) = goOn { { start203 (stop200 ({ { told (e) 7 ⟨#[65]⟩ with fl := ({ (told (e) 7 ⟨#[65]⟩).fl with peer := false } : F) } with fl := ackF ({ (told (e) 7 ⟨#[65]⟩).fl with peer := false } : F) nr })) with fl := backF (ackF ({ (told (e) 7 ⟨#[65]⟩).fl with peer := false } : F) nr) } with state := 7 } := (if_pos ha).trans ((if_neg (fun h => by have h1 : (7 : Int) = 8 := hs.symm.trans h.1; omega)).trans ((if_neg (fun h => by have h1 : (3 : Int) = 1 := h.2; omega)).trans ((if_pos (Or.inr rfl)).trans (by rw [hS2]))))
  rw [hE2, hE3]
  clear hE1 hE2 hE3 hS2
  have HK : Aside0 (∀ T1 wz, (flAt fb ({ (told (e) 7 ⟨#[65]⟩).fl with peer := false } : F)).h T1 wz → Calls Tryz.prog 157 #[.pointer (some ⟨fb, 0, none⟩), .int .i64 nr] wz fun r w2 => r = .returned (.tuple #[.int .i64 (ackN ({ (told (e) 7 ⟨#[65]⟩).fl with peer := false } : F) nr : Int), .int .i64 0]) ∧ Went (flAt fb (ackF ({ (told (e) 7 ⟨#[65]⟩).fl with peer := false } : F) nr)) T1 wz w2) := ⟨fun T1 wz hz => by
    have h0 := Fl.ackC fb ({ (told (e) 7 ⟨#[65]⟩).fl with peer := false } : F) nr T1 wz hz
    rw [if_pos (show ackOk ({ (told (e) 7 ⟨#[65]⟩).fl with peer := false } : F) nr from ha), if_pos (show ackOk ({ (told (e) 7 ⟨#[65]⟩).fl with peer := false } : F) nr from ha)] at h0
    exact h0⟩
  have HS := Aside0.mk hs
  rw [hs] at c1
  clear ha hs
  have hbx := heap_alloc_new w (.cells #[.int .i64 0, .int .i64 t, .bool false, .int .i64 3, .bool true, .int .i64 ns, .int .i64 nr, .string s] 144 (0, 0))
  have hw := (Went.single HW.out).new (.cells #[.int .i64 0, .int .i64 t, .bool false, .int .i64 3, .bool true, .int .i64 ns, .int .i64 nr, .string s] 144 (0, 0))
  obtain ⟨g, HG⟩ : ∃ g, Aside0 (w.heap.size = g) := ⟨_, ⟨rfl⟩⟩
  rw [HG.out] at hw hbx
  clear HW
  have HW : Aside0 (Went (all [blk g (.cells #[.int .i64 0, .int .i64 t, .bool false, .int .i64 3, .bool true, .int .i64 ns, .int .i64 nr, .string s] 144 (0, 0)), entAt b mb fb (e)]) T w0 (w.alloc (.cells #[.int .i64 0, .int .i64 t, .bool false, .int .i64 3, .bool true, .int .i64 ns, .int .i64 nr, .string s] 144 (0, 0)))) := ⟨hw⟩
  clear hw
  obtain ⟨⟨b0, b1, b2, b3, b4, b5, b6, b7⟩, _⟩ := cells8 hbx
  clear hbx
  clear b0 b1 b2 b3 b4 b5 b6 b7
  clear c0 c1 c2 c3 c4 c5 c6 c7 c8 f0 f1 f2 f3 f4 f8
  obtain ⟨⟨b0, b1, b2, b3, b4, b5, b6, b7⟩, _⟩ := cells8 (HW.out.heap 0 rfl)
  obtain ⟨Tz, hz⟩ := HW.out.get 1 rfl
  obtain ⟨A, ca, ⟨c0, c1, c2, c3, c4, c5, c6, c7, c8⟩, f0, f1, f2, f3, f4, f8⟩ := entAt.cells (Went.refl hz)
  clear hz
  rw [HS.out] at c1
  have hg := HG.out
  unfold frCells
  go_enter Tryz.func131, Tryz.ntmps131
  go_wp2_with fail
  refine (HW.out.call_at 1 rfl (fun T1 h1 => toldC b mb fb (e) 7 ⟨#[65]⟩ (Nat.le_trans hl (by omega)) T1 _ _ (Went.refl h1))).mono ?_
  rintro r w1 ⟨rfl, hw⟩
  have HW : Aside0 (Went (all [blk g (.cells #[.int .i64 0, .int .i64 t, .bool false, .int .i64 3, .bool true, .int .i64 ns, .int .i64 nr, .string s] 144 (0, 0)), entAt b mb fb (told (e) 7 ⟨#[65]⟩)]) T w0 w1) := ⟨hw⟩
  clear hw
  clear b0 b1 b2 b3 b4 b5 b6 b7
  clear c0 c1 c2 c3 c4 c5 c6 c7 c8 f0 f1 f2 f3 f4 f8
  obtain ⟨⟨b0, b1, b2, b3, b4, b5, b6, b7⟩, _⟩ := cells8 (HW.out.heap 0 rfl)
  obtain ⟨Tz, hz⟩ := HW.out.get 1 rfl
  obtain ⟨A, ca, ⟨c0, c1, c2, c3, c4, c5, c6, c7, c8⟩, f0, f1, f2, f3, f4, f8⟩ := entAt.cells (Went.refl hz)
  clear hz
  go_wp2_with fail
  go_still_tail 7, (by kernel_rfl)
  change wpList _ _ _ _ _ (World.drew _)
  have HW := Aside0.mk HW.out.drew
  go_wp2_with fail
  refine (HW.out.call_at 1 rfl (fun T1 h1 => entAt.flow (Went.refl h1) (fun T2 h2 => Fl.setPeerC fb _ false T2 _ h2))).mono ?_
  rintro r w2 ⟨rfl, hw⟩
  have HW : Aside0 (Went (all [blk g (.cells #[.int .i64 0, .int .i64 t, .bool false, .int .i64 3, .bool true, .int .i64 ns, .int .i64 nr, .string s] 144 (0, 0)), entAt b mb fb ({ told (e) 7 ⟨#[65]⟩ with fl := { (told (e) 7 ⟨#[65]⟩).fl with peer := false } })]) T w0 w2) := ⟨hw⟩
  clear hw
  clear b0 b1 b2 b3 b4 b5 b6 b7
  clear c0 c1 c2 c3 c4 c5 c6 c7 c8 f0 f1 f2 f3 f4 f8
  obtain ⟨⟨b0, b1, b2, b3, b4, b5, b6, b7⟩, _⟩ := cells8 (HW.out.heap 0 rfl)
  obtain ⟨Tz, hz⟩ := HW.out.get 1 rfl
  obtain ⟨A, ca, ⟨c0, c1, c2, c3, c4, c5, c6, c7, c8⟩, f0, f1, f2, f3, f4, f8⟩ := entAt.cells (Went.refl hz)
  clear hz
  go_wp2_with fail
  have HW := Aside0.mk HW.out.drew
  go_region_law (go_simp; go_at_call 157; refine (HW.out.call_at 1 rfl (fun T1 h1 => entAt.flow (Went.refl h1) (fun T2 h2 => HK.out T2 _ h2))).mono ?_; rintro r w3 ⟨rfl, hw⟩)
  all_goals
    have HW : Aside0 (Went (all [blk g (.cells #[.int .i64 0, .int .i64 t, .bool false, .int .i64 3, .bool true, .int .i64 ns, .int .i64 nr, .string s] 144 (0, 0)), entAt b mb fb ({ { told (e) 7 ⟨#[65]⟩ with fl := { (told (e) 7 ⟨#[65]⟩).fl with peer := false } } with fl := ackF ({ (told (e) 7 ⟨#[65]⟩).fl with peer := false } : F) nr })]) T w0 w3) := ⟨hw⟩
    clear hw
    clear b0 b1 b2 b3 b4 b5 b6 b7
    clear c0 c1 c2 c3 c4 c5 c6 c7 c8 f0 f1 f2 f3 f4 f8
    obtain ⟨⟨b0, b1, b2, b3, b4, b5, b6, b7⟩, _⟩ := cells8 (HW.out.heap 0 rfl)
    obtain ⟨Tz, hz⟩ := HW.out.get 1 rfl
    obtain ⟨A, ca, ⟨c0, c1, c2, c3, c4, c5, c6, c7, c8⟩, f0, f1, f2, f3, f4, f8⟩ := entAt.cells (Went.refl hz)
    clear hz
    have hst : ({ { told (e) 7 ⟨#[65]⟩ with fl := { (told (e) 7 ⟨#[65]⟩).fl with peer := false } } with fl := ackF ({ (told (e) 7 ⟨#[65]⟩).fl with peer := false } : F) nr }).state = 7 := HS.out
    rw [hst] at c1
    clear hst
    go_wp2_with fail
    refine (HW.out.call_at 1 rfl (fun T1 h1 => stop200C b mb fb ({ { told (e) 7 ⟨#[65]⟩ with fl := { (told (e) 7 ⟨#[65]⟩).fl with peer := false } } with fl := ackF ({ (told (e) 7 ⟨#[65]⟩).fl with peer := false } : F) nr })  (Nat.le_trans (len_told (hl)) (by omega)) T1 _ _ (Went.refl h1))).mono ?_
    rintro r w4 ⟨rfl, hw⟩
    have HW : Aside0 (Went (all [blk g (.cells #[.int .i64 0, .int .i64 t, .bool false, .int .i64 3, .bool true, .int .i64 ns, .int .i64 nr, .string s] 144 (0, 0)), entAt b mb fb (stop200 ({ { told (e) 7 ⟨#[65]⟩ with fl := { (told (e) 7 ⟨#[65]⟩).fl with peer := false } } with fl := ackF ({ (told (e) 7 ⟨#[65]⟩).fl with peer := false } : F) nr }))]) T w0 w4) := ⟨hw⟩
    clear hw
    clear b0 b1 b2 b3 b4 b5 b6 b7
    clear c0 c1 c2 c3 c4 c5 c6 c7 c8 f0 f1 f2 f3 f4 f8
    obtain ⟨⟨b0, b1, b2, b3, b4, b5, b6, b7⟩, _⟩ := cells8 (HW.out.heap 0 rfl)
    obtain ⟨Tz, hz⟩ := HW.out.get 1 rfl
    obtain ⟨A, ca, ⟨c0, c1, c2, c3, c4, c5, c6, c7, c8⟩, f0, f1, f2, f3, f4, f8⟩ := entAt.cells (Went.refl hz)
    clear hz
    go_wp2_with fail
    refine (HW.out.call_at 1 rfl (fun T1 h1 => start203C b mb fb (stop200 ({ { told (e) 7 ⟨#[65]⟩ with fl := { (told (e) 7 ⟨#[65]⟩).fl with peer := false } } with fl := ackF ({ (told (e) 7 ⟨#[65]⟩).fl with peer := false } : F) nr }))  (Nat.le_trans (len_stop200 (len_told (hl))) (by omega)) T1 _ _ (Went.refl h1))).mono ?_
    rintro r w5 ⟨rfl, hw⟩
    have HW : Aside0 (Went (all [blk g (.cells #[.int .i64 0, .int .i64 t, .bool false, .int .i64 3, .bool true, .int .i64 ns, .int .i64 nr, .string s] 144 (0, 0)), entAt b mb fb (start203 (stop200 ({ { told (e) 7 ⟨#[65]⟩ with fl := { (told (e) 7 ⟨#[65]⟩).fl with peer := false } } with fl := ackF ({ (told (e) 7 ⟨#[65]⟩).fl with peer := false } : F) nr })))]) T w0 w5) := ⟨hw⟩
    clear hw
    clear b0 b1 b2 b3 b4 b5 b6 b7
    clear c0 c1 c2 c3 c4 c5 c6 c7 c8 f0 f1 f2 f3 f4 f8
    obtain ⟨⟨b0, b1, b2, b3, b4, b5, b6, b7⟩, _⟩ := cells8 (HW.out.heap 0 rfl)
    obtain ⟨Tz, hz⟩ := HW.out.get 1 rfl
    obtain ⟨A, ca, ⟨c0, c1, c2, c3, c4, c5, c6, c7, c8⟩, f0, f1, f2, f3, f4, f8⟩ := entAt.cells (Went.refl hz)
    clear hz
    have hst : (start203 (stop200 ({ { told (e) 7 ⟨#[65]⟩ with fl := { (told (e) 7 ⟨#[65]⟩).fl with peer := false } } with fl := ackF ({ (told (e) 7 ⟨#[65]⟩).fl with peer := false } : F) nr }))).state = 7 := ((same_stop200 _).trans (same_start203 _)).state.trans HS.out
    rw [hst] at c1
    clear hst
    have hfl : (start203 (stop200 ({ { told (e) 7 ⟨#[65]⟩ with fl := { (told (e) 7 ⟨#[65]⟩).fl with peer := false } } with fl := ackF ({ (told (e) 7 ⟨#[65]⟩).fl with peer := false } : F) nr }))).fl = ackF ({ (told (e) 7 ⟨#[65]⟩).fl with peer := false } : F) nr := ((same_stop200 _).trans (same_start203 _)).fl
    have HFL := Aside0.mk hfl
    clear hfl
    go_wp2_with fail
    refine (HW.out.call_at 1 rfl (fun T1 h1 => entAt.flow (Went.refl h1) (fun T2 h2 => Fl.backC fb _ T2 _ h2))).mono ?_
    rintro r w6 ⟨rfl, hy⟩
    have hy2 : Went (all [blk g (.cells #[.int .i64 0, .int .i64 t, .bool false, .int .i64 3, .bool true, .int .i64 ns, .int .i64 nr, .string s] 144 (0, 0)), entAt b mb fb ({ start203 (stop200 ({ { told (e) 7 ⟨#[65]⟩ with fl := { (told (e) 7 ⟨#[65]⟩).fl with peer := false } } with fl := ackF ({ (told (e) 7 ⟨#[65]⟩).fl with peer := false } : F) nr })) with fl := backF (start203 (stop200 ({ { told (e) 7 ⟨#[65]⟩ with fl := { (told (e) 7 ⟨#[65]⟩).fl with peer := false } } with fl := ackF ({ (told (e) 7 ⟨#[65]⟩).fl with peer := false } : F) nr }))).fl })]) T w0 w6 := hy
    rw [HFL.out] at hy2
    have HW : Aside0 (Went (all [blk g (.cells #[.int .i64 0, .int .i64 t, .bool false, .int .i64 3, .bool true, .int .i64 ns, .int .i64 nr, .string s] 144 (0, 0)), entAt b mb fb ({ start203 (stop200 ({ { told (e) 7 ⟨#[65]⟩ with fl := { (told (e) 7 ⟨#[65]⟩).fl with peer := false } } with fl := ackF ({ (told (e) 7 ⟨#[65]⟩).fl with peer := false } : F) nr })) with fl := backF (ackF ({ (told (e) 7 ⟨#[65]⟩).fl with peer := false } : F) nr) })]) T w0 w6) := ⟨hy2⟩
    clear hy hy2 HFL
    clear b0 b1 b2 b3 b4 b5 b6 b7
    clear c0 c1 c2 c3 c4 c5 c6 c7 c8 f0 f1 f2 f3 f4 f8
    obtain ⟨⟨b0, b1, b2, b3, b4, b5, b6, b7⟩, _⟩ := cells8 (HW.out.heap 0 rfl)
    obtain ⟨Tz, hz⟩ := HW.out.get 1 rfl
    obtain ⟨A, ca, ⟨c0, c1, c2, c3, c4, c5, c6, c7, c8⟩, f0, f1, f2, f3, f4, f8⟩ := entAt.cells (Went.refl hz)
    clear hz
    go_wp2_with fail
    refine ((HW.out.at_ 1 rfl (fun T1 h1 => (entAt.setState (Went.refl h1) 7 (by decide)))).call_at 1 rfl (fun T1 h1 => goOnC b mb fb ({ { start203 (stop200 ({ { told (e) 7 ⟨#[65]⟩ with fl := { (told (e) 7 ⟨#[65]⟩).fl with peer := false } } with fl := ackF ({ (told (e) 7 ⟨#[65]⟩).fl with peer := false } : F) nr })) with fl := backF (ackF ({ (told (e) 7 ⟨#[65]⟩).fl with peer := false } : F) nr) } with state := 7 }) (by have h9 : ({ { start203 (stop200 ({ { told (e) 7 ⟨#[65]⟩ with fl := { (told (e) 7 ⟨#[65]⟩).fl with peer := false } } with fl := ackF ({ (told (e) 7 ⟨#[65]⟩).fl with peer := false } : F) nr })) with fl := backF (ackF ({ (told (e) 7 ⟨#[65]⟩).fl with peer := false } : F) nr) } with state := 7 }).out.length ≤ 7000 + 3 := len_start203 (len_stop200 (len_told (hl))); exact Nat.le_trans h9 (by omega)) T1 _ _ (Went.refl h1))).mono ?_
    rintro r w7 ⟨rfl, hw⟩
    have HW : Aside0 (Went (all [blk g (.cells #[.int .i64 0, .int .i64 t, .bool false, .int .i64 3, .bool true, .int .i64 ns, .int .i64 nr, .string s] 144 (0, 0)), entAt b mb fb (goOn ({ { start203 (stop200 ({ { told (e) 7 ⟨#[65]⟩ with fl := { (told (e) 7 ⟨#[65]⟩).fl with peer := false } } with fl := ackF ({ (told (e) 7 ⟨#[65]⟩).fl with peer := false } : F) nr })) with fl := backF (ackF ({ (told (e) 7 ⟨#[65]⟩).fl with peer := false } : F) nr) } with state := 7 }))]) T w0 w7) := ⟨hw⟩
    clear hw
    clear b0 b1 b2 b3 b4 b5 b6 b7
    clear c0 c1 c2 c3 c4 c5 c6 c7 c8 f0 f1 f2 f3 f4 f8
    obtain ⟨⟨b0, b1, b2, b3, b4, b5, b6, b7⟩, _⟩ := cells8 (HW.out.heap 0 rfl)
    obtain ⟨Tz, hz⟩ := HW.out.get 1 rfl
    obtain ⟨A, ca, ⟨c0, c1, c2, c3, c4, c5, c6, c7, c8⟩, f0, f1, f2, f3, f4, f8⟩ := entAt.cells (Went.refl hz)
    clear hz
    go_wp2
    go_end0
    exact ⟨rfl, Went.only (HW.out).drop⟩
theorem sup33 (b mb fb : Nat) (e : E) (t ns nr : Int) (s : ByteArray) (hl : e.out.length ≤ 7000) (hs : e.state = 7) (ha : ackOk e.fl nr) (T : Nat → Prop) (w0 w : World) (h : Went (entAt b mb fb e) T w0 w) :
    Calls Tryz.prog 131 #[.pointer (some ⟨b, 0, none⟩), .agg (frCells (⟨t, true, 3, false, ns, nr, s⟩ : Fr))] w fun r w' => r = .returned (.tuple #[]) ∧ Went (entAt b mb fb (supervised e (⟨t, true, 3, false, ns, nr, s⟩ : Fr))) T w0 w' := by
  have HOK := Aside0.mk (entAt.ok h)
  obtain ⟨A, ca, ⟨c0, c1, c2, c3, c4, c5, c6, c7, c8⟩, f0, f1, f2, f3, f4, f8⟩ := entAt.cells h
  have HW := Aside0.mk h
  clear h
  have hE1 : supervised1 e (⟨t, true, 3, false, ns, nr, s⟩ : Fr) = e := by simp [supervised1, final, hs]
  have hE2 : supervised e (⟨t, true, 3, false, ns, nr, s⟩ : Fr) = supervised3 { e with fl := ({ (e).fl with peer := false } : F) } (⟨t, true, 3, false, ns, nr, s⟩ : Fr) := by unfold supervised; rw [hE1]; rfl
  have hS2 : supervised2 ({ { e with fl := ({ (e).fl with peer := false } : F) } with fl := ackF ({ (e).fl with peer := false } : F) nr }) (⟨t, true, 3, false, ns, nr, s⟩ : Fr) = start203 (stop200 ({ { e with fl := ({ (e).fl with peer := false } : F) } with fl := ackF ({ (e).fl with peer := false } : F) nr })) := if_pos (show (3 : Int) ≠ 2 by decide)
  have hE3 : supervised3 { e with fl := ({ (e).fl with peer := false } : F) } (⟨t, true, 3, false, ns, nr, s⟩ : Fr) = goOn { { start203 (stop200 ({ { e with fl := ({ (e).fl with peer := false } : F) } with fl := ackF ({ (e).fl with peer := false } : F) nr })) with fl := backF (ackF ({ (e).fl with peer := false } : F) nr) } with state := 7 } := (if_pos ha).trans ((if_neg (fun h => by have h1 : (7 : Int) = 8 := hs.symm.trans h.1; omega)).trans ((if_neg (fun h => by have h1 : (3 : Int) = 1 := h.2; omega)).trans ((if_pos (Or.inr rfl)).trans (by rw [hS2]))))
  rw [hE2, hE3]
  clear hE1 hE2 hE3 hS2
  have HK : Aside0 (∀ T1 wz, (flAt fb ({ (e).fl with peer := false } : F)).h T1 wz → Calls Tryz.prog 157 #[.pointer (some ⟨fb, 0, none⟩), .int .i64 nr] wz fun r w2 => r = .returned (.tuple #[.int .i64 (ackN ({ (e).fl with peer := false } : F) nr : Int), .int .i64 0]) ∧ Went (flAt fb (ackF ({ (e).fl with peer := false } : F) nr)) T1 wz w2) := ⟨fun T1 wz hz => by
    have h0 := Fl.ackC fb ({ (e).fl with peer := false } : F) nr T1 wz hz
    rw [if_pos (show ackOk ({ (e).fl with peer := false } : F) nr from ha), if_pos (show ackOk ({ (e).fl with peer := false } : F) nr from ha)] at h0
    exact h0⟩
  have HS := Aside0.mk hs
  rw [hs] at c1
  clear ha hs
  have hbx := heap_alloc_new w (.cells #[.int .i64 0, .int .i64 t, .bool true, .int .i64 3, .bool false, .int .i64 ns, .int .i64 nr, .string s] 144 (0, 0))
  have hw := (Went.single HW.out).new (.cells #[.int .i64 0, .int .i64 t, .bool true, .int .i64 3, .bool false, .int .i64 ns, .int .i64 nr, .string s] 144 (0, 0))
  obtain ⟨g, HG⟩ : ∃ g, Aside0 (w.heap.size = g) := ⟨_, ⟨rfl⟩⟩
  rw [HG.out] at hw hbx
  clear HW
  have HW : Aside0 (Went (all [blk g (.cells #[.int .i64 0, .int .i64 t, .bool true, .int .i64 3, .bool false, .int .i64 ns, .int .i64 nr, .string s] 144 (0, 0)), entAt b mb fb (e)]) T w0 (w.alloc (.cells #[.int .i64 0, .int .i64 t, .bool true, .int .i64 3, .bool false, .int .i64 ns, .int .i64 nr, .string s] 144 (0, 0)))) := ⟨hw⟩
  clear hw
  obtain ⟨⟨b0, b1, b2, b3, b4, b5, b6, b7⟩, _⟩ := cells8 hbx
  clear hbx
  clear b0 b1 b2 b3 b4 b5 b6 b7
  clear c0 c1 c2 c3 c4 c5 c6 c7 c8 f0 f1 f2 f3 f4 f8
  obtain ⟨⟨b0, b1, b2, b3, b4, b5, b6, b7⟩, _⟩ := cells8 (HW.out.heap 0 rfl)
  obtain ⟨Tz, hz⟩ := HW.out.get 1 rfl
  obtain ⟨A, ca, ⟨c0, c1, c2, c3, c4, c5, c6, c7, c8⟩, f0, f1, f2, f3, f4, f8⟩ := entAt.cells (Went.refl hz)
  clear hz
  rw [HS.out] at c1
  have hg := HG.out
  unfold frCells
  go_enter Tryz.func131, Tryz.ntmps131
  go_wp2_with fail
  generalize w.alloc (.cells #[.int .i64 0, .int .i64 t, .bool true, .int .i64 3, .bool false, .int .i64 ns, .int .i64 nr, .string s] 144 (0, 0)) = wx at *
  go_still_tail 7, (by kernel_rfl)
  change wpList _ _ _ _ _ (World.drew _)
  have HW := Aside0.mk HW.out.drew
  go_wp2_with fail
  refine (HW.out.call_at 1 rfl (fun T1 h1 => entAt.flow (Went.refl h1) (fun T2 h2 => Fl.setPeerC fb _ false T2 _ h2))).mono ?_
  rintro r w1 ⟨rfl, hw⟩
  have HW : Aside0 (Went (all [blk g (.cells #[.int .i64 0, .int .i64 t, .bool true, .int .i64 3, .bool false, .int .i64 ns, .int .i64 nr, .string s] 144 (0, 0)), entAt b mb fb ({ e with fl := { (e).fl with peer := false } })]) T w0 w1) := ⟨hw⟩
  clear hw
  clear b0 b1 b2 b3 b4 b5 b6 b7
  clear c0 c1 c2 c3 c4 c5 c6 c7 c8 f0 f1 f2 f3 f4 f8
  obtain ⟨⟨b0, b1, b2, b3, b4, b5, b6, b7⟩, _⟩ := cells8 (HW.out.heap 0 rfl)
  obtain ⟨Tz, hz⟩ := HW.out.get 1 rfl
  obtain ⟨A, ca, ⟨c0, c1, c2, c3, c4, c5, c6, c7, c8⟩, f0, f1, f2, f3, f4, f8⟩ := entAt.cells (Went.refl hz)
  clear hz
  go_wp2_with fail
  have HW := Aside0.mk HW.out.drew
  go_region_law (go_simp; go_at_call 157; refine (HW.out.call_at 1 rfl (fun T1 h1 => entAt.flow (Went.refl h1) (fun T2 h2 => HK.out T2 _ h2))).mono ?_; rintro r w2 ⟨rfl, hw⟩)
  all_goals
    have HW : Aside0 (Went (all [blk g (.cells #[.int .i64 0, .int .i64 t, .bool true, .int .i64 3, .bool false, .int .i64 ns, .int .i64 nr, .string s] 144 (0, 0)), entAt b mb fb ({ { e with fl := { (e).fl with peer := false } } with fl := ackF ({ (e).fl with peer := false } : F) nr })]) T w0 w2) := ⟨hw⟩
    clear hw
    clear b0 b1 b2 b3 b4 b5 b6 b7
    clear c0 c1 c2 c3 c4 c5 c6 c7 c8 f0 f1 f2 f3 f4 f8
    obtain ⟨⟨b0, b1, b2, b3, b4, b5, b6, b7⟩, _⟩ := cells8 (HW.out.heap 0 rfl)
    obtain ⟨Tz, hz⟩ := HW.out.get 1 rfl
    obtain ⟨A, ca, ⟨c0, c1, c2, c3, c4, c5, c6, c7, c8⟩, f0, f1, f2, f3, f4, f8⟩ := entAt.cells (Went.refl hz)
    clear hz
    have hst : ({ { e with fl := { (e).fl with peer := false } } with fl := ackF ({ (e).fl with peer := false } : F) nr }).state = 7 := HS.out
    rw [hst] at c1
    clear hst
    go_wp2_with fail
    refine (HW.out.call_at 1 rfl (fun T1 h1 => stop200C b mb fb ({ { e with fl := { (e).fl with peer := false } } with fl := ackF ({ (e).fl with peer := false } : F) nr })  (Nat.le_trans hl (by omega)) T1 _ _ (Went.refl h1))).mono ?_
    rintro r w3 ⟨rfl, hw⟩
    have HW : Aside0 (Went (all [blk g (.cells #[.int .i64 0, .int .i64 t, .bool true, .int .i64 3, .bool false, .int .i64 ns, .int .i64 nr, .string s] 144 (0, 0)), entAt b mb fb (stop200 ({ { e with fl := { (e).fl with peer := false } } with fl := ackF ({ (e).fl with peer := false } : F) nr }))]) T w0 w3) := ⟨hw⟩
    clear hw
    clear b0 b1 b2 b3 b4 b5 b6 b7
    clear c0 c1 c2 c3 c4 c5 c6 c7 c8 f0 f1 f2 f3 f4 f8
    obtain ⟨⟨b0, b1, b2, b3, b4, b5, b6, b7⟩, _⟩ := cells8 (HW.out.heap 0 rfl)
    obtain ⟨Tz, hz⟩ := HW.out.get 1 rfl
    obtain ⟨A, ca, ⟨c0, c1, c2, c3, c4, c5, c6, c7, c8⟩, f0, f1, f2, f3, f4, f8⟩ := entAt.cells (Went.refl hz)
    clear hz
    go_wp2_with fail
    refine (HW.out.call_at 1 rfl (fun T1 h1 => start203C b mb fb (stop200 ({ { e with fl := { (e).fl with peer := false } } with fl := ackF ({ (e).fl with peer := false } : F) nr }))  (Nat.le_trans (len_stop200 (hl)) (by omega)) T1 _ _ (Went.refl h1))).mono ?_
    rintro r w4 ⟨rfl, hw⟩
    have HW : Aside0 (Went (all [blk g (.cells #[.int .i64 0, .int .i64 t, .bool true, .int .i64 3, .bool false, .int .i64 ns, .int .i64 nr, .string s] 144 (0, 0)), entAt b mb fb (start203 (stop200 ({ { e with fl := { (e).fl with peer := false } } with fl := ackF ({ (e).fl with peer := false } : F) nr })))]) T w0 w4) := ⟨hw⟩
    clear hw
    clear b0 b1 b2 b3 b4 b5 b6 b7
    clear c0 c1 c2 c3 c4 c5 c6 c7 c8 f0 f1 f2 f3 f4 f8
    obtain ⟨⟨b0, b1, b2, b3, b4, b5, b6, b7⟩, _⟩ := cells8 (HW.out.heap 0 rfl)
    obtain ⟨Tz, hz⟩ := HW.out.get 1 rfl
    obtain ⟨A, ca, ⟨c0, c1, c2, c3, c4, c5, c6, c7, c8⟩, f0, f1, f2, f3, f4, f8⟩ := entAt.cells (Went.refl hz)
    clear hz
    have hst : (start203 (stop200 ({ { e with fl := { (e).fl with peer := false } } with fl := ackF ({ (e).fl with peer := false } : F) nr }))).state = 7 := ((same_stop200 _).trans (same_start203 _)).state.trans HS.out
    rw [hst] at c1
    clear hst
    have hfl : (start203 (stop200 ({ { e with fl := { (e).fl with peer := false } } with fl := ackF ({ (e).fl with peer := false } : F) nr }))).fl = ackF ({ (e).fl with peer := false } : F) nr := ((same_stop200 _).trans (same_start203 _)).fl
    have HFL := Aside0.mk hfl
    clear hfl
    go_wp2_with fail
    refine (HW.out.call_at 1 rfl (fun T1 h1 => entAt.flow (Went.refl h1) (fun T2 h2 => Fl.backC fb _ T2 _ h2))).mono ?_
    rintro r w5 ⟨rfl, hy⟩
    have hy2 : Went (all [blk g (.cells #[.int .i64 0, .int .i64 t, .bool true, .int .i64 3, .bool false, .int .i64 ns, .int .i64 nr, .string s] 144 (0, 0)), entAt b mb fb ({ start203 (stop200 ({ { e with fl := { (e).fl with peer := false } } with fl := ackF ({ (e).fl with peer := false } : F) nr })) with fl := backF (start203 (stop200 ({ { e with fl := { (e).fl with peer := false } } with fl := ackF ({ (e).fl with peer := false } : F) nr }))).fl })]) T w0 w5 := hy
    rw [HFL.out] at hy2
    have HW : Aside0 (Went (all [blk g (.cells #[.int .i64 0, .int .i64 t, .bool true, .int .i64 3, .bool false, .int .i64 ns, .int .i64 nr, .string s] 144 (0, 0)), entAt b mb fb ({ start203 (stop200 ({ { e with fl := { (e).fl with peer := false } } with fl := ackF ({ (e).fl with peer := false } : F) nr })) with fl := backF (ackF ({ (e).fl with peer := false } : F) nr) })]) T w0 w5) := ⟨hy2⟩
    clear hy hy2 HFL
    clear b0 b1 b2 b3 b4 b5 b6 b7
    clear c0 c1 c2 c3 c4 c5 c6 c7 c8 f0 f1 f2 f3 f4 f8
    obtain ⟨⟨b0, b1, b2, b3, b4, b5, b6, b7⟩, _⟩ := cells8 (HW.out.heap 0 rfl)
    obtain ⟨Tz, hz⟩ := HW.out.get 1 rfl
    obtain ⟨A, ca, ⟨c0, c1, c2, c3, c4, c5, c6, c7, c8⟩, f0, f1, f2, f3, f4, f8⟩ := entAt.cells (Went.refl hz)
    clear hz
    go_wp2_with fail
    refine ((HW.out.at_ 1 rfl (fun T1 h1 => (entAt.setState (Went.refl h1) 7 (by decide)))).call_at 1 rfl (fun T1 h1 => goOnC b mb fb ({ { start203 (stop200 ({ { e with fl := { (e).fl with peer := false } } with fl := ackF ({ (e).fl with peer := false } : F) nr })) with fl := backF (ackF ({ (e).fl with peer := false } : F) nr) } with state := 7 }) (by have h9 : ({ { start203 (stop200 ({ { e with fl := { (e).fl with peer := false } } with fl := ackF ({ (e).fl with peer := false } : F) nr })) with fl := backF (ackF ({ (e).fl with peer := false } : F) nr) } with state := 7 }).out.length ≤ 7000 + 2 := len_start203 (len_stop200 (hl)); exact Nat.le_trans h9 (by omega)) T1 _ _ (Went.refl h1))).mono ?_
    rintro r w6 ⟨rfl, hw⟩
    have HW : Aside0 (Went (all [blk g (.cells #[.int .i64 0, .int .i64 t, .bool true, .int .i64 3, .bool false, .int .i64 ns, .int .i64 nr, .string s] 144 (0, 0)), entAt b mb fb (goOn ({ { start203 (stop200 ({ { e with fl := { (e).fl with peer := false } } with fl := ackF ({ (e).fl with peer := false } : F) nr })) with fl := backF (ackF ({ (e).fl with peer := false } : F) nr) } with state := 7 }))]) T w0 w6) := ⟨hw⟩
    clear hw
    clear b0 b1 b2 b3 b4 b5 b6 b7
    clear c0 c1 c2 c3 c4 c5 c6 c7 c8 f0 f1 f2 f3 f4 f8
    obtain ⟨⟨b0, b1, b2, b3, b4, b5, b6, b7⟩, _⟩ := cells8 (HW.out.heap 0 rfl)
    obtain ⟨Tz, hz⟩ := HW.out.get 1 rfl
    obtain ⟨A, ca, ⟨c0, c1, c2, c3, c4, c5, c6, c7, c8⟩, f0, f1, f2, f3, f4, f8⟩ := entAt.cells (Went.refl hz)
    clear hz
    go_wp2
    go_end0
    exact ⟨rfl, Went.only (HW.out).drop⟩
theorem sup43 (b mb fb : Nat) (e : E) (t ns nr : Int) (s : ByteArray) (hl : e.out.length ≤ 7000) (hs : e.state = 7) (ha : ackOk e.fl nr) (T : Nat → Prop) (w0 w : World) (h : Went (entAt b mb fb e) T w0 w) :
    Calls Tryz.prog 131 #[.pointer (some ⟨b, 0, none⟩), .agg (frCells (⟨t, false, 3, false, ns, nr, s⟩ : Fr))] w fun r w' => r = .returned (.tuple #[]) ∧ Went (entAt b mb fb (supervised e (⟨t, false, 3, false, ns, nr, s⟩ : Fr))) T w0 w' := by
  have HOK := Aside0.mk (entAt.ok h)
  obtain ⟨A, ca, ⟨c0, c1, c2, c3, c4, c5, c6, c7, c8⟩, f0, f1, f2, f3, f4, f8⟩ := entAt.cells h
  have HW := Aside0.mk h
  clear h
  have hE1 : supervised1 e (⟨t, false, 3, false, ns, nr, s⟩ : Fr) = e := by simp [supervised1, final, hs]
  have hE2 : supervised e (⟨t, false, 3, false, ns, nr, s⟩ : Fr) = supervised3 { e with fl := ({ (e).fl with peer := false } : F) } (⟨t, false, 3, false, ns, nr, s⟩ : Fr) := by unfold supervised; rw [hE1]; rfl
  have hS2 : supervised2 ({ { e with fl := ({ (e).fl with peer := false } : F) } with fl := ackF ({ (e).fl with peer := false } : F) nr }) (⟨t, false, 3, false, ns, nr, s⟩ : Fr) = start203 (stop200 ({ { e with fl := ({ (e).fl with peer := false } : F) } with fl := ackF ({ (e).fl with peer := false } : F) nr })) := if_pos (show (3 : Int) ≠ 2 by decide)
  have hE3 : supervised3 { e with fl := ({ (e).fl with peer := false } : F) } (⟨t, false, 3, false, ns, nr, s⟩ : Fr) = goOn { { start203 (stop200 ({ { e with fl := ({ (e).fl with peer := false } : F) } with fl := ackF ({ (e).fl with peer := false } : F) nr })) with fl := backF (ackF ({ (e).fl with peer := false } : F) nr) } with state := 7 } := (if_pos ha).trans ((if_neg (fun h => by have h1 : (7 : Int) = 8 := hs.symm.trans h.1; omega)).trans ((if_neg (fun h => by have h1 : (3 : Int) = 1 := h.2; omega)).trans ((if_pos (Or.inr rfl)).trans (by rw [hS2]))))
  rw [hE2, hE3]
  clear hE1 hE2 hE3 hS2
  have HK : Aside0 (∀ T1 wz, (flAt fb ({ (e).fl with peer := false } : F)).h T1 wz → Calls Tryz.prog 157 #[.pointer (some ⟨fb, 0, none⟩), .int .i64 nr] wz fun r w2 => r = .returned (.tuple #[.int .i64 (ackN ({ (e).fl with peer := false } : F) nr : Int), .int .i64 0]) ∧ Went (flAt fb (ackF ({ (e).fl with peer := false } : F) nr)) T1 wz w2) := ⟨fun T1 wz hz => by
    have h0 := Fl.ackC fb ({ (e).fl with peer := false } : F) nr T1 wz hz
    rw [if_pos (show ackOk ({ (e).fl with peer := false } : F) nr from ha), if_pos (show ackOk ({ (e).fl with peer := false } : F) nr from ha)] at h0
    exact h0⟩
  have HS := Aside0.mk hs
  rw [hs] at c1
  clear ha hs
  have hbx := heap_alloc_new w (.cells #[.int .i64 0, .int .i64 t, .bool false, .int .i64 3, .bool false, .int .i64 ns, .int .i64 nr, .string s] 144 (0, 0))
  have hw := (Went.single HW.out).new (.cells #[.int .i64 0, .int .i64 t, .bool false, .int .i64 3, .bool false, .int .i64 ns, .int .i64 nr, .string s] 144 (0, 0))
  obtain ⟨g, HG⟩ : ∃ g, Aside0 (w.heap.size = g) := ⟨_, ⟨rfl⟩⟩
  rw [HG.out] at hw hbx
  clear HW
  have HW : Aside0 (Went (all [blk g (.cells #[.int .i64 0, .int .i64 t, .bool false, .int .i64 3, .bool false, .int .i64 ns, .int .i64 nr, .string s] 144 (0, 0)), entAt b mb fb (e)]) T w0 (w.alloc (.cells #[.int .i64 0, .int .i64 t, .bool false, .int .i64 3, .bool false, .int .i64 ns, .int .i64 nr, .string s] 144 (0, 0)))) := ⟨hw⟩
  clear hw
  obtain ⟨⟨b0, b1, b2, b3, b4, b5, b6, b7⟩, _⟩ := cells8 hbx
  clear hbx
  clear b0 b1 b2 b3 b4 b5 b6 b7
  clear c0 c1 c2 c3 c4 c5 c6 c7 c8 f0 f1 f2 f3 f4 f8
  obtain ⟨⟨b0, b1, b2, b3, b4, b5, b6, b7⟩, _⟩ := cells8 (HW.out.heap 0 rfl)
  obtain ⟨Tz, hz⟩ := HW.out.get 1 rfl
  obtain ⟨A, ca, ⟨c0, c1, c2, c3, c4, c5, c6, c7, c8⟩, f0, f1, f2, f3, f4, f8⟩ := entAt.cells (Went.refl hz)
  clear hz
  rw [HS.out] at c1
  have hg := HG.out
  unfold frCells
  go_enter Tryz.func131, Tryz.ntmps131
  go_wp2_with fail
  generalize w.alloc (.cells #[.int .i64 0, .int .i64 t, .bool false, .int .i64 3, .bool false, .int .i64 ns, .int .i64 nr, .string s] 144 (0, 0)) = wx at *
  go_still_tail 7, (by kernel_rfl)
  change wpList _ _ _ _ _ (World.drew _)
  have HW := Aside0.mk HW.out.drew
  go_wp2_with fail
  refine (HW.out.call_at 1 rfl (fun T1 h1 => entAt.flow (Went.refl h1) (fun T2 h2 => Fl.setPeerC fb _ false T2 _ h2))).mono ?_
  rintro r w1 ⟨rfl, hw⟩
  have HW : Aside0 (Went (all [blk g (.cells #[.int .i64 0, .int .i64 t, .bool false, .int .i64 3, .bool false, .int .i64 ns, .int .i64 nr, .string s] 144 (0, 0)), entAt b mb fb ({ e with fl := { (e).fl with peer := false } })]) T w0 w1) := ⟨hw⟩
  clear hw
  clear b0 b1 b2 b3 b4 b5 b6 b7
  clear c0 c1 c2 c3 c4 c5 c6 c7 c8 f0 f1 f2 f3 f4 f8
  obtain ⟨⟨b0, b1, b2, b3, b4, b5, b6, b7⟩, _⟩ := cells8 (HW.out.heap 0 rfl)
  obtain ⟨Tz, hz⟩ := HW.out.get 1 rfl
  obtain ⟨A, ca, ⟨c0, c1, c2, c3, c4, c5, c6, c7, c8⟩, f0, f1, f2, f3, f4, f8⟩ := entAt.cells (Went.refl hz)
  clear hz
  go_wp2_with fail
  have HW := Aside0.mk HW.out.drew
  go_region_law (go_simp; go_at_call 157; refine (HW.out.call_at 1 rfl (fun T1 h1 => entAt.flow (Went.refl h1) (fun T2 h2 => HK.out T2 _ h2))).mono ?_; rintro r w2 ⟨rfl, hw⟩)
  all_goals
    have HW : Aside0 (Went (all [blk g (.cells #[.int .i64 0, .int .i64 t, .bool false, .int .i64 3, .bool false, .int .i64 ns, .int .i64 nr, .string s] 144 (0, 0)), entAt b mb fb ({ { e with fl := { (e).fl with peer := false } } with fl := ackF ({ (e).fl with peer := false } : F) nr })]) T w0 w2) := ⟨hw⟩
    clear hw
    clear b0 b1 b2 b3 b4 b5 b6 b7
    clear c0 c1 c2 c3 c4 c5 c6 c7 c8 f0 f1 f2 f3 f4 f8
    obtain ⟨⟨b0, b1, b2, b3, b4, b5, b6, b7⟩, _⟩ := cells8 (HW.out.heap 0 rfl)
    obtain ⟨Tz, hz⟩ := HW.out.get 1 rfl
    obtain ⟨A, ca, ⟨c0, c1, c2, c3, c4, c5, c6, c7, c8⟩, f0, f1, f2, f3, f4, f8⟩ := entAt.cells (Went.refl hz)
    clear hz
    have hst : ({ { e with fl := { (e).fl with peer := false } } with fl := ackF ({ (e).fl with peer := false } : F) nr }).state = 7 := HS.out
    rw [hst] at c1
    clear hst
    go_wp2_with fail
    refine (HW.out.call_at 1 rfl (fun T1 h1 => stop200C b mb fb ({ { e with fl := { (e).fl with peer := false } } with fl := ackF ({ (e).fl with peer := false } : F) nr })  (Nat.le_trans hl (by omega)) T1 _ _ (Went.refl h1))).mono ?_
    rintro r w3 ⟨rfl, hw⟩
    have HW : Aside0 (Went (all [blk g (.cells #[.int .i64 0, .int .i64 t, .bool false, .int .i64 3, .bool false, .int .i64 ns, .int .i64 nr, .string s] 144 (0, 0)), entAt b mb fb (stop200 ({ { e with fl := { (e).fl with peer := false } } with fl := ackF ({ (e).fl with peer := false } : F) nr }))]) T w0 w3) := ⟨hw⟩
    clear hw
    clear b0 b1 b2 b3 b4 b5 b6 b7
    clear c0 c1 c2 c3 c4 c5 c6 c7 c8 f0 f1 f2 f3 f4 f8
    obtain ⟨⟨b0, b1, b2, b3, b4, b5, b6, b7⟩, _⟩ := cells8 (HW.out.heap 0 rfl)
    obtain ⟨Tz, hz⟩ := HW.out.get 1 rfl
    obtain ⟨A, ca, ⟨c0, c1, c2, c3, c4, c5, c6, c7, c8⟩, f0, f1, f2, f3, f4, f8⟩ := entAt.cells (Went.refl hz)
    clear hz
    go_wp2_with fail
    refine (HW.out.call_at 1 rfl (fun T1 h1 => start203C b mb fb (stop200 ({ { e with fl := { (e).fl with peer := false } } with fl := ackF ({ (e).fl with peer := false } : F) nr }))  (Nat.le_trans (len_stop200 (hl)) (by omega)) T1 _ _ (Went.refl h1))).mono ?_
    rintro r w4 ⟨rfl, hw⟩
    have HW : Aside0 (Went (all [blk g (.cells #[.int .i64 0, .int .i64 t, .bool false, .int .i64 3, .bool false, .int .i64 ns, .int .i64 nr, .string s] 144 (0, 0)), entAt b mb fb (start203 (stop200 ({ { e with fl := { (e).fl with peer := false } } with fl := ackF ({ (e).fl with peer := false } : F) nr })))]) T w0 w4) := ⟨hw⟩
    clear hw
    clear b0 b1 b2 b3 b4 b5 b6 b7
    clear c0 c1 c2 c3 c4 c5 c6 c7 c8 f0 f1 f2 f3 f4 f8
    obtain ⟨⟨b0, b1, b2, b3, b4, b5, b6, b7⟩, _⟩ := cells8 (HW.out.heap 0 rfl)
    obtain ⟨Tz, hz⟩ := HW.out.get 1 rfl
    obtain ⟨A, ca, ⟨c0, c1, c2, c3, c4, c5, c6, c7, c8⟩, f0, f1, f2, f3, f4, f8⟩ := entAt.cells (Went.refl hz)
    clear hz
    have hst : (start203 (stop200 ({ { e with fl := { (e).fl with peer := false } } with fl := ackF ({ (e).fl with peer := false } : F) nr }))).state = 7 := ((same_stop200 _).trans (same_start203 _)).state.trans HS.out
    rw [hst] at c1
    clear hst
    have hfl : (start203 (stop200 ({ { e with fl := { (e).fl with peer := false } } with fl := ackF ({ (e).fl with peer := false } : F) nr }))).fl = ackF ({ (e).fl with peer := false } : F) nr := ((same_stop200 _).trans (same_start203 _)).fl
    have HFL := Aside0.mk hfl
    clear hfl
    go_wp2_with fail
    refine (HW.out.call_at 1 rfl (fun T1 h1 => entAt.flow (Went.refl h1) (fun T2 h2 => Fl.backC fb _ T2 _ h2))).mono ?_
    rintro r w5 ⟨rfl, hy⟩
    have hy2 : Went (all [blk g (.cells #[.int .i64 0, .int .i64 t, .bool false, .int .i64 3, .bool false, .int .i64 ns, .int .i64 nr, .string s] 144 (0, 0)), entAt b mb fb ({ start203 (stop200 ({ { e with fl := { (e).fl with peer := false } } with fl := ackF ({ (e).fl with peer := false } : F) nr })) with fl := backF (start203 (stop200 ({ { e with fl := { (e).fl with peer := false } } with fl := ackF ({ (e).fl with peer := false } : F) nr }))).fl })]) T w0 w5 := hy
    rw [HFL.out] at hy2
    have HW : Aside0 (Went (all [blk g (.cells #[.int .i64 0, .int .i64 t, .bool false, .int .i64 3, .bool false, .int .i64 ns, .int .i64 nr, .string s] 144 (0, 0)), entAt b mb fb ({ start203 (stop200 ({ { e with fl := { (e).fl with peer := false } } with fl := ackF ({ (e).fl with peer := false } : F) nr })) with fl := backF (ackF ({ (e).fl with peer := false } : F) nr) })]) T w0 w5) := ⟨hy2⟩
    clear hy hy2 HFL
    clear b0 b1 b2 b3 b4 b5 b6 b7
    clear c0 c1 c2 c3 c4 c5 c6 c7 c8 f0 f1 f2 f3 f4 f8
    obtain ⟨⟨b0, b1, b2, b3, b4, b5, b6, b7⟩, _⟩ := cells8 (HW.out.heap 0 rfl)
    obtain ⟨Tz, hz⟩ := HW.out.get 1 rfl
    obtain ⟨A, ca, ⟨c0, c1, c2, c3, c4, c5, c6, c7, c8⟩, f0, f1, f2, f3, f4, f8⟩ := entAt.cells (Went.refl hz)
    clear hz
    go_wp2_with fail
    refine ((HW.out.at_ 1 rfl (fun T1 h1 => (entAt.setState (Went.refl h1) 7 (by decide)))).call_at 1 rfl (fun T1 h1 => goOnC b mb fb ({ { start203 (stop200 ({ { e with fl := { (e).fl with peer := false } } with fl := ackF ({ (e).fl with peer := false } : F) nr })) with fl := backF (ackF ({ (e).fl with peer := false } : F) nr) } with state := 7 }) (by have h9 : ({ { start203 (stop200 ({ { e with fl := { (e).fl with peer := false } } with fl := ackF ({ (e).fl with peer := false } : F) nr })) with fl := backF (ackF ({ (e).fl with peer := false } : F) nr) } with state := 7 }).out.length ≤ 7000 + 2 := len_start203 (len_stop200 (hl)); exact Nat.le_trans h9 (by omega)) T1 _ _ (Went.refl h1))).mono ?_
    rintro r w6 ⟨rfl, hw⟩
    have HW : Aside0 (Went (all [blk g (.cells #[.int .i64 0, .int .i64 t, .bool false, .int .i64 3, .bool false, .int .i64 ns, .int .i64 nr, .string s] 144 (0, 0)), entAt b mb fb (goOn ({ { start203 (stop200 ({ { e with fl := { (e).fl with peer := false } } with fl := ackF ({ (e).fl with peer := false } : F) nr })) with fl := backF (ackF ({ (e).fl with peer := false } : F) nr) } with state := 7 }))]) T w0 w6) := ⟨hw⟩
    clear hw
    clear b0 b1 b2 b3 b4 b5 b6 b7
    clear c0 c1 c2 c3 c4 c5 c6 c7 c8 f0 f1 f2 f3 f4 f8
    obtain ⟨⟨b0, b1, b2, b3, b4, b5, b6, b7⟩, _⟩ := cells8 (HW.out.heap 0 rfl)
    obtain ⟨Tz, hz⟩ := HW.out.get 1 rfl
    obtain ⟨A, ca, ⟨c0, c1, c2, c3, c4, c5, c6, c7, c8⟩, f0, f1, f2, f3, f4, f8⟩ := entAt.cells (Went.refl hz)
    clear hz
    go_wp2
    go_end0
    exact ⟨rfl, Went.only (HW.out).drop⟩
theorem sup54 (b mb fb : Nat) (e : E) (t ns nr : Int) (s : ByteArray) (hl : e.out.length ≤ 7000) (hs : e.state = 8) (ha : ackOk e.fl nr) (T : Nat → Prop) (w0 w : World) (h : Went (entAt b mb fb e) T w0 w) :
    Calls Tryz.prog 131 #[.pointer (some ⟨b, 0, none⟩), .agg (frCells (⟨t, false, 1, true, ns, nr, s⟩ : Fr))] w fun r w' => r = .returned (.tuple #[]) ∧ Went (entAt b mb fb (supervised e (⟨t, false, 1, true, ns, nr, s⟩ : Fr))) T w0 w' := by
  have HOK := Aside0.mk (entAt.ok h)
  obtain ⟨A, ca, ⟨c0, c1, c2, c3, c4, c5, c6, c7, c8⟩, f0, f1, f2, f3, f4, f8⟩ := entAt.cells h
  have HW := Aside0.mk h
  clear h
  have hE1 : supervised1 e (⟨t, false, 1, true, ns, nr, s⟩ : Fr) = e := by simp [supervised1, final, hs]
  have hE2 : supervised e (⟨t, false, 1, true, ns, nr, s⟩ : Fr) = supervised3 { e with fl := ({ (e).fl with peer := false } : F) } (⟨t, false, 1, true, ns, nr, s⟩ : Fr) := by unfold supervised; rw [hE1]; rfl
  have hS2 : supervised2 ({ { e with fl := ({ (e).fl with peer := false } : F) } with fl := ackF ({ (e).fl with peer := false } : F) nr }) (⟨t, false, 1, true, ns, nr, s⟩ : Fr) = start203 (stop200 ({ { e with fl := ({ (e).fl with peer := false } : F) } with fl := ackF ({ (e).fl with peer := false } : F) nr })) := if_pos (show (1 : Int) ≠ 2 by decide)
  have hE3 : supervised3 { e with fl := ({ (e).fl with peer := false } : F) } (⟨t, false, 1, true, ns, nr, s⟩ : Fr) = goOn { { start203 (stop200 ({ { e with fl := ({ (e).fl with peer := false } : F) } with fl := ackF ({ (e).fl with peer := false } : F) nr })) with fl := backF (ackF ({ (e).fl with peer := false } : F) nr) } with state := 7 } := (if_pos ha).trans ((if_neg (fun h => by have h1 : final (⟨t, false, 1, true, ns, nr, s⟩ : Fr) = false := h.2; cases h1)).trans ((if_neg (fun h => by have h1 : (8 : Int) = 7 := hs.symm.trans h.1; omega)).trans ((if_pos (Or.inl hs)).trans (by rw [hS2]))))
  rw [hE2, hE3]
  clear hE1 hE2 hE3 hS2
  have HK : Aside0 (∀ T1 wz, (flAt fb ({ (e).fl with peer := false } : F)).h T1 wz → Calls Tryz.prog 157 #[.pointer (some ⟨fb, 0, none⟩), .int .i64 nr] wz fun r w2 => r = .returned (.tuple #[.int .i64 (ackN ({ (e).fl with peer := false } : F) nr : Int), .int .i64 0]) ∧ Went (flAt fb (ackF ({ (e).fl with peer := false } : F) nr)) T1 wz w2) := ⟨fun T1 wz hz => by
    have h0 := Fl.ackC fb ({ (e).fl with peer := false } : F) nr T1 wz hz
    rw [if_pos (show ackOk ({ (e).fl with peer := false } : F) nr from ha), if_pos (show ackOk ({ (e).fl with peer := false } : F) nr from ha)] at h0
    exact h0⟩
  have HS := Aside0.mk hs
  rw [hs] at c1
  clear ha hs
  have hbx := heap_alloc_new w (.cells #[.int .i64 0, .int .i64 t, .bool false, .int .i64 1, .bool true, .int .i64 ns, .int .i64 nr, .string s] 144 (0, 0))
  have hw := (Went.single HW.out).new (.cells #[.int .i64 0, .int .i64 t, .bool false, .int .i64 1, .bool true, .int .i64 ns, .int .i64 nr, .string s] 144 (0, 0))
  obtain ⟨g, HG⟩ : ∃ g, Aside0 (w.heap.size = g) := ⟨_, ⟨rfl⟩⟩
  rw [HG.out] at hw hbx
  clear HW
  have HW : Aside0 (Went (all [blk g (.cells #[.int .i64 0, .int .i64 t, .bool false, .int .i64 1, .bool true, .int .i64 ns, .int .i64 nr, .string s] 144 (0, 0)), entAt b mb fb (e)]) T w0 (w.alloc (.cells #[.int .i64 0, .int .i64 t, .bool false, .int .i64 1, .bool true, .int .i64 ns, .int .i64 nr, .string s] 144 (0, 0)))) := ⟨hw⟩
  clear hw
  obtain ⟨⟨b0, b1, b2, b3, b4, b5, b6, b7⟩, _⟩ := cells8 hbx
  clear hbx
  clear b0 b1 b2 b3 b4 b5 b6 b7
  clear c0 c1 c2 c3 c4 c5 c6 c7 c8 f0 f1 f2 f3 f4 f8
  obtain ⟨⟨b0, b1, b2, b3, b4, b5, b6, b7⟩, _⟩ := cells8 (HW.out.heap 0 rfl)
  obtain ⟨Tz, hz⟩ := HW.out.get 1 rfl
  obtain ⟨A, ca, ⟨c0, c1, c2, c3, c4, c5, c6, c7, c8⟩, f0, f1, f2, f3, f4, f8⟩ := entAt.cells (Went.refl hz)
  clear hz
  rw [HS.out] at c1
  have hg := HG.out
  unfold frCells
  go_enter Tryz.func131, Tryz.ntmps131
  go_wp2_with fail
  generalize w.alloc (.cells #[.int .i64 0, .int .i64 t, .bool false, .int .i64 1, .bool true, .int .i64 ns, .int .i64 nr, .string s] 144 (0, 0)) = wx at *
  go_still_tail 7, (by kernel_rfl)
  change wpList _ _ _ _ _ (World.drew _)
  have HW := Aside0.mk HW.out.drew
  go_wp2_with fail
  refine (HW.out.call_at 1 rfl (fun T1 h1 => entAt.flow (Went.refl h1) (fun T2 h2 => Fl.setPeerC fb _ false T2 _ h2))).mono ?_
  rintro r w1 ⟨rfl, hw⟩
  have HW : Aside0 (Went (all [blk g (.cells #[.int .i64 0, .int .i64 t, .bool false, .int .i64 1, .bool true, .int .i64 ns, .int .i64 nr, .string s] 144 (0, 0)), entAt b mb fb ({ e with fl := { (e).fl with peer := false } })]) T w0 w1) := ⟨hw⟩
  clear hw
  clear b0 b1 b2 b3 b4 b5 b6 b7
  clear c0 c1 c2 c3 c4 c5 c6 c7 c8 f0 f1 f2 f3 f4 f8
  obtain ⟨⟨b0, b1, b2, b3, b4, b5, b6, b7⟩, _⟩ := cells8 (HW.out.heap 0 rfl)
  obtain ⟨Tz, hz⟩ := HW.out.get 1 rfl
  obtain ⟨A, ca, ⟨c0, c1, c2, c3, c4, c5, c6, c7, c8⟩, f0, f1, f2, f3, f4, f8⟩ := entAt.cells (Went.refl hz)
  clear hz
  go_wp2_with fail
  have HW := Aside0.mk HW.out.drew
  go_region_law (go_simp; go_at_call 157; refine (HW.out.call_at 1 rfl (fun T1 h1 => entAt.flow (Went.refl h1) (fun T2 h2 => HK.out T2 _ h2))).mono ?_; rintro r w2 ⟨rfl, hw⟩)
  all_goals
    have HW : Aside0 (Went (all [blk g (.cells #[.int .i64 0, .int .i64 t, .bool false, .int .i64 1, .bool true, .int .i64 ns, .int .i64 nr, .string s] 144 (0, 0)), entAt b mb fb ({ { e with fl := { (e).fl with peer := false } } with fl := ackF ({ (e).fl with peer := false } : F) nr })]) T w0 w2) := ⟨hw⟩
    clear hw
    clear b0 b1 b2 b3 b4 b5 b6 b7
    clear c0 c1 c2 c3 c4 c5 c6 c7 c8 f0 f1 f2 f3 f4 f8
    obtain ⟨⟨b0, b1, b2, b3, b4, b5, b6, b7⟩, _⟩ := cells8 (HW.out.heap 0 rfl)
    obtain ⟨Tz, hz⟩ := HW.out.get 1 rfl
    obtain ⟨A, ca, ⟨c0, c1, c2, c3, c4, c5, c6, c7, c8⟩, f0, f1, f2, f3, f4, f8⟩ := entAt.cells (Went.refl hz)
    clear hz
    have hst : ({ { e with fl := { (e).fl with peer := false } } with fl := ackF ({ (e).fl with peer := false } : F) nr }).state = 8 := HS.out
    rw [hst] at c1
    clear hst
    go_wp2_with fail
    refine (HW.out.call_at 1 rfl (fun T1 h1 => stop200C b mb fb ({ { e with fl := { (e).fl with peer := false } } with fl := ackF ({ (e).fl with peer := false } : F) nr })  (Nat.le_trans hl (by omega)) T1 _ _ (Went.refl h1))).mono ?_
    rintro r w3 ⟨rfl, hw⟩
    have HW : Aside0 (Went (all [blk g (.cells #[.int .i64 0, .int .i64 t, .bool false, .int .i64 1, .bool true, .int .i64 ns, .int .i64 nr, .string s] 144 (0, 0)), entAt b mb fb (stop200 ({ { e with fl := { (e).fl with peer := false } } with fl := ackF ({ (e).fl with peer := false } : F) nr }))]) T w0 w3) := ⟨hw⟩
    clear hw
    clear b0 b1 b2 b3 b4 b5 b6 b7
    clear c0 c1 c2 c3 c4 c5 c6 c7 c8 f0 f1 f2 f3 f4 f8
    obtain ⟨⟨b0, b1, b2, b3, b4, b5, b6, b7⟩, _⟩ := cells8 (HW.out.heap 0 rfl)
    obtain ⟨Tz, hz⟩ := HW.out.get 1 rfl
    obtain ⟨A, ca, ⟨c0, c1, c2, c3, c4, c5, c6, c7, c8⟩, f0, f1, f2, f3, f4, f8⟩ := entAt.cells (Went.refl hz)
    clear hz
    go_wp2_with fail
    refine (HW.out.call_at 1 rfl (fun T1 h1 => start203C b mb fb (stop200 ({ { e with fl := { (e).fl with peer := false } } with fl := ackF ({ (e).fl with peer := false } : F) nr }))  (Nat.le_trans (len_stop200 (hl)) (by omega)) T1 _ _ (Went.refl h1))).mono ?_
    rintro r w4 ⟨rfl, hw⟩
    have HW : Aside0 (Went (all [blk g (.cells #[.int .i64 0, .int .i64 t, .bool false, .int .i64 1, .bool true, .int .i64 ns, .int .i64 nr, .string s] 144 (0, 0)), entAt b mb fb (start203 (stop200 ({ { e with fl := { (e).fl with peer := false } } with fl := ackF ({ (e).fl with peer := false } : F) nr })))]) T w0 w4) := ⟨hw⟩
    clear hw
    clear b0 b1 b2 b3 b4 b5 b6 b7
    clear c0 c1 c2 c3 c4 c5 c6 c7 c8 f0 f1 f2 f3 f4 f8
    obtain ⟨⟨b0, b1, b2, b3, b4, b5, b6, b7⟩, _⟩ := cells8 (HW.out.heap 0 rfl)
    obtain ⟨Tz, hz⟩ := HW.out.get 1 rfl
    obtain ⟨A, ca, ⟨c0, c1, c2, c3, c4, c5, c6, c7, c8⟩, f0, f1, f2, f3, f4, f8⟩ := entAt.cells (Went.refl hz)
    clear hz
    have hst : (start203 (stop200 ({ { e with fl := { (e).fl with peer := false } } with fl := ackF ({ (e).fl with peer := false } : F) nr }))).state = 8 := ((same_stop200 _).trans (same_start203 _)).state.trans HS.out
    rw [hst] at c1
    clear hst
    have hfl : (start203 (stop200 ({ { e with fl := { (e).fl with peer := false } } with fl := ackF ({ (e).fl with peer := false } : F) nr }))).fl = ackF ({ (e).fl with peer := false } : F) nr := ((same_stop200 _).trans (same_start203 _)).fl
    have HFL := Aside0.mk hfl
    clear hfl
    go_wp2_with fail
    refine (HW.out.call_at 1 rfl (fun T1 h1 => entAt.flow (Went.refl h1) (fun T2 h2 => Fl.backC fb _ T2 _ h2))).mono ?_
    rintro r w5 ⟨rfl, hy⟩
    have hy2 : Went (all [blk g (.cells #[.int .i64 0, .int .i64 t, .bool false, .int .i64 1, .bool true, .int .i64 ns, .int .i64 nr, .string s] 144 (0, 0)), entAt b mb fb ({ start203 (stop200 ({ { e with fl := { (e).fl with peer := false } } with fl := ackF ({ (e).fl with peer := false } : F) nr })) with fl := backF (start203 (stop200 ({ { e with fl := { (e).fl with peer := false } } with fl := ackF ({ (e).fl with peer := false } : F) nr }))).fl })]) T w0 w5 := hy
    rw [HFL.out] at hy2
    have HW : Aside0 (Went (all [blk g (.cells #[.int .i64 0, .int .i64 t, .bool false, .int .i64 1, .bool true, .int .i64 ns, .int .i64 nr, .string s] 144 (0, 0)), entAt b mb fb ({ start203 (stop200 ({ { e with fl := { (e).fl with peer := false } } with fl := ackF ({ (e).fl with peer := false } : F) nr })) with fl := backF (ackF ({ (e).fl with peer := false } : F) nr) })]) T w0 w5) := ⟨hy2⟩
    clear hy hy2 HFL
    clear b0 b1 b2 b3 b4 b5 b6 b7
    clear c0 c1 c2 c3 c4 c5 c6 c7 c8 f0 f1 f2 f3 f4 f8
    obtain ⟨⟨b0, b1, b2, b3, b4, b5, b6, b7⟩, _⟩ := cells8 (HW.out.heap 0 rfl)
    obtain ⟨Tz, hz⟩ := HW.out.get 1 rfl
    obtain ⟨A, ca, ⟨c0, c1, c2, c3, c4, c5, c6, c7, c8⟩, f0, f1, f2, f3, f4, f8⟩ := entAt.cells (Went.refl hz)
    clear hz
    go_wp2_with fail
    refine ((HW.out.at_ 1 rfl (fun T1 h1 => (entAt.setState (Went.refl h1) 7 (by decide)))).call_at 1 rfl (fun T1 h1 => goOnC b mb fb ({ { start203 (stop200 ({ { e with fl := { (e).fl with peer := false } } with fl := ackF ({ (e).fl with peer := false } : F) nr })) with fl := backF (ackF ({ (e).fl with peer := false } : F) nr) } with state := 7 }) (by have h9 : ({ { start203 (stop200 ({ { e with fl := { (e).fl with peer := false } } with fl := ackF ({ (e).fl with peer := false } : F) nr })) with fl := backF (ackF ({ (e).fl with peer := false } : F) nr) } with state := 7 }).out.length ≤ 7000 + 2 := len_start203 (len_stop200 (hl)); exact Nat.le_trans h9 (by omega)) T1 _ _ (Went.refl h1))).mono ?_
    rintro r w6 ⟨rfl, hw⟩
    have HW : Aside0 (Went (all [blk g (.cells #[.int .i64 0, .int .i64 t, .bool false, .int .i64 1, .bool true, .int .i64 ns, .int .i64 nr, .string s] 144 (0, 0)), entAt b mb fb (goOn ({ { start203 (stop200 ({ { e with fl := { (e).fl with peer := false } } with fl := ackF ({ (e).fl with peer := false } : F) nr })) with fl := backF (ackF ({ (e).fl with peer := false } : F) nr) } with state := 7 }))]) T w0 w6) := ⟨hw⟩
    clear hw
    clear b0 b1 b2 b3 b4 b5 b6 b7
    clear c0 c1 c2 c3 c4 c5 c6 c7 c8 f0 f1 f2 f3 f4 f8
    obtain ⟨⟨b0, b1, b2, b3, b4, b5, b6, b7⟩, _⟩ := cells8 (HW.out.heap 0 rfl)
    obtain ⟨Tz, hz⟩ := HW.out.get 1 rfl
    obtain ⟨A, ca, ⟨c0, c1, c2, c3, c4, c5, c6, c7, c8⟩, f0, f1, f2, f3, f4, f8⟩ := entAt.cells (Went.refl hz)
    clear hz
    go_wp2
    go_end0
    exact ⟨rfl, Went.only (HW.out).drop⟩
theorem sup55 (b mb fb : Nat) (e : E) (t ns nr : Int) (s : ByteArray) (hl : e.out.length ≤ 7000) (hs : e.state = 8) (ha : ackOk e.fl nr) (T : Nat → Prop) (w0 w : World) (h : Went (entAt b mb fb e) T w0 w) :
    Calls Tryz.prog 131 #[.pointer (some ⟨b, 0, none⟩), .agg (frCells (⟨t, false, 2, true, ns, nr, s⟩ : Fr))] w fun r w' => r = .returned (.tuple #[]) ∧ Went (entAt b mb fb (supervised e (⟨t, false, 2, true, ns, nr, s⟩ : Fr))) T w0 w' := by
  have HOK := Aside0.mk (entAt.ok h)
  obtain ⟨A, ca, ⟨c0, c1, c2, c3, c4, c5, c6, c7, c8⟩, f0, f1, f2, f3, f4, f8⟩ := entAt.cells h
  have HW := Aside0.mk h
  clear h
  have hE1 : supervised1 e (⟨t, false, 2, true, ns, nr, s⟩ : Fr) = e := by simp [supervised1, final, hs]
  have hE2 : supervised e (⟨t, false, 2, true, ns, nr, s⟩ : Fr) = supervised3 { e with fl := ({ (e).fl with peer := true } : F) } (⟨t, false, 2, true, ns, nr, s⟩ : Fr) := by unfold supervised; rw [hE1]; rfl
  have hS2 : supervised2 ({ { e with fl := ({ (e).fl with peer := true } : F) } with fl := ackF ({ (e).fl with peer := true } : F) nr }) (⟨t, false, 2, true, ns, nr, s⟩ : Fr) = start200 ({ { e with fl := ({ (e).fl with peer := true } : F) } with fl := ackF ({ (e).fl with peer := true } : F) nr }) := (if_neg (show ¬ (2 : Int) ≠ 2 by decide)).trans (congrArg start200 (if_neg (fun h => by have h1 : (8 : Int) = 7 := hs.symm.trans h; omega)))
  have hE3 : supervised3 { e with fl := ({ (e).fl with peer := true } : F) } (⟨t, false, 2, true, ns, nr, s⟩ : Fr) = goOn { { start200 ({ { e with fl := ({ (e).fl with peer := true } : F) } with fl := ackF ({ (e).fl with peer := true } : F) nr }) with fl := backF (ackF ({ (e).fl with peer := true } : F) nr) } with state := 7 } := (if_pos ha).trans ((if_neg (fun h => by have h1 : final (⟨t, false, 2, true, ns, nr, s⟩ : Fr) = false := h.2; cases h1)).trans ((if_neg (fun h => by have h1 : (8 : Int) = 7 := hs.symm.trans h.1; omega)).trans ((if_pos (Or.inl hs)).trans (by rw [hS2]))))
  rw [hE2, hE3]
  clear hE1 hE2 hE3 hS2
  have HK : Aside0 (∀ T1 wz, (flAt fb ({ (e).fl with peer := true } : F)).h T1 wz → Calls Tryz.prog 157 #[.pointer (some ⟨fb, 0, none⟩), .int .i64 nr] wz fun r w2 => r = .returned (.tuple #[.int .i64 (ackN ({ (e).fl with peer := true } : F) nr : Int), .int .i64 0]) ∧ Went (flAt fb (ackF ({ (e).fl with peer := true } : F) nr)) T1 wz w2) := ⟨fun T1 wz hz => by
    have h0 := Fl.ackC fb ({ (e).fl with peer := true } : F) nr T1 wz hz
    rw [if_pos (show ackOk ({ (e).fl with peer := true } : F) nr from ha), if_pos (show ackOk ({ (e).fl with peer := true } : F) nr from ha)] at h0
    exact h0⟩
  have HS := Aside0.mk hs
  rw [hs] at c1
  clear ha hs
  have hbx := heap_alloc_new w (.cells #[.int .i64 0, .int .i64 t, .bool false, .int .i64 2, .bool true, .int .i64 ns, .int .i64 nr, .string s] 144 (0, 0))
  have hw := (Went.single HW.out).new (.cells #[.int .i64 0, .int .i64 t, .bool false, .int .i64 2, .bool true, .int .i64 ns, .int .i64 nr, .string s] 144 (0, 0))
  obtain ⟨g, HG⟩ : ∃ g, Aside0 (w.heap.size = g) := ⟨_, ⟨rfl⟩⟩
  rw [HG.out] at hw hbx
  clear HW
  have HW : Aside0 (Went (all [blk g (.cells #[.int .i64 0, .int .i64 t, .bool false, .int .i64 2, .bool true, .int .i64 ns, .int .i64 nr, .string s] 144 (0, 0)), entAt b mb fb (e)]) T w0 (w.alloc (.cells #[.int .i64 0, .int .i64 t, .bool false, .int .i64 2, .bool true, .int .i64 ns, .int .i64 nr, .string s] 144 (0, 0)))) := ⟨hw⟩
  clear hw
  obtain ⟨⟨b0, b1, b2, b3, b4, b5, b6, b7⟩, _⟩ := cells8 hbx
  clear hbx
  clear b0 b1 b2 b3 b4 b5 b6 b7
  clear c0 c1 c2 c3 c4 c5 c6 c7 c8 f0 f1 f2 f3 f4 f8
  obtain ⟨⟨b0, b1, b2, b3, b4, b5, b6, b7⟩, _⟩ := cells8 (HW.out.heap 0 rfl)
  obtain ⟨Tz, hz⟩ := HW.out.get 1 rfl
  obtain ⟨A, ca, ⟨c0, c1, c2, c3, c4, c5, c6, c7, c8⟩, f0, f1, f2, f3, f4, f8⟩ := entAt.cells (Went.refl hz)
  clear hz
  rw [HS.out] at c1
  have hg := HG.out
  unfold frCells
  go_enter Tryz.func131, Tryz.ntmps131
  go_wp2_with fail
  generalize w.alloc (.cells #[.int .i64 0, .int .i64 t, .bool false, .int .i64 2, .bool true, .int .i64 ns, .int .i64 nr, .string s] 144 (0, 0)) = wx at *
  go_still_tail 7, (by kernel_rfl)
  change wpList _ _ _ _ _ (World.drew _)
  have HW := Aside0.mk HW.out.drew
  go_wp2_with fail
  refine (HW.out.call_at 1 rfl (fun T1 h1 => entAt.flow (Went.refl h1) (fun T2 h2 => Fl.setPeerC fb _ true T2 _ h2))).mono ?_
  rintro r w1 ⟨rfl, hw⟩
  have HW : Aside0 (Went (all [blk g (.cells #[.int .i64 0, .int .i64 t, .bool false, .int .i64 2, .bool true, .int .i64 ns, .int .i64 nr, .string s] 144 (0, 0)), entAt b mb fb ({ e with fl := { (e).fl with peer := true } })]) T w0 w1) := ⟨hw⟩
  clear hw
  clear b0 b1 b2 b3 b4 b5 b6 b7
  clear c0 c1 c2 c3 c4 c5 c6 c7 c8 f0 f1 f2 f3 f4 f8
  obtain ⟨⟨b0, b1, b2, b3, b4, b5, b6, b7⟩, _⟩ := cells8 (HW.out.heap 0 rfl)
  obtain ⟨Tz, hz⟩ := HW.out.get 1 rfl
  obtain ⟨A, ca, ⟨c0, c1, c2, c3, c4, c5, c6, c7, c8⟩, f0, f1, f2, f3, f4, f8⟩ := entAt.cells (Went.refl hz)
  clear hz
  go_wp2_with fail
  have HW := Aside0.mk HW.out.drew
  go_region_law (go_simp; go_at_call 157; refine (HW.out.call_at 1 rfl (fun T1 h1 => entAt.flow (Went.refl h1) (fun T2 h2 => HK.out T2 _ h2))).mono ?_; rintro r w2 ⟨rfl, hw⟩)
  all_goals
    have HW : Aside0 (Went (all [blk g (.cells #[.int .i64 0, .int .i64 t, .bool false, .int .i64 2, .bool true, .int .i64 ns, .int .i64 nr, .string s] 144 (0, 0)), entAt b mb fb ({ { e with fl := { (e).fl with peer := true } } with fl := ackF ({ (e).fl with peer := true } : F) nr })]) T w0 w2) := ⟨hw⟩
    clear hw
    clear b0 b1 b2 b3 b4 b5 b6 b7
    clear c0 c1 c2 c3 c4 c5 c6 c7 c8 f0 f1 f2 f3 f4 f8
    obtain ⟨⟨b0, b1, b2, b3, b4, b5, b6, b7⟩, _⟩ := cells8 (HW.out.heap 0 rfl)
    obtain ⟨Tz, hz⟩ := HW.out.get 1 rfl
    obtain ⟨A, ca, ⟨c0, c1, c2, c3, c4, c5, c6, c7, c8⟩, f0, f1, f2, f3, f4, f8⟩ := entAt.cells (Went.refl hz)
    clear hz
    have hst : ({ { e with fl := { (e).fl with peer := true } } with fl := ackF ({ (e).fl with peer := true } : F) nr }).state = 8 := HS.out
    rw [hst] at c1
    clear hst
    go_wp2_with fail
    refine (HW.out.call_at 1 rfl (fun T1 h1 => start200C b mb fb ({ { e with fl := { (e).fl with peer := true } } with fl := ackF ({ (e).fl with peer := true } : F) nr })  (Nat.le_trans hl (by omega)) T1 _ _ (Went.refl h1))).mono ?_
    rintro r w3 ⟨rfl, hw⟩
    have HW : Aside0 (Went (all [blk g (.cells #[.int .i64 0, .int .i64 t, .bool false, .int .i64 2, .bool true, .int .i64 ns, .int .i64 nr, .string s] 144 (0, 0)), entAt b mb fb (start200 ({ { e with fl := { (e).fl with peer := true } } with fl := ackF ({ (e).fl with peer := true } : F) nr }))]) T w0 w3) := ⟨hw⟩
    clear hw
    clear b0 b1 b2 b3 b4 b5 b6 b7
    clear c0 c1 c2 c3 c4 c5 c6 c7 c8 f0 f1 f2 f3 f4 f8
    obtain ⟨⟨b0, b1, b2, b3, b4, b5, b6, b7⟩, _⟩ := cells8 (HW.out.heap 0 rfl)
    obtain ⟨Tz, hz⟩ := HW.out.get 1 rfl
    obtain ⟨A, ca, ⟨c0, c1, c2, c3, c4, c5, c6, c7, c8⟩, f0, f1, f2, f3, f4, f8⟩ := entAt.cells (Went.refl hz)
    clear hz
    have hst : (start200 ({ { e with fl := { (e).fl with peer := true } } with fl := ackF ({ (e).fl with peer := true } : F) nr })).state = 8 := (same_start200 _).state.trans HS.out
    rw [hst] at c1
    clear hst
    have hfl : (start200 ({ { e with fl := { (e).fl with peer := true } } with fl := ackF ({ (e).fl with peer := true } : F) nr })).fl = ackF ({ (e).fl with peer := true } : F) nr := (same_start200 _).fl
    have HFL := Aside0.mk hfl
    clear hfl
    go_wp2_with fail
    refine (HW.out.call_at 1 rfl (fun T1 h1 => entAt.flow (Went.refl h1) (fun T2 h2 => Fl.backC fb _ T2 _ h2))).mono ?_
    rintro r w4 ⟨rfl, hy⟩
    have hy2 : Went (all [blk g (.cells #[.int .i64 0, .int .i64 t, .bool false, .int .i64 2, .bool true, .int .i64 ns, .int .i64 nr, .string s] 144 (0, 0)), entAt b mb fb ({ start200 ({ { e with fl := { (e).fl with peer := true } } with fl := ackF ({ (e).fl with peer := true } : F) nr }) with fl := backF (start200 ({ { e with fl := { (e).fl with peer := true } } with fl := ackF ({ (e).fl with peer := true } : F) nr })).fl })]) T w0 w4 := hy
    rw [HFL.out] at hy2
    have HW : Aside0 (Went (all [blk g (.cells #[.int .i64 0, .int .i64 t, .bool false, .int .i64 2, .bool true, .int .i64 ns, .int .i64 nr, .string s] 144 (0, 0)), entAt b mb fb ({ start200 ({ { e with fl := { (e).fl with peer := true } } with fl := ackF ({ (e).fl with peer := true } : F) nr }) with fl := backF (ackF ({ (e).fl with peer := true } : F) nr) })]) T w0 w4) := ⟨hy2⟩
    clear hy hy2 HFL
    clear b0 b1 b2 b3 b4 b5 b6 b7
    clear c0 c1 c2 c3 c4 c5 c6 c7 c8 f0 f1 f2 f3 f4 f8
    obtain ⟨⟨b0, b1, b2, b3, b4, b5, b6, b7⟩, _⟩ := cells8 (HW.out.heap 0 rfl)
    obtain ⟨Tz, hz⟩ := HW.out.get 1 rfl
    obtain ⟨A, ca, ⟨c0, c1, c2, c3, c4, c5, c6, c7, c8⟩, f0, f1, f2, f3, f4, f8⟩ := entAt.cells (Went.refl hz)
    clear hz
    go_wp2_with fail
    refine ((HW.out.at_ 1 rfl (fun T1 h1 => (entAt.setState (Went.refl h1) 7 (by decide)))).call_at 1 rfl (fun T1 h1 => goOnC b mb fb ({ { start200 ({ { e with fl := { (e).fl with peer := true } } with fl := ackF ({ (e).fl with peer := true } : F) nr }) with fl := backF (ackF ({ (e).fl with peer := true } : F) nr) } with state := 7 }) (by have h9 : ({ { start200 ({ { e with fl := { (e).fl with peer := true } } with fl := ackF ({ (e).fl with peer := true } : F) nr }) with fl := backF (ackF ({ (e).fl with peer := true } : F) nr) } with state := 7 }).out.length ≤ 7000 + 1 := len_start200 (hl); exact Nat.le_trans h9 (by omega)) T1 _ _ (Went.refl h1))).mono ?_
    rintro r w5 ⟨rfl, hw⟩
    have HW : Aside0 (Went (all [blk g (.cells #[.int .i64 0, .int .i64 t, .bool false, .int .i64 2, .bool true, .int .i64 ns, .int .i64 nr, .string s] 144 (0, 0)), entAt b mb fb (goOn ({ { start200 ({ { e with fl := { (e).fl with peer := true } } with fl := ackF ({ (e).fl with peer := true } : F) nr }) with fl := backF (ackF ({ (e).fl with peer := true } : F) nr) } with state := 7 }))]) T w0 w5) := ⟨hw⟩
    clear hw
    clear b0 b1 b2 b3 b4 b5 b6 b7
    clear c0 c1 c2 c3 c4 c5 c6 c7 c8 f0 f1 f2 f3 f4 f8
    obtain ⟨⟨b0, b1, b2, b3, b4, b5, b6, b7⟩, _⟩ := cells8 (HW.out.heap 0 rfl)
    obtain ⟨Tz, hz⟩ := HW.out.get 1 rfl
    obtain ⟨A, ca, ⟨c0, c1, c2, c3, c4, c5, c6, c7, c8⟩, f0, f1, f2, f3, f4, f8⟩ := entAt.cells (Went.refl hz)
    clear hz
    go_wp2
    go_end0
    exact ⟨rfl, Went.only (HW.out).drop⟩
theorem sup56 (b mb fb : Nat) (e : E) (t ns nr : Int) (s : ByteArray) (hl : e.out.length ≤ 7000) (hs : e.state = 8) (ha : ackOk e.fl nr) (T : Nat → Prop) (w0 w : World) (h : Went (entAt b mb fb e) T w0 w) :
    Calls Tryz.prog 131 #[.pointer (some ⟨b, 0, none⟩), .agg (frCells (⟨t, false, 3, true, ns, nr, s⟩ : Fr))] w fun r w' => r = .returned (.tuple #[]) ∧ Went (entAt b mb fb (supervised e (⟨t, false, 3, true, ns, nr, s⟩ : Fr))) T w0 w' := by
  have HOK := Aside0.mk (entAt.ok h)
  obtain ⟨A, ca, ⟨c0, c1, c2, c3, c4, c5, c6, c7, c8⟩, f0, f1, f2, f3, f4, f8⟩ := entAt.cells h
  have HW := Aside0.mk h
  clear h
  have hE1 : supervised1 e (⟨t, false, 3, true, ns, nr, s⟩ : Fr) = e := by simp [supervised1, final, hs]
  have hE2 : supervised e (⟨t, false, 3, true, ns, nr, s⟩ : Fr) = supervised3 { e with fl := ({ (e).fl with peer := false } : F) } (⟨t, false, 3, true, ns, nr, s⟩ : Fr) := by unfold supervised; rw [hE1]; rfl
  have hS2 : supervised2 ({ { e with fl := ({ (e).fl with peer := false } : F) } with fl := ackF ({ (e).fl with peer := false } : F) nr }) (⟨t, false, 3, true, ns, nr, s⟩ : Fr) = start203 (stop200 ({ { e with fl := ({ (e).fl with peer := false } : F) } with fl := ackF ({ (e).fl with peer := false } : F) nr })) := if_pos (show (3 : Int) ≠ 2 by decide)
  have hE3 : supervised3 { e with fl := ({ (e).fl with peer := false } : F) } (⟨t, false, 3, true, ns, nr, s⟩ : Fr) = goOn { { start203 (stop200 ({ { e with fl := ({ (e).fl with peer := false } : F) } with fl := ackF ({ (e).fl with peer := false } : F) nr })) with fl := backF (ackF ({ (e).fl with peer := false } : F) nr) } with state := 7 } := (if_pos ha).trans ((if_neg (fun h => by have h1 : final (⟨t, false, 3, true, ns, nr, s⟩ : Fr) = false := h.2; cases h1)).trans ((if_neg (fun h => by have h1 : (8 : Int) = 7 := hs.symm.trans h.1; omega)).trans ((if_pos (Or.inl hs)).trans (by rw [hS2]))))
  rw [hE2, hE3]
  clear hE1 hE2 hE3 hS2
  have HK : Aside0 (∀ T1 wz, (flAt fb ({ (e).fl with peer := false } : F)).h T1 wz → Calls Tryz.prog 157 #[.pointer (some ⟨fb, 0, none⟩), .int .i64 nr] wz fun r w2 => r = .returned (.tuple #[.int .i64 (ackN ({ (e).fl with peer := false } : F) nr : Int), .int .i64 0]) ∧ Went (flAt fb (ackF ({ (e).fl with peer := false } : F) nr)) T1 wz w2) := ⟨fun T1 wz hz => by
    have h0 := Fl.ackC fb ({ (e).fl with peer := false } : F) nr T1 wz hz
    rw [if_pos (show ackOk ({ (e).fl with peer := false } : F) nr from ha), if_pos (show ackOk ({ (e).fl with peer := false } : F) nr from ha)] at h0
    exact h0⟩
  have HS := Aside0.mk hs
  rw [hs] at c1
  clear ha hs
  have hbx := heap_alloc_new w (.cells #[.int .i64 0, .int .i64 t, .bool false, .int .i64 3, .bool true, .int .i64 ns, .int .i64 nr, .string s] 144 (0, 0))
  have hw := (Went.single HW.out).new (.cells #[.int .i64 0, .int .i64 t, .bool false, .int .i64 3, .bool true, .int .i64 ns, .int .i64 nr, .string s] 144 (0, 0))
  obtain ⟨g, HG⟩ : ∃ g, Aside0 (w.heap.size = g) := ⟨_, ⟨rfl⟩⟩
  rw [HG.out] at hw hbx
  clear HW
  have HW : Aside0 (Went (all [blk g (.cells #[.int .i64 0, .int .i64 t, .bool false, .int .i64 3, .bool true, .int .i64 ns, .int .i64 nr, .string s] 144 (0, 0)), entAt b mb fb (e)]) T w0 (w.alloc (.cells #[.int .i64 0, .int .i64 t, .bool false, .int .i64 3, .bool true, .int .i64 ns, .int .i64 nr, .string s] 144 (0, 0)))) := ⟨hw⟩
  clear hw
  obtain ⟨⟨b0, b1, b2, b3, b4, b5, b6, b7⟩, _⟩ := cells8 hbx
  clear hbx
  clear b0 b1 b2 b3 b4 b5 b6 b7
  clear c0 c1 c2 c3 c4 c5 c6 c7 c8 f0 f1 f2 f3 f4 f8
  obtain ⟨⟨b0, b1, b2, b3, b4, b5, b6, b7⟩, _⟩ := cells8 (HW.out.heap 0 rfl)
  obtain ⟨Tz, hz⟩ := HW.out.get 1 rfl
  obtain ⟨A, ca, ⟨c0, c1, c2, c3, c4, c5, c6, c7, c8⟩, f0, f1, f2, f3, f4, f8⟩ := entAt.cells (Went.refl hz)
  clear hz
  rw [HS.out] at c1
  have hg := HG.out
  unfold frCells
  go_enter Tryz.func131, Tryz.ntmps131
  go_wp2_with fail
  generalize w.alloc (.cells #[.int .i64 0, .int .i64 t, .bool false, .int .i64 3, .bool true, .int .i64 ns, .int .i64 nr, .string s] 144 (0, 0)) = wx at *
  go_still_tail 7, (by kernel_rfl)
  change wpList _ _ _ _ _ (World.drew _)
  have HW := Aside0.mk HW.out.drew
  go_wp2_with fail
  refine (HW.out.call_at 1 rfl (fun T1 h1 => entAt.flow (Went.refl h1) (fun T2 h2 => Fl.setPeerC fb _ false T2 _ h2))).mono ?_
  rintro r w1 ⟨rfl, hw⟩
  have HW : Aside0 (Went (all [blk g (.cells #[.int .i64 0, .int .i64 t, .bool false, .int .i64 3, .bool true, .int .i64 ns, .int .i64 nr, .string s] 144 (0, 0)), entAt b mb fb ({ e with fl := { (e).fl with peer := false } })]) T w0 w1) := ⟨hw⟩
  clear hw
  clear b0 b1 b2 b3 b4 b5 b6 b7
  clear c0 c1 c2 c3 c4 c5 c6 c7 c8 f0 f1 f2 f3 f4 f8
  obtain ⟨⟨b0, b1, b2, b3, b4, b5, b6, b7⟩, _⟩ := cells8 (HW.out.heap 0 rfl)
  obtain ⟨Tz, hz⟩ := HW.out.get 1 rfl
  obtain ⟨A, ca, ⟨c0, c1, c2, c3, c4, c5, c6, c7, c8⟩, f0, f1, f2, f3, f4, f8⟩ := entAt.cells (Went.refl hz)
  clear hz
  go_wp2_with fail
  have HW := Aside0.mk HW.out.drew
  go_region_law (go_simp; go_at_call 157; refine (HW.out.call_at 1 rfl (fun T1 h1 => entAt.flow (Went.refl h1) (fun T2 h2 => HK.out T2 _ h2))).mono ?_; rintro r w2 ⟨rfl, hw⟩)
  all_goals
    have HW : Aside0 (Went (all [blk g (.cells #[.int .i64 0, .int .i64 t, .bool false, .int .i64 3, .bool true, .int .i64 ns, .int .i64 nr, .string s] 144 (0, 0)), entAt b mb fb ({ { e with fl := { (e).fl with peer := false } } with fl := ackF ({ (e).fl with peer := false } : F) nr })]) T w0 w2) := ⟨hw⟩
    clear hw
    clear b0 b1 b2 b3 b4 b5 b6 b7
    clear c0 c1 c2 c3 c4 c5 c6 c7 c8 f0 f1 f2 f3 f4 f8
    obtain ⟨⟨b0, b1, b2, b3, b4, b5, b6, b7⟩, _⟩ := cells8 (HW.out.heap 0 rfl)
    obtain ⟨Tz, hz⟩ := HW.out.get 1 rfl
    obtain ⟨A, ca, ⟨c0, c1, c2, c3, c4, c5, c6, c7, c8⟩, f0, f1, f2, f3, f4, f8⟩ := entAt.cells (Went.refl hz)
    clear hz
    have hst : ({ { e with fl := { (e).fl with peer := false } } with fl := ackF ({ (e).fl with peer := false } : F) nr }).state = 8 := HS.out
    rw [hst] at c1
    clear hst
    go_wp2_with fail
    refine (HW.out.call_at 1 rfl (fun T1 h1 => stop200C b mb fb ({ { e with fl := { (e).fl with peer := false } } with fl := ackF ({ (e).fl with peer := false } : F) nr })  (Nat.le_trans hl (by omega)) T1 _ _ (Went.refl h1))).mono ?_
    rintro r w3 ⟨rfl, hw⟩
    have HW : Aside0 (Went (all [blk g (.cells #[.int .i64 0, .int .i64 t, .bool false, .int .i64 3, .bool true, .int .i64 ns, .int .i64 nr, .string s] 144 (0, 0)), entAt b mb fb (stop200 ({ { e with fl := { (e).fl with peer := false } } with fl := ackF ({ (e).fl with peer := false } : F) nr }))]) T w0 w3) := ⟨hw⟩
    clear hw
    clear b0 b1 b2 b3 b4 b5 b6 b7
    clear c0 c1 c2 c3 c4 c5 c6 c7 c8 f0 f1 f2 f3 f4 f8
    obtain ⟨⟨b0, b1, b2, b3, b4, b5, b6, b7⟩, _⟩ := cells8 (HW.out.heap 0 rfl)
    obtain ⟨Tz, hz⟩ := HW.out.get 1 rfl
    obtain ⟨A, ca, ⟨c0, c1, c2, c3, c4, c5, c6, c7, c8⟩, f0, f1, f2, f3, f4, f8⟩ := entAt.cells (Went.refl hz)
    clear hz
    go_wp2_with fail
    refine (HW.out.call_at 1 rfl (fun T1 h1 => start203C b mb fb (stop200 ({ { e with fl := { (e).fl with peer := false } } with fl := ackF ({ (e).fl with peer := false } : F) nr }))  (Nat.le_trans (len_stop200 (hl)) (by omega)) T1 _ _ (Went.refl h1))).mono ?_
    rintro r w4 ⟨rfl, hw⟩
    have HW : Aside0 (Went (all [blk g (.cells #[.int .i64 0, .int .i64 t, .bool false, .int .i64 3, .bool true, .int .i64 ns, .int .i64 nr, .string s] 144 (0, 0)), entAt b mb fb (start203 (stop200 ({ { e with fl := { (e).fl with peer := false } } with fl := ackF ({ (e).fl with peer := false } : F) nr })))]) T w0 w4) := ⟨hw⟩
    clear hw
    clear b0 b1 b2 b3 b4 b5 b6 b7
    clear c0 c1 c2 c3 c4 c5 c6 c7 c8 f0 f1 f2 f3 f4 f8
    obtain ⟨⟨b0, b1, b2, b3, b4, b5, b6, b7⟩, _⟩ := cells8 (HW.out.heap 0 rfl)
    obtain ⟨Tz, hz⟩ := HW.out.get 1 rfl
    obtain ⟨A, ca, ⟨c0, c1, c2, c3, c4, c5, c6, c7, c8⟩, f0, f1, f2, f3, f4, f8⟩ := entAt.cells (Went.refl hz)
    clear hz
    have hst : (start203 (stop200 ({ { e with fl := { (e).fl with peer := false } } with fl := ackF ({ (e).fl with peer := false } : F) nr }))).state = 8 := ((same_stop200 _).trans (same_start203 _)).state.trans HS.out
    rw [hst] at c1
    clear hst
    have hfl : (start203 (stop200 ({ { e with fl := { (e).fl with peer := false } } with fl := ackF ({ (e).fl with peer := false } : F) nr }))).fl = ackF ({ (e).fl with peer := false } : F) nr := ((same_stop200 _).trans (same_start203 _)).fl
    have HFL := Aside0.mk hfl
    clear hfl
    go_wp2_with fail
    refine (HW.out.call_at 1 rfl (fun T1 h1 => entAt.flow (Went.refl h1) (fun T2 h2 => Fl.backC fb _ T2 _ h2))).mono ?_
    rintro r w5 ⟨rfl, hy⟩
    have hy2 : Went (all [blk g (.cells #[.int .i64 0, .int .i64 t, .bool false, .int .i64 3, .bool true, .int .i64 ns, .int .i64 nr, .string s] 144 (0, 0)), entAt b mb fb ({ start203 (stop200 ({ { e with fl := { (e).fl with peer := false } } with fl := ackF ({ (e).fl with peer := false } : F) nr })) with fl := backF (start203 (stop200 ({ { e with fl := { (e).fl with peer := false } } with fl := ackF ({ (e).fl with peer := false } : F) nr }))).fl })]) T w0 w5 := hy
    rw [HFL.out] at hy2
    have HW : Aside0 (Went (all [blk g (.cells #[.int .i64 0, .int .i64 t, .bool false, .int .i64 3, .bool true, .int .i64 ns, .int .i64 nr, .string s] 144 (0, 0)), entAt b mb fb ({ start203 (stop200 ({ { e with fl := { (e).fl with peer := false } } with fl := ackF ({ (e).fl with peer := false } : F) nr })) with fl := backF (ackF ({ (e).fl with peer := false } : F) nr) })]) T w0 w5) := ⟨hy2⟩
    clear hy hy2 HFL
    clear b0 b1 b2 b3 b4 b5 b6 b7
    clear c0 c1 c2 c3 c4 c5 c6 c7 c8 f0 f1 f2 f3 f4 f8
    obtain ⟨⟨b0, b1, b2, b3, b4, b5, b6, b7⟩, _⟩ := cells8 (HW.out.heap 0 rfl)
    obtain ⟨Tz, hz⟩ := HW.out.get 1 rfl
    obtain ⟨A, ca, ⟨c0, c1, c2, c3, c4, c5, c6, c7, c8⟩, f0, f1, f2, f3, f4, f8⟩ := entAt.cells (Went.refl hz)
    clear hz
    go_wp2_with fail
    refine ((HW.out.at_ 1 rfl (fun T1 h1 => (entAt.setState (Went.refl h1) 7 (by decide)))).call_at 1 rfl (fun T1 h1 => goOnC b mb fb ({ { start203 (stop200 ({ { e with fl := { (e).fl with peer := false } } with fl := ackF ({ (e).fl with peer := false } : F) nr })) with fl := backF (ackF ({ (e).fl with peer := false } : F) nr) } with state := 7 }) (by have h9 : ({ { start203 (stop200 ({ { e with fl := { (e).fl with peer := false } } with fl := ackF ({ (e).fl with peer := false } : F) nr })) with fl := backF (ackF ({ (e).fl with peer := false } : F) nr) } with state := 7 }).out.length ≤ 7000 + 2 := len_start203 (len_stop200 (hl)); exact Nat.le_trans h9 (by omega)) T1 _ _ (Went.refl h1))).mono ?_
    rintro r w6 ⟨rfl, hw⟩
    have HW : Aside0 (Went (all [blk g (.cells #[.int .i64 0, .int .i64 t, .bool false, .int .i64 3, .bool true, .int .i64 ns, .int .i64 nr, .string s] 144 (0, 0)), entAt b mb fb (goOn ({ { start203 (stop200 ({ { e with fl := { (e).fl with peer := false } } with fl := ackF ({ (e).fl with peer := false } : F) nr })) with fl := backF (ackF ({ (e).fl with peer := false } : F) nr) } with state := 7 }))]) T w0 w6) := ⟨hw⟩
    clear hw
    clear b0 b1 b2 b3 b4 b5 b6 b7
    clear c0 c1 c2 c3 c4 c5 c6 c7 c8 f0 f1 f2 f3 f4 f8
    obtain ⟨⟨b0, b1, b2, b3, b4, b5, b6, b7⟩, _⟩ := cells8 (HW.out.heap 0 rfl)
    obtain ⟨Tz, hz⟩ := HW.out.get 1 rfl
    obtain ⟨A, ca, ⟨c0, c1, c2, c3, c4, c5, c6, c7, c8⟩, f0, f1, f2, f3, f4, f8⟩ := entAt.cells (Went.refl hz)
    clear hz
    go_wp2
    go_end0
    exact ⟨rfl, Went.only (HW.out).drop⟩
end Go.Proofs.YtljnfbpplhnmfaaGreatDoor.En
