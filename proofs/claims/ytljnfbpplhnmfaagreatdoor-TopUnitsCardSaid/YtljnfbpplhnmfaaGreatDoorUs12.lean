/- Package entity by its own text: info. Conditions: sizes. -/
import Derived.Deep.LoopGhost
import Derived.StillTailTactics
import Derived.Test.YtljnfbpplhnmfaaGreatDoorUs04
import Derived.Test.YtljnfbpplhnmfaaGreatDoorUs07
import Derived.Test.YtljnfbpplhnmfaaGreatDoorUs08
namespace Go.Proofs.YtljnfbpplhnmfaaGreatDoor.En
open Go Go.RowKit Go.Proofs.YtljnfbpplhnmfaaGreatDoorW.PrintWords Go.Proofs.YtljnfbpplhnmfaaGreatDoorW.PrintLast Go.Proofs.YtljnfbpplhnmfaaGreatDoorW.PrintMore Go.Proofs.YtljnfbpplhnmfaaGreatDoor.Str Go.Proofs.YtljnfbpplhnmfaaGreatDoor.Mp Go.Proofs.YtljnfbpplhnmfaaGreatDoor.Ra Go.Proofs.YtljnfbpplhnmfaaGreatDoor.Sl Go.Proofs.YtljnfbpplhnmfaaGreatDoor.Qu Go.Proofs.YtljnfbpplhnmfaaGreatDoor.Sq Go.Proofs.YtljnfbpplhnmfaaGreatDoor.Fl Go.Proofs.YtljnfbpplhnmfaaGreatDoor.Ru Go.Proofs.YtljnfbpplhnmfaaGreatDoor.Md
set_option linter.unusedVariables false
set_option linter.unusedSimpArgs false
set_option maxRecDepth 1000000
set_option maxHeartbeats 4000000
theorem fldPeer (a0 a1 a2 a3 a4 a5 a6 a7 : Value) (w : World) : Sem.run Tryz.prog (Instr.field 47 (Value.agg #[a0, a1, a2, a3, a4, a5, a6, a7]) 3) w = Result.ok a3 w := by kernel_rfl
attribute [local go_sem high] fldPeer
theorem infoN7 (b mb fb : Nat) (e : E) (t : Int) (p : Bool) (ns nr : Int) (s : ByteArray) (hl : e.out.length ≤ 7000) (ha : ¬ ackOk (comeF e.fl ns) nr) (hc : come e.fl ns = 0) (T : Nat → Prop) (w0 w : World) (h : Went (entAt b mb fb e) T w0 w) :
    Calls Tryz.prog 130 #[.pointer (some ⟨b, 0, none⟩), .agg (frCells (⟨t, true, 0, p, ns, nr, s⟩ : Fr))] w fun r w' => r = .returned (.tuple #[]) ∧ Went (entAt b mb fb (info e (⟨t, true, 0, p, ns, nr, s⟩ : Fr))) T w0 w' := by
  have HOK := Aside0.mk (entAt.ok h)
  obtain ⟨A, ca, ⟨c0, c1, c2, c3, c4, c5, c6, c7, c8⟩, f0, f1, f2, f3, f4, f8⟩ := entAt.cells h
  have HW := Aside0.mk h
  clear h
  have hE1 : info1 e (⟨t, true, 0, p, ns, nr, s⟩ : Fr) = supervise (told ({ e with fl := comeF e.fl ns }) 5 s) false p := if_pos hc
  have hE2 : info2 (supervise (told ({ e with fl := comeF e.fl ns }) 5 s) false p) (⟨t, true, 0, p, ns, nr, s⟩ : Fr) = anew (supervise (told ({ e with fl := comeF e.fl ns }) 5 s) false p) ⟨#[74]⟩ := if_neg ha
  rw [show info e (⟨t, true, 0, p, ns, nr, s⟩ : Fr) = info2 (info1 e (⟨t, true, 0, p, ns, nr, s⟩ : Fr)) (⟨t, true, 0, p, ns, nr, s⟩ : Fr) from rfl, hE1, hE2]
  clear hE1 hE2
  have HK : Aside0 (∀ T1 wz, (flAt fb (comeF e.fl ns)).h T1 wz → Calls Tryz.prog 157 #[.pointer (some ⟨fb, 0, none⟩), .int .i64 nr] wz fun r w2 => r = .returned (.tuple #[.int .i64 0, .int .i64 2]) ∧ Went (flAt fb (comeF e.fl ns)) T1 wz w2) := ⟨fun T1 wz hz => by
    have h0 := Fl.ackC fb (comeF e.fl ns) nr T1 wz hz
    rw [if_neg ha, if_neg ha] at h0
    exact h0⟩
  have HM : Aside0 (∀ T1 wz, (flAt fb e.fl).h T1 wz → Calls Tryz.prog 156 #[.pointer (some ⟨fb, 0, none⟩), .int .i64 ns] wz fun r w2 => r = .returned (.int .i64 0) ∧ Went (flAt fb (comeF e.fl ns)) T1 wz w2) := ⟨fun T1 wz hz => by
    have h0 := Fl.comeC fb e.fl ns T1 wz hz
    rw [hc] at h0
    exact h0⟩
  clear hc
  clear ha
  have hbx := heap_alloc_new w (.cells #[.int .i64 0, .int .i64 t, .bool true, .int .i64 0, .bool p, .int .i64 ns, .int .i64 nr, .string s] 144 (0, 0))
  have hw := (Went.single HW.out).new (.cells #[.int .i64 0, .int .i64 t, .bool true, .int .i64 0, .bool p, .int .i64 ns, .int .i64 nr, .string s] 144 (0, 0))
  obtain ⟨g, HG⟩ : ∃ g, Aside0 (w.heap.size = g) := ⟨_, ⟨rfl⟩⟩
  rw [HG.out] at hw hbx
  clear HW
  have HW : Aside0 (Went (all [blk g (.cells #[.int .i64 0, .int .i64 t, .bool true, .int .i64 0, .bool p, .int .i64 ns, .int .i64 nr, .string s] 144 (0, 0)), entAt b mb fb (e)]) T w0 (w.alloc (.cells #[.int .i64 0, .int .i64 t, .bool true, .int .i64 0, .bool p, .int .i64 ns, .int .i64 nr, .string s] 144 (0, 0)))) := ⟨hw⟩
  clear hw
  obtain ⟨⟨b0, b1, b2, b3, b4, b5, b6, b7⟩, _⟩ := cells8 hbx
  clear hbx
  clear b0 b1 b2 b3 b4 b5 b6 b7
  clear c0 c1 c2 c3 c4 c5 c6 c7 c8 f0 f1 f2 f3 f4 f8
  obtain ⟨⟨b0, b1, b2, b3, b4, b5, b6, b7⟩, _⟩ := cells8 (HW.out.heap 0 rfl)
  obtain ⟨Tz, hz⟩ := HW.out.get 1 rfl
  obtain ⟨A, ca, ⟨c0, c1, c2, c3, c4, c5, c6, c7, c8⟩, f0, f1, f2, f3, f4, f8⟩ := entAt.cells (Went.refl hz)
  clear hz
  have hg := HG.out
  unfold frCells
  go_enter Tryz.func130, Tryz.ntmps130
  go_wp2_with fail
  generalize w.alloc (.cells #[.int .i64 0, .int .i64 t, .bool true, .int .i64 0, .bool p, .int .i64 ns, .int .i64 nr, .string s] 144 (0, 0)) = wx at *
  go_still_tail 6, (by kernel_rfl)
  change wpList _ _ _ _ _ (World.drew _)
  have HW := Aside0.mk HW.out.drew
  go_wp2_with fail
  refine (HW.out.call_at 1 rfl (fun T1 h1 => entAt.flow (Went.refl h1) (fun T2 h2 => HM.out T2 _ h2))).mono ?_
  rintro r w1 ⟨rfl, hw⟩
  have HW : Aside0 (Went (all [blk g (.cells #[.int .i64 0, .int .i64 t, .bool true, .int .i64 0, .bool p, .int .i64 ns, .int .i64 nr, .string s] 144 (0, 0)), entAt b mb fb ({ e with fl := comeF e.fl ns })]) T w0 w1) := ⟨hw⟩
  clear hw
  clear b0 b1 b2 b3 b4 b5 b6 b7
  clear c0 c1 c2 c3 c4 c5 c6 c7 c8 f0 f1 f2 f3 f4 f8
  obtain ⟨⟨b0, b1, b2, b3, b4, b5, b6, b7⟩, _⟩ := cells8 (HW.out.heap 0 rfl)
  obtain ⟨Tz, hz⟩ := HW.out.get 1 rfl
  obtain ⟨A, ca, ⟨c0, c1, c2, c3, c4, c5, c6, c7, c8⟩, f0, f1, f2, f3, f4, f8⟩ := entAt.cells (Went.refl hz)
  clear hz
  go_wp2_with fail
  refine (HW.out.call_at 1 rfl (fun T1 h1 => toldC b mb fb ({ e with fl := comeF e.fl ns }) 5 s (Nat.le_trans hl (by omega)) T1 _ _ (Went.refl h1))).mono ?_
  rintro r w2 ⟨rfl, hw⟩
  have HW : Aside0 (Went (all [blk g (.cells #[.int .i64 0, .int .i64 t, .bool true, .int .i64 0, .bool p, .int .i64 ns, .int .i64 nr, .string s] 144 (0, 0)), entAt b mb fb (told ({ e with fl := comeF e.fl ns }) 5 s)]) T w0 w2) := ⟨hw⟩
  clear hw
  clear b0 b1 b2 b3 b4 b5 b6 b7
  clear c0 c1 c2 c3 c4 c5 c6 c7 c8 f0 f1 f2 f3 f4 f8
  obtain ⟨⟨b0, b1, b2, b3, b4, b5, b6, b7⟩, _⟩ := cells8 (HW.out.heap 0 rfl)
  obtain ⟨Tz, hz⟩ := HW.out.get 1 rfl
  obtain ⟨A, ca, ⟨c0, c1, c2, c3, c4, c5, c6, c7, c8⟩, f0, f1, f2, f3, f4, f8⟩ := entAt.cells (Went.refl hz)
  clear hz
  go_wp2_with fail
  refine (HW.out.call_at 1 rfl (fun T1 h1 => superviseC b mb fb (told ({ e with fl := comeF e.fl ns }) 5 s) false p (Nat.le_trans (len_told (hl)) (by omega)) T1 _ _ (Went.refl h1))).mono ?_
  rintro r w3 ⟨rfl, hw⟩
  have HW : Aside0 (Went (all [blk g (.cells #[.int .i64 0, .int .i64 t, .bool true, .int .i64 0, .bool p, .int .i64 ns, .int .i64 nr, .string s] 144 (0, 0)), entAt b mb fb (supervise (told ({ e with fl := comeF e.fl ns }) 5 s) false p)]) T w0 w3) := ⟨hw⟩
  clear hw
  clear b0 b1 b2 b3 b4 b5 b6 b7
  clear c0 c1 c2 c3 c4 c5 c6 c7 c8 f0 f1 f2 f3 f4 f8
  obtain ⟨⟨b0, b1, b2, b3, b4, b5, b6, b7⟩, _⟩ := cells8 (HW.out.heap 0 rfl)
  obtain ⟨Tz, hz⟩ := HW.out.get 1 rfl
  obtain ⟨A, ca, ⟨c0, c1, c2, c3, c4, c5, c6, c7, c8⟩, f0, f1, f2, f3, f4, f8⟩ := entAt.cells (Went.refl hz)
  clear hz
  go_wp2_with fail
  have HW := Aside0.mk HW.out.drew
  go_region_law (go_simp; go_at_call 157; refine (HW.out.call_at 1 rfl (fun T1 h1 => entAt.flow (Went.refl h1) (fun T2 h2 => HK.out T2 _ h2))).mono ?_; rintro r w4 ⟨rfl, hw⟩)
  all_goals
    have HW : Aside0 (Went (all [blk g (.cells #[.int .i64 0, .int .i64 t, .bool true, .int .i64 0, .bool p, .int .i64 ns, .int .i64 nr, .string s] 144 (0, 0)), entAt b mb fb ({ supervise (told ({ e with fl := comeF e.fl ns }) 5 s) false p with fl := (comeF e.fl ns) })]) T w0 w4) := ⟨hw⟩
    clear hw
    clear b0 b1 b2 b3 b4 b5 b6 b7
    clear c0 c1 c2 c3 c4 c5 c6 c7 c8 f0 f1 f2 f3 f4 f8
    obtain ⟨⟨b0, b1, b2, b3, b4, b5, b6, b7⟩, _⟩ := cells8 (HW.out.heap 0 rfl)
    obtain ⟨Tz, hz⟩ := HW.out.get 1 rfl
    obtain ⟨A, ca, ⟨c0, c1, c2, c3, c4, c5, c6, c7, c8⟩, f0, f1, f2, f3, f4, f8⟩ := entAt.cells (Went.refl hz)
    clear hz
    go_wp2_with fail
    refine (HW.out.call_at 1 rfl (fun T1 h1 => anewC b mb fb ({ supervise (told ({ e with fl := comeF e.fl ns }) 5 s) false p with fl := (comeF e.fl ns) }) ⟨#[74]⟩ (Nat.le_trans (len_supervise (len_told (hl))) (by omega)) T1 _ _ (Went.refl h1))).mono ?_
    rintro r w5 ⟨rfl, hw⟩
    have HW : Aside0 (Went (all [blk g (.cells #[.int .i64 0, .int .i64 t, .bool true, .int .i64 0, .bool p, .int .i64 ns, .int .i64 nr, .string s] 144 (0, 0)), entAt b mb fb (anew ({ supervise (told ({ e with fl := comeF e.fl ns }) 5 s) false p with fl := (comeF e.fl ns) }) ⟨#[74]⟩)]) T w0 w5) := ⟨hw⟩
    clear hw
    clear b0 b1 b2 b3 b4 b5 b6 b7
    clear c0 c1 c2 c3 c4 c5 c6 c7 c8 f0 f1 f2 f3 f4 f8
    obtain ⟨⟨b0, b1, b2, b3, b4, b5, b6, b7⟩, _⟩ := cells8 (HW.out.heap 0 rfl)
    obtain ⟨Tz, hz⟩ := HW.out.get 1 rfl
    obtain ⟨A, ca, ⟨c0, c1, c2, c3, c4, c5, c6, c7, c8⟩, f0, f1, f2, f3, f4, f8⟩ := entAt.cells (Went.refl hz)
    clear hz
    go_wp2
    go_end0
    exact ⟨rfl, Went.only (HW.out).drop⟩
theorem infoN8 (b mb fb : Nat) (e : E) (t : Int) (p : Bool) (ns nr : Int) (s : ByteArray) (hl : e.out.length ≤ 7000) (ha : ackOk (comeF e.fl ns) nr) (hs : e.state = 8) (hc : come e.fl ns = 0) (T : Nat → Prop) (w0 w : World) (h : Went (entAt b mb fb e) T w0 w) :
    Calls Tryz.prog 130 #[.pointer (some ⟨b, 0, none⟩), .agg (frCells (⟨t, true, 0, p, ns, nr, s⟩ : Fr))] w fun r w' => r = .returned (.tuple #[]) ∧ Went (entAt b mb fb (info e (⟨t, true, 0, p, ns, nr, s⟩ : Fr))) T w0 w' := by
  have HOK := Aside0.mk (entAt.ok h)
  obtain ⟨A, ca, ⟨c0, c1, c2, c3, c4, c5, c6, c7, c8⟩, f0, f1, f2, f3, f4, f8⟩ := entAt.cells h
  have HW := Aside0.mk h
  clear h
  have hE1 : info1 e (⟨t, true, 0, p, ns, nr, s⟩ : Fr) = supervise (told ({ e with fl := comeF e.fl ns }) 5 s) false p := if_pos hc
  have hE2 : info2 (supervise (told ({ e with fl := comeF e.fl ns }) 5 s) false p) (⟨t, true, 0, p, ns, nr, s⟩ : Fr) = { supervise (told ({ e with fl := comeF e.fl ns }) 5 s) false p with fl := ackF (comeF e.fl ns) nr } := (if_pos ha).trans (if_neg (fun h => by have h1 : (8 : Int) = 7 := hs.symm.trans h; omega))
  rw [show info e (⟨t, true, 0, p, ns, nr, s⟩ : Fr) = info2 (info1 e (⟨t, true, 0, p, ns, nr, s⟩ : Fr)) (⟨t, true, 0, p, ns, nr, s⟩ : Fr) from rfl, hE1, hE2]
  clear hE1 hE2
  have HK : Aside0 (∀ T1 wz, (flAt fb (comeF e.fl ns)).h T1 wz → Calls Tryz.prog 157 #[.pointer (some ⟨fb, 0, none⟩), .int .i64 nr] wz fun r w2 => r = .returned (.tuple #[.int .i64 (ackN (comeF e.fl ns) nr : Int), .int .i64 0]) ∧ Went (flAt fb (ackF (comeF e.fl ns) nr)) T1 wz w2) := ⟨fun T1 wz hz => by
    have h0 := Fl.ackC fb (comeF e.fl ns) nr T1 wz hz
    rw [if_pos ha, if_pos ha] at h0
    exact h0⟩
  have HM : Aside0 (∀ T1 wz, (flAt fb e.fl).h T1 wz → Calls Tryz.prog 156 #[.pointer (some ⟨fb, 0, none⟩), .int .i64 ns] wz fun r w2 => r = .returned (.int .i64 0) ∧ Went (flAt fb (comeF e.fl ns)) T1 wz w2) := ⟨fun T1 wz hz => by
    have h0 := Fl.comeC fb e.fl ns T1 wz hz
    rw [hc] at h0
    exact h0⟩
  clear hc
  have HS := Aside0.mk hs
  clear hs
  clear ha
  have hbx := heap_alloc_new w (.cells #[.int .i64 0, .int .i64 t, .bool true, .int .i64 0, .bool p, .int .i64 ns, .int .i64 nr, .string s] 144 (0, 0))
  have hw := (Went.single HW.out).new (.cells #[.int .i64 0, .int .i64 t, .bool true, .int .i64 0, .bool p, .int .i64 ns, .int .i64 nr, .string s] 144 (0, 0))
  obtain ⟨g, HG⟩ : ∃ g, Aside0 (w.heap.size = g) := ⟨_, ⟨rfl⟩⟩
  rw [HG.out] at hw hbx
  clear HW
  have HW : Aside0 (Went (all [blk g (.cells #[.int .i64 0, .int .i64 t, .bool true, .int .i64 0, .bool p, .int .i64 ns, .int .i64 nr, .string s] 144 (0, 0)), entAt b mb fb (e)]) T w0 (w.alloc (.cells #[.int .i64 0, .int .i64 t, .bool true, .int .i64 0, .bool p, .int .i64 ns, .int .i64 nr, .string s] 144 (0, 0)))) := ⟨hw⟩
  clear hw
  obtain ⟨⟨b0, b1, b2, b3, b4, b5, b6, b7⟩, _⟩ := cells8 hbx
  clear hbx
  clear b0 b1 b2 b3 b4 b5 b6 b7
  clear c0 c1 c2 c3 c4 c5 c6 c7 c8 f0 f1 f2 f3 f4 f8
  obtain ⟨⟨b0, b1, b2, b3, b4, b5, b6, b7⟩, _⟩ := cells8 (HW.out.heap 0 rfl)
  obtain ⟨Tz, hz⟩ := HW.out.get 1 rfl
  obtain ⟨A, ca, ⟨c0, c1, c2, c3, c4, c5, c6, c7, c8⟩, f0, f1, f2, f3, f4, f8⟩ := entAt.cells (Went.refl hz)
  clear hz
  have hg := HG.out
  unfold frCells
  go_enter Tryz.func130, Tryz.ntmps130
  go_wp2_with fail
  generalize w.alloc (.cells #[.int .i64 0, .int .i64 t, .bool true, .int .i64 0, .bool p, .int .i64 ns, .int .i64 nr, .string s] 144 (0, 0)) = wx at *
  go_still_tail 6, (by kernel_rfl)
  change wpList _ _ _ _ _ (World.drew _)
  have HW := Aside0.mk HW.out.drew
  go_wp2_with fail
  refine (HW.out.call_at 1 rfl (fun T1 h1 => entAt.flow (Went.refl h1) (fun T2 h2 => HM.out T2 _ h2))).mono ?_
  rintro r w1 ⟨rfl, hw⟩
  have HW : Aside0 (Went (all [blk g (.cells #[.int .i64 0, .int .i64 t, .bool true, .int .i64 0, .bool p, .int .i64 ns, .int .i64 nr, .string s] 144 (0, 0)), entAt b mb fb ({ e with fl := comeF e.fl ns })]) T w0 w1) := ⟨hw⟩
  clear hw
  clear b0 b1 b2 b3 b4 b5 b6 b7
  clear c0 c1 c2 c3 c4 c5 c6 c7 c8 f0 f1 f2 f3 f4 f8
  obtain ⟨⟨b0, b1, b2, b3, b4, b5, b6, b7⟩, _⟩ := cells8 (HW.out.heap 0 rfl)
  obtain ⟨Tz, hz⟩ := HW.out.get 1 rfl
  obtain ⟨A, ca, ⟨c0, c1, c2, c3, c4, c5, c6, c7, c8⟩, f0, f1, f2, f3, f4, f8⟩ := entAt.cells (Went.refl hz)
  clear hz
  go_wp2_with fail
  refine (HW.out.call_at 1 rfl (fun T1 h1 => toldC b mb fb ({ e with fl := comeF e.fl ns }) 5 s (Nat.le_trans hl (by omega)) T1 _ _ (Went.refl h1))).mono ?_
  rintro r w2 ⟨rfl, hw⟩
  have HW : Aside0 (Went (all [blk g (.cells #[.int .i64 0, .int .i64 t, .bool true, .int .i64 0, .bool p, .int .i64 ns, .int .i64 nr, .string s] 144 (0, 0)), entAt b mb fb (told ({ e with fl := comeF e.fl ns }) 5 s)]) T w0 w2) := ⟨hw⟩
  clear hw
  clear b0 b1 b2 b3 b4 b5 b6 b7
  clear c0 c1 c2 c3 c4 c5 c6 c7 c8 f0 f1 f2 f3 f4 f8
  obtain ⟨⟨b0, b1, b2, b3, b4, b5, b6, b7⟩, _⟩ := cells8 (HW.out.heap 0 rfl)
  obtain ⟨Tz, hz⟩ := HW.out.get 1 rfl
  obtain ⟨A, ca, ⟨c0, c1, c2, c3, c4, c5, c6, c7, c8⟩, f0, f1, f2, f3, f4, f8⟩ := entAt.cells (Went.refl hz)
  clear hz
  go_wp2_with fail
  refine (HW.out.call_at 1 rfl (fun T1 h1 => superviseC b mb fb (told ({ e with fl := comeF e.fl ns }) 5 s) false p (Nat.le_trans (len_told (hl)) (by omega)) T1 _ _ (Went.refl h1))).mono ?_
  rintro r w3 ⟨rfl, hw⟩
  have HW : Aside0 (Went (all [blk g (.cells #[.int .i64 0, .int .i64 t, .bool true, .int .i64 0, .bool p, .int .i64 ns, .int .i64 nr, .string s] 144 (0, 0)), entAt b mb fb (supervise (told ({ e with fl := comeF e.fl ns }) 5 s) false p)]) T w0 w3) := ⟨hw⟩
  clear hw
  clear b0 b1 b2 b3 b4 b5 b6 b7
  clear c0 c1 c2 c3 c4 c5 c6 c7 c8 f0 f1 f2 f3 f4 f8
  obtain ⟨⟨b0, b1, b2, b3, b4, b5, b6, b7⟩, _⟩ := cells8 (HW.out.heap 0 rfl)
  obtain ⟨Tz, hz⟩ := HW.out.get 1 rfl
  obtain ⟨A, ca, ⟨c0, c1, c2, c3, c4, c5, c6, c7, c8⟩, f0, f1, f2, f3, f4, f8⟩ := entAt.cells (Went.refl hz)
  clear hz
  go_wp2_with fail
  have HW := Aside0.mk HW.out.drew
  go_region_law (go_simp; go_at_call 157; refine (HW.out.call_at 1 rfl (fun T1 h1 => entAt.flow (Went.refl h1) (fun T2 h2 => HK.out T2 _ h2))).mono ?_; rintro r w4 ⟨rfl, hw⟩)
  all_goals
    have HW : Aside0 (Went (all [blk g (.cells #[.int .i64 0, .int .i64 t, .bool true, .int .i64 0, .bool p, .int .i64 ns, .int .i64 nr, .string s] 144 (0, 0)), entAt b mb fb ({ supervise (told ({ e with fl := comeF e.fl ns }) 5 s) false p with fl := ackF (comeF e.fl ns) nr })]) T w0 w4) := ⟨hw⟩
    clear hw
    clear b0 b1 b2 b3 b4 b5 b6 b7
    clear c0 c1 c2 c3 c4 c5 c6 c7 c8 f0 f1 f2 f3 f4 f8
    obtain ⟨⟨b0, b1, b2, b3, b4, b5, b6, b7⟩, _⟩ := cells8 (HW.out.heap 0 rfl)
    obtain ⟨Tz, hz⟩ := HW.out.get 1 rfl
    obtain ⟨A, ca, ⟨c0, c1, c2, c3, c4, c5, c6, c7, c8⟩, f0, f1, f2, f3, f4, f8⟩ := entAt.cells (Went.refl hz)
    clear hz
    have hst : ({ supervise (told ({ e with fl := comeF e.fl ns }) 5 s) false p with fl := ackF (comeF e.fl ns) nr }).state = 8 := HS.out
    rw [hst] at c1
    clear hst
    go_wp2
    go_end0
    exact ⟨rfl, Went.only (HW.out).drop⟩
theorem infoN1 (b mb fb : Nat) (e : E) (t : Int) (p : Bool) (ns nr : Int) (s : ByteArray) (hl : e.out.length ≤ 7000) (ha : ackOk (comeF e.fl ns) nr) (hs : e.state = 7) (hp : (comeF e.fl ns).peer = true) (hc : come e.fl ns = 0) (T : Nat → Prop) (w0 w : World) (h : Went (entAt b mb fb e) T w0 w) :
    Calls Tryz.prog 130 #[.pointer (some ⟨b, 0, none⟩), .agg (frCells (⟨t, true, 0, p, ns, nr, s⟩ : Fr))] w fun r w' => r = .returned (.tuple #[]) ∧ Went (entAt b mb fb (info e (⟨t, true, 0, p, ns, nr, s⟩ : Fr))) T w0 w' := by
  have HOK := Aside0.mk (entAt.ok h)
  obtain ⟨A, ca, ⟨c0, c1, c2, c3, c4, c5, c6, c7, c8⟩, f0, f1, f2, f3, f4, f8⟩ := entAt.cells h
  have HW := Aside0.mk h
  clear h
  have hE1 : info1 e (⟨t, true, 0, p, ns, nr, s⟩ : Fr) = supervise (told ({ e with fl := comeF e.fl ns }) 5 s) false p := if_pos hc
  have hE2 : info2 (supervise (told ({ e with fl := comeF e.fl ns }) 5 s) false p) (⟨t, true, 0, p, ns, nr, s⟩ : Fr) = goOn ({ supervise (told ({ e with fl := comeF e.fl ns }) 5 s) false p with fl := ackF (comeF e.fl ns) nr }) := (if_pos ha).trans ((if_pos hs).trans (if_pos hp))
  rw [show info e (⟨t, true, 0, p, ns, nr, s⟩ : Fr) = info2 (info1 e (⟨t, true, 0, p, ns, nr, s⟩ : Fr)) (⟨t, true, 0, p, ns, nr, s⟩ : Fr) from rfl, hE1, hE2]
  clear hE1 hE2
  have HK : Aside0 (∀ T1 wz, (flAt fb (comeF e.fl ns)).h T1 wz → Calls Tryz.prog 157 #[.pointer (some ⟨fb, 0, none⟩), .int .i64 nr] wz fun r w2 => r = .returned (.tuple #[.int .i64 (ackN (comeF e.fl ns) nr : Int), .int .i64 0]) ∧ Went (flAt fb (ackF (comeF e.fl ns) nr)) T1 wz w2) := ⟨fun T1 wz hz => by
    have h0 := Fl.ackC fb (comeF e.fl ns) nr T1 wz hz
    rw [if_pos ha, if_pos ha] at h0
    exact h0⟩
  have HM : Aside0 (∀ T1 wz, (flAt fb e.fl).h T1 wz → Calls Tryz.prog 156 #[.pointer (some ⟨fb, 0, none⟩), .int .i64 ns] wz fun r w2 => r = .returned (.int .i64 0) ∧ Went (flAt fb (comeF e.fl ns)) T1 wz w2) := ⟨fun T1 wz hz => by
    have h0 := Fl.comeC fb e.fl ns T1 wz hz
    rw [hc] at h0
    exact h0⟩
  clear hc
  have HS := Aside0.mk hs
  clear hs
  have HP := Aside0.mk hp
  clear hp
  clear ha
  have hbx := heap_alloc_new w (.cells #[.int .i64 0, .int .i64 t, .bool true, .int .i64 0, .bool p, .int .i64 ns, .int .i64 nr, .string s] 144 (0, 0))
  have hw := (Went.single HW.out).new (.cells #[.int .i64 0, .int .i64 t, .bool true, .int .i64 0, .bool p, .int .i64 ns, .int .i64 nr, .string s] 144 (0, 0))
  obtain ⟨g, HG⟩ : ∃ g, Aside0 (w.heap.size = g) := ⟨_, ⟨rfl⟩⟩
  rw [HG.out] at hw hbx
  clear HW
  have HW : Aside0 (Went (all [blk g (.cells #[.int .i64 0, .int .i64 t, .bool true, .int .i64 0, .bool p, .int .i64 ns, .int .i64 nr, .string s] 144 (0, 0)), entAt b mb fb (e)]) T w0 (w.alloc (.cells #[.int .i64 0, .int .i64 t, .bool true, .int .i64 0, .bool p, .int .i64 ns, .int .i64 nr, .string s] 144 (0, 0)))) := ⟨hw⟩
  clear hw
  obtain ⟨⟨b0, b1, b2, b3, b4, b5, b6, b7⟩, _⟩ := cells8 hbx
  clear hbx
  clear b0 b1 b2 b3 b4 b5 b6 b7
  clear c0 c1 c2 c3 c4 c5 c6 c7 c8 f0 f1 f2 f3 f4 f8
  obtain ⟨⟨b0, b1, b2, b3, b4, b5, b6, b7⟩, _⟩ := cells8 (HW.out.heap 0 rfl)
  obtain ⟨Tz, hz⟩ := HW.out.get 1 rfl
  obtain ⟨A, ca, ⟨c0, c1, c2, c3, c4, c5, c6, c7, c8⟩, f0, f1, f2, f3, f4, f8⟩ := entAt.cells (Went.refl hz)
  clear hz
  have hg := HG.out
  unfold frCells
  go_enter Tryz.func130, Tryz.ntmps130
  go_wp2_with fail
  generalize w.alloc (.cells #[.int .i64 0, .int .i64 t, .bool true, .int .i64 0, .bool p, .int .i64 ns, .int .i64 nr, .string s] 144 (0, 0)) = wx at *
  go_still_tail 6, (by kernel_rfl)
  change wpList _ _ _ _ _ (World.drew _)
  have HW := Aside0.mk HW.out.drew
  go_wp2_with fail
  refine (HW.out.call_at 1 rfl (fun T1 h1 => entAt.flow (Went.refl h1) (fun T2 h2 => HM.out T2 _ h2))).mono ?_
  rintro r w1 ⟨rfl, hw⟩
  have HW : Aside0 (Went (all [blk g (.cells #[.int .i64 0, .int .i64 t, .bool true, .int .i64 0, .bool p, .int .i64 ns, .int .i64 nr, .string s] 144 (0, 0)), entAt b mb fb ({ e with fl := comeF e.fl ns })]) T w0 w1) := ⟨hw⟩
  clear hw
  clear b0 b1 b2 b3 b4 b5 b6 b7
  clear c0 c1 c2 c3 c4 c5 c6 c7 c8 f0 f1 f2 f3 f4 f8
  obtain ⟨⟨b0, b1, b2, b3, b4, b5, b6, b7⟩, _⟩ := cells8 (HW.out.heap 0 rfl)
  obtain ⟨Tz, hz⟩ := HW.out.get 1 rfl
  obtain ⟨A, ca, ⟨c0, c1, c2, c3, c4, c5, c6, c7, c8⟩, f0, f1, f2, f3, f4, f8⟩ := entAt.cells (Went.refl hz)
  clear hz
  go_wp2_with fail
  refine (HW.out.call_at 1 rfl (fun T1 h1 => toldC b mb fb ({ e with fl := comeF e.fl ns }) 5 s (Nat.le_trans hl (by omega)) T1 _ _ (Went.refl h1))).mono ?_
  rintro r w2 ⟨rfl, hw⟩
  have HW : Aside0 (Went (all [blk g (.cells #[.int .i64 0, .int .i64 t, .bool true, .int .i64 0, .bool p, .int .i64 ns, .int .i64 nr, .string s] 144 (0, 0)), entAt b mb fb (told ({ e with fl := comeF e.fl ns }) 5 s)]) T w0 w2) := ⟨hw⟩
  clear hw
  clear b0 b1 b2 b3 b4 b5 b6 b7
  clear c0 c1 c2 c3 c4 c5 c6 c7 c8 f0 f1 f2 f3 f4 f8
  obtain ⟨⟨b0, b1, b2, b3, b4, b5, b6, b7⟩, _⟩ := cells8 (HW.out.heap 0 rfl)
  obtain ⟨Tz, hz⟩ := HW.out.get 1 rfl
  obtain ⟨A, ca, ⟨c0, c1, c2, c3, c4, c5, c6, c7, c8⟩, f0, f1, f2, f3, f4, f8⟩ := entAt.cells (Went.refl hz)
  clear hz
  go_wp2_with fail
  refine (HW.out.call_at 1 rfl (fun T1 h1 => superviseC b mb fb (told ({ e with fl := comeF e.fl ns }) 5 s) false p (Nat.le_trans (len_told (hl)) (by omega)) T1 _ _ (Went.refl h1))).mono ?_
  rintro r w3 ⟨rfl, hw⟩
  have HW : Aside0 (Went (all [blk g (.cells #[.int .i64 0, .int .i64 t, .bool true, .int .i64 0, .bool p, .int .i64 ns, .int .i64 nr, .string s] 144 (0, 0)), entAt b mb fb (supervise (told ({ e with fl := comeF e.fl ns }) 5 s) false p)]) T w0 w3) := ⟨hw⟩
  clear hw
  clear b0 b1 b2 b3 b4 b5 b6 b7
  clear c0 c1 c2 c3 c4 c5 c6 c7 c8 f0 f1 f2 f3 f4 f8
  obtain ⟨⟨b0, b1, b2, b3, b4, b5, b6, b7⟩, _⟩ := cells8 (HW.out.heap 0 rfl)
  obtain ⟨Tz, hz⟩ := HW.out.get 1 rfl
  obtain ⟨A, ca, ⟨c0, c1, c2, c3, c4, c5, c6, c7, c8⟩, f0, f1, f2, f3, f4, f8⟩ := entAt.cells (Went.refl hz)
  clear hz
  go_wp2_with fail
  have HW := Aside0.mk HW.out.drew
  go_region_law (go_simp; go_at_call 157; refine (HW.out.call_at 1 rfl (fun T1 h1 => entAt.flow (Went.refl h1) (fun T2 h2 => HK.out T2 _ h2))).mono ?_; rintro r w4 ⟨rfl, hw⟩)
  all_goals
    have HW : Aside0 (Went (all [blk g (.cells #[.int .i64 0, .int .i64 t, .bool true, .int .i64 0, .bool p, .int .i64 ns, .int .i64 nr, .string s] 144 (0, 0)), entAt b mb fb ({ supervise (told ({ e with fl := comeF e.fl ns }) 5 s) false p with fl := ackF (comeF e.fl ns) nr })]) T w0 w4) := ⟨hw⟩
    clear hw
    clear b0 b1 b2 b3 b4 b5 b6 b7
    clear c0 c1 c2 c3 c4 c5 c6 c7 c8 f0 f1 f2 f3 f4 f8
    obtain ⟨⟨b0, b1, b2, b3, b4, b5, b6, b7⟩, _⟩ := cells8 (HW.out.heap 0 rfl)
    obtain ⟨Tz, hz⟩ := HW.out.get 1 rfl
    obtain ⟨A, ca, ⟨c0, c1, c2, c3, c4, c5, c6, c7, c8⟩, f0, f1, f2, f3, f4, f8⟩ := entAt.cells (Went.refl hz)
    clear hz
    have hst : ({ supervise (told ({ e with fl := comeF e.fl ns }) 5 s) false p with fl := ackF (comeF e.fl ns) nr }).state = 7 := HS.out
    rw [hst] at c1
    clear hst
    obtain ⟨Tz, hz⟩ := HW.out.get 1 rfl
    obtain ⟨Ty, hf⟩ := entAt.flowGet (Went.refl hz)
    have hv := viewC fb (ackF (comeF e.fl ns) nr) Ty _ hf
    rw [show (ackF (comeF e.fl ns) nr).peer = true from HP.out] at hv
    have HV := Aside0.mk hv
    clear hz hf hv
    go_wp2_with fail
    refine HV.out.mono ?_
    rintro r w5 ⟨rfl, hb⟩
    have hw := HW.out.below hb
    have HW : Aside0 (Went (all [blk g (.cells #[.int .i64 0, .int .i64 t, .bool true, .int .i64 0, .bool p, .int .i64 ns, .int .i64 nr, .string s] 144 (0, 0)), entAt b mb fb ({ supervise (told ({ e with fl := comeF e.fl ns }) 5 s) false p with fl := ackF (comeF e.fl ns) nr })]) T w0 w5) := ⟨hw⟩
    clear hw hb HV
    clear b0 b1 b2 b3 b4 b5 b6 b7
    clear c0 c1 c2 c3 c4 c5 c6 c7 c8 f0 f1 f2 f3 f4 f8
    obtain ⟨⟨b0, b1, b2, b3, b4, b5, b6, b7⟩, _⟩ := cells8 (HW.out.heap 0 rfl)
    obtain ⟨Tz, hz⟩ := HW.out.get 1 rfl
    obtain ⟨A, ca, ⟨c0, c1, c2, c3, c4, c5, c6, c7, c8⟩, f0, f1, f2, f3, f4, f8⟩ := entAt.cells (Went.refl hz)
    clear hz
    go_wp2_with fail
    refine (HW.out.call_at 1 rfl (fun T1 h1 => goOnC b mb fb ({ supervise (told ({ e with fl := comeF e.fl ns }) 5 s) false p with fl := ackF (comeF e.fl ns) nr }) (by have h9 : ({ supervise (told ({ e with fl := comeF e.fl ns }) 5 s) false p with fl := ackF (comeF e.fl ns) nr }).out.length ≤ 7000 + 2 := len_supervise (len_told (hl)); exact Nat.le_trans h9 (by omega)) T1 _ _ (Went.refl h1))).mono ?_
    rintro r w6 ⟨rfl, hw⟩
    have HW : Aside0 (Went (all [blk g (.cells #[.int .i64 0, .int .i64 t, .bool true, .int .i64 0, .bool p, .int .i64 ns, .int .i64 nr, .string s] 144 (0, 0)), entAt b mb fb (goOn ({ supervise (told ({ e with fl := comeF e.fl ns }) 5 s) false p with fl := ackF (comeF e.fl ns) nr }))]) T w0 w6) := ⟨hw⟩
    clear hw
    clear b0 b1 b2 b3 b4 b5 b6 b7
    clear c0 c1 c2 c3 c4 c5 c6 c7 c8 f0 f1 f2 f3 f4 f8
    obtain ⟨⟨b0, b1, b2, b3, b4, b5, b6, b7⟩, _⟩ := cells8 (HW.out.heap 0 rfl)
    obtain ⟨Tz, hz⟩ := HW.out.get 1 rfl
    obtain ⟨A, ca, ⟨c0, c1, c2, c3, c4, c5, c6, c7, c8⟩, f0, f1, f2, f3, f4, f8⟩ := entAt.cells (Went.refl hz)
    clear hz
    go_wp2
    go_end0
    exact ⟨rfl, Went.only (HW.out).drop⟩
theorem infoN0 (b mb fb : Nat) (e : E) (t : Int) (p : Bool) (ns nr : Int) (s : ByteArray) (hl : e.out.length ≤ 7000) (ha : ackOk (comeF e.fl ns) nr) (hs : e.state = 7) (hp : (comeF e.fl ns).peer = false) (hc : come e.fl ns = 0) (T : Nat → Prop) (w0 w : World) (h : Went (entAt b mb fb e) T w0 w) :
    Calls Tryz.prog 130 #[.pointer (some ⟨b, 0, none⟩), .agg (frCells (⟨t, true, 0, p, ns, nr, s⟩ : Fr))] w fun r w' => r = .returned (.tuple #[]) ∧ Went (entAt b mb fb (info e (⟨t, true, 0, p, ns, nr, s⟩ : Fr))) T w0 w' := by
  have HOK := Aside0.mk (entAt.ok h)
  obtain ⟨A, ca, ⟨c0, c1, c2, c3, c4, c5, c6, c7, c8⟩, f0, f1, f2, f3, f4, f8⟩ := entAt.cells h
  have HW := Aside0.mk h
  clear h
  have hE1 : info1 e (⟨t, true, 0, p, ns, nr, s⟩ : Fr) = supervise (told ({ e with fl := comeF e.fl ns }) 5 s) false p := if_pos hc
  have hE2 : info2 (supervise (told ({ e with fl := comeF e.fl ns }) 5 s) false p) (⟨t, true, 0, p, ns, nr, s⟩ : Fr) = goOn (count ({ supervise (told ({ e with fl := comeF e.fl ns }) 5 s) false p with fl := ackF (comeF e.fl ns) nr }) (ackN (comeF e.fl ns) nr)) := (if_pos ha).trans ((if_pos hs).trans (if_neg (fun h => by have h1 : (false : Bool) = true := hp.symm.trans h; cases h1)))
  rw [show info e (⟨t, true, 0, p, ns, nr, s⟩ : Fr) = info2 (info1 e (⟨t, true, 0, p, ns, nr, s⟩ : Fr)) (⟨t, true, 0, p, ns, nr, s⟩ : Fr) from rfl, hE1, hE2]
  clear hE1 hE2
  have HK : Aside0 (∀ T1 wz, (flAt fb (comeF e.fl ns)).h T1 wz → Calls Tryz.prog 157 #[.pointer (some ⟨fb, 0, none⟩), .int .i64 nr] wz fun r w2 => r = .returned (.tuple #[.int .i64 (ackN (comeF e.fl ns) nr : Int), .int .i64 0]) ∧ Went (flAt fb (ackF (comeF e.fl ns) nr)) T1 wz w2) := ⟨fun T1 wz hz => by
    have h0 := Fl.ackC fb (comeF e.fl ns) nr T1 wz hz
    rw [if_pos ha, if_pos ha] at h0
    exact h0⟩
  have HM : Aside0 (∀ T1 wz, (flAt fb e.fl).h T1 wz → Calls Tryz.prog 156 #[.pointer (some ⟨fb, 0, none⟩), .int .i64 ns] wz fun r w2 => r = .returned (.int .i64 0) ∧ Went (flAt fb (comeF e.fl ns)) T1 wz w2) := ⟨fun T1 wz hz => by
    have h0 := Fl.comeC fb e.fl ns T1 wz hz
    rw [hc] at h0
    exact h0⟩
  clear hc
  have HS := Aside0.mk hs
  clear hs
  have HP := Aside0.mk hp
  clear hp
  clear ha
  have hbx := heap_alloc_new w (.cells #[.int .i64 0, .int .i64 t, .bool true, .int .i64 0, .bool p, .int .i64 ns, .int .i64 nr, .string s] 144 (0, 0))
  have hw := (Went.single HW.out).new (.cells #[.int .i64 0, .int .i64 t, .bool true, .int .i64 0, .bool p, .int .i64 ns, .int .i64 nr, .string s] 144 (0, 0))
  obtain ⟨g, HG⟩ : ∃ g, Aside0 (w.heap.size = g) := ⟨_, ⟨rfl⟩⟩
  rw [HG.out] at hw hbx
  clear HW
  have HW : Aside0 (Went (all [blk g (.cells #[.int .i64 0, .int .i64 t, .bool true, .int .i64 0, .bool p, .int .i64 ns, .int .i64 nr, .string s] 144 (0, 0)), entAt b mb fb (e)]) T w0 (w.alloc (.cells #[.int .i64 0, .int .i64 t, .bool true, .int .i64 0, .bool p, .int .i64 ns, .int .i64 nr, .string s] 144 (0, 0)))) := ⟨hw⟩
  clear hw
  obtain ⟨⟨b0, b1, b2, b3, b4, b5, b6, b7⟩, _⟩ := cells8 hbx
  clear hbx
  clear b0 b1 b2 b3 b4 b5 b6 b7
  clear c0 c1 c2 c3 c4 c5 c6 c7 c8 f0 f1 f2 f3 f4 f8
  obtain ⟨⟨b0, b1, b2, b3, b4, b5, b6, b7⟩, _⟩ := cells8 (HW.out.heap 0 rfl)
  obtain ⟨Tz, hz⟩ := HW.out.get 1 rfl
  obtain ⟨A, ca, ⟨c0, c1, c2, c3, c4, c5, c6, c7, c8⟩, f0, f1, f2, f3, f4, f8⟩ := entAt.cells (Went.refl hz)
  clear hz
  have hg := HG.out
  unfold frCells
  go_enter Tryz.func130, Tryz.ntmps130
  go_wp2_with fail
  generalize w.alloc (.cells #[.int .i64 0, .int .i64 t, .bool true, .int .i64 0, .bool p, .int .i64 ns, .int .i64 nr, .string s] 144 (0, 0)) = wx at *
  go_still_tail 6, (by kernel_rfl)
  change wpList _ _ _ _ _ (World.drew _)
  have HW := Aside0.mk HW.out.drew
  go_wp2_with fail
  refine (HW.out.call_at 1 rfl (fun T1 h1 => entAt.flow (Went.refl h1) (fun T2 h2 => HM.out T2 _ h2))).mono ?_
  rintro r w1 ⟨rfl, hw⟩
  have HW : Aside0 (Went (all [blk g (.cells #[.int .i64 0, .int .i64 t, .bool true, .int .i64 0, .bool p, .int .i64 ns, .int .i64 nr, .string s] 144 (0, 0)), entAt b mb fb ({ e with fl := comeF e.fl ns })]) T w0 w1) := ⟨hw⟩
  clear hw
  clear b0 b1 b2 b3 b4 b5 b6 b7
  clear c0 c1 c2 c3 c4 c5 c6 c7 c8 f0 f1 f2 f3 f4 f8
  obtain ⟨⟨b0, b1, b2, b3, b4, b5, b6, b7⟩, _⟩ := cells8 (HW.out.heap 0 rfl)
  obtain ⟨Tz, hz⟩ := HW.out.get 1 rfl
  obtain ⟨A, ca, ⟨c0, c1, c2, c3, c4, c5, c6, c7, c8⟩, f0, f1, f2, f3, f4, f8⟩ := entAt.cells (Went.refl hz)
  clear hz
  go_wp2_with fail
  refine (HW.out.call_at 1 rfl (fun T1 h1 => toldC b mb fb ({ e with fl := comeF e.fl ns }) 5 s (Nat.le_trans hl (by omega)) T1 _ _ (Went.refl h1))).mono ?_
  rintro r w2 ⟨rfl, hw⟩
  have HW : Aside0 (Went (all [blk g (.cells #[.int .i64 0, .int .i64 t, .bool true, .int .i64 0, .bool p, .int .i64 ns, .int .i64 nr, .string s] 144 (0, 0)), entAt b mb fb (told ({ e with fl := comeF e.fl ns }) 5 s)]) T w0 w2) := ⟨hw⟩
  clear hw
  clear b0 b1 b2 b3 b4 b5 b6 b7
  clear c0 c1 c2 c3 c4 c5 c6 c7 c8 f0 f1 f2 f3 f4 f8
  obtain ⟨⟨b0, b1, b2, b3, b4, b5, b6, b7⟩, _⟩ := cells8 (HW.out.heap 0 rfl)
  obtain ⟨Tz, hz⟩ := HW.out.get 1 rfl
  obtain ⟨A, ca, ⟨c0, c1, c2, c3, c4, c5, c6, c7, c8⟩, f0, f1, f2, f3, f4, f8⟩ := entAt.cells (Went.refl hz)
  clear hz
  go_wp2_with fail
  refine (HW.out.call_at 1 rfl (fun T1 h1 => superviseC b mb fb (told ({ e with fl := comeF e.fl ns }) 5 s) false p (Nat.le_trans (len_told (hl)) (by omega)) T1 _ _ (Went.refl h1))).mono ?_
  rintro r w3 ⟨rfl, hw⟩
  have HW : Aside0 (Went (all [blk g (.cells #[.int .i64 0, .int .i64 t, .bool true, .int .i64 0, .bool p, .int .i64 ns, .int .i64 nr, .string s] 144 (0, 0)), entAt b mb fb (supervise (told ({ e with fl := comeF e.fl ns }) 5 s) false p)]) T w0 w3) := ⟨hw⟩
  clear hw
  clear b0 b1 b2 b3 b4 b5 b6 b7
  clear c0 c1 c2 c3 c4 c5 c6 c7 c8 f0 f1 f2 f3 f4 f8
  obtain ⟨⟨b0, b1, b2, b3, b4, b5, b6, b7⟩, _⟩ := cells8 (HW.out.heap 0 rfl)
  obtain ⟨Tz, hz⟩ := HW.out.get 1 rfl
  obtain ⟨A, ca, ⟨c0, c1, c2, c3, c4, c5, c6, c7, c8⟩, f0, f1, f2, f3, f4, f8⟩ := entAt.cells (Went.refl hz)
  clear hz
  go_wp2_with fail
  have HW := Aside0.mk HW.out.drew
  go_region_law (go_simp; go_at_call 157; refine (HW.out.call_at 1 rfl (fun T1 h1 => entAt.flow (Went.refl h1) (fun T2 h2 => HK.out T2 _ h2))).mono ?_; rintro r w4 ⟨rfl, hw⟩)
  all_goals
    have HW : Aside0 (Went (all [blk g (.cells #[.int .i64 0, .int .i64 t, .bool true, .int .i64 0, .bool p, .int .i64 ns, .int .i64 nr, .string s] 144 (0, 0)), entAt b mb fb ({ supervise (told ({ e with fl := comeF e.fl ns }) 5 s) false p with fl := ackF (comeF e.fl ns) nr })]) T w0 w4) := ⟨hw⟩
    clear hw
    clear b0 b1 b2 b3 b4 b5 b6 b7
    clear c0 c1 c2 c3 c4 c5 c6 c7 c8 f0 f1 f2 f3 f4 f8
    obtain ⟨⟨b0, b1, b2, b3, b4, b5, b6, b7⟩, _⟩ := cells8 (HW.out.heap 0 rfl)
    obtain ⟨Tz, hz⟩ := HW.out.get 1 rfl
    obtain ⟨A, ca, ⟨c0, c1, c2, c3, c4, c5, c6, c7, c8⟩, f0, f1, f2, f3, f4, f8⟩ := entAt.cells (Went.refl hz)
    clear hz
    have hst : ({ supervise (told ({ e with fl := comeF e.fl ns }) 5 s) false p with fl := ackF (comeF e.fl ns) nr }).state = 7 := HS.out
    rw [hst] at c1
    clear hst
    obtain ⟨Tz, hz⟩ := HW.out.get 1 rfl
    obtain ⟨Ty, hf⟩ := entAt.flowGet (Went.refl hz)
    have hv := viewC fb (ackF (comeF e.fl ns) nr) Ty _ hf
    rw [show (ackF (comeF e.fl ns) nr).peer = false from HP.out] at hv
    have HV := Aside0.mk hv
    clear hz hf hv
    go_wp2_with fail
    refine HV.out.mono ?_
    rintro r w5 ⟨rfl, hb⟩
    have hw := HW.out.below hb
    have HW : Aside0 (Went (all [blk g (.cells #[.int .i64 0, .int .i64 t, .bool true, .int .i64 0, .bool p, .int .i64 ns, .int .i64 nr, .string s] 144 (0, 0)), entAt b mb fb ({ supervise (told ({ e with fl := comeF e.fl ns }) 5 s) false p with fl := ackF (comeF e.fl ns) nr })]) T w0 w5) := ⟨hw⟩
    clear hw hb HV
    clear b0 b1 b2 b3 b4 b5 b6 b7
    clear c0 c1 c2 c3 c4 c5 c6 c7 c8 f0 f1 f2 f3 f4 f8
    obtain ⟨⟨b0, b1, b2, b3, b4, b5, b6, b7⟩, _⟩ := cells8 (HW.out.heap 0 rfl)
    obtain ⟨Tz, hz⟩ := HW.out.get 1 rfl
    obtain ⟨A, ca, ⟨c0, c1, c2, c3, c4, c5, c6, c7, c8⟩, f0, f1, f2, f3, f4, f8⟩ := entAt.cells (Went.refl hz)
    clear hz
    go_wp2_with fail
    refine (HW.out.call_at 1 rfl (fun T1 h1 => countC b mb fb ({ supervise (told ({ e with fl := comeF e.fl ns }) 5 s) false p with fl := ackF (comeF e.fl ns) nr }) (ackN (comeF e.fl ns) nr) (Nat.le_trans (len_supervise (len_told (hl))) (by omega)) T1 _ _ (Went.refl h1))).mono ?_
    rintro r w6 ⟨rfl, hw⟩
    have HW : Aside0 (Went (all [blk g (.cells #[.int .i64 0, .int .i64 t, .bool true, .int .i64 0, .bool p, .int .i64 ns, .int .i64 nr, .string s] 144 (0, 0)), entAt b mb fb (count ({ supervise (told ({ e with fl := comeF e.fl ns }) 5 s) false p with fl := ackF (comeF e.fl ns) nr }) (ackN (comeF e.fl ns) nr))]) T w0 w6) := ⟨hw⟩
    clear hw
    clear b0 b1 b2 b3 b4 b5 b6 b7
    clear c0 c1 c2 c3 c4 c5 c6 c7 c8 f0 f1 f2 f3 f4 f8
    obtain ⟨⟨b0, b1, b2, b3, b4, b5, b6, b7⟩, _⟩ := cells8 (HW.out.heap 0 rfl)
    obtain ⟨Tz, hz⟩ := HW.out.get 1 rfl
    obtain ⟨A, ca, ⟨c0, c1, c2, c3, c4, c5, c6, c7, c8⟩, f0, f1, f2, f3, f4, f8⟩ := entAt.cells (Went.refl hz)
    clear hz
    go_wp2_with fail
    refine (HW.out.call_at 1 rfl (fun T1 h1 => goOnC b mb fb (count ({ supervise (told ({ e with fl := comeF e.fl ns }) 5 s) false p with fl := ackF (comeF e.fl ns) nr }) (ackN (comeF e.fl ns) nr)) (by have h9 : (count ({ supervise (told ({ e with fl := comeF e.fl ns }) 5 s) false p with fl := ackF (comeF e.fl ns) nr }) (ackN (comeF e.fl ns) nr)).out.length ≤ 7000 + 4 := len_count (len_supervise (len_told (hl))); exact Nat.le_trans h9 (by omega)) T1 _ _ (Went.refl h1))).mono ?_
    rintro r w7 ⟨rfl, hw⟩
    have HW : Aside0 (Went (all [blk g (.cells #[.int .i64 0, .int .i64 t, .bool true, .int .i64 0, .bool p, .int .i64 ns, .int .i64 nr, .string s] 144 (0, 0)), entAt b mb fb (goOn (count ({ supervise (told ({ e with fl := comeF e.fl ns }) 5 s) false p with fl := ackF (comeF e.fl ns) nr }) (ackN (comeF e.fl ns) nr)))]) T w0 w7) := ⟨hw⟩
    clear hw
    clear b0 b1 b2 b3 b4 b5 b6 b7
    clear c0 c1 c2 c3 c4 c5 c6 c7 c8 f0 f1 f2 f3 f4 f8
    obtain ⟨⟨b0, b1, b2, b3, b4, b5, b6, b7⟩, _⟩ := cells8 (HW.out.heap 0 rfl)
    obtain ⟨Tz, hz⟩ := HW.out.get 1 rfl
    obtain ⟨A, ca, ⟨c0, c1, c2, c3, c4, c5, c6, c7, c8⟩, f0, f1, f2, f3, f4, f8⟩ := entAt.cells (Went.refl hz)
    clear hz
    go_wp2
    go_end0
    exact ⟨rfl, Went.only (HW.out).drop⟩
theorem infoW7 (b mb fb : Nat) (e : E) (t : Int) (p : Bool) (ns nr : Int) (s : ByteArray) (hl : e.out.length ≤ 7000) (ha : ¬ ackOk (comeF e.fl ns) nr) (hc : come e.fl ns = 1) (T : Nat → Prop) (w0 w : World) (h : Went (entAt b mb fb e) T w0 w) :
    Calls Tryz.prog 130 #[.pointer (some ⟨b, 0, none⟩), .agg (frCells (⟨t, true, 0, p, ns, nr, s⟩ : Fr))] w fun r w' => r = .returned (.tuple #[]) ∧ Went (entAt b mb fb (info e (⟨t, true, 0, p, ns, nr, s⟩ : Fr))) T w0 w' := by
  have HOK := Aside0.mk (entAt.ok h)
  obtain ⟨A, ca, ⟨c0, c1, c2, c3, c4, c5, c6, c7, c8⟩, f0, f1, f2, f3, f4, f8⟩ := entAt.cells h
  have HW := Aside0.mk h
  clear h
  have hE1 : info1 e (⟨t, true, 0, p, ns, nr, s⟩ : Fr) = send ({ e with fl := comeF e.fl ns }) 3 false p := (if_neg (fun h => by have h1 : (1 : Int) = 0 := hc.symm.trans h; omega)).trans (if_pos hc)
  have hE2 : info2 (send ({ e with fl := comeF e.fl ns }) 3 false p) (⟨t, true, 0, p, ns, nr, s⟩ : Fr) = anew (send ({ e with fl := comeF e.fl ns }) 3 false p) ⟨#[74]⟩ := if_neg ha
  rw [show info e (⟨t, true, 0, p, ns, nr, s⟩ : Fr) = info2 (info1 e (⟨t, true, 0, p, ns, nr, s⟩ : Fr)) (⟨t, true, 0, p, ns, nr, s⟩ : Fr) from rfl, hE1, hE2]
  clear hE1 hE2
  have HK : Aside0 (∀ T1 wz, (flAt fb (comeF e.fl ns)).h T1 wz → Calls Tryz.prog 157 #[.pointer (some ⟨fb, 0, none⟩), .int .i64 nr] wz fun r w2 => r = .returned (.tuple #[.int .i64 0, .int .i64 2]) ∧ Went (flAt fb (comeF e.fl ns)) T1 wz w2) := ⟨fun T1 wz hz => by
    have h0 := Fl.ackC fb (comeF e.fl ns) nr T1 wz hz
    rw [if_neg ha, if_neg ha] at h0
    exact h0⟩
  have HM : Aside0 (∀ T1 wz, (flAt fb e.fl).h T1 wz → Calls Tryz.prog 156 #[.pointer (some ⟨fb, 0, none⟩), .int .i64 ns] wz fun r w2 => r = .returned (.int .i64 1) ∧ Went (flAt fb (comeF e.fl ns)) T1 wz w2) := ⟨fun T1 wz hz => by
    have h0 := Fl.comeC fb e.fl ns T1 wz hz
    rw [hc] at h0
    exact h0⟩
  clear hc
  clear ha
  have hbx := heap_alloc_new w (.cells #[.int .i64 0, .int .i64 t, .bool true, .int .i64 0, .bool p, .int .i64 ns, .int .i64 nr, .string s] 144 (0, 0))
  have hw := (Went.single HW.out).new (.cells #[.int .i64 0, .int .i64 t, .bool true, .int .i64 0, .bool p, .int .i64 ns, .int .i64 nr, .string s] 144 (0, 0))
  obtain ⟨g, HG⟩ : ∃ g, Aside0 (w.heap.size = g) := ⟨_, ⟨rfl⟩⟩
  rw [HG.out] at hw hbx
  clear HW
  have HW : Aside0 (Went (all [blk g (.cells #[.int .i64 0, .int .i64 t, .bool true, .int .i64 0, .bool p, .int .i64 ns, .int .i64 nr, .string s] 144 (0, 0)), entAt b mb fb (e)]) T w0 (w.alloc (.cells #[.int .i64 0, .int .i64 t, .bool true, .int .i64 0, .bool p, .int .i64 ns, .int .i64 nr, .string s] 144 (0, 0)))) := ⟨hw⟩
  clear hw
  obtain ⟨⟨b0, b1, b2, b3, b4, b5, b6, b7⟩, _⟩ := cells8 hbx
  clear hbx
  clear b0 b1 b2 b3 b4 b5 b6 b7
  clear c0 c1 c2 c3 c4 c5 c6 c7 c8 f0 f1 f2 f3 f4 f8
  obtain ⟨⟨b0, b1, b2, b3, b4, b5, b6, b7⟩, _⟩ := cells8 (HW.out.heap 0 rfl)
  obtain ⟨Tz, hz⟩ := HW.out.get 1 rfl
  obtain ⟨A, ca, ⟨c0, c1, c2, c3, c4, c5, c6, c7, c8⟩, f0, f1, f2, f3, f4, f8⟩ := entAt.cells (Went.refl hz)
  clear hz
  have hg := HG.out
  unfold frCells
  go_enter Tryz.func130, Tryz.ntmps130
  go_wp2_with fail
  generalize w.alloc (.cells #[.int .i64 0, .int .i64 t, .bool true, .int .i64 0, .bool p, .int .i64 ns, .int .i64 nr, .string s] 144 (0, 0)) = wx at *
  go_still_tail 6, (by kernel_rfl)
  change wpList _ _ _ _ _ (World.drew _)
  have HW := Aside0.mk HW.out.drew
  go_wp2_with fail
  refine (HW.out.call_at 1 rfl (fun T1 h1 => entAt.flow (Went.refl h1) (fun T2 h2 => HM.out T2 _ h2))).mono ?_
  rintro r w1 ⟨rfl, hw⟩
  have HW : Aside0 (Went (all [blk g (.cells #[.int .i64 0, .int .i64 t, .bool true, .int .i64 0, .bool p, .int .i64 ns, .int .i64 nr, .string s] 144 (0, 0)), entAt b mb fb ({ e with fl := comeF e.fl ns })]) T w0 w1) := ⟨hw⟩
  clear hw
  clear b0 b1 b2 b3 b4 b5 b6 b7
  clear c0 c1 c2 c3 c4 c5 c6 c7 c8 f0 f1 f2 f3 f4 f8
  obtain ⟨⟨b0, b1, b2, b3, b4, b5, b6, b7⟩, _⟩ := cells8 (HW.out.heap 0 rfl)
  obtain ⟨Tz, hz⟩ := HW.out.get 1 rfl
  obtain ⟨A, ca, ⟨c0, c1, c2, c3, c4, c5, c6, c7, c8⟩, f0, f1, f2, f3, f4, f8⟩ := entAt.cells (Went.refl hz)
  clear hz
  go_wp2_with fail
  refine (HW.out.call_at 1 rfl (fun T1 h1 => sendC b mb fb ({ e with fl := comeF e.fl ns }) 3 false p (Nat.le_trans hl (by omega)) T1 _ _ (Went.refl h1))).mono ?_
  rintro r w2 ⟨rfl, hw⟩
  have HW : Aside0 (Went (all [blk g (.cells #[.int .i64 0, .int .i64 t, .bool true, .int .i64 0, .bool p, .int .i64 ns, .int .i64 nr, .string s] 144 (0, 0)), entAt b mb fb (send ({ e with fl := comeF e.fl ns }) 3 false p)]) T w0 w2) := ⟨hw⟩
  clear hw
  clear b0 b1 b2 b3 b4 b5 b6 b7
  clear c0 c1 c2 c3 c4 c5 c6 c7 c8 f0 f1 f2 f3 f4 f8
  obtain ⟨⟨b0, b1, b2, b3, b4, b5, b6, b7⟩, _⟩ := cells8 (HW.out.heap 0 rfl)
  obtain ⟨Tz, hz⟩ := HW.out.get 1 rfl
  obtain ⟨A, ca, ⟨c0, c1, c2, c3, c4, c5, c6, c7, c8⟩, f0, f1, f2, f3, f4, f8⟩ := entAt.cells (Went.refl hz)
  clear hz
  go_wp2_with fail
  have HW := Aside0.mk HW.out.drew
  go_region_law (go_simp; go_at_call 157; refine (HW.out.call_at 1 rfl (fun T1 h1 => entAt.flow (Went.refl h1) (fun T2 h2 => HK.out T2 _ h2))).mono ?_; rintro r w3 ⟨rfl, hw⟩)
  all_goals
    have HW : Aside0 (Went (all [blk g (.cells #[.int .i64 0, .int .i64 t, .bool true, .int .i64 0, .bool p, .int .i64 ns, .int .i64 nr, .string s] 144 (0, 0)), entAt b mb fb ({ send ({ e with fl := comeF e.fl ns }) 3 false p with fl := (comeF e.fl ns) })]) T w0 w3) := ⟨hw⟩
    clear hw
    clear b0 b1 b2 b3 b4 b5 b6 b7
    clear c0 c1 c2 c3 c4 c5 c6 c7 c8 f0 f1 f2 f3 f4 f8
    obtain ⟨⟨b0, b1, b2, b3, b4, b5, b6, b7⟩, _⟩ := cells8 (HW.out.heap 0 rfl)
    obtain ⟨Tz, hz⟩ := HW.out.get 1 rfl
    obtain ⟨A, ca, ⟨c0, c1, c2, c3, c4, c5, c6, c7, c8⟩, f0, f1, f2, f3, f4, f8⟩ := entAt.cells (Went.refl hz)
    clear hz
    go_wp2_with fail
    refine (HW.out.call_at 1 rfl (fun T1 h1 => anewC b mb fb ({ send ({ e with fl := comeF e.fl ns }) 3 false p with fl := (comeF e.fl ns) }) ⟨#[74]⟩ (Nat.le_trans (len_send (hl)) (by omega)) T1 _ _ (Went.refl h1))).mono ?_
    rintro r w4 ⟨rfl, hw⟩
    have HW : Aside0 (Went (all [blk g (.cells #[.int .i64 0, .int .i64 t, .bool true, .int .i64 0, .bool p, .int .i64 ns, .int .i64 nr, .string s] 144 (0, 0)), entAt b mb fb (anew ({ send ({ e with fl := comeF e.fl ns }) 3 false p with fl := (comeF e.fl ns) }) ⟨#[74]⟩)]) T w0 w4) := ⟨hw⟩
    clear hw
    clear b0 b1 b2 b3 b4 b5 b6 b7
    clear c0 c1 c2 c3 c4 c5 c6 c7 c8 f0 f1 f2 f3 f4 f8
    obtain ⟨⟨b0, b1, b2, b3, b4, b5, b6, b7⟩, _⟩ := cells8 (HW.out.heap 0 rfl)
    obtain ⟨Tz, hz⟩ := HW.out.get 1 rfl
    obtain ⟨A, ca, ⟨c0, c1, c2, c3, c4, c5, c6, c7, c8⟩, f0, f1, f2, f3, f4, f8⟩ := entAt.cells (Went.refl hz)
    clear hz
    go_wp2
    go_end0
    exact ⟨rfl, Went.only (HW.out).drop⟩
theorem infoW8 (b mb fb : Nat) (e : E) (t : Int) (p : Bool) (ns nr : Int) (s : ByteArray) (hl : e.out.length ≤ 7000) (ha : ackOk (comeF e.fl ns) nr) (hs : e.state = 8) (hc : come e.fl ns = 1) (T : Nat → Prop) (w0 w : World) (h : Went (entAt b mb fb e) T w0 w) :
    Calls Tryz.prog 130 #[.pointer (some ⟨b, 0, none⟩), .agg (frCells (⟨t, true, 0, p, ns, nr, s⟩ : Fr))] w fun r w' => r = .returned (.tuple #[]) ∧ Went (entAt b mb fb (info e (⟨t, true, 0, p, ns, nr, s⟩ : Fr))) T w0 w' := by
  have HOK := Aside0.mk (entAt.ok h)
  obtain ⟨A, ca, ⟨c0, c1, c2, c3, c4, c5, c6, c7, c8⟩, f0, f1, f2, f3, f4, f8⟩ := entAt.cells h
  have HW := Aside0.mk h
  clear h
  have hE1 : info1 e (⟨t, true, 0, p, ns, nr, s⟩ : Fr) = send ({ e with fl := comeF e.fl ns }) 3 false p := (if_neg (fun h => by have h1 : (1 : Int) = 0 := hc.symm.trans h; omega)).trans (if_pos hc)
  have hE2 : info2 (send ({ e with fl := comeF e.fl ns }) 3 false p) (⟨t, true, 0, p, ns, nr, s⟩ : Fr) = { send ({ e with fl := comeF e.fl ns }) 3 false p with fl := ackF (comeF e.fl ns) nr } := (if_pos ha).trans (if_neg (fun h => by have h1 : (8 : Int) = 7 := hs.symm.trans h; omega))
  rw [show info e (⟨t, true, 0, p, ns, nr, s⟩ : Fr) = info2 (info1 e (⟨t, true, 0, p, ns, nr, s⟩ : Fr)) (⟨t, true, 0, p, ns, nr, s⟩ : Fr) from rfl, hE1, hE2]
  clear hE1 hE2
  have HK : Aside0 (∀ T1 wz, (flAt fb (comeF e.fl ns)).h T1 wz → Calls Tryz.prog 157 #[.pointer (some ⟨fb, 0, none⟩), .int .i64 nr] wz fun r w2 => r = .returned (.tuple #[.int .i64 (ackN (comeF e.fl ns) nr : Int), .int .i64 0]) ∧ Went (flAt fb (ackF (comeF e.fl ns) nr)) T1 wz w2) := ⟨fun T1 wz hz => by
    have h0 := Fl.ackC fb (comeF e.fl ns) nr T1 wz hz
    rw [if_pos ha, if_pos ha] at h0
    exact h0⟩
  have HM : Aside0 (∀ T1 wz, (flAt fb e.fl).h T1 wz → Calls Tryz.prog 156 #[.pointer (some ⟨fb, 0, none⟩), .int .i64 ns] wz fun r w2 => r = .returned (.int .i64 1) ∧ Went (flAt fb (comeF e.fl ns)) T1 wz w2) := ⟨fun T1 wz hz => by
    have h0 := Fl.comeC fb e.fl ns T1 wz hz
    rw [hc] at h0
    exact h0⟩
  clear hc
  have HS := Aside0.mk hs
  clear hs
  clear ha
  have hbx := heap_alloc_new w (.cells #[.int .i64 0, .int .i64 t, .bool true, .int .i64 0, .bool p, .int .i64 ns, .int .i64 nr, .string s] 144 (0, 0))
  have hw := (Went.single HW.out).new (.cells #[.int .i64 0, .int .i64 t, .bool true, .int .i64 0, .bool p, .int .i64 ns, .int .i64 nr, .string s] 144 (0, 0))
  obtain ⟨g, HG⟩ : ∃ g, Aside0 (w.heap.size = g) := ⟨_, ⟨rfl⟩⟩
  rw [HG.out] at hw hbx
  clear HW
  have HW : Aside0 (Went (all [blk g (.cells #[.int .i64 0, .int .i64 t, .bool true, .int .i64 0, .bool p, .int .i64 ns, .int .i64 nr, .string s] 144 (0, 0)), entAt b mb fb (e)]) T w0 (w.alloc (.cells #[.int .i64 0, .int .i64 t, .bool true, .int .i64 0, .bool p, .int .i64 ns, .int .i64 nr, .string s] 144 (0, 0)))) := ⟨hw⟩
  clear hw
  obtain ⟨⟨b0, b1, b2, b3, b4, b5, b6, b7⟩, _⟩ := cells8 hbx
  clear hbx
  clear b0 b1 b2 b3 b4 b5 b6 b7
  clear c0 c1 c2 c3 c4 c5 c6 c7 c8 f0 f1 f2 f3 f4 f8
  obtain ⟨⟨b0, b1, b2, b3, b4, b5, b6, b7⟩, _⟩ := cells8 (HW.out.heap 0 rfl)
  obtain ⟨Tz, hz⟩ := HW.out.get 1 rfl
  obtain ⟨A, ca, ⟨c0, c1, c2, c3, c4, c5, c6, c7, c8⟩, f0, f1, f2, f3, f4, f8⟩ := entAt.cells (Went.refl hz)
  clear hz
  have hg := HG.out
  unfold frCells
  go_enter Tryz.func130, Tryz.ntmps130
  go_wp2_with fail
  generalize w.alloc (.cells #[.int .i64 0, .int .i64 t, .bool true, .int .i64 0, .bool p, .int .i64 ns, .int .i64 nr, .string s] 144 (0, 0)) = wx at *
  go_still_tail 6, (by kernel_rfl)
  change wpList _ _ _ _ _ (World.drew _)
  have HW := Aside0.mk HW.out.drew
  go_wp2_with fail
  refine (HW.out.call_at 1 rfl (fun T1 h1 => entAt.flow (Went.refl h1) (fun T2 h2 => HM.out T2 _ h2))).mono ?_
  rintro r w1 ⟨rfl, hw⟩
  have HW : Aside0 (Went (all [blk g (.cells #[.int .i64 0, .int .i64 t, .bool true, .int .i64 0, .bool p, .int .i64 ns, .int .i64 nr, .string s] 144 (0, 0)), entAt b mb fb ({ e with fl := comeF e.fl ns })]) T w0 w1) := ⟨hw⟩
  clear hw
  clear b0 b1 b2 b3 b4 b5 b6 b7
  clear c0 c1 c2 c3 c4 c5 c6 c7 c8 f0 f1 f2 f3 f4 f8
  obtain ⟨⟨b0, b1, b2, b3, b4, b5, b6, b7⟩, _⟩ := cells8 (HW.out.heap 0 rfl)
  obtain ⟨Tz, hz⟩ := HW.out.get 1 rfl
  obtain ⟨A, ca, ⟨c0, c1, c2, c3, c4, c5, c6, c7, c8⟩, f0, f1, f2, f3, f4, f8⟩ := entAt.cells (Went.refl hz)
  clear hz
  go_wp2_with fail
  refine (HW.out.call_at 1 rfl (fun T1 h1 => sendC b mb fb ({ e with fl := comeF e.fl ns }) 3 false p (Nat.le_trans hl (by omega)) T1 _ _ (Went.refl h1))).mono ?_
  rintro r w2 ⟨rfl, hw⟩
  have HW : Aside0 (Went (all [blk g (.cells #[.int .i64 0, .int .i64 t, .bool true, .int .i64 0, .bool p, .int .i64 ns, .int .i64 nr, .string s] 144 (0, 0)), entAt b mb fb (send ({ e with fl := comeF e.fl ns }) 3 false p)]) T w0 w2) := ⟨hw⟩
  clear hw
  clear b0 b1 b2 b3 b4 b5 b6 b7
  clear c0 c1 c2 c3 c4 c5 c6 c7 c8 f0 f1 f2 f3 f4 f8
  obtain ⟨⟨b0, b1, b2, b3, b4, b5, b6, b7⟩, _⟩ := cells8 (HW.out.heap 0 rfl)
  obtain ⟨Tz, hz⟩ := HW.out.get 1 rfl
  obtain ⟨A, ca, ⟨c0, c1, c2, c3, c4, c5, c6, c7, c8⟩, f0, f1, f2, f3, f4, f8⟩ := entAt.cells (Went.refl hz)
  clear hz
  go_wp2_with fail
  have HW := Aside0.mk HW.out.drew
  go_region_law (go_simp; go_at_call 157; refine (HW.out.call_at 1 rfl (fun T1 h1 => entAt.flow (Went.refl h1) (fun T2 h2 => HK.out T2 _ h2))).mono ?_; rintro r w3 ⟨rfl, hw⟩)
  all_goals
    have HW : Aside0 (Went (all [blk g (.cells #[.int .i64 0, .int .i64 t, .bool true, .int .i64 0, .bool p, .int .i64 ns, .int .i64 nr, .string s] 144 (0, 0)), entAt b mb fb ({ send ({ e with fl := comeF e.fl ns }) 3 false p with fl := ackF (comeF e.fl ns) nr })]) T w0 w3) := ⟨hw⟩
    clear hw
    clear b0 b1 b2 b3 b4 b5 b6 b7
    clear c0 c1 c2 c3 c4 c5 c6 c7 c8 f0 f1 f2 f3 f4 f8
    obtain ⟨⟨b0, b1, b2, b3, b4, b5, b6, b7⟩, _⟩ := cells8 (HW.out.heap 0 rfl)
    obtain ⟨Tz, hz⟩ := HW.out.get 1 rfl
    obtain ⟨A, ca, ⟨c0, c1, c2, c3, c4, c5, c6, c7, c8⟩, f0, f1, f2, f3, f4, f8⟩ := entAt.cells (Went.refl hz)
    clear hz
    have hst : ({ send ({ e with fl := comeF e.fl ns }) 3 false p with fl := ackF (comeF e.fl ns) nr }).state = 8 := HS.out
    rw [hst] at c1
    clear hst
    go_wp2
    go_end0
    exact ⟨rfl, Went.only (HW.out).drop⟩
theorem infoW1 (b mb fb : Nat) (e : E) (t : Int) (p : Bool) (ns nr : Int) (s : ByteArray) (hl : e.out.length ≤ 7000) (ha : ackOk (comeF e.fl ns) nr) (hs : e.state = 7) (hp : (comeF e.fl ns).peer = true) (hc : come e.fl ns = 1) (T : Nat → Prop) (w0 w : World) (h : Went (entAt b mb fb e) T w0 w) :
    Calls Tryz.prog 130 #[.pointer (some ⟨b, 0, none⟩), .agg (frCells (⟨t, true, 0, p, ns, nr, s⟩ : Fr))] w fun r w' => r = .returned (.tuple #[]) ∧ Went (entAt b mb fb (info e (⟨t, true, 0, p, ns, nr, s⟩ : Fr))) T w0 w' := by
  have HOK := Aside0.mk (entAt.ok h)
  obtain ⟨A, ca, ⟨c0, c1, c2, c3, c4, c5, c6, c7, c8⟩, f0, f1, f2, f3, f4, f8⟩ := entAt.cells h
  have HW := Aside0.mk h
  clear h
  have hE1 : info1 e (⟨t, true, 0, p, ns, nr, s⟩ : Fr) = send ({ e with fl := comeF e.fl ns }) 3 false p := (if_neg (fun h => by have h1 : (1 : Int) = 0 := hc.symm.trans h; omega)).trans (if_pos hc)
  have hE2 : info2 (send ({ e with fl := comeF e.fl ns }) 3 false p) (⟨t, true, 0, p, ns, nr, s⟩ : Fr) = goOn ({ send ({ e with fl := comeF e.fl ns }) 3 false p with fl := ackF (comeF e.fl ns) nr }) := (if_pos ha).trans ((if_pos hs).trans (if_pos hp))
  rw [show info e (⟨t, true, 0, p, ns, nr, s⟩ : Fr) = info2 (info1 e (⟨t, true, 0, p, ns, nr, s⟩ : Fr)) (⟨t, true, 0, p, ns, nr, s⟩ : Fr) from rfl, hE1, hE2]
  clear hE1 hE2
  have HK : Aside0 (∀ T1 wz, (flAt fb (comeF e.fl ns)).h T1 wz → Calls Tryz.prog 157 #[.pointer (some ⟨fb, 0, none⟩), .int .i64 nr] wz fun r w2 => r = .returned (.tuple #[.int .i64 (ackN (comeF e.fl ns) nr : Int), .int .i64 0]) ∧ Went (flAt fb (ackF (comeF e.fl ns) nr)) T1 wz w2) := ⟨fun T1 wz hz => by
    have h0 := Fl.ackC fb (comeF e.fl ns) nr T1 wz hz
    rw [if_pos ha, if_pos ha] at h0
    exact h0⟩
  have HM : Aside0 (∀ T1 wz, (flAt fb e.fl).h T1 wz → Calls Tryz.prog 156 #[.pointer (some ⟨fb, 0, none⟩), .int .i64 ns] wz fun r w2 => r = .returned (.int .i64 1) ∧ Went (flAt fb (comeF e.fl ns)) T1 wz w2) := ⟨fun T1 wz hz => by
    have h0 := Fl.comeC fb e.fl ns T1 wz hz
    rw [hc] at h0
    exact h0⟩
  clear hc
  have HS := Aside0.mk hs
  clear hs
  have HP := Aside0.mk hp
  clear hp
  clear ha
  have hbx := heap_alloc_new w (.cells #[.int .i64 0, .int .i64 t, .bool true, .int .i64 0, .bool p, .int .i64 ns, .int .i64 nr, .string s] 144 (0, 0))
  have hw := (Went.single HW.out).new (.cells #[.int .i64 0, .int .i64 t, .bool true, .int .i64 0, .bool p, .int .i64 ns, .int .i64 nr, .string s] 144 (0, 0))
  obtain ⟨g, HG⟩ : ∃ g, Aside0 (w.heap.size = g) := ⟨_, ⟨rfl⟩⟩
  rw [HG.out] at hw hbx
  clear HW
  have HW : Aside0 (Went (all [blk g (.cells #[.int .i64 0, .int .i64 t, .bool true, .int .i64 0, .bool p, .int .i64 ns, .int .i64 nr, .string s] 144 (0, 0)), entAt b mb fb (e)]) T w0 (w.alloc (.cells #[.int .i64 0, .int .i64 t, .bool true, .int .i64 0, .bool p, .int .i64 ns, .int .i64 nr, .string s] 144 (0, 0)))) := ⟨hw⟩
  clear hw
  obtain ⟨⟨b0, b1, b2, b3, b4, b5, b6, b7⟩, _⟩ := cells8 hbx
  clear hbx
  clear b0 b1 b2 b3 b4 b5 b6 b7
  clear c0 c1 c2 c3 c4 c5 c6 c7 c8 f0 f1 f2 f3 f4 f8
  obtain ⟨⟨b0, b1, b2, b3, b4, b5, b6, b7⟩, _⟩ := cells8 (HW.out.heap 0 rfl)
  obtain ⟨Tz, hz⟩ := HW.out.get 1 rfl
  obtain ⟨A, ca, ⟨c0, c1, c2, c3, c4, c5, c6, c7, c8⟩, f0, f1, f2, f3, f4, f8⟩ := entAt.cells (Went.refl hz)
  clear hz
  have hg := HG.out
  unfold frCells
  go_enter Tryz.func130, Tryz.ntmps130
  go_wp2_with fail
  generalize w.alloc (.cells #[.int .i64 0, .int .i64 t, .bool true, .int .i64 0, .bool p, .int .i64 ns, .int .i64 nr, .string s] 144 (0, 0)) = wx at *
  go_still_tail 6, (by kernel_rfl)
  change wpList _ _ _ _ _ (World.drew _)
  have HW := Aside0.mk HW.out.drew
  go_wp2_with fail
  refine (HW.out.call_at 1 rfl (fun T1 h1 => entAt.flow (Went.refl h1) (fun T2 h2 => HM.out T2 _ h2))).mono ?_
  rintro r w1 ⟨rfl, hw⟩
  have HW : Aside0 (Went (all [blk g (.cells #[.int .i64 0, .int .i64 t, .bool true, .int .i64 0, .bool p, .int .i64 ns, .int .i64 nr, .string s] 144 (0, 0)), entAt b mb fb ({ e with fl := comeF e.fl ns })]) T w0 w1) := ⟨hw⟩
  clear hw
  clear b0 b1 b2 b3 b4 b5 b6 b7
  clear c0 c1 c2 c3 c4 c5 c6 c7 c8 f0 f1 f2 f3 f4 f8
  obtain ⟨⟨b0, b1, b2, b3, b4, b5, b6, b7⟩, _⟩ := cells8 (HW.out.heap 0 rfl)
  obtain ⟨Tz, hz⟩ := HW.out.get 1 rfl
  obtain ⟨A, ca, ⟨c0, c1, c2, c3, c4, c5, c6, c7, c8⟩, f0, f1, f2, f3, f4, f8⟩ := entAt.cells (Went.refl hz)
  clear hz
  go_wp2_with fail
  refine (HW.out.call_at 1 rfl (fun T1 h1 => sendC b mb fb ({ e with fl := comeF e.fl ns }) 3 false p (Nat.le_trans hl (by omega)) T1 _ _ (Went.refl h1))).mono ?_
  rintro r w2 ⟨rfl, hw⟩
  have HW : Aside0 (Went (all [blk g (.cells #[.int .i64 0, .int .i64 t, .bool true, .int .i64 0, .bool p, .int .i64 ns, .int .i64 nr, .string s] 144 (0, 0)), entAt b mb fb (send ({ e with fl := comeF e.fl ns }) 3 false p)]) T w0 w2) := ⟨hw⟩
  clear hw
  clear b0 b1 b2 b3 b4 b5 b6 b7
  clear c0 c1 c2 c3 c4 c5 c6 c7 c8 f0 f1 f2 f3 f4 f8
  obtain ⟨⟨b0, b1, b2, b3, b4, b5, b6, b7⟩, _⟩ := cells8 (HW.out.heap 0 rfl)
  obtain ⟨Tz, hz⟩ := HW.out.get 1 rfl
  obtain ⟨A, ca, ⟨c0, c1, c2, c3, c4, c5, c6, c7, c8⟩, f0, f1, f2, f3, f4, f8⟩ := entAt.cells (Went.refl hz)
  clear hz
  go_wp2_with fail
  have HW := Aside0.mk HW.out.drew
  go_region_law (go_simp; go_at_call 157; refine (HW.out.call_at 1 rfl (fun T1 h1 => entAt.flow (Went.refl h1) (fun T2 h2 => HK.out T2 _ h2))).mono ?_; rintro r w3 ⟨rfl, hw⟩)
  all_goals
    have HW : Aside0 (Went (all [blk g (.cells #[.int .i64 0, .int .i64 t, .bool true, .int .i64 0, .bool p, .int .i64 ns, .int .i64 nr, .string s] 144 (0, 0)), entAt b mb fb ({ send ({ e with fl := comeF e.fl ns }) 3 false p with fl := ackF (comeF e.fl ns) nr })]) T w0 w3) := ⟨hw⟩
    clear hw
    clear b0 b1 b2 b3 b4 b5 b6 b7
    clear c0 c1 c2 c3 c4 c5 c6 c7 c8 f0 f1 f2 f3 f4 f8
    obtain ⟨⟨b0, b1, b2, b3, b4, b5, b6, b7⟩, _⟩ := cells8 (HW.out.heap 0 rfl)
    obtain ⟨Tz, hz⟩ := HW.out.get 1 rfl
    obtain ⟨A, ca, ⟨c0, c1, c2, c3, c4, c5, c6, c7, c8⟩, f0, f1, f2, f3, f4, f8⟩ := entAt.cells (Went.refl hz)
    clear hz
    have hst : ({ send ({ e with fl := comeF e.fl ns }) 3 false p with fl := ackF (comeF e.fl ns) nr }).state = 7 := HS.out
    rw [hst] at c1
    clear hst
    obtain ⟨Tz, hz⟩ := HW.out.get 1 rfl
    obtain ⟨Ty, hf⟩ := entAt.flowGet (Went.refl hz)
    have hv := viewC fb (ackF (comeF e.fl ns) nr) Ty _ hf
    rw [show (ackF (comeF e.fl ns) nr).peer = true from HP.out] at hv
    have HV := Aside0.mk hv
    clear hz hf hv
    go_wp2_with fail
    refine HV.out.mono ?_
    rintro r w4 ⟨rfl, hb⟩
    have hw := HW.out.below hb
    have HW : Aside0 (Went (all [blk g (.cells #[.int .i64 0, .int .i64 t, .bool true, .int .i64 0, .bool p, .int .i64 ns, .int .i64 nr, .string s] 144 (0, 0)), entAt b mb fb ({ send ({ e with fl := comeF e.fl ns }) 3 false p with fl := ackF (comeF e.fl ns) nr })]) T w0 w4) := ⟨hw⟩
    clear hw hb HV
    clear b0 b1 b2 b3 b4 b5 b6 b7
    clear c0 c1 c2 c3 c4 c5 c6 c7 c8 f0 f1 f2 f3 f4 f8
    obtain ⟨⟨b0, b1, b2, b3, b4, b5, b6, b7⟩, _⟩ := cells8 (HW.out.heap 0 rfl)
    obtain ⟨Tz, hz⟩ := HW.out.get 1 rfl
    obtain ⟨A, ca, ⟨c0, c1, c2, c3, c4, c5, c6, c7, c8⟩, f0, f1, f2, f3, f4, f8⟩ := entAt.cells (Went.refl hz)
    clear hz
    go_wp2_with fail
    refine (HW.out.call_at 1 rfl (fun T1 h1 => goOnC b mb fb ({ send ({ e with fl := comeF e.fl ns }) 3 false p with fl := ackF (comeF e.fl ns) nr }) (by have h9 : ({ send ({ e with fl := comeF e.fl ns }) 3 false p with fl := ackF (comeF e.fl ns) nr }).out.length ≤ 7000 + 1 := len_send (hl); exact Nat.le_trans h9 (by omega)) T1 _ _ (Went.refl h1))).mono ?_
    rintro r w5 ⟨rfl, hw⟩
    have HW : Aside0 (Went (all [blk g (.cells #[.int .i64 0, .int .i64 t, .bool true, .int .i64 0, .bool p, .int .i64 ns, .int .i64 nr, .string s] 144 (0, 0)), entAt b mb fb (goOn ({ send ({ e with fl := comeF e.fl ns }) 3 false p with fl := ackF (comeF e.fl ns) nr }))]) T w0 w5) := ⟨hw⟩
    clear hw
    clear b0 b1 b2 b3 b4 b5 b6 b7
    clear c0 c1 c2 c3 c4 c5 c6 c7 c8 f0 f1 f2 f3 f4 f8
    obtain ⟨⟨b0, b1, b2, b3, b4, b5, b6, b7⟩, _⟩ := cells8 (HW.out.heap 0 rfl)
    obtain ⟨Tz, hz⟩ := HW.out.get 1 rfl
    obtain ⟨A, ca, ⟨c0, c1, c2, c3, c4, c5, c6, c7, c8⟩, f0, f1, f2, f3, f4, f8⟩ := entAt.cells (Went.refl hz)
    clear hz
    go_wp2
    go_end0
    exact ⟨rfl, Went.only (HW.out).drop⟩
theorem infoW0 (b mb fb : Nat) (e : E) (t : Int) (p : Bool) (ns nr : Int) (s : ByteArray) (hl : e.out.length ≤ 7000) (ha : ackOk (comeF e.fl ns) nr) (hs : e.state = 7) (hp : (comeF e.fl ns).peer = false) (hc : come e.fl ns = 1) (T : Nat → Prop) (w0 w : World) (h : Went (entAt b mb fb e) T w0 w) :
    Calls Tryz.prog 130 #[.pointer (some ⟨b, 0, none⟩), .agg (frCells (⟨t, true, 0, p, ns, nr, s⟩ : Fr))] w fun r w' => r = .returned (.tuple #[]) ∧ Went (entAt b mb fb (info e (⟨t, true, 0, p, ns, nr, s⟩ : Fr))) T w0 w' := by
  have HOK := Aside0.mk (entAt.ok h)
  obtain ⟨A, ca, ⟨c0, c1, c2, c3, c4, c5, c6, c7, c8⟩, f0, f1, f2, f3, f4, f8⟩ := entAt.cells h
  have HW := Aside0.mk h
  clear h
  have hE1 : info1 e (⟨t, true, 0, p, ns, nr, s⟩ : Fr) = send ({ e with fl := comeF e.fl ns }) 3 false p := (if_neg (fun h => by have h1 : (1 : Int) = 0 := hc.symm.trans h; omega)).trans (if_pos hc)
  have hE2 : info2 (send ({ e with fl := comeF e.fl ns }) 3 false p) (⟨t, true, 0, p, ns, nr, s⟩ : Fr) = goOn (count ({ send ({ e with fl := comeF e.fl ns }) 3 false p with fl := ackF (comeF e.fl ns) nr }) (ackN (comeF e.fl ns) nr)) := (if_pos ha).trans ((if_pos hs).trans (if_neg (fun h => by have h1 : (false : Bool) = true := hp.symm.trans h; cases h1)))
  rw [show info e (⟨t, true, 0, p, ns, nr, s⟩ : Fr) = info2 (info1 e (⟨t, true, 0, p, ns, nr, s⟩ : Fr)) (⟨t, true, 0, p, ns, nr, s⟩ : Fr) from rfl, hE1, hE2]
  clear hE1 hE2
  have HK : Aside0 (∀ T1 wz, (flAt fb (comeF e.fl ns)).h T1 wz → Calls Tryz.prog 157 #[.pointer (some ⟨fb, 0, none⟩), .int .i64 nr] wz fun r w2 => r = .returned (.tuple #[.int .i64 (ackN (comeF e.fl ns) nr : Int), .int .i64 0]) ∧ Went (flAt fb (ackF (comeF e.fl ns) nr)) T1 wz w2) := ⟨fun T1 wz hz => by
    have h0 := Fl.ackC fb (comeF e.fl ns) nr T1 wz hz
    rw [if_pos ha, if_pos ha] at h0
    exact h0⟩
  have HM : Aside0 (∀ T1 wz, (flAt fb e.fl).h T1 wz → Calls Tryz.prog 156 #[.pointer (some ⟨fb, 0, none⟩), .int .i64 ns] wz fun r w2 => r = .returned (.int .i64 1) ∧ Went (flAt fb (comeF e.fl ns)) T1 wz w2) := ⟨fun T1 wz hz => by
    have h0 := Fl.comeC fb e.fl ns T1 wz hz
    rw [hc] at h0
    exact h0⟩
  clear hc
  have HS := Aside0.mk hs
  clear hs
  have HP := Aside0.mk hp
  clear hp
  clear ha
  have hbx := heap_alloc_new w (.cells #[.int .i64 0, .int .i64 t, .bool true, .int .i64 0, .bool p, .int .i64 ns, .int .i64 nr, .string s] 144 (0, 0))
  have hw := (Went.single HW.out).new (.cells #[.int .i64 0, .int .i64 t, .bool true, .int .i64 0, .bool p, .int .i64 ns, .int .i64 nr, .string s] 144 (0, 0))
  obtain ⟨g, HG⟩ : ∃ g, Aside0 (w.heap.size = g) := ⟨_, ⟨rfl⟩⟩
  rw [HG.out] at hw hbx
  clear HW
  have HW : Aside0 (Went (all [blk g (.cells #[.int .i64 0, .int .i64 t, .bool true, .int .i64 0, .bool p, .int .i64 ns, .int .i64 nr, .string s] 144 (0, 0)), entAt b mb fb (e)]) T w0 (w.alloc (.cells #[.int .i64 0, .int .i64 t, .bool true, .int .i64 0, .bool p, .int .i64 ns, .int .i64 nr, .string s] 144 (0, 0)))) := ⟨hw⟩
  clear hw
  obtain ⟨⟨b0, b1, b2, b3, b4, b5, b6, b7⟩, _⟩ := cells8 hbx
  clear hbx
  clear b0 b1 b2 b3 b4 b5 b6 b7
  clear c0 c1 c2 c3 c4 c5 c6 c7 c8 f0 f1 f2 f3 f4 f8
  obtain ⟨⟨b0, b1, b2, b3, b4, b5, b6, b7⟩, _⟩ := cells8 (HW.out.heap 0 rfl)
  obtain ⟨Tz, hz⟩ := HW.out.get 1 rfl
  obtain ⟨A, ca, ⟨c0, c1, c2, c3, c4, c5, c6, c7, c8⟩, f0, f1, f2, f3, f4, f8⟩ := entAt.cells (Went.refl hz)
  clear hz
  have hg := HG.out
  unfold frCells
  go_enter Tryz.func130, Tryz.ntmps130
  go_wp2_with fail
  generalize w.alloc (.cells #[.int .i64 0, .int .i64 t, .bool true, .int .i64 0, .bool p, .int .i64 ns, .int .i64 nr, .string s] 144 (0, 0)) = wx at *
  go_still_tail 6, (by kernel_rfl)
  change wpList _ _ _ _ _ (World.drew _)
  have HW := Aside0.mk HW.out.drew
  go_wp2_with fail
  refine (HW.out.call_at 1 rfl (fun T1 h1 => entAt.flow (Went.refl h1) (fun T2 h2 => HM.out T2 _ h2))).mono ?_
  rintro r w1 ⟨rfl, hw⟩
  have HW : Aside0 (Went (all [blk g (.cells #[.int .i64 0, .int .i64 t, .bool true, .int .i64 0, .bool p, .int .i64 ns, .int .i64 nr, .string s] 144 (0, 0)), entAt b mb fb ({ e with fl := comeF e.fl ns })]) T w0 w1) := ⟨hw⟩
  clear hw
  clear b0 b1 b2 b3 b4 b5 b6 b7
  clear c0 c1 c2 c3 c4 c5 c6 c7 c8 f0 f1 f2 f3 f4 f8
  obtain ⟨⟨b0, b1, b2, b3, b4, b5, b6, b7⟩, _⟩ := cells8 (HW.out.heap 0 rfl)
  obtain ⟨Tz, hz⟩ := HW.out.get 1 rfl
  obtain ⟨A, ca, ⟨c0, c1, c2, c3, c4, c5, c6, c7, c8⟩, f0, f1, f2, f3, f4, f8⟩ := entAt.cells (Went.refl hz)
  clear hz
  go_wp2_with fail
  refine (HW.out.call_at 1 rfl (fun T1 h1 => sendC b mb fb ({ e with fl := comeF e.fl ns }) 3 false p (Nat.le_trans hl (by omega)) T1 _ _ (Went.refl h1))).mono ?_
  rintro r w2 ⟨rfl, hw⟩
  have HW : Aside0 (Went (all [blk g (.cells #[.int .i64 0, .int .i64 t, .bool true, .int .i64 0, .bool p, .int .i64 ns, .int .i64 nr, .string s] 144 (0, 0)), entAt b mb fb (send ({ e with fl := comeF e.fl ns }) 3 false p)]) T w0 w2) := ⟨hw⟩
  clear hw
  clear b0 b1 b2 b3 b4 b5 b6 b7
  clear c0 c1 c2 c3 c4 c5 c6 c7 c8 f0 f1 f2 f3 f4 f8
  obtain ⟨⟨b0, b1, b2, b3, b4, b5, b6, b7⟩, _⟩ := cells8 (HW.out.heap 0 rfl)
  obtain ⟨Tz, hz⟩ := HW.out.get 1 rfl
  obtain ⟨A, ca, ⟨c0, c1, c2, c3, c4, c5, c6, c7, c8⟩, f0, f1, f2, f3, f4, f8⟩ := entAt.cells (Went.refl hz)
  clear hz
  go_wp2_with fail
  have HW := Aside0.mk HW.out.drew
  go_region_law (go_simp; go_at_call 157; refine (HW.out.call_at 1 rfl (fun T1 h1 => entAt.flow (Went.refl h1) (fun T2 h2 => HK.out T2 _ h2))).mono ?_; rintro r w3 ⟨rfl, hw⟩)
  all_goals
    have HW : Aside0 (Went (all [blk g (.cells #[.int .i64 0, .int .i64 t, .bool true, .int .i64 0, .bool p, .int .i64 ns, .int .i64 nr, .string s] 144 (0, 0)), entAt b mb fb ({ send ({ e with fl := comeF e.fl ns }) 3 false p with fl := ackF (comeF e.fl ns) nr })]) T w0 w3) := ⟨hw⟩
    clear hw
    clear b0 b1 b2 b3 b4 b5 b6 b7
    clear c0 c1 c2 c3 c4 c5 c6 c7 c8 f0 f1 f2 f3 f4 f8
    obtain ⟨⟨b0, b1, b2, b3, b4, b5, b6, b7⟩, _⟩ := cells8 (HW.out.heap 0 rfl)
    obtain ⟨Tz, hz⟩ := HW.out.get 1 rfl
    obtain ⟨A, ca, ⟨c0, c1, c2, c3, c4, c5, c6, c7, c8⟩, f0, f1, f2, f3, f4, f8⟩ := entAt.cells (Went.refl hz)
    clear hz
    have hst : ({ send ({ e with fl := comeF e.fl ns }) 3 false p with fl := ackF (comeF e.fl ns) nr }).state = 7 := HS.out
    rw [hst] at c1
    clear hst
    obtain ⟨Tz, hz⟩ := HW.out.get 1 rfl
    obtain ⟨Ty, hf⟩ := entAt.flowGet (Went.refl hz)
    have hv := viewC fb (ackF (comeF e.fl ns) nr) Ty _ hf
    rw [show (ackF (comeF e.fl ns) nr).peer = false from HP.out] at hv
    have HV := Aside0.mk hv
    clear hz hf hv
    go_wp2_with fail
    refine HV.out.mono ?_
    rintro r w4 ⟨rfl, hb⟩
    have hw := HW.out.below hb
    have HW : Aside0 (Went (all [blk g (.cells #[.int .i64 0, .int .i64 t, .bool true, .int .i64 0, .bool p, .int .i64 ns, .int .i64 nr, .string s] 144 (0, 0)), entAt b mb fb ({ send ({ e with fl := comeF e.fl ns }) 3 false p with fl := ackF (comeF e.fl ns) nr })]) T w0 w4) := ⟨hw⟩
    clear hw hb HV
    clear b0 b1 b2 b3 b4 b5 b6 b7
    clear c0 c1 c2 c3 c4 c5 c6 c7 c8 f0 f1 f2 f3 f4 f8
    obtain ⟨⟨b0, b1, b2, b3, b4, b5, b6, b7⟩, _⟩ := cells8 (HW.out.heap 0 rfl)
    obtain ⟨Tz, hz⟩ := HW.out.get 1 rfl
    obtain ⟨A, ca, ⟨c0, c1, c2, c3, c4, c5, c6, c7, c8⟩, f0, f1, f2, f3, f4, f8⟩ := entAt.cells (Went.refl hz)
    clear hz
    go_wp2_with fail
    refine (HW.out.call_at 1 rfl (fun T1 h1 => countC b mb fb ({ send ({ e with fl := comeF e.fl ns }) 3 false p with fl := ackF (comeF e.fl ns) nr }) (ackN (comeF e.fl ns) nr) (Nat.le_trans (len_send (hl)) (by omega)) T1 _ _ (Went.refl h1))).mono ?_
    rintro r w5 ⟨rfl, hw⟩
    have HW : Aside0 (Went (all [blk g (.cells #[.int .i64 0, .int .i64 t, .bool true, .int .i64 0, .bool p, .int .i64 ns, .int .i64 nr, .string s] 144 (0, 0)), entAt b mb fb (count ({ send ({ e with fl := comeF e.fl ns }) 3 false p with fl := ackF (comeF e.fl ns) nr }) (ackN (comeF e.fl ns) nr))]) T w0 w5) := ⟨hw⟩
    clear hw
    clear b0 b1 b2 b3 b4 b5 b6 b7
    clear c0 c1 c2 c3 c4 c5 c6 c7 c8 f0 f1 f2 f3 f4 f8
    obtain ⟨⟨b0, b1, b2, b3, b4, b5, b6, b7⟩, _⟩ := cells8 (HW.out.heap 0 rfl)
    obtain ⟨Tz, hz⟩ := HW.out.get 1 rfl
    obtain ⟨A, ca, ⟨c0, c1, c2, c3, c4, c5, c6, c7, c8⟩, f0, f1, f2, f3, f4, f8⟩ := entAt.cells (Went.refl hz)
    clear hz
    go_wp2_with fail
    refine (HW.out.call_at 1 rfl (fun T1 h1 => goOnC b mb fb (count ({ send ({ e with fl := comeF e.fl ns }) 3 false p with fl := ackF (comeF e.fl ns) nr }) (ackN (comeF e.fl ns) nr)) (by have h9 : (count ({ send ({ e with fl := comeF e.fl ns }) 3 false p with fl := ackF (comeF e.fl ns) nr }) (ackN (comeF e.fl ns) nr)).out.length ≤ 7000 + 3 := len_count (len_send (hl)); exact Nat.le_trans h9 (by omega)) T1 _ _ (Went.refl h1))).mono ?_
    rintro r w6 ⟨rfl, hw⟩
    have HW : Aside0 (Went (all [blk g (.cells #[.int .i64 0, .int .i64 t, .bool true, .int .i64 0, .bool p, .int .i64 ns, .int .i64 nr, .string s] 144 (0, 0)), entAt b mb fb (goOn (count ({ send ({ e with fl := comeF e.fl ns }) 3 false p with fl := ackF (comeF e.fl ns) nr }) (ackN (comeF e.fl ns) nr)))]) T w0 w6) := ⟨hw⟩
    clear hw
    clear b0 b1 b2 b3 b4 b5 b6 b7
    clear c0 c1 c2 c3 c4 c5 c6 c7 c8 f0 f1 f2 f3 f4 f8
    obtain ⟨⟨b0, b1, b2, b3, b4, b5, b6, b7⟩, _⟩ := cells8 (HW.out.heap 0 rfl)
    obtain ⟨Tz, hz⟩ := HW.out.get 1 rfl
    obtain ⟨A, ca, ⟨c0, c1, c2, c3, c4, c5, c6, c7, c8⟩, f0, f1, f2, f3, f4, f8⟩ := entAt.cells (Went.refl hz)
    clear hz
    go_wp2
    go_end0
    exact ⟨rfl, Went.only (HW.out).drop⟩
theorem infoT7 (b mb fb : Nat) (e : E) (t ns nr : Int) (s : ByteArray) (hl : e.out.length ≤ 7000) (ha : ¬ ackOk (comeF e.fl ns) nr) (cv : Int) (hcv : come e.fl ns = cv) (hc0 : ¬ come e.fl ns = 0) (hc1 : ¬ come e.fl ns = 1) (T : Nat → Prop) (w0 w : World) (h : Went (entAt b mb fb e) T w0 w) :
    Calls Tryz.prog 130 #[.pointer (some ⟨b, 0, none⟩), .agg (frCells (⟨t, true, 0, true, ns, nr, s⟩ : Fr))] w fun r w' => r = .returned (.tuple #[]) ∧ Went (entAt b mb fb (info e (⟨t, true, 0, true, ns, nr, s⟩ : Fr))) T w0 w' := by
  have HOK := Aside0.mk (entAt.ok h)
  obtain ⟨A, ca, ⟨c0, c1, c2, c3, c4, c5, c6, c7, c8⟩, f0, f1, f2, f3, f4, f8⟩ := entAt.cells h
  have HW := Aside0.mk h
  clear h
  have hE1 : info1 e (⟨t, true, 0, true, ns, nr, s⟩ : Fr) = supervise ({ e with fl := comeF e.fl ns }) false true := (if_neg (fun h => hc0 h)).trans ((if_neg (fun h => hc1 h)).trans (if_pos rfl))
  have hE2 : info2 (supervise ({ e with fl := comeF e.fl ns }) false true) (⟨t, true, 0, true, ns, nr, s⟩ : Fr) = anew (supervise ({ e with fl := comeF e.fl ns }) false true) ⟨#[74]⟩ := if_neg ha
  rw [show info e (⟨t, true, 0, true, ns, nr, s⟩ : Fr) = info2 (info1 e (⟨t, true, 0, true, ns, nr, s⟩ : Fr)) (⟨t, true, 0, true, ns, nr, s⟩ : Fr) from rfl, hE1, hE2]
  clear hE1 hE2
  have HK : Aside0 (∀ T1 wz, (flAt fb (comeF e.fl ns)).h T1 wz → Calls Tryz.prog 157 #[.pointer (some ⟨fb, 0, none⟩), .int .i64 nr] wz fun r w2 => r = .returned (.tuple #[.int .i64 0, .int .i64 2]) ∧ Went (flAt fb (comeF e.fl ns)) T1 wz w2) := ⟨fun T1 wz hz => by
    have h0 := Fl.ackC fb (comeF e.fl ns) nr T1 wz hz
    rw [if_neg ha, if_neg ha] at h0
    exact h0⟩
  have HM : Aside0 (∀ T1 wz, (flAt fb e.fl).h T1 wz → Calls Tryz.prog 156 #[.pointer (some ⟨fb, 0, none⟩), .int .i64 ns] wz fun r w2 => r = .returned (.int .i64 cv) ∧ Went (flAt fb (comeF e.fl ns)) T1 wz w2) := ⟨fun T1 wz hz => by
    have h0 := Fl.comeC fb e.fl ns T1 wz hz
    rw [hcv] at h0
    exact h0⟩
  have hb0 : (cv == 0) = false := by rw [beq_eq_false_iff_ne, ← hcv]; exact hc0
  have hb1 : (cv == 1) = false := by rw [beq_eq_false_iff_ne, ← hcv]; exact hc1
  clear hc0 hc1 hcv
  clear ha
  have hbx := heap_alloc_new w (.cells #[.int .i64 0, .int .i64 t, .bool true, .int .i64 0, .bool true, .int .i64 ns, .int .i64 nr, .string s] 144 (0, 0))
  have hw := (Went.single HW.out).new (.cells #[.int .i64 0, .int .i64 t, .bool true, .int .i64 0, .bool true, .int .i64 ns, .int .i64 nr, .string s] 144 (0, 0))
  obtain ⟨g, HG⟩ : ∃ g, Aside0 (w.heap.size = g) := ⟨_, ⟨rfl⟩⟩
  rw [HG.out] at hw hbx
  clear HW
  have HW : Aside0 (Went (all [blk g (.cells #[.int .i64 0, .int .i64 t, .bool true, .int .i64 0, .bool true, .int .i64 ns, .int .i64 nr, .string s] 144 (0, 0)), entAt b mb fb (e)]) T w0 (w.alloc (.cells #[.int .i64 0, .int .i64 t, .bool true, .int .i64 0, .bool true, .int .i64 ns, .int .i64 nr, .string s] 144 (0, 0)))) := ⟨hw⟩
  clear hw
  obtain ⟨⟨b0, b1, b2, b3, b4, b5, b6, b7⟩, _⟩ := cells8 hbx
  clear hbx
  clear b0 b1 b2 b3 b4 b5 b6 b7
  clear c0 c1 c2 c3 c4 c5 c6 c7 c8 f0 f1 f2 f3 f4 f8
  obtain ⟨⟨b0, b1, b2, b3, b4, b5, b6, b7⟩, _⟩ := cells8 (HW.out.heap 0 rfl)
  obtain ⟨Tz, hz⟩ := HW.out.get 1 rfl
  obtain ⟨A, ca, ⟨c0, c1, c2, c3, c4, c5, c6, c7, c8⟩, f0, f1, f2, f3, f4, f8⟩ := entAt.cells (Went.refl hz)
  clear hz
  have hg := HG.out
  unfold frCells
  go_enter Tryz.func130, Tryz.ntmps130
  go_wp2_with fail
  generalize w.alloc (.cells #[.int .i64 0, .int .i64 t, .bool true, .int .i64 0, .bool true, .int .i64 ns, .int .i64 nr, .string s] 144 (0, 0)) = wx at *
  go_still_tail 6, (by kernel_rfl)
  change wpList _ _ _ _ _ (World.drew _)
  have HW := Aside0.mk HW.out.drew
  go_wp2_with fail
  refine (HW.out.call_at 1 rfl (fun T1 h1 => entAt.flow (Went.refl h1) (fun T2 h2 => HM.out T2 _ h2))).mono ?_
  rintro r w1 ⟨rfl, hw⟩
  have HW : Aside0 (Went (all [blk g (.cells #[.int .i64 0, .int .i64 t, .bool true, .int .i64 0, .bool true, .int .i64 ns, .int .i64 nr, .string s] 144 (0, 0)), entAt b mb fb ({ e with fl := comeF e.fl ns })]) T w0 w1) := ⟨hw⟩
  clear hw
  clear b0 b1 b2 b3 b4 b5 b6 b7
  clear c0 c1 c2 c3 c4 c5 c6 c7 c8 f0 f1 f2 f3 f4 f8
  obtain ⟨⟨b0, b1, b2, b3, b4, b5, b6, b7⟩, _⟩ := cells8 (HW.out.heap 0 rfl)
  obtain ⟨Tz, hz⟩ := HW.out.get 1 rfl
  obtain ⟨A, ca, ⟨c0, c1, c2, c3, c4, c5, c6, c7, c8⟩, f0, f1, f2, f3, f4, f8⟩ := entAt.cells (Went.refl hz)
  clear hz
  go_wp2_with fail
  refine (HW.out.call_at 1 rfl (fun T1 h1 => superviseC b mb fb ({ e with fl := comeF e.fl ns }) false true (Nat.le_trans hl (by omega)) T1 _ _ (Went.refl h1))).mono ?_
  rintro r w2 ⟨rfl, hw⟩
  have HW : Aside0 (Went (all [blk g (.cells #[.int .i64 0, .int .i64 t, .bool true, .int .i64 0, .bool true, .int .i64 ns, .int .i64 nr, .string s] 144 (0, 0)), entAt b mb fb (supervise ({ e with fl := comeF e.fl ns }) false true)]) T w0 w2) := ⟨hw⟩
  clear hw
  clear b0 b1 b2 b3 b4 b5 b6 b7
  clear c0 c1 c2 c3 c4 c5 c6 c7 c8 f0 f1 f2 f3 f4 f8
  obtain ⟨⟨b0, b1, b2, b3, b4, b5, b6, b7⟩, _⟩ := cells8 (HW.out.heap 0 rfl)
  obtain ⟨Tz, hz⟩ := HW.out.get 1 rfl
  obtain ⟨A, ca, ⟨c0, c1, c2, c3, c4, c5, c6, c7, c8⟩, f0, f1, f2, f3, f4, f8⟩ := entAt.cells (Went.refl hz)
  clear hz
  go_wp2_with fail
  have HW := Aside0.mk HW.out.drew
  go_region_law (go_simp; go_at_call 157; refine (HW.out.call_at 1 rfl (fun T1 h1 => entAt.flow (Went.refl h1) (fun T2 h2 => HK.out T2 _ h2))).mono ?_; rintro r w3 ⟨rfl, hw⟩)
  all_goals
    have HW : Aside0 (Went (all [blk g (.cells #[.int .i64 0, .int .i64 t, .bool true, .int .i64 0, .bool true, .int .i64 ns, .int .i64 nr, .string s] 144 (0, 0)), entAt b mb fb ({ supervise ({ e with fl := comeF e.fl ns }) false true with fl := (comeF e.fl ns) })]) T w0 w3) := ⟨hw⟩
    clear hw
    clear b0 b1 b2 b3 b4 b5 b6 b7
    clear c0 c1 c2 c3 c4 c5 c6 c7 c8 f0 f1 f2 f3 f4 f8
    obtain ⟨⟨b0, b1, b2, b3, b4, b5, b6, b7⟩, _⟩ := cells8 (HW.out.heap 0 rfl)
    obtain ⟨Tz, hz⟩ := HW.out.get 1 rfl
    obtain ⟨A, ca, ⟨c0, c1, c2, c3, c4, c5, c6, c7, c8⟩, f0, f1, f2, f3, f4, f8⟩ := entAt.cells (Went.refl hz)
    clear hz
    go_wp2_with fail
    refine (HW.out.call_at 1 rfl (fun T1 h1 => anewC b mb fb ({ supervise ({ e with fl := comeF e.fl ns }) false true with fl := (comeF e.fl ns) }) ⟨#[74]⟩ (Nat.le_trans (len_supervise (hl)) (by omega)) T1 _ _ (Went.refl h1))).mono ?_
    rintro r w4 ⟨rfl, hw⟩
    have HW : Aside0 (Went (all [blk g (.cells #[.int .i64 0, .int .i64 t, .bool true, .int .i64 0, .bool true, .int .i64 ns, .int .i64 nr, .string s] 144 (0, 0)), entAt b mb fb (anew ({ supervise ({ e with fl := comeF e.fl ns }) false true with fl := (comeF e.fl ns) }) ⟨#[74]⟩)]) T w0 w4) := ⟨hw⟩
    clear hw
    clear b0 b1 b2 b3 b4 b5 b6 b7
    clear c0 c1 c2 c3 c4 c5 c6 c7 c8 f0 f1 f2 f3 f4 f8
    obtain ⟨⟨b0, b1, b2, b3, b4, b5, b6, b7⟩, _⟩ := cells8 (HW.out.heap 0 rfl)
    obtain ⟨Tz, hz⟩ := HW.out.get 1 rfl
    obtain ⟨A, ca, ⟨c0, c1, c2, c3, c4, c5, c6, c7, c8⟩, f0, f1, f2, f3, f4, f8⟩ := entAt.cells (Went.refl hz)
    clear hz
    go_wp2
    go_end0
    exact ⟨rfl, Went.only (HW.out).drop⟩
theorem infoT8 (b mb fb : Nat) (e : E) (t ns nr : Int) (s : ByteArray) (hl : e.out.length ≤ 7000) (ha : ackOk (comeF e.fl ns) nr) (hs : e.state = 8) (cv : Int) (hcv : come e.fl ns = cv) (hc0 : ¬ come e.fl ns = 0) (hc1 : ¬ come e.fl ns = 1) (T : Nat → Prop) (w0 w : World) (h : Went (entAt b mb fb e) T w0 w) :
    Calls Tryz.prog 130 #[.pointer (some ⟨b, 0, none⟩), .agg (frCells (⟨t, true, 0, true, ns, nr, s⟩ : Fr))] w fun r w' => r = .returned (.tuple #[]) ∧ Went (entAt b mb fb (info e (⟨t, true, 0, true, ns, nr, s⟩ : Fr))) T w0 w' := by
  have HOK := Aside0.mk (entAt.ok h)
  obtain ⟨A, ca, ⟨c0, c1, c2, c3, c4, c5, c6, c7, c8⟩, f0, f1, f2, f3, f4, f8⟩ := entAt.cells h
  have HW := Aside0.mk h
  clear h
  have hE1 : info1 e (⟨t, true, 0, true, ns, nr, s⟩ : Fr) = supervise ({ e with fl := comeF e.fl ns }) false true := (if_neg (fun h => hc0 h)).trans ((if_neg (fun h => hc1 h)).trans (if_pos rfl))
  have hE2 : info2 (supervise ({ e with fl := comeF e.fl ns }) false true) (⟨t, true, 0, true, ns, nr, s⟩ : Fr) = { supervise ({ e with fl := comeF e.fl ns }) false true with fl := ackF (comeF e.fl ns) nr } := (if_pos ha).trans (if_neg (fun h => by have h1 : (8 : Int) = 7 := hs.symm.trans h; omega))
  rw [show info e (⟨t, true, 0, true, ns, nr, s⟩ : Fr) = info2 (info1 e (⟨t, true, 0, true, ns, nr, s⟩ : Fr)) (⟨t, true, 0, true, ns, nr, s⟩ : Fr) from rfl, hE1, hE2]
  clear hE1 hE2
  have HK : Aside0 (∀ T1 wz, (flAt fb (comeF e.fl ns)).h T1 wz → Calls Tryz.prog 157 #[.pointer (some ⟨fb, 0, none⟩), .int .i64 nr] wz fun r w2 => r = .returned (.tuple #[.int .i64 (ackN (comeF e.fl ns) nr : Int), .int .i64 0]) ∧ Went (flAt fb (ackF (comeF e.fl ns) nr)) T1 wz w2) := ⟨fun T1 wz hz => by
    have h0 := Fl.ackC fb (comeF e.fl ns) nr T1 wz hz
    rw [if_pos ha, if_pos ha] at h0
    exact h0⟩
  have HM : Aside0 (∀ T1 wz, (flAt fb e.fl).h T1 wz → Calls Tryz.prog 156 #[.pointer (some ⟨fb, 0, none⟩), .int .i64 ns] wz fun r w2 => r = .returned (.int .i64 cv) ∧ Went (flAt fb (comeF e.fl ns)) T1 wz w2) := ⟨fun T1 wz hz => by
    have h0 := Fl.comeC fb e.fl ns T1 wz hz
    rw [hcv] at h0
    exact h0⟩
  have hb0 : (cv == 0) = false := by rw [beq_eq_false_iff_ne, ← hcv]; exact hc0
  have hb1 : (cv == 1) = false := by rw [beq_eq_false_iff_ne, ← hcv]; exact hc1
  clear hc0 hc1 hcv
  have HS := Aside0.mk hs
  clear hs
  clear ha
  have hbx := heap_alloc_new w (.cells #[.int .i64 0, .int .i64 t, .bool true, .int .i64 0, .bool true, .int .i64 ns, .int .i64 nr, .string s] 144 (0, 0))
  have hw := (Went.single HW.out).new (.cells #[.int .i64 0, .int .i64 t, .bool true, .int .i64 0, .bool true, .int .i64 ns, .int .i64 nr, .string s] 144 (0, 0))
  obtain ⟨g, HG⟩ : ∃ g, Aside0 (w.heap.size = g) := ⟨_, ⟨rfl⟩⟩
  rw [HG.out] at hw hbx
  clear HW
  have HW : Aside0 (Went (all [blk g (.cells #[.int .i64 0, .int .i64 t, .bool true, .int .i64 0, .bool true, .int .i64 ns, .int .i64 nr, .string s] 144 (0, 0)), entAt b mb fb (e)]) T w0 (w.alloc (.cells #[.int .i64 0, .int .i64 t, .bool true, .int .i64 0, .bool true, .int .i64 ns, .int .i64 nr, .string s] 144 (0, 0)))) := ⟨hw⟩
  clear hw
  obtain ⟨⟨b0, b1, b2, b3, b4, b5, b6, b7⟩, _⟩ := cells8 hbx
  clear hbx
  clear b0 b1 b2 b3 b4 b5 b6 b7
  clear c0 c1 c2 c3 c4 c5 c6 c7 c8 f0 f1 f2 f3 f4 f8
  obtain ⟨⟨b0, b1, b2, b3, b4, b5, b6, b7⟩, _⟩ := cells8 (HW.out.heap 0 rfl)
  obtain ⟨Tz, hz⟩ := HW.out.get 1 rfl
  obtain ⟨A, ca, ⟨c0, c1, c2, c3, c4, c5, c6, c7, c8⟩, f0, f1, f2, f3, f4, f8⟩ := entAt.cells (Went.refl hz)
  clear hz
  have hg := HG.out
  unfold frCells
  go_enter Tryz.func130, Tryz.ntmps130
  go_wp2_with fail
  generalize w.alloc (.cells #[.int .i64 0, .int .i64 t, .bool true, .int .i64 0, .bool true, .int .i64 ns, .int .i64 nr, .string s] 144 (0, 0)) = wx at *
  go_still_tail 6, (by kernel_rfl)
  change wpList _ _ _ _ _ (World.drew _)
  have HW := Aside0.mk HW.out.drew
  go_wp2_with fail
  refine (HW.out.call_at 1 rfl (fun T1 h1 => entAt.flow (Went.refl h1) (fun T2 h2 => HM.out T2 _ h2))).mono ?_
  rintro r w1 ⟨rfl, hw⟩
  have HW : Aside0 (Went (all [blk g (.cells #[.int .i64 0, .int .i64 t, .bool true, .int .i64 0, .bool true, .int .i64 ns, .int .i64 nr, .string s] 144 (0, 0)), entAt b mb fb ({ e with fl := comeF e.fl ns })]) T w0 w1) := ⟨hw⟩
  clear hw
  clear b0 b1 b2 b3 b4 b5 b6 b7
  clear c0 c1 c2 c3 c4 c5 c6 c7 c8 f0 f1 f2 f3 f4 f8
  obtain ⟨⟨b0, b1, b2, b3, b4, b5, b6, b7⟩, _⟩ := cells8 (HW.out.heap 0 rfl)
  obtain ⟨Tz, hz⟩ := HW.out.get 1 rfl
  obtain ⟨A, ca, ⟨c0, c1, c2, c3, c4, c5, c6, c7, c8⟩, f0, f1, f2, f3, f4, f8⟩ := entAt.cells (Went.refl hz)
  clear hz
  go_wp2_with fail
  refine (HW.out.call_at 1 rfl (fun T1 h1 => superviseC b mb fb ({ e with fl := comeF e.fl ns }) false true (Nat.le_trans hl (by omega)) T1 _ _ (Went.refl h1))).mono ?_
  rintro r w2 ⟨rfl, hw⟩
  have HW : Aside0 (Went (all [blk g (.cells #[.int .i64 0, .int .i64 t, .bool true, .int .i64 0, .bool true, .int .i64 ns, .int .i64 nr, .string s] 144 (0, 0)), entAt b mb fb (supervise ({ e with fl := comeF e.fl ns }) false true)]) T w0 w2) := ⟨hw⟩
  clear hw
  clear b0 b1 b2 b3 b4 b5 b6 b7
  clear c0 c1 c2 c3 c4 c5 c6 c7 c8 f0 f1 f2 f3 f4 f8
  obtain ⟨⟨b0, b1, b2, b3, b4, b5, b6, b7⟩, _⟩ := cells8 (HW.out.heap 0 rfl)
  obtain ⟨Tz, hz⟩ := HW.out.get 1 rfl
  obtain ⟨A, ca, ⟨c0, c1, c2, c3, c4, c5, c6, c7, c8⟩, f0, f1, f2, f3, f4, f8⟩ := entAt.cells (Went.refl hz)
  clear hz
  go_wp2_with fail
  have HW := Aside0.mk HW.out.drew
  go_region_law (go_simp; go_at_call 157; refine (HW.out.call_at 1 rfl (fun T1 h1 => entAt.flow (Went.refl h1) (fun T2 h2 => HK.out T2 _ h2))).mono ?_; rintro r w3 ⟨rfl, hw⟩)
  all_goals
    have HW : Aside0 (Went (all [blk g (.cells #[.int .i64 0, .int .i64 t, .bool true, .int .i64 0, .bool true, .int .i64 ns, .int .i64 nr, .string s] 144 (0, 0)), entAt b mb fb ({ supervise ({ e with fl := comeF e.fl ns }) false true with fl := ackF (comeF e.fl ns) nr })]) T w0 w3) := ⟨hw⟩
    clear hw
    clear b0 b1 b2 b3 b4 b5 b6 b7
    clear c0 c1 c2 c3 c4 c5 c6 c7 c8 f0 f1 f2 f3 f4 f8
    obtain ⟨⟨b0, b1, b2, b3, b4, b5, b6, b7⟩, _⟩ := cells8 (HW.out.heap 0 rfl)
    obtain ⟨Tz, hz⟩ := HW.out.get 1 rfl
    obtain ⟨A, ca, ⟨c0, c1, c2, c3, c4, c5, c6, c7, c8⟩, f0, f1, f2, f3, f4, f8⟩ := entAt.cells (Went.refl hz)
    clear hz
    have hst : ({ supervise ({ e with fl := comeF e.fl ns }) false true with fl := ackF (comeF e.fl ns) nr }).state = 8 := HS.out
    rw [hst] at c1
    clear hst
    go_wp2
    go_end0
    exact ⟨rfl, Went.only (HW.out).drop⟩
theorem infoT1 (b mb fb : Nat) (e : E) (t ns nr : Int) (s : ByteArray) (hl : e.out.length ≤ 7000) (ha : ackOk (comeF e.fl ns) nr) (hs : e.state = 7) (hp : (comeF e.fl ns).peer = true) (cv : Int) (hcv : come e.fl ns = cv) (hc0 : ¬ come e.fl ns = 0) (hc1 : ¬ come e.fl ns = 1) (T : Nat → Prop) (w0 w : World) (h : Went (entAt b mb fb e) T w0 w) :
    Calls Tryz.prog 130 #[.pointer (some ⟨b, 0, none⟩), .agg (frCells (⟨t, true, 0, true, ns, nr, s⟩ : Fr))] w fun r w' => r = .returned (.tuple #[]) ∧ Went (entAt b mb fb (info e (⟨t, true, 0, true, ns, nr, s⟩ : Fr))) T w0 w' := by
  have HOK := Aside0.mk (entAt.ok h)
  obtain ⟨A, ca, ⟨c0, c1, c2, c3, c4, c5, c6, c7, c8⟩, f0, f1, f2, f3, f4, f8⟩ := entAt.cells h
  have HW := Aside0.mk h
  clear h
  have hE1 : info1 e (⟨t, true, 0, true, ns, nr, s⟩ : Fr) = supervise ({ e with fl := comeF e.fl ns }) false true := (if_neg (fun h => hc0 h)).trans ((if_neg (fun h => hc1 h)).trans (if_pos rfl))
  have hE2 : info2 (supervise ({ e with fl := comeF e.fl ns }) false true) (⟨t, true, 0, true, ns, nr, s⟩ : Fr) = goOn ({ supervise ({ e with fl := comeF e.fl ns }) false true with fl := ackF (comeF e.fl ns) nr }) := (if_pos ha).trans ((if_pos hs).trans (if_pos hp))
  rw [show info e (⟨t, true, 0, true, ns, nr, s⟩ : Fr) = info2 (info1 e (⟨t, true, 0, true, ns, nr, s⟩ : Fr)) (⟨t, true, 0, true, ns, nr, s⟩ : Fr) from rfl, hE1, hE2]
  clear hE1 hE2
  have HK : Aside0 (∀ T1 wz, (flAt fb (comeF e.fl ns)).h T1 wz → Calls Tryz.prog 157 #[.pointer (some ⟨fb, 0, none⟩), .int .i64 nr] wz fun r w2 => r = .returned (.tuple #[.int .i64 (ackN (comeF e.fl ns) nr : Int), .int .i64 0]) ∧ Went (flAt fb (ackF (comeF e.fl ns) nr)) T1 wz w2) := ⟨fun T1 wz hz => by
    have h0 := Fl.ackC fb (comeF e.fl ns) nr T1 wz hz
    rw [if_pos ha, if_pos ha] at h0
    exact h0⟩
  have HM : Aside0 (∀ T1 wz, (flAt fb e.fl).h T1 wz → Calls Tryz.prog 156 #[.pointer (some ⟨fb, 0, none⟩), .int .i64 ns] wz fun r w2 => r = .returned (.int .i64 cv) ∧ Went (flAt fb (comeF e.fl ns)) T1 wz w2) := ⟨fun T1 wz hz => by
    have h0 := Fl.comeC fb e.fl ns T1 wz hz
    rw [hcv] at h0
    exact h0⟩
  have hb0 : (cv == 0) = false := by rw [beq_eq_false_iff_ne, ← hcv]; exact hc0
  have hb1 : (cv == 1) = false := by rw [beq_eq_false_iff_ne, ← hcv]; exact hc1
  clear hc0 hc1 hcv
  have HS := Aside0.mk hs
  clear hs
  have HP := Aside0.mk hp
  clear hp
  clear ha
  have hbx := heap_alloc_new w (.cells #[.int .i64 0, .int .i64 t, .bool true, .int .i64 0, .bool true, .int .i64 ns, .int .i64 nr, .string s] 144 (0, 0))
  have hw := (Went.single HW.out).new (.cells #[.int .i64 0, .int .i64 t, .bool true, .int .i64 0, .bool true, .int .i64 ns, .int .i64 nr, .string s] 144 (0, 0))
  obtain ⟨g, HG⟩ : ∃ g, Aside0 (w.heap.size = g) := ⟨_, ⟨rfl⟩⟩
  rw [HG.out] at hw hbx
  clear HW
  have HW : Aside0 (Went (all [blk g (.cells #[.int .i64 0, .int .i64 t, .bool true, .int .i64 0, .bool true, .int .i64 ns, .int .i64 nr, .string s] 144 (0, 0)), entAt b mb fb (e)]) T w0 (w.alloc (.cells #[.int .i64 0, .int .i64 t, .bool true, .int .i64 0, .bool true, .int .i64 ns, .int .i64 nr, .string s] 144 (0, 0)))) := ⟨hw⟩
  clear hw
  obtain ⟨⟨b0, b1, b2, b3, b4, b5, b6, b7⟩, _⟩ := cells8 hbx
  clear hbx
  clear b0 b1 b2 b3 b4 b5 b6 b7
  clear c0 c1 c2 c3 c4 c5 c6 c7 c8 f0 f1 f2 f3 f4 f8
  obtain ⟨⟨b0, b1, b2, b3, b4, b5, b6, b7⟩, _⟩ := cells8 (HW.out.heap 0 rfl)
  obtain ⟨Tz, hz⟩ := HW.out.get 1 rfl
  obtain ⟨A, ca, ⟨c0, c1, c2, c3, c4, c5, c6, c7, c8⟩, f0, f1, f2, f3, f4, f8⟩ := entAt.cells (Went.refl hz)
  clear hz
  have hg := HG.out
  unfold frCells
  go_enter Tryz.func130, Tryz.ntmps130
  go_wp2_with fail
  generalize w.alloc (.cells #[.int .i64 0, .int .i64 t, .bool true, .int .i64 0, .bool true, .int .i64 ns, .int .i64 nr, .string s] 144 (0, 0)) = wx at *
  go_still_tail 6, (by kernel_rfl)
  change wpList _ _ _ _ _ (World.drew _)
  have HW := Aside0.mk HW.out.drew
  go_wp2_with fail
  refine (HW.out.call_at 1 rfl (fun T1 h1 => entAt.flow (Went.refl h1) (fun T2 h2 => HM.out T2 _ h2))).mono ?_
  rintro r w1 ⟨rfl, hw⟩
  have HW : Aside0 (Went (all [blk g (.cells #[.int .i64 0, .int .i64 t, .bool true, .int .i64 0, .bool true, .int .i64 ns, .int .i64 nr, .string s] 144 (0, 0)), entAt b mb fb ({ e with fl := comeF e.fl ns })]) T w0 w1) := ⟨hw⟩
  clear hw
  clear b0 b1 b2 b3 b4 b5 b6 b7
  clear c0 c1 c2 c3 c4 c5 c6 c7 c8 f0 f1 f2 f3 f4 f8
  obtain ⟨⟨b0, b1, b2, b3, b4, b5, b6, b7⟩, _⟩ := cells8 (HW.out.heap 0 rfl)
  obtain ⟨Tz, hz⟩ := HW.out.get 1 rfl
  obtain ⟨A, ca, ⟨c0, c1, c2, c3, c4, c5, c6, c7, c8⟩, f0, f1, f2, f3, f4, f8⟩ := entAt.cells (Went.refl hz)
  clear hz
  go_wp2_with fail
  refine (HW.out.call_at 1 rfl (fun T1 h1 => superviseC b mb fb ({ e with fl := comeF e.fl ns }) false true (Nat.le_trans hl (by omega)) T1 _ _ (Went.refl h1))).mono ?_
  rintro r w2 ⟨rfl, hw⟩
  have HW : Aside0 (Went (all [blk g (.cells #[.int .i64 0, .int .i64 t, .bool true, .int .i64 0, .bool true, .int .i64 ns, .int .i64 nr, .string s] 144 (0, 0)), entAt b mb fb (supervise ({ e with fl := comeF e.fl ns }) false true)]) T w0 w2) := ⟨hw⟩
  clear hw
  clear b0 b1 b2 b3 b4 b5 b6 b7
  clear c0 c1 c2 c3 c4 c5 c6 c7 c8 f0 f1 f2 f3 f4 f8
  obtain ⟨⟨b0, b1, b2, b3, b4, b5, b6, b7⟩, _⟩ := cells8 (HW.out.heap 0 rfl)
  obtain ⟨Tz, hz⟩ := HW.out.get 1 rfl
  obtain ⟨A, ca, ⟨c0, c1, c2, c3, c4, c5, c6, c7, c8⟩, f0, f1, f2, f3, f4, f8⟩ := entAt.cells (Went.refl hz)
  clear hz
  go_wp2_with fail
  have HW := Aside0.mk HW.out.drew
  go_region_law (go_simp; go_at_call 157; refine (HW.out.call_at 1 rfl (fun T1 h1 => entAt.flow (Went.refl h1) (fun T2 h2 => HK.out T2 _ h2))).mono ?_; rintro r w3 ⟨rfl, hw⟩)
  all_goals
    have HW : Aside0 (Went (all [blk g (.cells #[.int .i64 0, .int .i64 t, .bool true, .int .i64 0, .bool true, .int .i64 ns, .int .i64 nr, .string s] 144 (0, 0)), entAt b mb fb ({ supervise ({ e with fl := comeF e.fl ns }) false true with fl := ackF (comeF e.fl ns) nr })]) T w0 w3) := ⟨hw⟩
    clear hw
    clear b0 b1 b2 b3 b4 b5 b6 b7
    clear c0 c1 c2 c3 c4 c5 c6 c7 c8 f0 f1 f2 f3 f4 f8
    obtain ⟨⟨b0, b1, b2, b3, b4, b5, b6, b7⟩, _⟩ := cells8 (HW.out.heap 0 rfl)
    obtain ⟨Tz, hz⟩ := HW.out.get 1 rfl
    obtain ⟨A, ca, ⟨c0, c1, c2, c3, c4, c5, c6, c7, c8⟩, f0, f1, f2, f3, f4, f8⟩ := entAt.cells (Went.refl hz)
    clear hz
    have hst : ({ supervise ({ e with fl := comeF e.fl ns }) false true with fl := ackF (comeF e.fl ns) nr }).state = 7 := HS.out
    rw [hst] at c1
    clear hst
    obtain ⟨Tz, hz⟩ := HW.out.get 1 rfl
    obtain ⟨Ty, hf⟩ := entAt.flowGet (Went.refl hz)
    have hv := viewC fb (ackF (comeF e.fl ns) nr) Ty _ hf
    rw [show (ackF (comeF e.fl ns) nr).peer = true from HP.out] at hv
    have HV := Aside0.mk hv
    clear hz hf hv
    go_wp2_with fail
    refine HV.out.mono ?_
    rintro r w4 ⟨rfl, hb⟩
    have hw := HW.out.below hb
    have HW : Aside0 (Went (all [blk g (.cells #[.int .i64 0, .int .i64 t, .bool true, .int .i64 0, .bool true, .int .i64 ns, .int .i64 nr, .string s] 144 (0, 0)), entAt b mb fb ({ supervise ({ e with fl := comeF e.fl ns }) false true with fl := ackF (comeF e.fl ns) nr })]) T w0 w4) := ⟨hw⟩
    clear hw hb HV
    clear b0 b1 b2 b3 b4 b5 b6 b7
    clear c0 c1 c2 c3 c4 c5 c6 c7 c8 f0 f1 f2 f3 f4 f8
    obtain ⟨⟨b0, b1, b2, b3, b4, b5, b6, b7⟩, _⟩ := cells8 (HW.out.heap 0 rfl)
    obtain ⟨Tz, hz⟩ := HW.out.get 1 rfl
    obtain ⟨A, ca, ⟨c0, c1, c2, c3, c4, c5, c6, c7, c8⟩, f0, f1, f2, f3, f4, f8⟩ := entAt.cells (Went.refl hz)
    clear hz
    go_wp2_with fail
    refine (HW.out.call_at 1 rfl (fun T1 h1 => goOnC b mb fb ({ supervise ({ e with fl := comeF e.fl ns }) false true with fl := ackF (comeF e.fl ns) nr }) (by have h9 : ({ supervise ({ e with fl := comeF e.fl ns }) false true with fl := ackF (comeF e.fl ns) nr }).out.length ≤ 7000 + 1 := len_supervise (hl); exact Nat.le_trans h9 (by omega)) T1 _ _ (Went.refl h1))).mono ?_
    rintro r w5 ⟨rfl, hw⟩
    have HW : Aside0 (Went (all [blk g (.cells #[.int .i64 0, .int .i64 t, .bool true, .int .i64 0, .bool true, .int .i64 ns, .int .i64 nr, .string s] 144 (0, 0)), entAt b mb fb (goOn ({ supervise ({ e with fl := comeF e.fl ns }) false true with fl := ackF (comeF e.fl ns) nr }))]) T w0 w5) := ⟨hw⟩
    clear hw
    clear b0 b1 b2 b3 b4 b5 b6 b7
    clear c0 c1 c2 c3 c4 c5 c6 c7 c8 f0 f1 f2 f3 f4 f8
    obtain ⟨⟨b0, b1, b2, b3, b4, b5, b6, b7⟩, _⟩ := cells8 (HW.out.heap 0 rfl)
    obtain ⟨Tz, hz⟩ := HW.out.get 1 rfl
    obtain ⟨A, ca, ⟨c0, c1, c2, c3, c4, c5, c6, c7, c8⟩, f0, f1, f2, f3, f4, f8⟩ := entAt.cells (Went.refl hz)
    clear hz
    go_wp2
    go_end0
    exact ⟨rfl, Went.only (HW.out).drop⟩
theorem infoT0 (b mb fb : Nat) (e : E) (t ns nr : Int) (s : ByteArray) (hl : e.out.length ≤ 7000) (ha : ackOk (comeF e.fl ns) nr) (hs : e.state = 7) (hp : (comeF e.fl ns).peer = false) (cv : Int) (hcv : come e.fl ns = cv) (hc0 : ¬ come e.fl ns = 0) (hc1 : ¬ come e.fl ns = 1) (T : Nat → Prop) (w0 w : World) (h : Went (entAt b mb fb e) T w0 w) :
    Calls Tryz.prog 130 #[.pointer (some ⟨b, 0, none⟩), .agg (frCells (⟨t, true, 0, true, ns, nr, s⟩ : Fr))] w fun r w' => r = .returned (.tuple #[]) ∧ Went (entAt b mb fb (info e (⟨t, true, 0, true, ns, nr, s⟩ : Fr))) T w0 w' := by
  have HOK := Aside0.mk (entAt.ok h)
  obtain ⟨A, ca, ⟨c0, c1, c2, c3, c4, c5, c6, c7, c8⟩, f0, f1, f2, f3, f4, f8⟩ := entAt.cells h
  have HW := Aside0.mk h
  clear h
  have hE1 : info1 e (⟨t, true, 0, true, ns, nr, s⟩ : Fr) = supervise ({ e with fl := comeF e.fl ns }) false true := (if_neg (fun h => hc0 h)).trans ((if_neg (fun h => hc1 h)).trans (if_pos rfl))
  have hE2 : info2 (supervise ({ e with fl := comeF e.fl ns }) false true) (⟨t, true, 0, true, ns, nr, s⟩ : Fr) = goOn (count ({ supervise ({ e with fl := comeF e.fl ns }) false true with fl := ackF (comeF e.fl ns) nr }) (ackN (comeF e.fl ns) nr)) := (if_pos ha).trans ((if_pos hs).trans (if_neg (fun h => by have h1 : (false : Bool) = true := hp.symm.trans h; cases h1)))
  rw [show info e (⟨t, true, 0, true, ns, nr, s⟩ : Fr) = info2 (info1 e (⟨t, true, 0, true, ns, nr, s⟩ : Fr)) (⟨t, true, 0, true, ns, nr, s⟩ : Fr) from rfl, hE1, hE2]
  clear hE1 hE2
  have HK : Aside0 (∀ T1 wz, (flAt fb (comeF e.fl ns)).h T1 wz → Calls Tryz.prog 157 #[.pointer (some ⟨fb, 0, none⟩), .int .i64 nr] wz fun r w2 => r = .returned (.tuple #[.int .i64 (ackN (comeF e.fl ns) nr : Int), .int .i64 0]) ∧ Went (flAt fb (ackF (comeF e.fl ns) nr)) T1 wz w2) := ⟨fun T1 wz hz => by
    have h0 := Fl.ackC fb (comeF e.fl ns) nr T1 wz hz
    rw [if_pos ha, if_pos ha] at h0
    exact h0⟩
  have HM : Aside0 (∀ T1 wz, (flAt fb e.fl).h T1 wz → Calls Tryz.prog 156 #[.pointer (some ⟨fb, 0, none⟩), .int .i64 ns] wz fun r w2 => r = .returned (.int .i64 cv) ∧ Went (flAt fb (comeF e.fl ns)) T1 wz w2) := ⟨fun T1 wz hz => by
    have h0 := Fl.comeC fb e.fl ns T1 wz hz
    rw [hcv] at h0
    exact h0⟩
  have hb0 : (cv == 0) = false := by rw [beq_eq_false_iff_ne, ← hcv]; exact hc0
  have hb1 : (cv == 1) = false := by rw [beq_eq_false_iff_ne, ← hcv]; exact hc1
  clear hc0 hc1 hcv
  have HS := Aside0.mk hs
  clear hs
  have HP := Aside0.mk hp
  clear hp
  clear ha
  have hbx := heap_alloc_new w (.cells #[.int .i64 0, .int .i64 t, .bool true, .int .i64 0, .bool true, .int .i64 ns, .int .i64 nr, .string s] 144 (0, 0))
  have hw := (Went.single HW.out).new (.cells #[.int .i64 0, .int .i64 t, .bool true, .int .i64 0, .bool true, .int .i64 ns, .int .i64 nr, .string s] 144 (0, 0))
  obtain ⟨g, HG⟩ : ∃ g, Aside0 (w.heap.size = g) := ⟨_, ⟨rfl⟩⟩
  rw [HG.out] at hw hbx
  clear HW
  have HW : Aside0 (Went (all [blk g (.cells #[.int .i64 0, .int .i64 t, .bool true, .int .i64 0, .bool true, .int .i64 ns, .int .i64 nr, .string s] 144 (0, 0)), entAt b mb fb (e)]) T w0 (w.alloc (.cells #[.int .i64 0, .int .i64 t, .bool true, .int .i64 0, .bool true, .int .i64 ns, .int .i64 nr, .string s] 144 (0, 0)))) := ⟨hw⟩
  clear hw
  obtain ⟨⟨b0, b1, b2, b3, b4, b5, b6, b7⟩, _⟩ := cells8 hbx
  clear hbx
  clear b0 b1 b2 b3 b4 b5 b6 b7
  clear c0 c1 c2 c3 c4 c5 c6 c7 c8 f0 f1 f2 f3 f4 f8
  obtain ⟨⟨b0, b1, b2, b3, b4, b5, b6, b7⟩, _⟩ := cells8 (HW.out.heap 0 rfl)
  obtain ⟨Tz, hz⟩ := HW.out.get 1 rfl
  obtain ⟨A, ca, ⟨c0, c1, c2, c3, c4, c5, c6, c7, c8⟩, f0, f1, f2, f3, f4, f8⟩ := entAt.cells (Went.refl hz)
  clear hz
  have hg := HG.out
  unfold frCells
  go_enter Tryz.func130, Tryz.ntmps130
  go_wp2_with fail
  generalize w.alloc (.cells #[.int .i64 0, .int .i64 t, .bool true, .int .i64 0, .bool true, .int .i64 ns, .int .i64 nr, .string s] 144 (0, 0)) = wx at *
  go_still_tail 6, (by kernel_rfl)
  change wpList _ _ _ _ _ (World.drew _)
  have HW := Aside0.mk HW.out.drew
  go_wp2_with fail
  refine (HW.out.call_at 1 rfl (fun T1 h1 => entAt.flow (Went.refl h1) (fun T2 h2 => HM.out T2 _ h2))).mono ?_
  rintro r w1 ⟨rfl, hw⟩
  have HW : Aside0 (Went (all [blk g (.cells #[.int .i64 0, .int .i64 t, .bool true, .int .i64 0, .bool true, .int .i64 ns, .int .i64 nr, .string s] 144 (0, 0)), entAt b mb fb ({ e with fl := comeF e.fl ns })]) T w0 w1) := ⟨hw⟩
  clear hw
  clear b0 b1 b2 b3 b4 b5 b6 b7
  clear c0 c1 c2 c3 c4 c5 c6 c7 c8 f0 f1 f2 f3 f4 f8
  obtain ⟨⟨b0, b1, b2, b3, b4, b5, b6, b7⟩, _⟩ := cells8 (HW.out.heap 0 rfl)
  obtain ⟨Tz, hz⟩ := HW.out.get 1 rfl
  obtain ⟨A, ca, ⟨c0, c1, c2, c3, c4, c5, c6, c7, c8⟩, f0, f1, f2, f3, f4, f8⟩ := entAt.cells (Went.refl hz)
  clear hz
  go_wp2_with fail
  refine (HW.out.call_at 1 rfl (fun T1 h1 => superviseC b mb fb ({ e with fl := comeF e.fl ns }) false true (Nat.le_trans hl (by omega)) T1 _ _ (Went.refl h1))).mono ?_
  rintro r w2 ⟨rfl, hw⟩
  have HW : Aside0 (Went (all [blk g (.cells #[.int .i64 0, .int .i64 t, .bool true, .int .i64 0, .bool true, .int .i64 ns, .int .i64 nr, .string s] 144 (0, 0)), entAt b mb fb (supervise ({ e with fl := comeF e.fl ns }) false true)]) T w0 w2) := ⟨hw⟩
  clear hw
  clear b0 b1 b2 b3 b4 b5 b6 b7
  clear c0 c1 c2 c3 c4 c5 c6 c7 c8 f0 f1 f2 f3 f4 f8
  obtain ⟨⟨b0, b1, b2, b3, b4, b5, b6, b7⟩, _⟩ := cells8 (HW.out.heap 0 rfl)
  obtain ⟨Tz, hz⟩ := HW.out.get 1 rfl
  obtain ⟨A, ca, ⟨c0, c1, c2, c3, c4, c5, c6, c7, c8⟩, f0, f1, f2, f3, f4, f8⟩ := entAt.cells (Went.refl hz)
  clear hz
  go_wp2_with fail
  have HW := Aside0.mk HW.out.drew
  go_region_law (go_simp; go_at_call 157; refine (HW.out.call_at 1 rfl (fun T1 h1 => entAt.flow (Went.refl h1) (fun T2 h2 => HK.out T2 _ h2))).mono ?_; rintro r w3 ⟨rfl, hw⟩)
  all_goals
    have HW : Aside0 (Went (all [blk g (.cells #[.int .i64 0, .int .i64 t, .bool true, .int .i64 0, .bool true, .int .i64 ns, .int .i64 nr, .string s] 144 (0, 0)), entAt b mb fb ({ supervise ({ e with fl := comeF e.fl ns }) false true with fl := ackF (comeF e.fl ns) nr })]) T w0 w3) := ⟨hw⟩
    clear hw
    clear b0 b1 b2 b3 b4 b5 b6 b7
    clear c0 c1 c2 c3 c4 c5 c6 c7 c8 f0 f1 f2 f3 f4 f8
    obtain ⟨⟨b0, b1, b2, b3, b4, b5, b6, b7⟩, _⟩ := cells8 (HW.out.heap 0 rfl)
    obtain ⟨Tz, hz⟩ := HW.out.get 1 rfl
    obtain ⟨A, ca, ⟨c0, c1, c2, c3, c4, c5, c6, c7, c8⟩, f0, f1, f2, f3, f4, f8⟩ := entAt.cells (Went.refl hz)
    clear hz
    have hst : ({ supervise ({ e with fl := comeF e.fl ns }) false true with fl := ackF (comeF e.fl ns) nr }).state = 7 := HS.out
    rw [hst] at c1
    clear hst
    obtain ⟨Tz, hz⟩ := HW.out.get 1 rfl
    obtain ⟨Ty, hf⟩ := entAt.flowGet (Went.refl hz)
    have hv := viewC fb (ackF (comeF e.fl ns) nr) Ty _ hf
    rw [show (ackF (comeF e.fl ns) nr).peer = false from HP.out] at hv
    have HV := Aside0.mk hv
    clear hz hf hv
    go_wp2_with fail
    refine HV.out.mono ?_
    rintro r w4 ⟨rfl, hb⟩
    have hw := HW.out.below hb
    have HW : Aside0 (Went (all [blk g (.cells #[.int .i64 0, .int .i64 t, .bool true, .int .i64 0, .bool true, .int .i64 ns, .int .i64 nr, .string s] 144 (0, 0)), entAt b mb fb ({ supervise ({ e with fl := comeF e.fl ns }) false true with fl := ackF (comeF e.fl ns) nr })]) T w0 w4) := ⟨hw⟩
    clear hw hb HV
    clear b0 b1 b2 b3 b4 b5 b6 b7
    clear c0 c1 c2 c3 c4 c5 c6 c7 c8 f0 f1 f2 f3 f4 f8
    obtain ⟨⟨b0, b1, b2, b3, b4, b5, b6, b7⟩, _⟩ := cells8 (HW.out.heap 0 rfl)
    obtain ⟨Tz, hz⟩ := HW.out.get 1 rfl
    obtain ⟨A, ca, ⟨c0, c1, c2, c3, c4, c5, c6, c7, c8⟩, f0, f1, f2, f3, f4, f8⟩ := entAt.cells (Went.refl hz)
    clear hz
    go_wp2_with fail
    refine (HW.out.call_at 1 rfl (fun T1 h1 => countC b mb fb ({ supervise ({ e with fl := comeF e.fl ns }) false true with fl := ackF (comeF e.fl ns) nr }) (ackN (comeF e.fl ns) nr) (Nat.le_trans (len_supervise (hl)) (by omega)) T1 _ _ (Went.refl h1))).mono ?_
    rintro r w5 ⟨rfl, hw⟩
    have HW : Aside0 (Went (all [blk g (.cells #[.int .i64 0, .int .i64 t, .bool true, .int .i64 0, .bool true, .int .i64 ns, .int .i64 nr, .string s] 144 (0, 0)), entAt b mb fb (count ({ supervise ({ e with fl := comeF e.fl ns }) false true with fl := ackF (comeF e.fl ns) nr }) (ackN (comeF e.fl ns) nr))]) T w0 w5) := ⟨hw⟩
    clear hw
    clear b0 b1 b2 b3 b4 b5 b6 b7
    clear c0 c1 c2 c3 c4 c5 c6 c7 c8 f0 f1 f2 f3 f4 f8
    obtain ⟨⟨b0, b1, b2, b3, b4, b5, b6, b7⟩, _⟩ := cells8 (HW.out.heap 0 rfl)
    obtain ⟨Tz, hz⟩ := HW.out.get 1 rfl
    obtain ⟨A, ca, ⟨c0, c1, c2, c3, c4, c5, c6, c7, c8⟩, f0, f1, f2, f3, f4, f8⟩ := entAt.cells (Went.refl hz)
    clear hz
    go_wp2_with fail
    refine (HW.out.call_at 1 rfl (fun T1 h1 => goOnC b mb fb (count ({ supervise ({ e with fl := comeF e.fl ns }) false true with fl := ackF (comeF e.fl ns) nr }) (ackN (comeF e.fl ns) nr)) (by have h9 : (count ({ supervise ({ e with fl := comeF e.fl ns }) false true with fl := ackF (comeF e.fl ns) nr }) (ackN (comeF e.fl ns) nr)).out.length ≤ 7000 + 3 := len_count (len_supervise (hl)); exact Nat.le_trans h9 (by omega)) T1 _ _ (Went.refl h1))).mono ?_
    rintro r w6 ⟨rfl, hw⟩
    have HW : Aside0 (Went (all [blk g (.cells #[.int .i64 0, .int .i64 t, .bool true, .int .i64 0, .bool true, .int .i64 ns, .int .i64 nr, .string s] 144 (0, 0)), entAt b mb fb (goOn (count ({ supervise ({ e with fl := comeF e.fl ns }) false true with fl := ackF (comeF e.fl ns) nr }) (ackN (comeF e.fl ns) nr)))]) T w0 w6) := ⟨hw⟩
    clear hw
    clear b0 b1 b2 b3 b4 b5 b6 b7
    clear c0 c1 c2 c3 c4 c5 c6 c7 c8 f0 f1 f2 f3 f4 f8
    obtain ⟨⟨b0, b1, b2, b3, b4, b5, b6, b7⟩, _⟩ := cells8 (HW.out.heap 0 rfl)
    obtain ⟨Tz, hz⟩ := HW.out.get 1 rfl
    obtain ⟨A, ca, ⟨c0, c1, c2, c3, c4, c5, c6, c7, c8⟩, f0, f1, f2, f3, f4, f8⟩ := entAt.cells (Went.refl hz)
    clear hz
    go_wp2
    go_end0
    exact ⟨rfl, Went.only (HW.out).drop⟩
theorem infoF7 (b mb fb : Nat) (e : E) (t ns nr : Int) (s : ByteArray) (hl : e.out.length ≤ 7000) (ha : ¬ ackOk (comeF e.fl ns) nr) (cv : Int) (hcv : come e.fl ns = cv) (hc0 : ¬ come e.fl ns = 0) (hc1 : ¬ come e.fl ns = 1) (T : Nat → Prop) (w0 w : World) (h : Went (entAt b mb fb e) T w0 w) :
    Calls Tryz.prog 130 #[.pointer (some ⟨b, 0, none⟩), .agg (frCells (⟨t, true, 0, false, ns, nr, s⟩ : Fr))] w fun r w' => r = .returned (.tuple #[]) ∧ Went (entAt b mb fb (info e (⟨t, true, 0, false, ns, nr, s⟩ : Fr))) T w0 w' := by
  have HOK := Aside0.mk (entAt.ok h)
  obtain ⟨A, ca, ⟨c0, c1, c2, c3, c4, c5, c6, c7, c8⟩, f0, f1, f2, f3, f4, f8⟩ := entAt.cells h
  have HW := Aside0.mk h
  clear h
  have hE1 : info1 e (⟨t, true, 0, false, ns, nr, s⟩ : Fr) = { e with fl := comeF e.fl ns } := (if_neg (fun h => hc0 h)).trans ((if_neg (fun h => hc1 h)).trans (if_neg (show ¬ (false = true) by decide)))
  have hE2 : info2 ({ e with fl := comeF e.fl ns }) (⟨t, true, 0, false, ns, nr, s⟩ : Fr) = anew ({ e with fl := comeF e.fl ns }) ⟨#[74]⟩ := if_neg ha
  rw [show info e (⟨t, true, 0, false, ns, nr, s⟩ : Fr) = info2 (info1 e (⟨t, true, 0, false, ns, nr, s⟩ : Fr)) (⟨t, true, 0, false, ns, nr, s⟩ : Fr) from rfl, hE1, hE2]
  clear hE1 hE2
  have HK : Aside0 (∀ T1 wz, (flAt fb (comeF e.fl ns)).h T1 wz → Calls Tryz.prog 157 #[.pointer (some ⟨fb, 0, none⟩), .int .i64 nr] wz fun r w2 => r = .returned (.tuple #[.int .i64 0, .int .i64 2]) ∧ Went (flAt fb (comeF e.fl ns)) T1 wz w2) := ⟨fun T1 wz hz => by
    have h0 := Fl.ackC fb (comeF e.fl ns) nr T1 wz hz
    rw [if_neg ha, if_neg ha] at h0
    exact h0⟩
  have HM : Aside0 (∀ T1 wz, (flAt fb e.fl).h T1 wz → Calls Tryz.prog 156 #[.pointer (some ⟨fb, 0, none⟩), .int .i64 ns] wz fun r w2 => r = .returned (.int .i64 cv) ∧ Went (flAt fb (comeF e.fl ns)) T1 wz w2) := ⟨fun T1 wz hz => by
    have h0 := Fl.comeC fb e.fl ns T1 wz hz
    rw [hcv] at h0
    exact h0⟩
  have hb0 : (cv == 0) = false := by rw [beq_eq_false_iff_ne, ← hcv]; exact hc0
  have hb1 : (cv == 1) = false := by rw [beq_eq_false_iff_ne, ← hcv]; exact hc1
  clear hc0 hc1 hcv
  clear ha
  have hbx := heap_alloc_new w (.cells #[.int .i64 0, .int .i64 t, .bool true, .int .i64 0, .bool false, .int .i64 ns, .int .i64 nr, .string s] 144 (0, 0))
  have hw := (Went.single HW.out).new (.cells #[.int .i64 0, .int .i64 t, .bool true, .int .i64 0, .bool false, .int .i64 ns, .int .i64 nr, .string s] 144 (0, 0))
  obtain ⟨g, HG⟩ : ∃ g, Aside0 (w.heap.size = g) := ⟨_, ⟨rfl⟩⟩
  rw [HG.out] at hw hbx
  clear HW
  have HW : Aside0 (Went (all [blk g (.cells #[.int .i64 0, .int .i64 t, .bool true, .int .i64 0, .bool false, .int .i64 ns, .int .i64 nr, .string s] 144 (0, 0)), entAt b mb fb (e)]) T w0 (w.alloc (.cells #[.int .i64 0, .int .i64 t, .bool true, .int .i64 0, .bool false, .int .i64 ns, .int .i64 nr, .string s] 144 (0, 0)))) := ⟨hw⟩
  clear hw
  obtain ⟨⟨b0, b1, b2, b3, b4, b5, b6, b7⟩, _⟩ := cells8 hbx
  clear hbx
  clear b0 b1 b2 b3 b4 b5 b6 b7
  clear c0 c1 c2 c3 c4 c5 c6 c7 c8 f0 f1 f2 f3 f4 f8
  obtain ⟨⟨b0, b1, b2, b3, b4, b5, b6, b7⟩, _⟩ := cells8 (HW.out.heap 0 rfl)
  obtain ⟨Tz, hz⟩ := HW.out.get 1 rfl
  obtain ⟨A, ca, ⟨c0, c1, c2, c3, c4, c5, c6, c7, c8⟩, f0, f1, f2, f3, f4, f8⟩ := entAt.cells (Went.refl hz)
  clear hz
  have hg := HG.out
  unfold frCells
  go_enter Tryz.func130, Tryz.ntmps130
  go_wp2_with fail
  generalize w.alloc (.cells #[.int .i64 0, .int .i64 t, .bool true, .int .i64 0, .bool false, .int .i64 ns, .int .i64 nr, .string s] 144 (0, 0)) = wx at *
  go_still_tail 6, (by kernel_rfl)
  change wpList _ _ _ _ _ (World.drew _)
  have HW := Aside0.mk HW.out.drew
  go_wp2_with fail
  refine (HW.out.call_at 1 rfl (fun T1 h1 => entAt.flow (Went.refl h1) (fun T2 h2 => HM.out T2 _ h2))).mono ?_
  rintro r w1 ⟨rfl, hw⟩
  have HW : Aside0 (Went (all [blk g (.cells #[.int .i64 0, .int .i64 t, .bool true, .int .i64 0, .bool false, .int .i64 ns, .int .i64 nr, .string s] 144 (0, 0)), entAt b mb fb ({ e with fl := comeF e.fl ns })]) T w0 w1) := ⟨hw⟩
  clear hw
  clear b0 b1 b2 b3 b4 b5 b6 b7
  clear c0 c1 c2 c3 c4 c5 c6 c7 c8 f0 f1 f2 f3 f4 f8
  obtain ⟨⟨b0, b1, b2, b3, b4, b5, b6, b7⟩, _⟩ := cells8 (HW.out.heap 0 rfl)
  obtain ⟨Tz, hz⟩ := HW.out.get 1 rfl
  obtain ⟨A, ca, ⟨c0, c1, c2, c3, c4, c5, c6, c7, c8⟩, f0, f1, f2, f3, f4, f8⟩ := entAt.cells (Went.refl hz)
  clear hz
  go_wp2_with fail
  have HW := Aside0.mk HW.out.drew
  go_region_law (go_simp; go_at_call 157; refine (HW.out.call_at 1 rfl (fun T1 h1 => entAt.flow (Went.refl h1) (fun T2 h2 => HK.out T2 _ h2))).mono ?_; rintro r w2 ⟨rfl, hw⟩)
  all_goals
    have HW : Aside0 (Went (all [blk g (.cells #[.int .i64 0, .int .i64 t, .bool true, .int .i64 0, .bool false, .int .i64 ns, .int .i64 nr, .string s] 144 (0, 0)), entAt b mb fb ({ { e with fl := comeF e.fl ns } with fl := (comeF e.fl ns) })]) T w0 w2) := ⟨hw⟩
    clear hw
    clear b0 b1 b2 b3 b4 b5 b6 b7
    clear c0 c1 c2 c3 c4 c5 c6 c7 c8 f0 f1 f2 f3 f4 f8
    obtain ⟨⟨b0, b1, b2, b3, b4, b5, b6, b7⟩, _⟩ := cells8 (HW.out.heap 0 rfl)
    obtain ⟨Tz, hz⟩ := HW.out.get 1 rfl
    obtain ⟨A, ca, ⟨c0, c1, c2, c3, c4, c5, c6, c7, c8⟩, f0, f1, f2, f3, f4, f8⟩ := entAt.cells (Went.refl hz)
    clear hz
    go_wp2_with fail
    refine (HW.out.call_at 1 rfl (fun T1 h1 => anewC b mb fb ({ { e with fl := comeF e.fl ns } with fl := (comeF e.fl ns) }) ⟨#[74]⟩ (Nat.le_trans hl (by omega)) T1 _ _ (Went.refl h1))).mono ?_
    rintro r w3 ⟨rfl, hw⟩
    have HW : Aside0 (Went (all [blk g (.cells #[.int .i64 0, .int .i64 t, .bool true, .int .i64 0, .bool false, .int .i64 ns, .int .i64 nr, .string s] 144 (0, 0)), entAt b mb fb (anew ({ { e with fl := comeF e.fl ns } with fl := (comeF e.fl ns) }) ⟨#[74]⟩)]) T w0 w3) := ⟨hw⟩
    clear hw
    clear b0 b1 b2 b3 b4 b5 b6 b7
    clear c0 c1 c2 c3 c4 c5 c6 c7 c8 f0 f1 f2 f3 f4 f8
    obtain ⟨⟨b0, b1, b2, b3, b4, b5, b6, b7⟩, _⟩ := cells8 (HW.out.heap 0 rfl)
    obtain ⟨Tz, hz⟩ := HW.out.get 1 rfl
    obtain ⟨A, ca, ⟨c0, c1, c2, c3, c4, c5, c6, c7, c8⟩, f0, f1, f2, f3, f4, f8⟩ := entAt.cells (Went.refl hz)
    clear hz
    go_wp2
    go_end0
    exact ⟨rfl, Went.only (HW.out).drop⟩
theorem infoF8 (b mb fb : Nat) (e : E) (t ns nr : Int) (s : ByteArray) (hl : e.out.length ≤ 7000) (ha : ackOk (comeF e.fl ns) nr) (hs : e.state = 8) (cv : Int) (hcv : come e.fl ns = cv) (hc0 : ¬ come e.fl ns = 0) (hc1 : ¬ come e.fl ns = 1) (T : Nat → Prop) (w0 w : World) (h : Went (entAt b mb fb e) T w0 w) :
    Calls Tryz.prog 130 #[.pointer (some ⟨b, 0, none⟩), .agg (frCells (⟨t, true, 0, false, ns, nr, s⟩ : Fr))] w fun r w' => r = .returned (.tuple #[]) ∧ Went (entAt b mb fb (info e (⟨t, true, 0, false, ns, nr, s⟩ : Fr))) T w0 w' := by
  have HOK := Aside0.mk (entAt.ok h)
  obtain ⟨A, ca, ⟨c0, c1, c2, c3, c4, c5, c6, c7, c8⟩, f0, f1, f2, f3, f4, f8⟩ := entAt.cells h
  have HW := Aside0.mk h
  clear h
  have hE1 : info1 e (⟨t, true, 0, false, ns, nr, s⟩ : Fr) = { e with fl := comeF e.fl ns } := (if_neg (fun h => hc0 h)).trans ((if_neg (fun h => hc1 h)).trans (if_neg (show ¬ (false = true) by decide)))
  have hE2 : info2 ({ e with fl := comeF e.fl ns }) (⟨t, true, 0, false, ns, nr, s⟩ : Fr) = { { e with fl := comeF e.fl ns } with fl := ackF (comeF e.fl ns) nr } := (if_pos ha).trans (if_neg (fun h => by have h1 : (8 : Int) = 7 := hs.symm.trans h; omega))
  rw [show info e (⟨t, true, 0, false, ns, nr, s⟩ : Fr) = info2 (info1 e (⟨t, true, 0, false, ns, nr, s⟩ : Fr)) (⟨t, true, 0, false, ns, nr, s⟩ : Fr) from rfl, hE1, hE2]
  clear hE1 hE2
  have HK : Aside0 (∀ T1 wz, (flAt fb (comeF e.fl ns)).h T1 wz → Calls Tryz.prog 157 #[.pointer (some ⟨fb, 0, none⟩), .int .i64 nr] wz fun r w2 => r = .returned (.tuple #[.int .i64 (ackN (comeF e.fl ns) nr : Int), .int .i64 0]) ∧ Went (flAt fb (ackF (comeF e.fl ns) nr)) T1 wz w2) := ⟨fun T1 wz hz => by
    have h0 := Fl.ackC fb (comeF e.fl ns) nr T1 wz hz
    rw [if_pos ha, if_pos ha] at h0
    exact h0⟩
  have HM : Aside0 (∀ T1 wz, (flAt fb e.fl).h T1 wz → Calls Tryz.prog 156 #[.pointer (some ⟨fb, 0, none⟩), .int .i64 ns] wz fun r w2 => r = .returned (.int .i64 cv) ∧ Went (flAt fb (comeF e.fl ns)) T1 wz w2) := ⟨fun T1 wz hz => by
    have h0 := Fl.comeC fb e.fl ns T1 wz hz
    rw [hcv] at h0
    exact h0⟩
  have hb0 : (cv == 0) = false := by rw [beq_eq_false_iff_ne, ← hcv]; exact hc0
  have hb1 : (cv == 1) = false := by rw [beq_eq_false_iff_ne, ← hcv]; exact hc1
  clear hc0 hc1 hcv
  have HS := Aside0.mk hs
  clear hs
  clear ha
  have hbx := heap_alloc_new w (.cells #[.int .i64 0, .int .i64 t, .bool true, .int .i64 0, .bool false, .int .i64 ns, .int .i64 nr, .string s] 144 (0, 0))
  have hw := (Went.single HW.out).new (.cells #[.int .i64 0, .int .i64 t, .bool true, .int .i64 0, .bool false, .int .i64 ns, .int .i64 nr, .string s] 144 (0, 0))
  obtain ⟨g, HG⟩ : ∃ g, Aside0 (w.heap.size = g) := ⟨_, ⟨rfl⟩⟩
  rw [HG.out] at hw hbx
  clear HW
  have HW : Aside0 (Went (all [blk g (.cells #[.int .i64 0, .int .i64 t, .bool true, .int .i64 0, .bool false, .int .i64 ns, .int .i64 nr, .string s] 144 (0, 0)), entAt b mb fb (e)]) T w0 (w.alloc (.cells #[.int .i64 0, .int .i64 t, .bool true, .int .i64 0, .bool false, .int .i64 ns, .int .i64 nr, .string s] 144 (0, 0)))) := ⟨hw⟩
  clear hw
  obtain ⟨⟨b0, b1, b2, b3, b4, b5, b6, b7⟩, _⟩ := cells8 hbx
  clear hbx
  clear b0 b1 b2 b3 b4 b5 b6 b7
  clear c0 c1 c2 c3 c4 c5 c6 c7 c8 f0 f1 f2 f3 f4 f8
  obtain ⟨⟨b0, b1, b2, b3, b4, b5, b6, b7⟩, _⟩ := cells8 (HW.out.heap 0 rfl)
  obtain ⟨Tz, hz⟩ := HW.out.get 1 rfl
  obtain ⟨A, ca, ⟨c0, c1, c2, c3, c4, c5, c6, c7, c8⟩, f0, f1, f2, f3, f4, f8⟩ := entAt.cells (Went.refl hz)
  clear hz
  have hg := HG.out
  unfold frCells
  go_enter Tryz.func130, Tryz.ntmps130
  go_wp2_with fail
  generalize w.alloc (.cells #[.int .i64 0, .int .i64 t, .bool true, .int .i64 0, .bool false, .int .i64 ns, .int .i64 nr, .string s] 144 (0, 0)) = wx at *
  go_still_tail 6, (by kernel_rfl)
  change wpList _ _ _ _ _ (World.drew _)
  have HW := Aside0.mk HW.out.drew
  go_wp2_with fail
  refine (HW.out.call_at 1 rfl (fun T1 h1 => entAt.flow (Went.refl h1) (fun T2 h2 => HM.out T2 _ h2))).mono ?_
  rintro r w1 ⟨rfl, hw⟩
  have HW : Aside0 (Went (all [blk g (.cells #[.int .i64 0, .int .i64 t, .bool true, .int .i64 0, .bool false, .int .i64 ns, .int .i64 nr, .string s] 144 (0, 0)), entAt b mb fb ({ e with fl := comeF e.fl ns })]) T w0 w1) := ⟨hw⟩
  clear hw
  clear b0 b1 b2 b3 b4 b5 b6 b7
  clear c0 c1 c2 c3 c4 c5 c6 c7 c8 f0 f1 f2 f3 f4 f8
  obtain ⟨⟨b0, b1, b2, b3, b4, b5, b6, b7⟩, _⟩ := cells8 (HW.out.heap 0 rfl)
  obtain ⟨Tz, hz⟩ := HW.out.get 1 rfl
  obtain ⟨A, ca, ⟨c0, c1, c2, c3, c4, c5, c6, c7, c8⟩, f0, f1, f2, f3, f4, f8⟩ := entAt.cells (Went.refl hz)
  clear hz
  go_wp2_with fail
  have HW := Aside0.mk HW.out.drew
  go_region_law (go_simp; go_at_call 157; refine (HW.out.call_at 1 rfl (fun T1 h1 => entAt.flow (Went.refl h1) (fun T2 h2 => HK.out T2 _ h2))).mono ?_; rintro r w2 ⟨rfl, hw⟩)
  all_goals
    have HW : Aside0 (Went (all [blk g (.cells #[.int .i64 0, .int .i64 t, .bool true, .int .i64 0, .bool false, .int .i64 ns, .int .i64 nr, .string s] 144 (0, 0)), entAt b mb fb ({ { e with fl := comeF e.fl ns } with fl := ackF (comeF e.fl ns) nr })]) T w0 w2) := ⟨hw⟩
    clear hw
    clear b0 b1 b2 b3 b4 b5 b6 b7
    clear c0 c1 c2 c3 c4 c5 c6 c7 c8 f0 f1 f2 f3 f4 f8
    obtain ⟨⟨b0, b1, b2, b3, b4, b5, b6, b7⟩, _⟩ := cells8 (HW.out.heap 0 rfl)
    obtain ⟨Tz, hz⟩ := HW.out.get 1 rfl
    obtain ⟨A, ca, ⟨c0, c1, c2, c3, c4, c5, c6, c7, c8⟩, f0, f1, f2, f3, f4, f8⟩ := entAt.cells (Went.refl hz)
    clear hz
    have hst : ({ { e with fl := comeF e.fl ns } with fl := ackF (comeF e.fl ns) nr }).state = 8 := HS.out
    rw [hst] at c1
    clear hst
    go_wp2
    go_end0
    exact ⟨rfl, Went.only (HW.out).drop⟩
theorem infoF1 (b mb fb : Nat) (e : E) (t ns nr : Int) (s : ByteArray) (hl : e.out.length ≤ 7000) (ha : ackOk (comeF e.fl ns) nr) (hs : e.state = 7) (hp : (comeF e.fl ns).peer = true) (cv : Int) (hcv : come e.fl ns = cv) (hc0 : ¬ come e.fl ns = 0) (hc1 : ¬ come e.fl ns = 1) (T : Nat → Prop) (w0 w : World) (h : Went (entAt b mb fb e) T w0 w) :
    Calls Tryz.prog 130 #[.pointer (some ⟨b, 0, none⟩), .agg (frCells (⟨t, true, 0, false, ns, nr, s⟩ : Fr))] w fun r w' => r = .returned (.tuple #[]) ∧ Went (entAt b mb fb (info e (⟨t, true, 0, false, ns, nr, s⟩ : Fr))) T w0 w' := by
  have HOK := Aside0.mk (entAt.ok h)
  obtain ⟨A, ca, ⟨c0, c1, c2, c3, c4, c5, c6, c7, c8⟩, f0, f1, f2, f3, f4, f8⟩ := entAt.cells h
  have HW := Aside0.mk h
  clear h
  have hE1 : info1 e (⟨t, true, 0, false, ns, nr, s⟩ : Fr) = { e with fl := comeF e.fl ns } := (if_neg (fun h => hc0 h)).trans ((if_neg (fun h => hc1 h)).trans (if_neg (show ¬ (false = true) by decide)))
  have hE2 : info2 ({ e with fl := comeF e.fl ns }) (⟨t, true, 0, false, ns, nr, s⟩ : Fr) = goOn ({ { e with fl := comeF e.fl ns } with fl := ackF (comeF e.fl ns) nr }) := (if_pos ha).trans ((if_pos hs).trans (if_pos hp))
  rw [show info e (⟨t, true, 0, false, ns, nr, s⟩ : Fr) = info2 (info1 e (⟨t, true, 0, false, ns, nr, s⟩ : Fr)) (⟨t, true, 0, false, ns, nr, s⟩ : Fr) from rfl, hE1, hE2]
  clear hE1 hE2
  have HK : Aside0 (∀ T1 wz, (flAt fb (comeF e.fl ns)).h T1 wz → Calls Tryz.prog 157 #[.pointer (some ⟨fb, 0, none⟩), .int .i64 nr] wz fun r w2 => r = .returned (.tuple #[.int .i64 (ackN (comeF e.fl ns) nr : Int), .int .i64 0]) ∧ Went (flAt fb (ackF (comeF e.fl ns) nr)) T1 wz w2) := ⟨fun T1 wz hz => by
    have h0 := Fl.ackC fb (comeF e.fl ns) nr T1 wz hz
    rw [if_pos ha, if_pos ha] at h0
    exact h0⟩
  have HM : Aside0 (∀ T1 wz, (flAt fb e.fl).h T1 wz → Calls Tryz.prog 156 #[.pointer (some ⟨fb, 0, none⟩), .int .i64 ns] wz fun r w2 => r = .returned (.int .i64 cv) ∧ Went (flAt fb (comeF e.fl ns)) T1 wz w2) := ⟨fun T1 wz hz => by
    have h0 := Fl.comeC fb e.fl ns T1 wz hz
    rw [hcv] at h0
    exact h0⟩
  have hb0 : (cv == 0) = false := by rw [beq_eq_false_iff_ne, ← hcv]; exact hc0
  have hb1 : (cv == 1) = false := by rw [beq_eq_false_iff_ne, ← hcv]; exact hc1
  clear hc0 hc1 hcv
  have HS := Aside0.mk hs
  clear hs
  have HP := Aside0.mk hp
  clear hp
  clear ha
  have hbx := heap_alloc_new w (.cells #[.int .i64 0, .int .i64 t, .bool true, .int .i64 0, .bool false, .int .i64 ns, .int .i64 nr, .string s] 144 (0, 0))
  have hw := (Went.single HW.out).new (.cells #[.int .i64 0, .int .i64 t, .bool true, .int .i64 0, .bool false, .int .i64 ns, .int .i64 nr, .string s] 144 (0, 0))
  obtain ⟨g, HG⟩ : ∃ g, Aside0 (w.heap.size = g) := ⟨_, ⟨rfl⟩⟩
  rw [HG.out] at hw hbx
  clear HW
  have HW : Aside0 (Went (all [blk g (.cells #[.int .i64 0, .int .i64 t, .bool true, .int .i64 0, .bool false, .int .i64 ns, .int .i64 nr, .string s] 144 (0, 0)), entAt b mb fb (e)]) T w0 (w.alloc (.cells #[.int .i64 0, .int .i64 t, .bool true, .int .i64 0, .bool false, .int .i64 ns, .int .i64 nr, .string s] 144 (0, 0)))) := ⟨hw⟩
  clear hw
  obtain ⟨⟨b0, b1, b2, b3, b4, b5, b6, b7⟩, _⟩ := cells8 hbx
  clear hbx
  clear b0 b1 b2 b3 b4 b5 b6 b7
  clear c0 c1 c2 c3 c4 c5 c6 c7 c8 f0 f1 f2 f3 f4 f8
  obtain ⟨⟨b0, b1, b2, b3, b4, b5, b6, b7⟩, _⟩ := cells8 (HW.out.heap 0 rfl)
  obtain ⟨Tz, hz⟩ := HW.out.get 1 rfl
  obtain ⟨A, ca, ⟨c0, c1, c2, c3, c4, c5, c6, c7, c8⟩, f0, f1, f2, f3, f4, f8⟩ := entAt.cells (Went.refl hz)
  clear hz
  have hg := HG.out
  unfold frCells
  go_enter Tryz.func130, Tryz.ntmps130
  go_wp2_with fail
  generalize w.alloc (.cells #[.int .i64 0, .int .i64 t, .bool true, .int .i64 0, .bool false, .int .i64 ns, .int .i64 nr, .string s] 144 (0, 0)) = wx at *
  go_still_tail 6, (by kernel_rfl)
  change wpList _ _ _ _ _ (World.drew _)
  have HW := Aside0.mk HW.out.drew
  go_wp2_with fail
  refine (HW.out.call_at 1 rfl (fun T1 h1 => entAt.flow (Went.refl h1) (fun T2 h2 => HM.out T2 _ h2))).mono ?_
  rintro r w1 ⟨rfl, hw⟩
  have HW : Aside0 (Went (all [blk g (.cells #[.int .i64 0, .int .i64 t, .bool true, .int .i64 0, .bool false, .int .i64 ns, .int .i64 nr, .string s] 144 (0, 0)), entAt b mb fb ({ e with fl := comeF e.fl ns })]) T w0 w1) := ⟨hw⟩
  clear hw
  clear b0 b1 b2 b3 b4 b5 b6 b7
  clear c0 c1 c2 c3 c4 c5 c6 c7 c8 f0 f1 f2 f3 f4 f8
  obtain ⟨⟨b0, b1, b2, b3, b4, b5, b6, b7⟩, _⟩ := cells8 (HW.out.heap 0 rfl)
  obtain ⟨Tz, hz⟩ := HW.out.get 1 rfl
  obtain ⟨A, ca, ⟨c0, c1, c2, c3, c4, c5, c6, c7, c8⟩, f0, f1, f2, f3, f4, f8⟩ := entAt.cells (Went.refl hz)
  clear hz
  go_wp2_with fail
  have HW := Aside0.mk HW.out.drew
  go_region_law (go_simp; go_at_call 157; refine (HW.out.call_at 1 rfl (fun T1 h1 => entAt.flow (Went.refl h1) (fun T2 h2 => HK.out T2 _ h2))).mono ?_; rintro r w2 ⟨rfl, hw⟩)
  all_goals
    have HW : Aside0 (Went (all [blk g (.cells #[.int .i64 0, .int .i64 t, .bool true, .int .i64 0, .bool false, .int .i64 ns, .int .i64 nr, .string s] 144 (0, 0)), entAt b mb fb ({ { e with fl := comeF e.fl ns } with fl := ackF (comeF e.fl ns) nr })]) T w0 w2) := ⟨hw⟩
    clear hw
    clear b0 b1 b2 b3 b4 b5 b6 b7
    clear c0 c1 c2 c3 c4 c5 c6 c7 c8 f0 f1 f2 f3 f4 f8
    obtain ⟨⟨b0, b1, b2, b3, b4, b5, b6, b7⟩, _⟩ := cells8 (HW.out.heap 0 rfl)
    obtain ⟨Tz, hz⟩ := HW.out.get 1 rfl
    obtain ⟨A, ca, ⟨c0, c1, c2, c3, c4, c5, c6, c7, c8⟩, f0, f1, f2, f3, f4, f8⟩ := entAt.cells (Went.refl hz)
    clear hz
    have hst : ({ { e with fl := comeF e.fl ns } with fl := ackF (comeF e.fl ns) nr }).state = 7 := HS.out
    rw [hst] at c1
    clear hst
    obtain ⟨Tz, hz⟩ := HW.out.get 1 rfl
    obtain ⟨Ty, hf⟩ := entAt.flowGet (Went.refl hz)
    have hv := viewC fb (ackF (comeF e.fl ns) nr) Ty _ hf
    rw [show (ackF (comeF e.fl ns) nr).peer = true from HP.out] at hv
    have HV := Aside0.mk hv
    clear hz hf hv
    go_wp2_with fail
    refine HV.out.mono ?_
    rintro r w3 ⟨rfl, hb⟩
    have hw := HW.out.below hb
    have HW : Aside0 (Went (all [blk g (.cells #[.int .i64 0, .int .i64 t, .bool true, .int .i64 0, .bool false, .int .i64 ns, .int .i64 nr, .string s] 144 (0, 0)), entAt b mb fb ({ { e with fl := comeF e.fl ns } with fl := ackF (comeF e.fl ns) nr })]) T w0 w3) := ⟨hw⟩
    clear hw hb HV
    clear b0 b1 b2 b3 b4 b5 b6 b7
    clear c0 c1 c2 c3 c4 c5 c6 c7 c8 f0 f1 f2 f3 f4 f8
    obtain ⟨⟨b0, b1, b2, b3, b4, b5, b6, b7⟩, _⟩ := cells8 (HW.out.heap 0 rfl)
    obtain ⟨Tz, hz⟩ := HW.out.get 1 rfl
    obtain ⟨A, ca, ⟨c0, c1, c2, c3, c4, c5, c6, c7, c8⟩, f0, f1, f2, f3, f4, f8⟩ := entAt.cells (Went.refl hz)
    clear hz
    go_wp2_with fail
    refine (HW.out.call_at 1 rfl (fun T1 h1 => goOnC b mb fb ({ { e with fl := comeF e.fl ns } with fl := ackF (comeF e.fl ns) nr }) (by have h9 : ({ { e with fl := comeF e.fl ns } with fl := ackF (comeF e.fl ns) nr }).out.length ≤ 7000 + 0 := hl; exact Nat.le_trans h9 (by omega)) T1 _ _ (Went.refl h1))).mono ?_
    rintro r w4 ⟨rfl, hw⟩
    have HW : Aside0 (Went (all [blk g (.cells #[.int .i64 0, .int .i64 t, .bool true, .int .i64 0, .bool false, .int .i64 ns, .int .i64 nr, .string s] 144 (0, 0)), entAt b mb fb (goOn ({ { e with fl := comeF e.fl ns } with fl := ackF (comeF e.fl ns) nr }))]) T w0 w4) := ⟨hw⟩
    clear hw
    clear b0 b1 b2 b3 b4 b5 b6 b7
    clear c0 c1 c2 c3 c4 c5 c6 c7 c8 f0 f1 f2 f3 f4 f8
    obtain ⟨⟨b0, b1, b2, b3, b4, b5, b6, b7⟩, _⟩ := cells8 (HW.out.heap 0 rfl)
    obtain ⟨Tz, hz⟩ := HW.out.get 1 rfl
    obtain ⟨A, ca, ⟨c0, c1, c2, c3, c4, c5, c6, c7, c8⟩, f0, f1, f2, f3, f4, f8⟩ := entAt.cells (Went.refl hz)
    clear hz
    go_wp2
    go_end0
    exact ⟨rfl, Went.only (HW.out).drop⟩
theorem infoF0 (b mb fb : Nat) (e : E) (t ns nr : Int) (s : ByteArray) (hl : e.out.length ≤ 7000) (ha : ackOk (comeF e.fl ns) nr) (hs : e.state = 7) (hp : (comeF e.fl ns).peer = false) (cv : Int) (hcv : come e.fl ns = cv) (hc0 : ¬ come e.fl ns = 0) (hc1 : ¬ come e.fl ns = 1) (T : Nat → Prop) (w0 w : World) (h : Went (entAt b mb fb e) T w0 w) :
    Calls Tryz.prog 130 #[.pointer (some ⟨b, 0, none⟩), .agg (frCells (⟨t, true, 0, false, ns, nr, s⟩ : Fr))] w fun r w' => r = .returned (.tuple #[]) ∧ Went (entAt b mb fb (info e (⟨t, true, 0, false, ns, nr, s⟩ : Fr))) T w0 w' := by
  have HOK := Aside0.mk (entAt.ok h)
  obtain ⟨A, ca, ⟨c0, c1, c2, c3, c4, c5, c6, c7, c8⟩, f0, f1, f2, f3, f4, f8⟩ := entAt.cells h
  have HW := Aside0.mk h
  clear h
  have hE1 : info1 e (⟨t, true, 0, false, ns, nr, s⟩ : Fr) = { e with fl := comeF e.fl ns } := (if_neg (fun h => hc0 h)).trans ((if_neg (fun h => hc1 h)).trans (if_neg (show ¬ (false = true) by decide)))
  have hE2 : info2 ({ e with fl := comeF e.fl ns }) (⟨t, true, 0, false, ns, nr, s⟩ : Fr) = goOn (count ({ { e with fl := comeF e.fl ns } with fl := ackF (comeF e.fl ns) nr }) (ackN (comeF e.fl ns) nr)) := (if_pos ha).trans ((if_pos hs).trans (if_neg (fun h => by have h1 : (false : Bool) = true := hp.symm.trans h; cases h1)))
  rw [show info e (⟨t, true, 0, false, ns, nr, s⟩ : Fr) = info2 (info1 e (⟨t, true, 0, false, ns, nr, s⟩ : Fr)) (⟨t, true, 0, false, ns, nr, s⟩ : Fr) from rfl, hE1, hE2]
  clear hE1 hE2
  have HK : Aside0 (∀ T1 wz, (flAt fb (comeF e.fl ns)).h T1 wz → Calls Tryz.prog 157 #[.pointer (some ⟨fb, 0, none⟩), .int .i64 nr] wz fun r w2 => r = .returned (.tuple #[.int .i64 (ackN (comeF e.fl ns) nr : Int), .int .i64 0]) ∧ Went (flAt fb (ackF (comeF e.fl ns) nr)) T1 wz w2) := ⟨fun T1 wz hz => by
    have h0 := Fl.ackC fb (comeF e.fl ns) nr T1 wz hz
    rw [if_pos ha, if_pos ha] at h0
    exact h0⟩
  have HM : Aside0 (∀ T1 wz, (flAt fb e.fl).h T1 wz → Calls Tryz.prog 156 #[.pointer (some ⟨fb, 0, none⟩), .int .i64 ns] wz fun r w2 => r = .returned (.int .i64 cv) ∧ Went (flAt fb (comeF e.fl ns)) T1 wz w2) := ⟨fun T1 wz hz => by
    have h0 := Fl.comeC fb e.fl ns T1 wz hz
    rw [hcv] at h0
    exact h0⟩
  have hb0 : (cv == 0) = false := by rw [beq_eq_false_iff_ne, ← hcv]; exact hc0
  have hb1 : (cv == 1) = false := by rw [beq_eq_false_iff_ne, ← hcv]; exact hc1
  clear hc0 hc1 hcv
  have HS := Aside0.mk hs
  clear hs
  have HP := Aside0.mk hp
  clear hp
  clear ha
  have hbx := heap_alloc_new w (.cells #[.int .i64 0, .int .i64 t, .bool true, .int .i64 0, .bool false, .int .i64 ns, .int .i64 nr, .string s] 144 (0, 0))
  have hw := (Went.single HW.out).new (.cells #[.int .i64 0, .int .i64 t, .bool true, .int .i64 0, .bool false, .int .i64 ns, .int .i64 nr, .string s] 144 (0, 0))
  obtain ⟨g, HG⟩ : ∃ g, Aside0 (w.heap.size = g) := ⟨_, ⟨rfl⟩⟩
  rw [HG.out] at hw hbx
  clear HW
  have HW : Aside0 (Went (all [blk g (.cells #[.int .i64 0, .int .i64 t, .bool true, .int .i64 0, .bool false, .int .i64 ns, .int .i64 nr, .string s] 144 (0, 0)), entAt b mb fb (e)]) T w0 (w.alloc (.cells #[.int .i64 0, .int .i64 t, .bool true, .int .i64 0, .bool false, .int .i64 ns, .int .i64 nr, .string s] 144 (0, 0)))) := ⟨hw⟩
  clear hw
  obtain ⟨⟨b0, b1, b2, b3, b4, b5, b6, b7⟩, _⟩ := cells8 hbx
  clear hbx
  clear b0 b1 b2 b3 b4 b5 b6 b7
  clear c0 c1 c2 c3 c4 c5 c6 c7 c8 f0 f1 f2 f3 f4 f8
  obtain ⟨⟨b0, b1, b2, b3, b4, b5, b6, b7⟩, _⟩ := cells8 (HW.out.heap 0 rfl)
  obtain ⟨Tz, hz⟩ := HW.out.get 1 rfl
  obtain ⟨A, ca, ⟨c0, c1, c2, c3, c4, c5, c6, c7, c8⟩, f0, f1, f2, f3, f4, f8⟩ := entAt.cells (Went.refl hz)
  clear hz
  have hg := HG.out
  unfold frCells
  go_enter Tryz.func130, Tryz.ntmps130
  go_wp2_with fail
  generalize w.alloc (.cells #[.int .i64 0, .int .i64 t, .bool true, .int .i64 0, .bool false, .int .i64 ns, .int .i64 nr, .string s] 144 (0, 0)) = wx at *
  go_still_tail 6, (by kernel_rfl)
  change wpList _ _ _ _ _ (World.drew _)
  have HW := Aside0.mk HW.out.drew
  go_wp2_with fail
  refine (HW.out.call_at 1 rfl (fun T1 h1 => entAt.flow (Went.refl h1) (fun T2 h2 => HM.out T2 _ h2))).mono ?_
  rintro r w1 ⟨rfl, hw⟩
  have HW : Aside0 (Went (all [blk g (.cells #[.int .i64 0, .int .i64 t, .bool true, .int .i64 0, .bool false, .int .i64 ns, .int .i64 nr, .string s] 144 (0, 0)), entAt b mb fb ({ e with fl := comeF e.fl ns })]) T w0 w1) := ⟨hw⟩
  clear hw
  clear b0 b1 b2 b3 b4 b5 b6 b7
  clear c0 c1 c2 c3 c4 c5 c6 c7 c8 f0 f1 f2 f3 f4 f8
  obtain ⟨⟨b0, b1, b2, b3, b4, b5, b6, b7⟩, _⟩ := cells8 (HW.out.heap 0 rfl)
  obtain ⟨Tz, hz⟩ := HW.out.get 1 rfl
  obtain ⟨A, ca, ⟨c0, c1, c2, c3, c4, c5, c6, c7, c8⟩, f0, f1, f2, f3, f4, f8⟩ := entAt.cells (Went.refl hz)
  clear hz
  go_wp2_with fail
  have HW := Aside0.mk HW.out.drew
  go_region_law (go_simp; go_at_call 157; refine (HW.out.call_at 1 rfl (fun T1 h1 => entAt.flow (Went.refl h1) (fun T2 h2 => HK.out T2 _ h2))).mono ?_; rintro r w2 ⟨rfl, hw⟩)
  all_goals
    have HW : Aside0 (Went (all [blk g (.cells #[.int .i64 0, .int .i64 t, .bool true, .int .i64 0, .bool false, .int .i64 ns, .int .i64 nr, .string s] 144 (0, 0)), entAt b mb fb ({ { e with fl := comeF e.fl ns } with fl := ackF (comeF e.fl ns) nr })]) T w0 w2) := ⟨hw⟩
    clear hw
    clear b0 b1 b2 b3 b4 b5 b6 b7
    clear c0 c1 c2 c3 c4 c5 c6 c7 c8 f0 f1 f2 f3 f4 f8
    obtain ⟨⟨b0, b1, b2, b3, b4, b5, b6, b7⟩, _⟩ := cells8 (HW.out.heap 0 rfl)
    obtain ⟨Tz, hz⟩ := HW.out.get 1 rfl
    obtain ⟨A, ca, ⟨c0, c1, c2, c3, c4, c5, c6, c7, c8⟩, f0, f1, f2, f3, f4, f8⟩ := entAt.cells (Went.refl hz)
    clear hz
    have hst : ({ { e with fl := comeF e.fl ns } with fl := ackF (comeF e.fl ns) nr }).state = 7 := HS.out
    rw [hst] at c1
    clear hst
    obtain ⟨Tz, hz⟩ := HW.out.get 1 rfl
    obtain ⟨Ty, hf⟩ := entAt.flowGet (Went.refl hz)
    have hv := viewC fb (ackF (comeF e.fl ns) nr) Ty _ hf
    rw [show (ackF (comeF e.fl ns) nr).peer = false from HP.out] at hv
    have HV := Aside0.mk hv
    clear hz hf hv
    go_wp2_with fail
    refine HV.out.mono ?_
    rintro r w3 ⟨rfl, hb⟩
    have hw := HW.out.below hb
    have HW : Aside0 (Went (all [blk g (.cells #[.int .i64 0, .int .i64 t, .bool true, .int .i64 0, .bool false, .int .i64 ns, .int .i64 nr, .string s] 144 (0, 0)), entAt b mb fb ({ { e with fl := comeF e.fl ns } with fl := ackF (comeF e.fl ns) nr })]) T w0 w3) := ⟨hw⟩
    clear hw hb HV
    clear b0 b1 b2 b3 b4 b5 b6 b7
    clear c0 c1 c2 c3 c4 c5 c6 c7 c8 f0 f1 f2 f3 f4 f8
    obtain ⟨⟨b0, b1, b2, b3, b4, b5, b6, b7⟩, _⟩ := cells8 (HW.out.heap 0 rfl)
    obtain ⟨Tz, hz⟩ := HW.out.get 1 rfl
    obtain ⟨A, ca, ⟨c0, c1, c2, c3, c4, c5, c6, c7, c8⟩, f0, f1, f2, f3, f4, f8⟩ := entAt.cells (Went.refl hz)
    clear hz
    go_wp2_with fail
    refine (HW.out.call_at 1 rfl (fun T1 h1 => countC b mb fb ({ { e with fl := comeF e.fl ns } with fl := ackF (comeF e.fl ns) nr }) (ackN (comeF e.fl ns) nr) (Nat.le_trans hl (by omega)) T1 _ _ (Went.refl h1))).mono ?_
    rintro r w4 ⟨rfl, hw⟩
    have HW : Aside0 (Went (all [blk g (.cells #[.int .i64 0, .int .i64 t, .bool true, .int .i64 0, .bool false, .int .i64 ns, .int .i64 nr, .string s] 144 (0, 0)), entAt b mb fb (count ({ { e with fl := comeF e.fl ns } with fl := ackF (comeF e.fl ns) nr }) (ackN (comeF e.fl ns) nr))]) T w0 w4) := ⟨hw⟩
    clear hw
    clear b0 b1 b2 b3 b4 b5 b6 b7
    clear c0 c1 c2 c3 c4 c5 c6 c7 c8 f0 f1 f2 f3 f4 f8
    obtain ⟨⟨b0, b1, b2, b3, b4, b5, b6, b7⟩, _⟩ := cells8 (HW.out.heap 0 rfl)
    obtain ⟨Tz, hz⟩ := HW.out.get 1 rfl
    obtain ⟨A, ca, ⟨c0, c1, c2, c3, c4, c5, c6, c7, c8⟩, f0, f1, f2, f3, f4, f8⟩ := entAt.cells (Went.refl hz)
    clear hz
    go_wp2_with fail
    refine (HW.out.call_at 1 rfl (fun T1 h1 => goOnC b mb fb (count ({ { e with fl := comeF e.fl ns } with fl := ackF (comeF e.fl ns) nr }) (ackN (comeF e.fl ns) nr)) (by have h9 : (count ({ { e with fl := comeF e.fl ns } with fl := ackF (comeF e.fl ns) nr }) (ackN (comeF e.fl ns) nr)).out.length ≤ 7000 + 2 := len_count (hl); exact Nat.le_trans h9 (by omega)) T1 _ _ (Went.refl h1))).mono ?_
    rintro r w5 ⟨rfl, hw⟩
    have HW : Aside0 (Went (all [blk g (.cells #[.int .i64 0, .int .i64 t, .bool true, .int .i64 0, .bool false, .int .i64 ns, .int .i64 nr, .string s] 144 (0, 0)), entAt b mb fb (goOn (count ({ { e with fl := comeF e.fl ns } with fl := ackF (comeF e.fl ns) nr }) (ackN (comeF e.fl ns) nr)))]) T w0 w5) := ⟨hw⟩
    clear hw
    clear b0 b1 b2 b3 b4 b5 b6 b7
    clear c0 c1 c2 c3 c4 c5 c6 c7 c8 f0 f1 f2 f3 f4 f8
    obtain ⟨⟨b0, b1, b2, b3, b4, b5, b6, b7⟩, _⟩ := cells8 (HW.out.heap 0 rfl)
    obtain ⟨Tz, hz⟩ := HW.out.get 1 rfl
    obtain ⟨A, ca, ⟨c0, c1, c2, c3, c4, c5, c6, c7, c8⟩, f0, f1, f2, f3, f4, f8⟩ := entAt.cells (Went.refl hz)
    clear hz
    go_wp2
    go_end0
    exact ⟨rfl, Went.only (HW.out).drop⟩
theorem infoC (b mb fb : Nat) (e : E) (f : Fr) (hk : f.kind = 0) (hc : f.cmd = true) (hst : e.state = 7 ∨ e.state = 8) (hl : e.out.length ≤ 7000) (T : Nat → Prop) (w0 w : World) (h : Went (entAt b mb fb e) T w0 w) :
    Calls Tryz.prog 130 #[.pointer (some ⟨b, 0, none⟩), .agg (frCells f)] w fun r w' => r = .returned (.tuple #[]) ∧ Went (entAt b mb fb (info e f)) T w0 w' := by
  obtain ⟨t, c, k, p, ns, nr, s⟩ := f
  simp only at hk hc
  subst hk hc
  by_cases ha : ackOk (comeF e.fl ns) nr
  · rcases hst with hs | hs
    · cases hp : (comeF e.fl ns).peer with
      | true =>
        by_cases hc0 : come e.fl ns = 0
        · have hc := hc0
          exact infoN1 b mb fb e t p ns nr s hl ha hs hp hc T w0 w h
        · by_cases hc1 : come e.fl ns = 1
          · have hc := hc1
            exact infoW1 b mb fb e t p ns nr s hl ha hs hp hc T w0 w h
          · match p with
            | true => exact infoT1 b mb fb e t ns nr s hl ha hs hp _ rfl hc0 hc1 T w0 w h
            | false => exact infoF1 b mb fb e t ns nr s hl ha hs hp _ rfl hc0 hc1 T w0 w h
      | false =>
        by_cases hc0 : come e.fl ns = 0
        · have hc := hc0
          exact infoN0 b mb fb e t p ns nr s hl ha hs hp hc T w0 w h
        · by_cases hc1 : come e.fl ns = 1
          · have hc := hc1
            exact infoW0 b mb fb e t p ns nr s hl ha hs hp hc T w0 w h
          · match p with
            | true => exact infoT0 b mb fb e t ns nr s hl ha hs hp _ rfl hc0 hc1 T w0 w h
            | false => exact infoF0 b mb fb e t ns nr s hl ha hs hp _ rfl hc0 hc1 T w0 w h
    · by_cases hc0 : come e.fl ns = 0
      · have hc := hc0
        exact infoN8 b mb fb e t p ns nr s hl ha hs hc T w0 w h
      · by_cases hc1 : come e.fl ns = 1
        · have hc := hc1
          exact infoW8 b mb fb e t p ns nr s hl ha hs hc T w0 w h
        · match p with
          | true => exact infoT8 b mb fb e t ns nr s hl ha hs _ rfl hc0 hc1 T w0 w h
          | false => exact infoF8 b mb fb e t ns nr s hl ha hs _ rfl hc0 hc1 T w0 w h
  · by_cases hc0 : come e.fl ns = 0
    · have hc := hc0
      exact infoN7 b mb fb e t p ns nr s hl ha hc T w0 w h
    · by_cases hc1 : come e.fl ns = 1
      · have hc := hc1
        exact infoW7 b mb fb e t p ns nr s hl ha hc T w0 w h
      · match p with
        | true => exact infoT7 b mb fb e t ns nr s hl ha _ rfl hc0 hc1 T w0 w h
        | false => exact infoF7 b mb fb e t ns nr s hl ha _ rfl hc0 hc1 T w0 w h
end Go.Proofs.YtljnfbpplhnmfaaGreatDoor.En
