/- Package entity by its own text, over what lies in memory: the parts, and what tells. Conditions: sizes. Package entity by its own text: told, start, stop, sendData, send. Conditions: sizes. Package entity by its own text: sendData, send. Conditions: sizes. The model's functions: how much they tell, and what they leave as it was. No program in sight; no condition. Package entity by its own text: call, anew, supervise, inquire, end. Conditions: sizes. -/
import Derived.Deep.LoopGhost
import Derived.Test.YtljnfbpplhnmfaaGreatDoorUs02
import Derived.Test.YtljnfbpplhnmfaaGreatDoorUs03
namespace Go.Proofs.YtljnfbpplhnmfaaGreatDoor.En
open Go Go.RowKit Go.Proofs.YtljnfbpplhnmfaaGreatDoorW.PrintWords Go.Proofs.YtljnfbpplhnmfaaGreatDoorW.PrintLast Go.Proofs.YtljnfbpplhnmfaaGreatDoorW.PrintMore Go.Proofs.YtljnfbpplhnmfaaGreatDoor.Str Go.Proofs.YtljnfbpplhnmfaaGreatDoor.Mp Go.Proofs.YtljnfbpplhnmfaaGreatDoor.Ra Go.Proofs.YtljnfbpplhnmfaaGreatDoor.Sl Go.Proofs.YtljnfbpplhnmfaaGreatDoor.Qu Go.Proofs.YtljnfbpplhnmfaaGreatDoor.Sq Go.Proofs.YtljnfbpplhnmfaaGreatDoor.Fl Go.Proofs.YtljnfbpplhnmfaaGreatDoor.Ru Go.Proofs.YtljnfbpplhnmfaaGreatDoor.Md
set_option linter.unusedVariables false
def frCells (f : Fr) : Array Value := #[.int .i64 0, .int .i64 f.tei, .bool f.cmd, .int .i64 f.kind, .bool f.pf, .int .i64 f.ns, .int .i64 f.nr, .string f.info]
def efCells (x : Ef) : Array Value := #[.int .i64 x.kind, .int .i64 0, .int .i64 x.fr.tei, .bool x.fr.cmd, .int .i64 x.fr.kind, .bool x.fr.pf, .int .i64 x.fr.ns, .int .i64 x.fr.nr, .string x.fr.info, .string x.data, .int .i64 x.timer]
def efs (l : List Ef) : List Value := l.flatMap (fun x => (efCells x).toList)
theorem efs_app (l m : List Ef) : efs (l ++ m) = efs l ++ efs m := by simp [efs]
theorem efs_one (x : Ef) : efs [x] = (efCells x).toList := by simp [efs]
def orow (v : Value) (l : List Ef) : SP := row 180 11 v l.length (efs l)
def ecells (mb fb : Nat) (e : E) (v : Value) : Array Value := #[.int .i64 e.most, .int .i64 e.state, .int .i64 70, .int .i64 e.tries, .bool e.asked, .map (some mb), .slice none 0 0, .pointer (some ⟨fb, 0, none⟩), v]
noncomputable def eparts (b mb fb : Nat) (e : E) (v : Value) : List SP := [fact (EOk e), blk b (.cells (ecells mb fb e v) 91 (0, 0)), runsAt mb e.r200 e.r203, flAt fb e.fl, orow v e.out]
noncomputable def entAt (b mb fb : Nat) (e : E) : SP := ex fun v => all (eparts b mb fb e v)
theorem infoEf : (Tryz.prog.info? 180).map (fun i => (i.zero, i.size, i.bytes)) = some (some (.agg (efCells ⟨0, Fr.zero, nil8, 0⟩)), 11, 104) := by kernel_rfl
theorem _root_.Go.Proofs.YtljnfbpplhnmfaaGreatDoor.Sl.Went.drop {A : SP} {L : List SP} {T : Nat → Prop} {w w1 : World} (h : Went (all (A :: L)) T w w1) : Went (all L) T w w1 := by
  obtain ⟨T1, ⟨T2, T3, _, h3, _, e⟩, k1, t1⟩ := h
  exact ⟨T3, h3, k1, fun k hk => t1 k ((e k).2 (Or.inr hk))⟩
theorem entAt.opened {b mb fb : Nat} {e : E} {T : Nat → Prop} {w0 w : World} (h : Went (entAt b mb fb e) T w0 w) : ∃ A c, Went (all (eparts b mb fb e (.slice A e.out.length c))) T w0 w ∧ EOk e ∧ FOk e.fl ∧ QOk e.fl.q ∧ e.out.length ≤ c ∧ c ≤ maxLen := by
  obtain ⟨T1, ⟨v, h1⟩, k1, t1⟩ := h
  have hw : Went (all (eparts b mb fb e v)) T1 w w := Went.refl h1
  obtain ⟨_, _, hok⟩ := hw.get 0 rfl
  obtain ⟨_, hf⟩ := hw.get 3 rfl
  obtain ⟨qb, hfw, hfk⟩ := flAt.opened hf
  obtain ⟨_, hq⟩ := hfw.get 2 rfl
  obtain ⟨_, _, _, hqk, _⟩ := quAt.opened hq
  obtain ⟨_, _, hr⟩ := hw.get 4 rfl
  obtain ⟨A, c, rfl, h2, h3⟩ := hr.shape
  exact ⟨A, c, Went.trans k1 t1 hw, hok, hfk, hqk, h2, h3⟩
theorem entAt.ok {b mb fb : Nat} {e : E} {T : Nat → Prop} {w0 w : World} (h : Went (entAt b mb fb e) T w0 w) : EOk e ∧ FOk e.fl ∧ QOk e.fl.q := by
  obtain ⟨_, _, _, h1, h2, h3, _⟩ := entAt.opened h
  exact ⟨h1, h2, h3⟩
theorem entAt.close {p : Prop} {b mb fb : Nat} {e : E} {x y : Bool} {f : F} {v : Value} {n : Nat} {xs : List Value} {T : Nat → Prop} {w w1 : World}
    (h : Went (all [fact p, blk b (.cells (ecells mb fb e v) 91 (0, 0)), runsAt mb x y, flAt fb f, row 180 11 v n xs]) T w w1) (hok : EOk e) (hx : x = e.r200) (hy : y = e.r203) (hf : f = e.fl) (hn : n = e.out.length) (hxs : xs = efs e.out) : Went (entAt b mb fb e) T w w1 := by
  subst hn hxs hx hy hf
  exact (h.at_ 0 rfl (B := fact (EOk e)) fun T1 h1 => Went.refl ⟨h1.1, hok⟩).imp (fun T1 h1 => ⟨v, h1⟩)
theorem cells9 {w : World} {g : Nat} {a0 a1 a2 a3 a4 a5 a6 a7 a8 : Value} {t : TypeId} (h : w.heap[g]? = some (.cells #[a0, a1, a2, a3, a4, a5, a6, a7, a8] t (0, 0))) :
    (w.cell? ⟨g, 0, none⟩ = some a0 ∧ w.cell? ⟨g, 1, none⟩ = some a1 ∧ w.cell? ⟨g, 2, none⟩ = some a2 ∧ w.cell? ⟨g, 3, none⟩ = some a3 ∧ w.cell? ⟨g, 4, none⟩ = some a4 ∧ w.cell? ⟨g, 5, none⟩ = some a5 ∧ w.cell? ⟨g, 6, none⟩ = some a6 ∧ w.cell? ⟨g, 7, none⟩ = some a7 ∧ w.cell? ⟨g, 8, none⟩ = some a8) ∧
    w.frozen? ⟨g, 0, none⟩ = false ∧ w.frozen? ⟨g, 1, none⟩ = false ∧ w.frozen? ⟨g, 2, none⟩ = false ∧ w.frozen? ⟨g, 3, none⟩ = false ∧ w.frozen? ⟨g, 4, none⟩ = false ∧ w.frozen? ⟨g, 8, none⟩ = false := by
  refine ⟨⟨?_, ?_, ?_, ?_, ?_, ?_, ?_, ?_, ?_⟩, Lib.frozen_of_heap h 0, Lib.frozen_of_heap h 1, Lib.frozen_of_heap h 2, Lib.frozen_of_heap h 3, Lib.frozen_of_heap h 4, Lib.frozen_of_heap h 8⟩ <;> rw [Lib.cell_of_heap h] <;> rfl
theorem entAt.cells {b mb fb : Nat} {e : E} {T : Nat → Prop} {w0 w : World} (h : Went (entAt b mb fb e) T w0 w) : ∃ A c,
    (w.cell? ⟨b, 0, none⟩ = some (.int .i64 e.most) ∧ w.cell? ⟨b, 1, none⟩ = some (.int .i64 e.state) ∧ w.cell? ⟨b, 2, none⟩ = some (.int .i64 70) ∧ w.cell? ⟨b, 3, none⟩ = some (.int .i64 e.tries) ∧ w.cell? ⟨b, 4, none⟩ = some (.bool e.asked) ∧ w.cell? ⟨b, 5, none⟩ = some (.map (some mb)) ∧ w.cell? ⟨b, 6, none⟩ = some (.slice none 0 0) ∧ w.cell? ⟨b, 7, none⟩ = some (.pointer (some ⟨fb, 0, none⟩)) ∧ w.cell? ⟨b, 8, none⟩ = some (.slice A e.out.length c)) ∧
    w.frozen? ⟨b, 0, none⟩ = false ∧ w.frozen? ⟨b, 1, none⟩ = false ∧ w.frozen? ⟨b, 2, none⟩ = false ∧ w.frozen? ⟨b, 3, none⟩ = false ∧ w.frozen? ⟨b, 4, none⟩ = false ∧ w.frozen? ⟨b, 8, none⟩ = false := by
  obtain ⟨A, c, hw, _⟩ := entAt.opened h
  exact ⟨A, c, cells9 (hw.heap 1 rfl)⟩
section
variable {b mb fb : Nat} {e : E} {T : Nat → Prop} {w0 w : World}
theorem entAt.setState (h : Went (entAt b mb fb e) T w0 w) (s : Int) (hs : 4 ≤ s ∧ s ≤ 8) : Went (entAt b mb fb { e with state := s }) T w0 (w.setCell ⟨b, 1, none⟩ (.int .i64 s)) := by
  obtain ⟨A, c, hw, hok, _⟩ := entAt.opened h
  exact entAt.close (e := { e with state := s }) (hw.set 1 rfl 1 (.int .i64 s)) ⟨hok.most, hs, hok.tries⟩ rfl rfl rfl rfl rfl
theorem entAt.setTries (h : Went (entAt b mb fb e) T w0 w) (s : Int) (hs : 0 ≤ s ∧ s ≤ e.most) : Went (entAt b mb fb { e with tries := s }) T w0 (w.setCell ⟨b, 3, none⟩ (.int .i64 s)) := by
  obtain ⟨A, c, hw, hok, _⟩ := entAt.opened h
  exact entAt.close (e := { e with tries := s }) (hw.set 1 rfl 3 (.int .i64 s)) ⟨hok.most, hok.state, hs⟩ rfl rfl rfl rfl rfl
theorem entAt.setAsked (h : Went (entAt b mb fb e) T w0 w) (x : Bool) : Went (entAt b mb fb { e with asked := x }) T w0 (w.setCell ⟨b, 4, none⟩ (.bool x)) := by
  obtain ⟨A, c, hw, hok, _⟩ := entAt.opened h
  exact entAt.close (e := { e with asked := x }) (hw.set 1 rfl 4 (.bool x)) ⟨hok.most, hok.state, hok.tries⟩ rfl rfl rfl rfl rfl
theorem entAt.flow {P : Program} {g : FuncId} {args : Array Value} {r : Value} {f' : F} (h : Went (entAt b mb fb e) T w0 w) (m : ∀ T1, (flAt fb e.fl).h T1 w → Calls P g args w fun x w2 => x = .returned r ∧ Went (flAt fb f') T1 w w2) :
    Calls P g args w fun x w2 => x = .returned r ∧ Went (entAt b mb fb { e with fl := f' }) T w0 w2 := by
  obtain ⟨A, c, hw, hok, _⟩ := entAt.opened h
  exact (hw.call_at 3 rfl m).mono fun x w2 ⟨hx, h2⟩ => ⟨hx, entAt.close (e := { e with fl := f' }) h2 ⟨hok.most, hok.state, hok.tries⟩ rfl rfl rfl rfl rfl⟩
theorem entAt.flowGet (h : Went (entAt b mb fb e) T w0 w) : ∃ T1, (flAt fb e.fl).h T1 w := by
  obtain ⟨A, c, hw, _⟩ := entAt.opened h
  exact hw.get 3 rfl
theorem entAt.runs (h : Went (entAt b mb fb e) T w0 w) : ∃ T1, (runsAt mb e.r200 e.r203).h T1 w := by
  obtain ⟨A, c, hw, _⟩ := entAt.opened h
  exact hw.get 2 rfl
theorem entAt.look (h : Went (entAt b mb fb e) T w0 w) : (Instr.lookup 63 (.map (some mb)) (.int .i64 200) false).run Tryz.prog w = .ok (.bool e.r200) w ∧ (Instr.lookup 63 (.map (some mb)) (.int .i64 203) false).run Tryz.prog w = .ok (.bool e.r203) w := by
  obtain ⟨T1, h1⟩ := entAt.runs h
  exact ⟨look200 h1, look203 h1⟩
theorem entAt.store200 (h : Went (entAt b mb fb e) T w0 w) (v : Bool) : ∃ w', (Instr.mapUpdate 63 (.map (some mb)) (.int .i64 200) (.bool v)).run Tryz.prog w = .ok () w' ∧ Went (entAt b mb fb { e with r200 := v }) T w0 w' := by
  obtain ⟨A, c, hw, hok, _⟩ := entAt.opened h
  obtain ⟨T1, h1⟩ := hw.get 2 rfl
  obtain ⟨w', hrun, _⟩ := Ru.store200 h1 v
  refine ⟨w', hrun, entAt.close (e := { e with r200 := v }) (hw.at_ 2 rfl (w2 := w') (B := runsAt mb v e.r203) fun T2 h2 => ?_) ⟨hok.most, hok.state, hok.tries⟩ rfl rfl rfl rfl rfl⟩
  obtain ⟨w2, hrun2, h3⟩ := Ru.store200 h2 v
  have he : w2 = w' := by
    have h4 := hrun2.symm.trans hrun
    injection h4
  exact he ▸ h3
theorem entAt.store203 (h : Went (entAt b mb fb e) T w0 w) (v : Bool) : ∃ w', (Instr.mapUpdate 63 (.map (some mb)) (.int .i64 203) (.bool v)).run Tryz.prog w = .ok () w' ∧ Went (entAt b mb fb { e with r203 := v }) T w0 w' := by
  obtain ⟨A, c, hw, hok, _⟩ := entAt.opened h
  obtain ⟨T1, h1⟩ := hw.get 2 rfl
  obtain ⟨w', hrun, _⟩ := Ru.store203 h1 v
  refine ⟨w', hrun, entAt.close (e := { e with r203 := v }) (hw.at_ 2 rfl (w2 := w') (B := runsAt mb e.r200 v) fun T2 h2 => ?_) ⟨hok.most, hok.state, hok.tries⟩ rfl rfl rfl rfl rfl⟩
  obtain ⟨w2, hrun2, h3⟩ := Ru.store203 h2 v
  have he : w2 = w' := by
    have h4 := hrun2.symm.trans hrun
    injection h4
  exact he ▸ h3
end
set_option maxHeartbeats 4000000 in
set_option maxRecDepth 1000000 in
theorem tellC (b mb fb : Nat) (e : E) (x : Ef) (hl : e.out.length ≤ 9000) (T : Nat → Prop) (w0 w : World) (h : Went (entAt b mb fb e) T w0 w) :
    Calls Tryz.prog 125 #[.pointer (some ⟨b, 0, none⟩), .agg (efCells x)] w fun r w' => r = .returned (.tuple #[]) ∧ Went (entAt b mb fb (tell e x)) T w0 w' := by
  obtain ⟨A, c, HW0, hok, hfk, hqk, hc, hm⟩ := entAt.opened h
  have HOK := Aside0.mk hok
  obtain ⟨x0, ⟨t1, x1, x2, x3, x4, x5, x6⟩, x7, x8⟩ := x
  have HW := Aside0.mk (HW0.new (.cells #[.int .i64 x0, .int .i64 0, .int .i64 t1, .bool x1, .int .i64 x2, .bool x3, .int .i64 x4, .int .i64 x5, .string x6, .string x7, .int .i64 x8] 180 (0, 0)))
  have hn := HW.out.heap 0 rfl
  obtain ⟨⟨c0, c1, c2, c3, c4, c5, c6, c7, c8⟩, f0, f1, f2, f3, f4, f8⟩ := cells9 (HW.out.heap 2 rfl)
  have HW2 := Aside0.mk (HW.out.new (.cells #[.int .i64 x0, .int .i64 0, .int .i64 t1, .bool x1, .int .i64 x2, .bool x3, .int .i64 x4, .int .i64 x5, .string x6, .string x7, .int .i64 x8] 180 (0, 0)))
  obtain ⟨⟨d0, d1, d2, d3, d4, d5, d6, d7, d8⟩, g0, g1, g2, g3, g4, g8⟩ := cells9 (HW2.out.heap 3 rfl)
  have hn2 := HW2.out.heap 0 rfl
  obtain ⟨i0, hi0, hz0, hz1, hz2⟩ := info_parts infoEf
  obtain ⟨T3, hr⟩ := HW2.out.drew.get 6 rfl
  have HI0 := Aside0.mk hi0
  have HZ0 := Aside0.mk hz0
  have HZ1 := Aside0.mk hz1
  have HZ2 := Aside0.mk hz2
  have HR := Aside0.mk hr.2
  have hsz : (w.alloc (.cells #[.int .i64 x0, .int .i64 0, .int .i64 t1, .bool x1, .int .i64 x2, .bool x3, .int .i64 x4, .int .i64 x5, .string x6, .string x7, .int .i64 x8] 180 (0, 0))).heap.size = w.heap.size + 1 := by show (w.heap.push _).size = _; simp
  have HNW : Aside0 (∀ (j : Nat) (u : Value), ([.int .i64 x0, .int .i64 0, .int .i64 t1, .bool x1, .int .i64 x2, .bool x3, .int .i64 x4, .int .i64 x5, .string x6, .string x7, .int .i64 x8] : List Value)[j]? = some u → ((w.alloc (.cells #[.int .i64 x0, .int .i64 0, .int .i64 t1, .bool x1, .int .i64 x2, .bool x3, .int .i64 x4, .int .i64 x5, .string x6, .string x7, .int .i64 x8] 180 (0, 0))).alloc (.cells #[.int .i64 x0, .int .i64 0, .int .i64 t1, .bool x1, .int .i64 x2, .bool x3, .int .i64 x4, .int .i64 x5, .string x6, .string x7, .int .i64 x8] 180 (0, 0))).cell? ((⟨w.heap.size + 1, 0, none⟩ : Addr).add j) = some u) := ⟨fun j u hu => by
    rw [hsz] at hn2
    rw [add_plain, Lib.cell_of_heap hn2, ← hu]
    simp⟩
  clear h hok hfk hqk HW0 hi0 hz0 hz1 hz2 hr c0 c1 c2 c3 c4 c5 c6 c7 d0 d1 d2 d3 d4 d5 d6 d7
  unfold efCells
  go_enter Tryz.func125, Tryz.ntmps125
  go_wp2_with fail
  go_region_law (refine step_append_at _ rfl _ _ 89 rfl T3 180 i0 (.agg (efCells ⟨0, Fr.zero, nil8, 0⟩)) 11 104 Tryz.underlying89 HI0.out HZ0.out HZ1.out HZ2.out rfl (by decide) _ _ _ rfl HR.out ⟨w.heap.size + 1, 0, none⟩ 1 1 [.int .i64 x0, .int .i64 0, .int .i64 t1, .bool x1, .int .i64 x2, .bool x3, .int .i64 x4, .int .i64 x5, .string x6, .string x7, .int .i64 x8] rfl rfl HNW.out (by intro u hu; simp at hu; rcases hu with rfl | rfl | rfl | rfl | rfl | rfl | rfl | rfl | rfl | rfl | rfl <;> rfl) (by decide) (by unfold maxLen; omega) (by omega) ?_; intro v' w2 hown2 hg2 hloc; obtain ⟨A2, k2, rfl, _, _⟩ := hown2.shape; have hw3 := Aside0.mk (HW2.out.drew.at_ 6 rfl (fun T1 h1 => row_grown (n := e.out.length) (v := .slice A e.out.length c) h1 hown2 hg2 hloc)); clear hown2 hg2 hloc HW HW2 HNW HR HI0 HZ0 HZ1 HZ2 c8 d8 hn hn2; obtain ⟨⟨c0, c1, c2, c3, c4, c5, c6, c7, c8⟩, f0, f1, f2, f3, f4, f8⟩ := cells9 (hw3.out.heap 3 rfl))
  all_goals
    go_wp2
    go_end0
    exact ⟨rfl, entAt.close (e := tell e ⟨x0, ⟨t1, x1, x2, x3, x4, x5, x6⟩, x7, x8⟩) (hw3.out.set 3 rfl 8 (.slice A2 (e.out.length + 1) k2)).drop.drop ⟨HOK.out.most, HOK.out.state, HOK.out.tries⟩ rfl rfl rfl (by simp [tell]) (by simp [tell, efs_app, efs_one, efCells])⟩
end Go.Proofs.YtljnfbpplhnmfaaGreatDoor.En
namespace Go.Proofs.YtljnfbpplhnmfaaGreatDoor.En
open Go Go.RowKit Go.Proofs.YtljnfbpplhnmfaaGreatDoorW.PrintWords Go.Proofs.YtljnfbpplhnmfaaGreatDoorW.PrintLast Go.Proofs.YtljnfbpplhnmfaaGreatDoorW.PrintMore Go.Proofs.YtljnfbpplhnmfaaGreatDoor.Str Go.Proofs.YtljnfbpplhnmfaaGreatDoor.Mp Go.Proofs.YtljnfbpplhnmfaaGreatDoor.Ra Go.Proofs.YtljnfbpplhnmfaaGreatDoor.Sl Go.Proofs.YtljnfbpplhnmfaaGreatDoor.Qu Go.Proofs.YtljnfbpplhnmfaaGreatDoor.Sq Go.Proofs.YtljnfbpplhnmfaaGreatDoor.Fl Go.Proofs.YtljnfbpplhnmfaaGreatDoor.Ru Go.Proofs.YtljnfbpplhnmfaaGreatDoor.Md
set_option linter.unusedVariables false
set_option maxRecDepth 1000000
set_option maxHeartbeats 4000000
theorem toldC (b mb fb : Nat) (e : E) (k : Int) (d : ByteArray) (hl : e.out.length ≤ 9000) (T : Nat → Prop) (w0 w : World) (h : Went (entAt b mb fb e) T w0 w) :
    Calls Tryz.prog 89 #[.pointer (some ⟨b, 0, none⟩), .int .i64 k, .string d] w fun r w' => r = .returned (.tuple #[]) ∧ Went (entAt b mb fb (told e k d)) T w0 w' := by
  have HC := Aside0.mk (tellC b mb fb e ⟨k, Fr.zero, d, 0⟩ hl T w0 w h)
  clear h
  go_enter Tryz.func89, Tryz.ntmps89
  go_wp2_with fail
  refine HC.out.mono ?_
  rintro r w1 ⟨rfl, hw⟩
  have HW := Aside0.mk hw
  clear hw HC
  go_wp2
  go_end0
  exact ⟨rfl, HW.out⟩
theorem start200C (b mb fb : Nat) (e : E) (hl : e.out.length ≤ 9000) (T : Nat → Prop) (w0 w : World) (h : Went (entAt b mb fb e) T w0 w) :
    Calls Tryz.prog 116 #[.pointer (some ⟨b, 0, none⟩), .int .i64 200] w fun r w' => r = .returned (.tuple #[]) ∧ Went (entAt b mb fb (start200 e)) T w0 w' := by
  obtain ⟨A, c, ⟨c0, c1, c2, c3, c4, c5, c6, c7, c8⟩, f0, f1, f2, f3, f4, f8⟩ := entAt.cells h
  obtain ⟨w1, hrun, hw1⟩ := entAt.store200 h true
  have HC := Aside0.mk (tellC b mb fb { e with r200 := true } ⟨9, Fr.zero, nil8, 200⟩ hl T w0 w1 hw1)
  clear h hw1
  go_enter Tryz.func116, Tryz.ntmps116
  go_wp2_with fail
  refine HC.out.mono ?_
  rintro r w2 ⟨rfl, hw⟩
  have HW := Aside0.mk hw
  clear hw HC hrun
  go_wp2
  go_end0
  exact ⟨rfl, HW.out⟩
theorem start203C (b mb fb : Nat) (e : E) (hl : e.out.length ≤ 9000) (T : Nat → Prop) (w0 w : World) (h : Went (entAt b mb fb e) T w0 w) :
    Calls Tryz.prog 116 #[.pointer (some ⟨b, 0, none⟩), .int .i64 203] w fun r w' => r = .returned (.tuple #[]) ∧ Went (entAt b mb fb (start203 e)) T w0 w' := by
  obtain ⟨A, c, ⟨c0, c1, c2, c3, c4, c5, c6, c7, c8⟩, f0, f1, f2, f3, f4, f8⟩ := entAt.cells h
  obtain ⟨w1, hrun, hw1⟩ := entAt.store203 h true
  have HC := Aside0.mk (tellC b mb fb { e with r203 := true } ⟨9, Fr.zero, nil8, 203⟩ hl T w0 w1 hw1)
  clear h hw1
  go_enter Tryz.func116, Tryz.ntmps116
  go_wp2_with fail
  refine HC.out.mono ?_
  rintro r w2 ⟨rfl, hw⟩
  have HW := Aside0.mk hw
  clear hw HC hrun
  go_wp2
  go_end0
  exact ⟨rfl, HW.out⟩
theorem stop200C (b mb fb : Nat) (e : E) (hl : e.out.length ≤ 9000) (T : Nat → Prop) (w0 w : World) (h : Went (entAt b mb fb e) T w0 w) :
    Calls Tryz.prog 115 #[.pointer (some ⟨b, 0, none⟩), .int .i64 200] w fun r w' => r = .returned (.tuple #[]) ∧ Went (entAt b mb fb (stop200 e)) T w0 w' := by
  obtain ⟨A, c, ⟨c0, c1, c2, c3, c4, c5, c6, c7, c8⟩, f0, f1, f2, f3, f4, f8⟩ := entAt.cells h
  have hlk := (entAt.look h).1
  cases hr : e.r200 with
  | false =>
    rw [hr] at hlk
    rw [show stop200 e = e from by unfold stop200; rw [hr]; rfl]
    have HW := Aside0.mk h
    clear h hr
    go_enter Tryz.func115, Tryz.ntmps115
    go_wp2
    go_end0
    exact ⟨rfl, HW.out⟩
  | true =>
    rw [hr] at hlk
    rw [show stop200 e = tell { e with r200 := false } ⟨10, Fr.zero, nil8, 200⟩ from by unfold stop200; rw [hr]; rfl]
    obtain ⟨w1, hrun, hw1⟩ := entAt.store200 h false
    have HC := Aside0.mk (tellC b mb fb { e with r200 := false } ⟨10, Fr.zero, nil8, 200⟩ hl T w0 w1 hw1)
    clear h hw1 hr
    go_enter Tryz.func115, Tryz.ntmps115
    go_wp2_with fail
    refine HC.out.mono ?_
    rintro r w2 ⟨rfl, hw⟩
    have HW := Aside0.mk hw
    clear hw HC hrun hlk
    go_wp2
    go_end0
    exact ⟨rfl, HW.out⟩
theorem stop203C (b mb fb : Nat) (e : E) (hl : e.out.length ≤ 9000) (T : Nat → Prop) (w0 w : World) (h : Went (entAt b mb fb e) T w0 w) :
    Calls Tryz.prog 115 #[.pointer (some ⟨b, 0, none⟩), .int .i64 203] w fun r w' => r = .returned (.tuple #[]) ∧ Went (entAt b mb fb (stop203 e)) T w0 w' := by
  obtain ⟨A, c, ⟨c0, c1, c2, c3, c4, c5, c6, c7, c8⟩, f0, f1, f2, f3, f4, f8⟩ := entAt.cells h
  have hlk := (entAt.look h).2
  cases hr : e.r203 with
  | false =>
    rw [hr] at hlk
    rw [show stop203 e = e from by unfold stop203; rw [hr]; rfl]
    have HW := Aside0.mk h
    clear h hr
    go_enter Tryz.func115, Tryz.ntmps115
    go_wp2
    go_end0
    exact ⟨rfl, HW.out⟩
  | true =>
    rw [hr] at hlk
    rw [show stop203 e = tell { e with r203 := false } ⟨10, Fr.zero, nil8, 203⟩ from by unfold stop203; rw [hr]; rfl]
    obtain ⟨w1, hrun, hw1⟩ := entAt.store203 h false
    have HC := Aside0.mk (tellC b mb fb { e with r203 := false } ⟨10, Fr.zero, nil8, 203⟩ hl T w0 w1 hw1)
    clear h hw1 hr
    go_enter Tryz.func115, Tryz.ntmps115
    go_wp2_with fail
    refine HC.out.mono ?_
    rintro r w2 ⟨rfl, hw⟩
    have HW := Aside0.mk hw
    clear hw HC hrun hlk
    go_wp2
    go_end0
    exact ⟨rfl, HW.out⟩
end Go.Proofs.YtljnfbpplhnmfaaGreatDoor.En
namespace Go.Proofs.YtljnfbpplhnmfaaGreatDoor.En
open Go Go.RowKit Go.Proofs.YtljnfbpplhnmfaaGreatDoorW.PrintWords Go.Proofs.YtljnfbpplhnmfaaGreatDoorW.PrintLast Go.Proofs.YtljnfbpplhnmfaaGreatDoorW.PrintMore Go.Proofs.YtljnfbpplhnmfaaGreatDoor.Str Go.Proofs.YtljnfbpplhnmfaaGreatDoor.Mp Go.Proofs.YtljnfbpplhnmfaaGreatDoor.Ra Go.Proofs.YtljnfbpplhnmfaaGreatDoor.Sl Go.Proofs.YtljnfbpplhnmfaaGreatDoor.Qu Go.Proofs.YtljnfbpplhnmfaaGreatDoor.Sq Go.Proofs.YtljnfbpplhnmfaaGreatDoor.Fl Go.Proofs.YtljnfbpplhnmfaaGreatDoor.Ru Go.Proofs.YtljnfbpplhnmfaaGreatDoor.Md
set_option linter.unusedVariables false
set_option maxRecDepth 1000000
set_option maxHeartbeats 4000000
theorem numC (k : Int) (w : World) : Calls Tryz.prog 98 #[.int .i64 k] w fun r w' => r = .returned (.bool (numbered k)) ∧ w = w' := by
  by_cases h0 : 0 ≤ k
  · by_cases h1 : k ≤ 3
    · rw [show numbered k = true from decide_eq_true ⟨h0, h1⟩]
      go_enter Tryz.func98, Tryz.ntmps98
      go_wp2
      go_ret
      trivial
    · rw [show numbered k = false from decide_eq_false (fun h => h1 h.2)]
      go_enter Tryz.func98, Tryz.ntmps98
      go_wp2
      go_ret
      trivial
  · rw [show numbered k = false from decide_eq_false (fun h => h0 h.1)]
    go_enter Tryz.func98, Tryz.ntmps98
    go_wp2
    go_ret
    trivial
theorem fldV (a0 a1 a2 a3 a4 a5 a6 a7 : Value) (w : World) : Sem.run Tryz.prog (Instr.field 47 (Value.agg #[a0, a1, a2, a3, a4, a5, a6, a7]) 2) w = Result.ok a2 w := by kernel_rfl
attribute [local go_sem high] fldV
theorem sendDataC (b mb fb : Nat) (e : E) (k : Int) (c p : Bool) (ns : Int) (s : ByteArray) (hl : e.out.length ≤ 9000) (T : Nat → Prop) (w0 w : World) (h : Went (entAt b mb fb e) T w0 w) :
    Calls Tryz.prog 113 #[.pointer (some ⟨b, 0, none⟩), .int .i64 k, .bool c, .bool p, .int .i64 ns, .string s] w fun r w' => r = .returned (.tuple #[]) ∧ Went (entAt b mb fb (sendData e k c p ns s)) T w0 w' := by
  obtain ⟨A, ca, ⟨c0, c1, c2, c3, c4, c5, c6, c7, c8⟩, f0, f1, f2, f3, f4, f8⟩ := entAt.cells h
  have HW := Aside0.mk h
  clear h
  cases hn : numbered k with
  | true =>
    go_enter Tryz.func113, Tryz.ntmps113
    go_wp2_with fail
    refine (numC k _).mono ?_
    rintro r w1 ⟨rfl, rfl⟩
    rw [hn]
    have hb := heap_alloc_new w (.cells #[.int .i64 0, .int .i64 70, .bool c, .int .i64 k, .bool p, .int .i64 ns, .int .i64 0, .string s] 144 (0, 0))
    have HB := Aside0.mk ((Below.refl w.heap.size w).alloc (Nat.le_refl _) (.cells #[.int .i64 0, .int .i64 70, .bool c, .int .i64 k, .bool p, .int .i64 ns, .int .i64 0, .string s] 144 (0, 0)))
    obtain ⟨A, ca, ⟨c0, c1, c2, c3, c4, c5, c6, c7, c8⟩, f0, f1, f2, f3, f4, f8⟩ := entAt.cells (HW.out.below HB.out)
    generalize w.alloc (.cells #[.int .i64 0, .int .i64 70, .bool c, .int .i64 k, .bool p, .int .i64 ns, .int .i64 0, .string s] 144 (0, 0)) = wx at *
    obtain ⟨T1, hf⟩ := entAt.flowGet (HW.out.below HB.out)
    have HV := Aside0.mk (viewC fb e.fl T1 wx hf)
    have HBX := Aside0.mk hb
    clear hf hb
    go_wp2_with fail
    refine HV.out.mono ?_
    rintro r w2 ⟨rfl, hb2⟩
    have hb3 := (hb2.block _ (Array.getElem?_eq_some_iff.1 HBX.out).1).trans HBX.out
    have HB2 := Aside0.mk (below_step HB.out hb2)
    have HY := Aside0.mk (blk_put hb3 6 (.int .i64 e.fl.vr) rfl)
    obtain ⟨⟨b0, b1, b2, b3, b4, b5, b6, b7⟩, g0, g1, g2, g3, g4, g5⟩ := cells8 hb3
    have g6 := Lib.frozen_of_heap hb3 6
    obtain ⟨⟨y0, y1, y2, y3, y4, y5, y6, y7⟩, _⟩ := cells8 (w := w2.setCell ⟨w.heap.size, 6, none⟩ (.int .i64 e.fl.vr)) (a0 := .int .i64 0) (a1 := .int .i64 70) (a2 := .bool c) (a3 := .int .i64 k) (a4 := .bool p) (a5 := .int .i64 ns) (a6 := .int .i64 e.fl.vr) (a7 := .string s) HY.out
    have HC := Aside0.mk (tellC b mb fb e ⟨0, mkFr e k c p ns s, nil8, 0⟩ hl T w0 (w2.setCell ⟨w.heap.size, 6, none⟩ (.int .i64 e.fl.vr)) (HW.out.below (HB2.out.setCell (p := ⟨w.heap.size, 6, none⟩) (Nat.le_refl _) _)))
    have HCC := HC.out
    rw [show mkFr e k c p ns s = ⟨70, c, k, p, ns, e.fl.vr, s⟩ from by unfold mkFr; rw [hn]; rfl] at HCC
    have HD := Aside0.mk HCC
    clear hb3 hb2 HV HC HCC
    go_wp2_with fail
    refine HD.out.mono ?_
    rintro r w3 ⟨rfl, hw⟩
    have HW3 := Aside0.mk hw
    clear hw HD
    go_wp2
    go_end0
    refine ⟨rfl, ?_⟩
    rw [show sendData e k c p ns s = tell e ⟨0, ⟨70, c, k, p, ns, e.fl.vr, s⟩, nil8, 0⟩ from by unfold sendData mkFr; rw [hn]; rfl]
    exact HW3.out
  | false =>
    go_enter Tryz.func113, Tryz.ntmps113
    go_wp2_with fail
    refine (numC k _).mono ?_
    rintro r w1 ⟨rfl, rfl⟩
    rw [hn]
    have hb := heap_alloc_new w (.cells #[.int .i64 0, .int .i64 70, .bool c, .int .i64 k, .bool p, .int .i64 ns, .int .i64 0, .string s] 144 (0, 0))
    have HB := Aside0.mk ((Below.refl w.heap.size w).alloc (Nat.le_refl _) (.cells #[.int .i64 0, .int .i64 70, .bool c, .int .i64 k, .bool p, .int .i64 ns, .int .i64 0, .string s] 144 (0, 0)))
    obtain ⟨A, ca, ⟨c0, c1, c2, c3, c4, c5, c6, c7, c8⟩, f0, f1, f2, f3, f4, f8⟩ := entAt.cells (HW.out.below HB.out)
    generalize w.alloc (.cells #[.int .i64 0, .int .i64 70, .bool c, .int .i64 k, .bool p, .int .i64 ns, .int .i64 0, .string s] 144 (0, 0)) = wx at *
    have HC := Aside0.mk (tellC b mb fb e ⟨0, mkFr e k c p ns s, nil8, 0⟩ hl T w0 wx (HW.out.below HB.out))
    have HCC := HC.out
    rw [show mkFr e k c p ns s = ⟨70, c, k, p, ns, 0, s⟩ from by unfold mkFr; rw [hn]; rfl] at HCC
    have HD := Aside0.mk HCC
    obtain ⟨⟨b0, b1, b2, b3, b4, b5, b6, b7⟩, g0, g1, g2, g3, g4, g5⟩ := cells8 hb
    clear HC HCC hb
    go_wp2_with fail
    refine HD.out.mono ?_
    rintro r w3 ⟨rfl, hw⟩
    have HW3 := Aside0.mk hw
    clear hw HD
    go_wp2
    go_end0
    refine ⟨rfl, ?_⟩
    rw [show sendData e k c p ns s = tell e ⟨0, ⟨70, c, k, p, ns, 0, s⟩, nil8, 0⟩ from by unfold sendData mkFr; rw [hn]; rfl]
    exact HW3.out
theorem sendC (b mb fb : Nat) (e : E) (k : Int) (c p : Bool) (hl : e.out.length ≤ 9000) (T : Nat → Prop) (w0 w : World) (h : Went (entAt b mb fb e) T w0 w) :
    Calls Tryz.prog 114 #[.pointer (some ⟨b, 0, none⟩), .int .i64 k, .bool c, .bool p] w fun r w' => r = .returned (.tuple #[]) ∧ Went (entAt b mb fb (send e k c p)) T w0 w' := by
  have HC := Aside0.mk (sendDataC b mb fb e k c p 0 nil8 hl T w0 w h)
  clear h
  go_enter Tryz.func114, Tryz.ntmps114
  go_wp2_with fail
  refine HC.out.mono ?_
  rintro r w1 ⟨rfl, hw⟩
  have HW := Aside0.mk hw
  clear hw HC
  go_wp2
  go_end0
  exact ⟨rfl, HW.out⟩
end Go.Proofs.YtljnfbpplhnmfaaGreatDoor.En
namespace Go.Proofs.YtljnfbpplhnmfaaGreatDoor.Md
set_option linter.unusedVariables false
section
variable {e : E} {n : Nat}
theorem len_tell {x : Ef} (h : e.out.length ≤ n) : (tell e x).out.length ≤ n + 1 := by simp [tell]; exact h
theorem len_told {k : Int} {d : ByteArray} (h : e.out.length ≤ n) : (told e k d).out.length ≤ n + 1 := len_tell h
theorem len_sendData {k : Int} {c p : Bool} {ns : Int} {s : ByteArray} (h : e.out.length ≤ n) : (sendData e k c p ns s).out.length ≤ n + 1 := len_tell h
theorem len_send {k : Int} {c p : Bool} (h : e.out.length ≤ n) : (send e k c p).out.length ≤ n + 1 := len_tell h
theorem len_start200 (h : e.out.length ≤ n) : (start200 e).out.length ≤ n + 1 := len_tell (e := { e with r200 := true }) h
theorem len_start203 (h : e.out.length ≤ n) : (start203 e).out.length ≤ n + 1 := len_tell (e := { e with r203 := true }) h
theorem len_stop200 (h : e.out.length ≤ n) : (stop200 e).out.length ≤ n + 1 := by
  unfold stop200; split
  · exact len_tell (e := { e with r200 := false }) h
  · omega
theorem len_stop203 (h : e.out.length ≤ n) : (stop203 e).out.length ≤ n + 1 := by
  unfold stop203; split
  · exact len_tell (e := { e with r203 := false }) h
  · omega
theorem len_goOne (h : e.out.length ≤ n) : (goOne e).out.length ≤ n + 3 := by
  have h1 : (goOne1 e).out.length ≤ n + 1 := len_sendData (e := { e with fl := takeF e.fl }) h
  unfold goOne; split
  · omega
  · exact len_start200 (len_stop203 h1)
theorem len_supervise {c p : Bool} (h : e.out.length ≤ n) : (supervise e c p).out.length ≤ n + 1 := len_send h
theorem len_unsure (h : e.out.length ≤ n) : (unsure e).out.length ≤ n + 1 := by
  unfold unsure; split
  · exact len_told (e := { e with fl := clearF e.fl }) h
  · omega
theorem len_count {k : Nat} (h : e.out.length ≤ n) : (count e k).out.length ≤ n + 2 := by
  unfold count; split
  · exact len_start203 (len_stop200 h)
  · split
    · have := len_start200 h; omega
    · omega
end
structure Same (e e' : E) : Prop where
  most : e'.most = e.most
  state : e'.state = e.state
  tries : e'.tries = e.tries
  asked : e'.asked = e.asked
  fl : e'.fl = e.fl
theorem Same.refl (e : E) : Same e e := ⟨rfl, rfl, rfl, rfl, rfl⟩
theorem Same.trans {a b c : E} (h : Same a b) (k : Same b c) : Same a c := ⟨k.most.trans h.most, k.state.trans h.state, k.tries.trans h.tries, k.asked.trans h.asked, k.fl.trans h.fl⟩
theorem same_start200 (e : E) : Same e (start200 e) := ⟨rfl, rfl, rfl, rfl, rfl⟩
theorem same_start203 (e : E) : Same e (start203 e) := ⟨rfl, rfl, rfl, rfl, rfl⟩
theorem same_stop200 (e : E) : Same e (stop200 e) := by
  unfold stop200; split
  · exact ⟨rfl, rfl, rfl, rfl, rfl⟩
  · exact Same.refl e
theorem same_stop203 (e : E) : Same e (stop203 e) := by
  unfold stop203; split
  · exact ⟨rfl, rfl, rfl, rfl, rfl⟩
  · exact Same.refl e
def left (e : E) : Nat := e.fl.q.list.length - e.fl.q.sent
theorem goOn_open {e : E} (h : e.state = 7) : goOn e = goOnN (left e) e := if_pos h
theorem goOn_shut {e : E} (h : ¬ e.state = 7) : goOn e = e := if_neg h
theorem goOnN_stop {e : E} (h : ¬ takeOk e.fl) (k : Nat) : goOnN k e = e := by
  cases k with
  | zero => rfl
  | succ k => exact if_neg h
theorem goOnN_go {e : E} (h : takeOk e.fl) (k : Nat) : goOnN (k + 1) e = goOnN k (goOne e) := if_pos h
theorem goOne_fl (e : E) : (goOne e).fl = takeF e.fl := by
  unfold goOne; split
  · rfl
  · exact (same_start200 _).fl.trans (same_stop203 _).fl
theorem goOne_state (e : E) : (goOne e).state = e.state := by
  unfold goOne; split
  · rfl
  · exact (same_start200 _).state.trans (same_stop203 _).state
theorem left_pos {e : E} (h : takeOk e.fl) : 0 < left e := by
  have := h.2.1
  unfold left; omega
theorem left_goOne {e : E} : left (goOne e) = left e - 1 := by
  unfold left
  rw [goOne_fl]
  show e.fl.q.list.length - (e.fl.q.sent + 1) = _
  omega
end Go.Proofs.YtljnfbpplhnmfaaGreatDoor.Md
namespace Go.Proofs.YtljnfbpplhnmfaaGreatDoor.En
open Go Go.RowKit Go.Proofs.YtljnfbpplhnmfaaGreatDoorW.PrintWords Go.Proofs.YtljnfbpplhnmfaaGreatDoorW.PrintLast Go.Proofs.YtljnfbpplhnmfaaGreatDoorW.PrintMore Go.Proofs.YtljnfbpplhnmfaaGreatDoor.Str Go.Proofs.YtljnfbpplhnmfaaGreatDoor.Mp Go.Proofs.YtljnfbpplhnmfaaGreatDoor.Ra Go.Proofs.YtljnfbpplhnmfaaGreatDoor.Sl Go.Proofs.YtljnfbpplhnmfaaGreatDoor.Qu Go.Proofs.YtljnfbpplhnmfaaGreatDoor.Sq Go.Proofs.YtljnfbpplhnmfaaGreatDoor.Fl Go.Proofs.YtljnfbpplhnmfaaGreatDoor.Ru Go.Proofs.YtljnfbpplhnmfaaGreatDoor.Md
set_option linter.unusedVariables false
set_option linter.unusedSimpArgs false
set_option maxRecDepth 1000000
set_option maxHeartbeats 4000000
theorem callC (b mb fb : Nat) (e : E) (hl : e.out.length ≤ 8990) (T : Nat → Prop) (w0 w : World) (h : Went (entAt b mb fb e) T w0 w) :
    Calls Tryz.prog 78 #[.pointer (some ⟨b, 0, none⟩)] w fun r w' => r = .returned (.tuple #[]) ∧ Went (entAt b mb fb (call e)) T w0 w' := by
  have HOK := Aside0.mk (entAt.ok h)
  obtain ⟨A, ca, ⟨c0, c1, c2, c3, c4, c5, c6, c7, c8⟩, f0, f1, f2, f3, f4, f8⟩ := entAt.cells h
  have HW := Aside0.mk h
  clear h
  go_enter Tryz.func78, Tryz.ntmps78
  go_wp2_with fail
  refine (sendC b mb fb ({ e with tries := 0 }) 4 true true (Nat.le_trans hl (by omega)) T w0 _ (entAt.setTries HW.out 0 ⟨Int.le_refl 0, Int.le_trans (by decide) HOK.out.1.most.1⟩)).mono ?_
  rintro r w1 ⟨rfl, hw⟩
  clear c0 c1 c2 c3 c4 c5 c6 c7 c8 f0 f1 f2 f3 f4 f8
  obtain ⟨A, ca, ⟨c0, c1, c2, c3, c4, c5, c6, c7, c8⟩, f0, f1, f2, f3, f4, f8⟩ := entAt.cells hw
  have HW := Aside0.mk hw
  clear hw
  go_wp2_with fail
  refine (stop203C b mb fb (send ({ e with tries := 0 }) 4 true true)  (Nat.le_trans (len_send (hl)) (by omega)) T w0 _ HW.out).mono ?_
  rintro r w2 ⟨rfl, hw⟩
  clear c0 c1 c2 c3 c4 c5 c6 c7 c8 f0 f1 f2 f3 f4 f8
  obtain ⟨A, ca, ⟨c0, c1, c2, c3, c4, c5, c6, c7, c8⟩, f0, f1, f2, f3, f4, f8⟩ := entAt.cells hw
  have HW := Aside0.mk hw
  clear hw
  go_wp2_with fail
  refine (start200C b mb fb (stop203 (send ({ e with tries := 0 }) 4 true true))  (Nat.le_trans (len_stop203 (len_send (hl))) (by omega)) T w0 _ HW.out).mono ?_
  rintro r w3 ⟨rfl, hw⟩
  clear c0 c1 c2 c3 c4 c5 c6 c7 c8 f0 f1 f2 f3 f4 f8
  obtain ⟨A, ca, ⟨c0, c1, c2, c3, c4, c5, c6, c7, c8⟩, f0, f1, f2, f3, f4, f8⟩ := entAt.cells hw
  have HW := Aside0.mk hw
  clear hw
  go_wp2
  go_end0
  exact ⟨rfl, entAt.setState HW.out 5 (by decide)⟩
theorem anewC (b mb fb : Nat) (e : E) (l : ByteArray) (hl : e.out.length ≤ 8980) (T : Nat → Prop) (w0 w : World) (h : Went (entAt b mb fb e) T w0 w) :
    Calls Tryz.prog 86 #[.pointer (some ⟨b, 0, none⟩), .string l] w fun r w' => r = .returned (.tuple #[]) ∧ Went (entAt b mb fb (anew e l)) T w0 w' := by
  have HOK := Aside0.mk (entAt.ok h)
  obtain ⟨A, ca, ⟨c0, c1, c2, c3, c4, c5, c6, c7, c8⟩, f0, f1, f2, f3, f4, f8⟩ := entAt.cells h
  have HW := Aside0.mk h
  clear h
  go_enter Tryz.func86, Tryz.ntmps86
  go_wp2_with fail
  refine (toldC b mb fb (e) 7 l (Nat.le_trans hl (by omega)) T w0 _ HW.out).mono ?_
  rintro r w1 ⟨rfl, hw⟩
  clear c0 c1 c2 c3 c4 c5 c6 c7 c8 f0 f1 f2 f3 f4 f8
  obtain ⟨A, ca, ⟨c0, c1, c2, c3, c4, c5, c6, c7, c8⟩, f0, f1, f2, f3, f4, f8⟩ := entAt.cells hw
  have HW := Aside0.mk hw
  clear hw
  go_wp2_with fail
  refine (callC b mb fb ({ told (e) 7 l with asked := false })  (Nat.le_trans (len_told (hl)) (by omega)) T w0 _ (entAt.setAsked HW.out false )).mono ?_
  rintro r w2 ⟨rfl, hw⟩
  clear c0 c1 c2 c3 c4 c5 c6 c7 c8 f0 f1 f2 f3 f4 f8
  obtain ⟨A, ca, ⟨c0, c1, c2, c3, c4, c5, c6, c7, c8⟩, f0, f1, f2, f3, f4, f8⟩ := entAt.cells hw
  have HW := Aside0.mk hw
  clear hw
  go_wp2
  go_end0
  exact ⟨rfl, HW.out⟩
theorem fldOwn (a0 a1 a2 a3 a4 a5 a6 a7 : Value) (w : World) : Sem.run Tryz.prog (Instr.field 47 (Value.agg #[a0, a1, a2, a3, a4, a5, a6, a7]) 4) w = Result.ok a4 w := by kernel_rfl
attribute [local go_sem high] fldOwn
theorem superviseC (b mb fb : Nat) (e : E) (c p : Bool) (hl : e.out.length ≤ 9000) (T : Nat → Prop) (w0 w : World) (h : Went (entAt b mb fb e) T w0 w) :
    Calls Tryz.prog 122 #[.pointer (some ⟨b, 0, none⟩), .bool c, .bool p] w fun r w' => r = .returned (.tuple #[]) ∧ Went (entAt b mb fb (supervise e c p)) T w0 w' := by
  have HOK := Aside0.mk (entAt.ok h)
  obtain ⟨A, ca, ⟨c0, c1, c2, c3, c4, c5, c6, c7, c8⟩, f0, f1, f2, f3, f4, f8⟩ := entAt.cells h
  have HW := Aside0.mk h
  clear h
  cases ho : e.fl.own with
  | true =>
    obtain ⟨T1, hf⟩ := entAt.flowGet HW.out
    have HV := Aside0.mk (viewC fb e.fl T1 w hf)
    have HVV := HV.out
    rw [ho] at HVV
    have HV2 := Aside0.mk HVV
    clear hf HV HVV
    rw [show supervise e c p = send e 2 c p from by unfold supervise; rw [ho]; rfl]
    go_enter Tryz.func122, Tryz.ntmps122
    go_wp2_with fail
    refine HV2.out.mono ?_
    rintro r w1 ⟨rfl, hb⟩
    have hw := HW.out.below hb
    clear c0 c1 c2 c3 c4 c5 c6 c7 c8 f0 f1 f2 f3 f4 f8
    obtain ⟨A, ca, ⟨c0, c1, c2, c3, c4, c5, c6, c7, c8⟩, f0, f1, f2, f3, f4, f8⟩ := entAt.cells hw
    have HW := Aside0.mk hw
    clear hw hb HV2
    go_wp2_with fail
    refine (sendC b mb fb (e) 2 c p (Nat.le_trans hl (by omega)) T w0 _ HW.out).mono ?_
    rintro r w1 ⟨rfl, hw⟩
    clear c0 c1 c2 c3 c4 c5 c6 c7 c8 f0 f1 f2 f3 f4 f8
    obtain ⟨A, ca, ⟨c0, c1, c2, c3, c4, c5, c6, c7, c8⟩, f0, f1, f2, f3, f4, f8⟩ := entAt.cells hw
    have HW := Aside0.mk hw
    clear hw
    go_wp2
    go_end0
    exact ⟨rfl, HW.out⟩
  | false =>
    obtain ⟨T1, hf⟩ := entAt.flowGet HW.out
    have HV := Aside0.mk (viewC fb e.fl T1 w hf)
    have HVV := HV.out
    rw [ho] at HVV
    have HV2 := Aside0.mk HVV
    clear hf HV HVV
    rw [show supervise e c p = send e 1 c p from by unfold supervise; rw [ho]; rfl]
    go_enter Tryz.func122, Tryz.ntmps122
    go_wp2_with fail
    refine HV2.out.mono ?_
    rintro r w1 ⟨rfl, hb⟩
    have hw := HW.out.below hb
    clear c0 c1 c2 c3 c4 c5 c6 c7 c8 f0 f1 f2 f3 f4 f8
    obtain ⟨A, ca, ⟨c0, c1, c2, c3, c4, c5, c6, c7, c8⟩, f0, f1, f2, f3, f4, f8⟩ := entAt.cells hw
    have HW := Aside0.mk hw
    clear hw hb HV2
    go_wp2_with fail
    refine (sendC b mb fb (e) 1 c p (Nat.le_trans hl (by omega)) T w0 _ HW.out).mono ?_
    rintro r w1 ⟨rfl, hw⟩
    clear c0 c1 c2 c3 c4 c5 c6 c7 c8 f0 f1 f2 f3 f4 f8
    obtain ⟨A, ca, ⟨c0, c1, c2, c3, c4, c5, c6, c7, c8⟩, f0, f1, f2, f3, f4, f8⟩ := entAt.cells hw
    have HW := Aside0.mk hw
    clear hw
    go_wp2
    go_end0
    exact ⟨rfl, HW.out⟩
theorem inquireC (b mb fb : Nat) (e : E) (hl : e.out.length ≤ 8990) (T : Nat → Prop) (w0 w : World) (h : Went (entAt b mb fb e) T w0 w) :
    Calls Tryz.prog 85 #[.pointer (some ⟨b, 0, none⟩)] w fun r w' => r = .returned (.tuple #[]) ∧ Went (entAt b mb fb (inquire e)) T w0 w' := by
  have HOK := Aside0.mk (entAt.ok h)
  obtain ⟨A, ca, ⟨c0, c1, c2, c3, c4, c5, c6, c7, c8⟩, f0, f1, f2, f3, f4, f8⟩ := entAt.cells h
  have HW := Aside0.mk h
  clear h
  go_enter Tryz.func85, Tryz.ntmps85
  go_wp2_with fail
  refine (superviseC b mb fb (e) true true (Nat.le_trans hl (by omega)) T w0 _ HW.out).mono ?_
  rintro r w1 ⟨rfl, hw⟩
  clear c0 c1 c2 c3 c4 c5 c6 c7 c8 f0 f1 f2 f3 f4 f8
  obtain ⟨A, ca, ⟨c0, c1, c2, c3, c4, c5, c6, c7, c8⟩, f0, f1, f2, f3, f4, f8⟩ := entAt.cells hw
  have HW := Aside0.mk hw
  clear hw
  go_wp2_with fail
  refine (start200C b mb fb (supervise (e) true true)  (Nat.le_trans (len_supervise (hl)) (by omega)) T w0 _ HW.out).mono ?_
  rintro r w2 ⟨rfl, hw⟩
  clear c0 c1 c2 c3 c4 c5 c6 c7 c8 f0 f1 f2 f3 f4 f8
  obtain ⟨A, ca, ⟨c0, c1, c2, c3, c4, c5, c6, c7, c8⟩, f0, f1, f2, f3, f4, f8⟩ := entAt.cells hw
  have HW := Aside0.mk hw
  clear hw
  go_wp2
  go_end0
  exact ⟨rfl, HW.out⟩
theorem endC (b mb fb : Nat) (e : E) (hl : e.out.length ≤ 8990) (T : Nat → Prop) (w0 w : World) (h : Went (entAt b mb fb e) T w0 w) :
    Calls Tryz.prog 123 #[.pointer (some ⟨b, 0, none⟩)] w fun r w' => r = .returned (.tuple #[]) ∧ Went (entAt b mb fb (end_ e)) T w0 w' := by
  have HOK := Aside0.mk (entAt.ok h)
  obtain ⟨A, ca, ⟨c0, c1, c2, c3, c4, c5, c6, c7, c8⟩, f0, f1, f2, f3, f4, f8⟩ := entAt.cells h
  have HW := Aside0.mk h
  clear h
  go_enter Tryz.func123, Tryz.ntmps123
  go_wp2_with fail
  refine (entAt.flow HW.out (fun T1 h1 => Fl.clearC fb e.fl T1 _ h1)).mono ?_
  rintro r w1 ⟨rfl, hw⟩
  clear c0 c1 c2 c3 c4 c5 c6 c7 c8 f0 f1 f2 f3 f4 f8
  obtain ⟨A, ca, ⟨c0, c1, c2, c3, c4, c5, c6, c7, c8⟩, f0, f1, f2, f3, f4, f8⟩ := entAt.cells hw
  have HW := Aside0.mk hw
  clear hw
  go_wp2_with fail
  refine (stop200C b mb fb ({ e with fl := clearF e.fl })  (Nat.le_trans hl (by omega)) T w0 _ HW.out).mono ?_
  rintro r w2 ⟨rfl, hw⟩
  clear c0 c1 c2 c3 c4 c5 c6 c7 c8 f0 f1 f2 f3 f4 f8
  obtain ⟨A, ca, ⟨c0, c1, c2, c3, c4, c5, c6, c7, c8⟩, f0, f1, f2, f3, f4, f8⟩ := entAt.cells hw
  have HW := Aside0.mk hw
  clear hw
  go_wp2_with fail
  refine (stop203C b mb fb (stop200 ({ e with fl := clearF e.fl }))  (Nat.le_trans (len_stop200 (hl)) (by omega)) T w0 _ HW.out).mono ?_
  rintro r w3 ⟨rfl, hw⟩
  clear c0 c1 c2 c3 c4 c5 c6 c7 c8 f0 f1 f2 f3 f4 f8
  obtain ⟨A, ca, ⟨c0, c1, c2, c3, c4, c5, c6, c7, c8⟩, f0, f1, f2, f3, f4, f8⟩ := entAt.cells hw
  have HW := Aside0.mk hw
  clear hw
  go_wp2
  go_end0
  exact ⟨rfl, entAt.setState HW.out 4 (by decide)⟩
end Go.Proofs.YtljnfbpplhnmfaaGreatDoor.En
