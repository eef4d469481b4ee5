/- Package entity by its own text: View. Condition: none. Both ends of a link and what is on its way, in plain words: what each function of the laws over both ends comes to. Definitions alone; no condition. Both ends of a link, in memory: the parts. Conditions: sizes. Both ends of a link, in memory: what an effect leaves. Conditions: sizes. -/
import Derived.Deep.RegionHeld3
import Derived.LoopN
import Derived.Test.YtljnfbpplhnmfaaGreatDoorUs04
import Derived.Test.YtljnfbpplhnmfaaGreatDoorUs14
namespace Go.Proofs.YtljnfbpplhnmfaaGreatDoor.En
open Go Go.RowKit Go.Proofs.YtljnfbpplhnmfaaGreatDoorW.PrintWords Go.Proofs.YtljnfbpplhnmfaaGreatDoorW.PrintLast Go.Proofs.YtljnfbpplhnmfaaGreatDoorW.PrintMore Go.Proofs.YtljnfbpplhnmfaaGreatDoor.Str Go.Proofs.YtljnfbpplhnmfaaGreatDoor.Mp Go.Proofs.YtljnfbpplhnmfaaGreatDoor.Ra Go.Proofs.YtljnfbpplhnmfaaGreatDoor.Sl Go.Proofs.YtljnfbpplhnmfaaGreatDoor.Qu Go.Proofs.YtljnfbpplhnmfaaGreatDoor.Sq Go.Proofs.YtljnfbpplhnmfaaGreatDoor.Fl Go.Proofs.YtljnfbpplhnmfaaGreatDoor.Ru Go.Proofs.YtljnfbpplhnmfaaGreatDoor.Md
set_option linter.unusedVariables false
set_option linter.unusedSimpArgs false
set_option maxRecDepth 1000000
set_option maxHeartbeats 8000000
def viewOf (e : E) : Array Value := #[.int .i64 e.state, .int .i64 70, .int .i64 e.tries, .bool e.asked, .bool e.r200, .bool e.r203, .int .i64 0, .int .i64 e.fl.vs, .int .i64 e.fl.va, .int .i64 e.fl.vr, .bool e.fl.peer, .bool e.fl.own, .bool e.fl.ref, .int .i64 e.fl.q.sent, .int .i64 ((e.fl.q.list.length : Int) - e.fl.q.sent)]
theorem eviewC (b mb fb : Nat) (e : E) (T : Nat → Prop) (w0 w : World) (h : Went (entAt b mb fb e) T w0 w) :
    Calls Tryz.prog 13 #[.pointer (some ⟨b, 0, none⟩)] w fun r w' => r = .returned (.agg (viewOf e)) ∧ Below w.heap.size w w' := by
  have HH := Aside0.mk h
  have hw1 := h.alloc (.cells #[.int .i64 0, .int .i64 0, .int .i64 0, .bool false, .bool false, .bool false, .int .i64 0, .int .i64 0, .int .i64 0, .int .i64 0, .bool false, .bool false, .bool false, .int .i64 0, .int .i64 0] 49 (0, 0))
  have r8 := heap_alloc_new w (.cells #[.int .i64 0, .int .i64 0, .int .i64 0, .bool false, .bool false, .bool false, .int .i64 0, .int .i64 0, .int .i64 0, .int .i64 0, .bool false, .bool false, .bool false, .int .i64 0, .int .i64 0] 49 (0, 0))
  have HB : Aside0 (Below w.heap.size w (w.alloc (.cells #[.int .i64 0, .int .i64 0, .int .i64 0, .bool false, .bool false, .bool false, .int .i64 0, .int .i64 0, .int .i64 0, .int .i64 0, .bool false, .bool false, .bool false, .int .i64 0, .int .i64 0] 49 (0, 0)))) := ⟨(Below.refl _ w).alloc (Nat.le_refl _) _⟩
  go_enter Tryz.func13, Tryz.ntmps13
  go_wp2_with fail
  obtain ⟨g, HG⟩ : ∃ g, Aside0 (w.heap.size = g) := ⟨_, ⟨rfl⟩⟩
  rw [HG.out] at r8 ⊢
  have R8 := Aside0.mk r8
  have HW := Aside0.mk hw1
  generalize w.alloc (.cells #[.int .i64 0, .int .i64 0, .int .i64 0, .bool false, .bool false, .bool false, .int .i64 0, .int .i64 0, .int .i64 0, .int .i64 0, .bool false, .bool false, .bool false, .int .i64 0, .int .i64 0] 49 (0, 0)) = w4 at *
  clear hw1 h
  have hg := (Array.getElem?_eq_some_iff.1 r8).1
  obtain ⟨A, ca, ⟨c0, c1, c2, c3, c4, c5, c6, c7, c8⟩, f0, f1, f2, f3, f4, f8⟩ := entAt.cells HW.out
  obtain ⟨l1, l2⟩ := entAt.look HW.out
  have HFlow : Aside0 (∀ v, Below w.heap.size w v → Calls Tryz.prog 33 #[.pointer (some ⟨fb, 0, none⟩)] v fun r w' => r = .returned (.agg #[.int .i64 e.fl.vs, .int .i64 e.fl.va, .int .i64 e.fl.vr, .bool e.fl.peer, .bool e.fl.own, .bool e.fl.ref, .int .i64 e.fl.q.sent, .int .i64 ((e.fl.q.list.length : Int) - e.fl.q.sent)]) ∧ Below v.heap.size v w') := ⟨fun v hv => by
    obtain ⟨T1, h1⟩ := entAt.flowGet (HH.out.below hv)
    exact viewC fb e.fl T1 v h1⟩
  have HLook : Aside0 (∀ v, Below w.heap.size w v → v.cell? ⟨b, 1, none⟩ = some (.int .i64 e.state) ∧ v.cell? ⟨b, 2, none⟩ = some (.int .i64 70) ∧ v.cell? ⟨b, 3, none⟩ = some (.int .i64 e.tries) ∧ v.cell? ⟨b, 4, none⟩ = some (.bool e.asked) ∧ v.cell? ⟨b, 5, none⟩ = some (.map (some mb)) ∧ v.cell? ⟨b, 6, none⟩ = some (.slice none 0 0) ∧ v.cell? ⟨b, 7, none⟩ = some (.pointer (some ⟨fb, 0, none⟩)) ∧ (Instr.lookup 63 (.map (some mb)) (.int .i64 200) false).run Tryz.prog v = .ok (.bool e.r200) v ∧ (Instr.lookup 63 (.map (some mb)) (.int .i64 203) false).run Tryz.prog v = .ok (.bool e.r203) v) := ⟨fun v hv => by
    obtain ⟨A, ca, ⟨c0, c1, c2, c3, c4, c5, c6, c7, c8⟩, _⟩ := entAt.cells (HH.out.below hv)
    obtain ⟨l1, l2⟩ := entAt.look (HH.out.below hv)
    exact ⟨c1, c2, c3, c4, c5, c6, c7, l1, l2⟩⟩
  have HV : Aside0 (Below w.heap.size w w4.drew) := ⟨HB.out.drew⟩
  have HG2 : Aside0 (w.heap.size ≤ g) := ⟨by rw [HG.out]; exact Nat.le_refl _⟩
  obtain ⟨_, _, _, _, _, _, _, m1, m2⟩ := HLook.out _ HV.out
  clear c0 c8 f0 f1 f2 f3 f4 f8 hg
  go_region_held3 (fun w' => w'.cell? ⟨b, 1, none⟩ = some (.int .i64 e.state) ∧ w'.cell? ⟨b, 2, none⟩ = some (.int .i64 70) ∧ w'.cell? ⟨b, 3, none⟩ = some (.int .i64 e.tries) ∧ w'.cell? ⟨b, 4, none⟩ = some (.bool e.asked) ∧ w'.cell? ⟨b, 5, none⟩ = some (.map (some mb)) ∧ w'.cell? ⟨b, 6, none⟩ = some (.slice none 0 0) ∧ w'.cell? ⟨b, 7, none⟩ = some (.pointer (some ⟨fb, 0, none⟩)) ∧ (Instr.lookup 63 (.map (some mb)) (.int .i64 200) false).run Tryz.prog w' = .ok (.bool e.r200) w' ∧ (Instr.lookup 63 (.map (some mb)) (.int .i64 203) false).run Tryz.prog w' = .ok (.bool e.r203) w') (first | go_keep | exact HLook.out _ (((((((((((((((HV.out.setCell (p := ⟨g, 0, none⟩) HG2.out _).setCell (p := ⟨g, 1, none⟩) HG2.out _).setCell (p := ⟨g, 2, none⟩) HG2.out _).setCell (p := ⟨g, 3, none⟩) HG2.out _).setCell (p := ⟨g, 4, none⟩) HG2.out _).setCell (p := ⟨g, 5, none⟩) HG2.out _).setCell (p := ⟨g, 6, none⟩) HG2.out _).setCell (p := ⟨g, 7, none⟩) HG2.out _).setCell (p := ⟨g, 8, none⟩) HG2.out _).setCell (p := ⟨g, 9, none⟩) HG2.out _).setCell (p := ⟨g, 10, none⟩) HG2.out _).setCell (p := ⟨g, 11, none⟩) HG2.out _).setCell (p := ⟨g, 12, none⟩) HG2.out _).setCell (p := ⟨g, 13, none⟩) HG2.out _).setCell (p := ⟨g, 14, none⟩) HG2.out _))
    ((go_at_call 33; refine (HFlow.out _ HV.out).mono ?_; rintro r w5 ⟨rfl, hb⟩; have r9 := Aside0.mk ((hb.block _ (Array.getElem?_eq_some_iff.1 R8.out).1).trans R8.out); replace HV := Aside0.mk (below_step HV.out hb); clear hb; obtain ⟨k1, k2, k3, k4, k5, k6, k7, k8, k9⟩ := HLook.out _ HV.out; have e0 : w5.cell? ⟨g, 0, none⟩ = some (.int .i64 0) := (by rw [Lib.cell_of_heap r9.out]; rfl); have q0 := Lib.frozen_of_heap r9.out 0; have e1 : w5.cell? ⟨g, 1, none⟩ = some (.int .i64 0) := (by rw [Lib.cell_of_heap r9.out]; rfl); have q1 := Lib.frozen_of_heap r9.out 1; have e2 : w5.cell? ⟨g, 2, none⟩ = some (.int .i64 0) := (by rw [Lib.cell_of_heap r9.out]; rfl); have q2 := Lib.frozen_of_heap r9.out 2; have e3 : w5.cell? ⟨g, 3, none⟩ = some (.bool false) := (by rw [Lib.cell_of_heap r9.out]; rfl); have q3 := Lib.frozen_of_heap r9.out 3; have e4 : w5.cell? ⟨g, 4, none⟩ = some (.bool false) := (by rw [Lib.cell_of_heap r9.out]; rfl); have q4 := Lib.frozen_of_heap r9.out 4; have e5 : w5.cell? ⟨g, 5, none⟩ = some (.bool false) := (by rw [Lib.cell_of_heap r9.out]; rfl); have q5 := Lib.frozen_of_heap r9.out 5; have e6 : w5.cell? ⟨g, 6, none⟩ = some (.int .i64 0) := (by rw [Lib.cell_of_heap r9.out]; rfl); have q6 := Lib.frozen_of_heap r9.out 6; have e7 : w5.cell? ⟨g, 7, none⟩ = some (.int .i64 0) := (by rw [Lib.cell_of_heap r9.out]; rfl); have q7 := Lib.frozen_of_heap r9.out 7; have e8 : w5.cell? ⟨g, 8, none⟩ = some (.int .i64 0) := (by rw [Lib.cell_of_heap r9.out]; rfl); have q8 := Lib.frozen_of_heap r9.out 8; have e9 : w5.cell? ⟨g, 9, none⟩ = some (.int .i64 0) := (by rw [Lib.cell_of_heap r9.out]; rfl); have q9 := Lib.frozen_of_heap r9.out 9; have e10 : w5.cell? ⟨g, 10, none⟩ = some (.bool false) := (by rw [Lib.cell_of_heap r9.out]; rfl); have q10 := Lib.frozen_of_heap r9.out 10; have e11 : w5.cell? ⟨g, 11, none⟩ = some (.bool false) := (by rw [Lib.cell_of_heap r9.out]; rfl); have q11 := Lib.frozen_of_heap r9.out 11; have e12 : w5.cell? ⟨g, 12, none⟩ = some (.bool false) := (by rw [Lib.cell_of_heap r9.out]; rfl); have q12 := Lib.frozen_of_heap r9.out 12; have e13 : w5.cell? ⟨g, 13, none⟩ = some (.int .i64 0) := (by rw [Lib.cell_of_heap r9.out]; rfl); have q13 := Lib.frozen_of_heap r9.out 13; have e14 : w5.cell? ⟨g, 14, none⟩ = some (.int .i64 0) := (by rw [Lib.cell_of_heap r9.out]; rfl); have q14 := Lib.frozen_of_heap r9.out 14))
  all_goals
    go_wp2
    refine bodyPost_ret (results_c1 rfl _ _ g 49 (viewOf e) (0, 0) _ rfl (blk_put (cs := #[.int .i64 e.state, .int .i64 70, .int .i64 e.tries, .bool e.asked, .bool e.r200, .bool e.r203, .int .i64 0, .int .i64 e.fl.vs, .int .i64 e.fl.va, .int .i64 e.fl.vr, .bool e.fl.peer, .bool e.fl.own, .bool e.fl.ref, .int .i64 e.fl.q.sent, .int .i64 0]) (blk_put (cs := #[.int .i64 e.state, .int .i64 70, .int .i64 e.tries, .bool e.asked, .bool e.r200, .bool e.r203, .int .i64 0, .int .i64 e.fl.vs, .int .i64 e.fl.va, .int .i64 e.fl.vr, .bool e.fl.peer, .bool e.fl.own, .bool e.fl.ref, .int .i64 0, .int .i64 0]) (blk_put (cs := #[.int .i64 e.state, .int .i64 70, .int .i64 e.tries, .bool e.asked, .bool e.r200, .bool e.r203, .int .i64 0, .int .i64 e.fl.vs, .int .i64 e.fl.va, .int .i64 e.fl.vr, .bool e.fl.peer, .bool e.fl.own, .bool false, .int .i64 0, .int .i64 0]) (blk_put (cs := #[.int .i64 e.state, .int .i64 70, .int .i64 e.tries, .bool e.asked, .bool e.r200, .bool e.r203, .int .i64 0, .int .i64 e.fl.vs, .int .i64 e.fl.va, .int .i64 e.fl.vr, .bool e.fl.peer, .bool false, .bool false, .int .i64 0, .int .i64 0]) (blk_put (cs := #[.int .i64 e.state, .int .i64 70, .int .i64 e.tries, .bool e.asked, .bool e.r200, .bool e.r203, .int .i64 0, .int .i64 e.fl.vs, .int .i64 e.fl.va, .int .i64 e.fl.vr, .bool false, .bool false, .bool false, .int .i64 0, .int .i64 0]) (blk_put (cs := #[.int .i64 e.state, .int .i64 70, .int .i64 e.tries, .bool e.asked, .bool e.r200, .bool e.r203, .int .i64 0, .int .i64 e.fl.vs, .int .i64 e.fl.va, .int .i64 0, .bool false, .bool false, .bool false, .int .i64 0, .int .i64 0]) (blk_put (cs := #[.int .i64 e.state, .int .i64 70, .int .i64 e.tries, .bool e.asked, .bool e.r200, .bool e.r203, .int .i64 0, .int .i64 e.fl.vs, .int .i64 0, .int .i64 0, .bool false, .bool false, .bool false, .int .i64 0, .int .i64 0]) (blk_put (cs := #[.int .i64 e.state, .int .i64 70, .int .i64 e.tries, .bool e.asked, .bool e.r200, .bool e.r203, .int .i64 0, .int .i64 0, .int .i64 0, .int .i64 0, .bool false, .bool false, .bool false, .int .i64 0, .int .i64 0]) (blk_put (cs := #[.int .i64 e.state, .int .i64 70, .int .i64 e.tries, .bool e.asked, .bool e.r200, .bool e.r203, .int .i64 0, .int .i64 0, .int .i64 0, .int .i64 0, .bool false, .bool false, .bool false, .int .i64 0, .int .i64 0]) (blk_put (cs := #[.int .i64 e.state, .int .i64 70, .int .i64 e.tries, .bool e.asked, .bool e.r200, .bool false, .int .i64 0, .int .i64 0, .int .i64 0, .int .i64 0, .bool false, .bool false, .bool false, .int .i64 0, .int .i64 0]) (blk_put (cs := #[.int .i64 e.state, .int .i64 70, .int .i64 e.tries, .bool e.asked, .bool false, .bool false, .int .i64 0, .int .i64 0, .int .i64 0, .int .i64 0, .bool false, .bool false, .bool false, .int .i64 0, .int .i64 0]) (blk_put (cs := #[.int .i64 e.state, .int .i64 70, .int .i64 e.tries, .bool false, .bool false, .bool false, .int .i64 0, .int .i64 0, .int .i64 0, .int .i64 0, .bool false, .bool false, .bool false, .int .i64 0, .int .i64 0]) (blk_put (cs := #[.int .i64 e.state, .int .i64 70, .int .i64 0, .bool false, .bool false, .bool false, .int .i64 0, .int .i64 0, .int .i64 0, .int .i64 0, .bool false, .bool false, .bool false, .int .i64 0, .int .i64 0]) (blk_put (cs := #[.int .i64 e.state, .int .i64 0, .int .i64 0, .bool false, .bool false, .bool false, .int .i64 0, .int .i64 0, .int .i64 0, .int .i64 0, .bool false, .bool false, .bool false, .int .i64 0, .int .i64 0]) (blk_put (cs := #[.int .i64 0, .int .i64 0, .int .i64 0, .bool false, .bool false, .bool false, .int .i64 0, .int .i64 0, .int .i64 0, .int .i64 0, .bool false, .bool false, .bool false, .int .i64 0, .int .i64 0]) r9.out 0 _ rfl) 1 _ rfl) 2 _ rfl) 3 _ rfl) 4 _ rfl) 5 _ rfl) 6 _ rfl) 7 _ rfl) 8 _ rfl) 9 _ rfl) 10 _ rfl) 11 _ rfl) 12 _ rfl) 13 _ rfl) 14 _ rfl) Tryz.underlying49 rfl (by kernel_rfl)) rfl ?_
    exact ⟨rfl, (((((((((((((((HV.out.setCell (p := ⟨g, 0, none⟩) HG2.out _).setCell (p := ⟨g, 1, none⟩) HG2.out _).setCell (p := ⟨g, 2, none⟩) HG2.out _).setCell (p := ⟨g, 3, none⟩) HG2.out _).setCell (p := ⟨g, 4, none⟩) HG2.out _).setCell (p := ⟨g, 5, none⟩) HG2.out _).setCell (p := ⟨g, 6, none⟩) HG2.out _).setCell (p := ⟨g, 7, none⟩) HG2.out _).setCell (p := ⟨g, 8, none⟩) HG2.out _).setCell (p := ⟨g, 9, none⟩) HG2.out _).setCell (p := ⟨g, 10, none⟩) HG2.out _).setCell (p := ⟨g, 11, none⟩) HG2.out _).setCell (p := ⟨g, 12, none⟩) HG2.out _).setCell (p := ⟨g, 13, none⟩) HG2.out _).setCell (p := ⟨g, 14, none⟩) HG2.out _)⟩
end Go.Proofs.YtljnfbpplhnmfaaGreatDoor.En
namespace Go.Proofs.YtljnfbpplhnmfaaGreatDoor.Md
structure Ev where
  data : ByteArray
  taken : Bool
structure Sd where
  e : E
  way : List Fr
  taken : List Ev
  told : List ByteArray
  units : List ByteArray
  unit : List ByteArray
  ups : Int
  downs : Int
structure Pr where
  a : Sd
  b : Sd
  errors : Int
  next : Int
def Pr.at (p : Pr) (i : Bool) : Sd := if i = true then p.b else p.a
def Pr.upd (p : Pr) (i : Bool) (f : Sd → Sd) : Pr := if i = true then { p with b := f p.b } else { p with a := f p.a }
def eff (i : Bool) (p : Pr) (x : Ef) : Pr :=
  if x.kind = 0 then p.upd (!i) (fun s => { s with way := s.way ++ [x.fr] })
  else if x.kind = 5 then p.upd i (fun s => { s with told := s.told ++ [x.data] })
  else if x.kind = 6 then p.upd i (fun s => { s with units := s.units ++ [x.data] })
  else if x.kind = 7 then { p with errors := p.errors + 1 }
  else if x.kind = 1 ∨ x.kind = 2 then p.upd i (fun s => { s with ups := s.ups + 1, taken := s.taken ++ [⟨nil8, false⟩] })
  else if x.kind = 3 ∨ x.kind = 4 then p.upd i (fun s => { s with downs := s.downs + 1, taken := s.taken ++ [⟨nil8, false⟩] })
  else p
def effs (i : Bool) (p : Pr) (l : List Ef) : Pr := l.foldl (eff i) p
def become (i : Bool) (p : Pr) (e : E) : Pr := effs i (p.upd i (fun s => { s with e := emptied e })) e.out
def askP (i : Bool) (p : Pr) (a : Int) : Pr :=
  let r := ask1 (p.at i).e a nil8
  let p1 := if r.1 = 0 ∧ (a = 0 ∨ a = 1) then p.upd i (fun s => { s with taken := s.taken ++ [⟨nil8, false⟩] }) else p
  become i p1 r.2
def payload (n : Int) : ByteArray := ⟨#[UInt8.ofNat (n % 256).toNat, UInt8.ofNat (n / 256 % 256).toNat]⟩
def sendP (i : Bool) (p : Pr) (a : Int) : Pr :=
  let d := payload p.next
  let r := ask1 (p.at i).e a d
  let p0 := { p with next := p.next + 1 }
  let p1 := if r.1 = 0 ∧ a = 2 then p0.upd i (fun s => { s with taken := s.taken ++ [⟨d, true⟩] }) else p0
  let p2 := if r.1 = 0 ∧ a = 3 then p1.upd i (fun s => { s with unit := s.unit ++ [d] }) else p1
  become i p2 r.2
def comeP (i : Bool) (p : Pr) (lost : Bool) : Pr :=
  match (p.at i).way with
  | [] => p
  | f :: l =>
    let p1 := p.upd i (fun s => { s with way := l })
    if lost = true then p1 else become i p1 (frame1 (p.at i).e f)
def quiet (p : Pr) : Prop := p.a.way = [] ∧ p.b.way = []
instance (p : Pr) : Decidable (quiet p) :=
  match ha : p.a.way, hb : p.b.way with
  | [], [] => isTrue ⟨ha, hb⟩
  | _ :: _, _ => isFalse (fun h => by have h1 : p.a.way = [] := h.1; rw [ha] at h1; cases h1)
  | [], _ :: _ => isFalse (fun h => by have h1 : p.b.way = [] := h.2; rw [hb] at h1; cases h1)
def drainN : Nat → Pr → Pr
  | 0, p => p
  | n + 1, p => if quiet p then p else drainN n (comeP true (comeP false p false) false)
def drain (p : Pr) : Pr := drainN 5000 p
def overP (i : Bool) (p : Pr) : Pr :=
  if quiet p then
    if (p.at i).e.r200 = true then become i p (over200 (p.at i).e)
    else if (p.at i).e.r203 = true then become i p (over203 (p.at i).e)
    else p
  else p
structure Ac where
  act : Int
  side : Int
def sideOf (s : Int) : Bool := decide ((max 0 s) % 2 = 1)
def comeOr (i : Bool) (p : Pr) (lost : Bool) : Pr := if (p.at i).way = [] then overP i p else comeP i p lost
def doP (p : Pr) (a : Ac) (clean : Bool) : Pr :=
  let i := sideOf a.side
  let d := (max 0 a.act) % 10
  if d = 3 then sendP i p 3
  else if d = 4 then (if clean = true then p else askP i p 0)
  else if d = 5 then (if clean = true then p else askP i p 1)
  else if d = 6 then askP i p 4
  else if d = 7 then askP i p 5
  else if d = 8 then comeOr i p false
  else if d = 9 then comeOr i p (!clean)
  else sendP i p 2
def mostN (n : Int) : Int := max 1 (min n 32)
def flowN (k : Int) : F := ⟨0, 0, 0, false, false, false, k, ⟨256, [], 0⟩⟩
def endN (k n : Int) : E := ⟨mostN n, 4, 0, false, false, false, flowN k, []⟩
def side0 (k n : Int) : Sd := ⟨endN k n, [], [], [], [], [], 0, 0⟩
def begin0 (k n : Int) : Pr := ⟨side0 k n, side0 k n, 0, 0⟩
def runP (k n : Int) (script : List Ac) (clean : Bool) : Pr :=
  let p := askP false (begin0 k n) 0
  (script.take 300).foldl (fun p a => doP p a clean) (if clean = true then drain p else p)
def inL : List ByteArray → List ByteArray → List ByteArray
  | l, [] => l
  | [], _ :: _ => []
  | x :: l, s :: of => if x = s then inL l of else inL (x :: l) of
end Go.Proofs.YtljnfbpplhnmfaaGreatDoor.Md
namespace Go.Proofs.YtljnfbpplhnmfaaGreatDoor.Pa
open Go Go.RowKit Go.Proofs.YtljnfbpplhnmfaaGreatDoorW.PrintWords Go.Proofs.YtljnfbpplhnmfaaGreatDoorW.PrintLast Go.Proofs.YtljnfbpplhnmfaaGreatDoorW.PrintMore Go.Proofs.YtljnfbpplhnmfaaGreatDoor.Str Go.Proofs.YtljnfbpplhnmfaaGreatDoor.Mp Go.Proofs.YtljnfbpplhnmfaaGreatDoor.Ra Go.Proofs.YtljnfbpplhnmfaaGreatDoor.Sl Go.Proofs.YtljnfbpplhnmfaaGreatDoor.Qu Go.Proofs.YtljnfbpplhnmfaaGreatDoor.Ru Go.Proofs.YtljnfbpplhnmfaaGreatDoor.Md
open Go.Proofs.YtljnfbpplhnmfaaGreatDoor.En (frCells efCells efs efs_app efs_one orow entAt)
set_option linter.unusedVariables false
set_option linter.unusedSimpArgs false
set_option maxRecDepth 1000000
set_option maxHeartbeats 8000000
def frs (l : List Fr) : List Value := l.flatMap (fun f => (frCells f).toList)
theorem frs_app (l m : List Fr) : frs (l ++ m) = frs l ++ frs m := by simp [frs]
theorem frs_one (f : Fr) : frs [f] = (frCells f).toList := by simp [frs]
def frow (v : Value) (l : List Fr) : SP := row 144 8 v l.length (frs l)
def evs (l : List Ev) : List Value := l.flatMap (fun x => [.string x.data, .bool x.taken])
theorem evs_app (l m : List Ev) : evs (l ++ m) = evs l ++ evs m := by simp [evs]
def erow (v : Value) (l : List Ev) : SP := row 42 2 v l.length (evs l)
theorem infoFr : (Tryz.prog.info? 144).map (fun i => (i.zero, i.size, i.bytes)) = some (some (.agg (frCells Fr.zero)), 8, 72) := by kernel_rfl
theorem infoEv : (Tryz.prog.info? 42).map (fun i => (i.zero, i.size, i.bytes)) = some (some (.agg #[.string nil8, .bool false]), 2, 24) := by kernel_rfl
structure SB (c : Nat) (s : Sd) : Prop where
  way : s.way.length ≤ c
  taken : s.taken.length ≤ c
  told : s.told.length ≤ c
  units : s.units.length ≤ c
  unit : s.unit.length ≤ c
  ups : 0 ≤ s.ups ∧ s.ups ≤ c
  downs : 0 ≤ s.downs ∧ s.downs ≤ c
  frames : ∀ f ∈ s.way, FrOk f
  out : s.e.out = []
structure PB (c : Nat) (p : Pr) : Prop where
  cap : c ≤ 100000000000
  a : SB c p.a
  b : SB c p.b
  errors : 0 ≤ p.errors ∧ p.errors ≤ c
  next : 0 ≤ p.next ∧ p.next ≤ c
theorem SB.mono {c d : Nat} {s : Sd} (h : SB c s) (hd : c ≤ d) : SB d s :=
  ⟨Nat.le_trans h.way hd, Nat.le_trans h.taken hd, Nat.le_trans h.told hd, Nat.le_trans h.units hd, Nat.le_trans h.unit hd, ⟨h.ups.1, by have := h.ups; omega⟩, ⟨h.downs.1, by have := h.downs; omega⟩, h.frames, h.out⟩
theorem PB.mono {c d : Nat} {p : Pr} (h : PB c p) (hd : c ≤ d) (hc : d ≤ 100000000000) : PB d p :=
  ⟨hc, h.a.mono hd, h.b.mono hd, ⟨h.errors.1, by have := h.errors; omega⟩, ⟨h.next.1, by have := h.next; omega⟩⟩
structure PI where
  g : Nat
  b0 : Nat
  m0 : Nat
  f0 : Nat
  b1 : Nat
  m1 : Nat
  f1 : Nat
structure PV where
  v0 : Value
  v1 : Value
  v2 : Value
  v3 : Value
  v4 : Value
  v5 : Value
  v6 : Value
  v7 : Value
  v8 : Value
  v9 : Value
def pcells (I : PI) (p : Pr) (V : PV) : Array Value := #[.pointer (some ⟨I.b0, 0, none⟩), .pointer (some ⟨I.b1, 0, none⟩), V.v0, V.v1, V.v2, V.v3, V.v4, V.v5, V.v6, V.v7, V.v8, V.v9, .int .i64 p.errors, .int .i64 p.a.ups, .int .i64 p.b.ups, .int .i64 p.a.downs, .int .i64 p.b.downs, .int .i64 p.next]
noncomputable def pparts (I : PI) (c : Nat) (p : Pr) (V : PV) : List SP := [fact (PB c p), blk I.g (.cells (pcells I p V) 38 (0, 0)), entAt I.b0 I.m0 I.f0 p.a.e, entAt I.b1 I.m1 I.f1 p.b.e, frow V.v0 p.a.way, frow V.v1 p.b.way, erow V.v2 p.a.taken, erow V.v3 p.b.taken, srow V.v4 p.a.told, srow V.v5 p.b.told, srow V.v6 p.a.units, srow V.v7 p.b.units, srow V.v8 p.a.unit, srow V.v9 p.b.unit]
noncomputable def pairAt (I : PI) (c : Nat) (p : Pr) : SP := ex fun V => all (pparts I c p V)
theorem pairAt.opened {I : PI} {c : Nat} {p : Pr} {T : Nat → Prop} {w0 w : World} (h : Went (pairAt I c p) T w0 w) : ∃ A0 c0 A1 c1 A2 c2 A3 c3 A4 c4 A5 c5 A6 c6 A7 c7 A8 c8 A9 c9, Went (all (pparts I c p ⟨.slice A0 p.a.way.length c0, .slice A1 p.b.way.length c1, .slice A2 p.a.taken.length c2, .slice A3 p.b.taken.length c3, .slice A4 p.a.told.length c4, .slice A5 p.b.told.length c5, .slice A6 p.a.units.length c6, .slice A7 p.b.units.length c7, .slice A8 p.a.unit.length c8, .slice A9 p.b.unit.length c9⟩)) T w0 w ∧ PB c p := by
  obtain ⟨T1, ⟨V, h1⟩, k1, t1⟩ := h
  have hw : Went (all (pparts I c p V)) T1 w w := Went.refl h1
  obtain ⟨_, _, hok⟩ := hw.get 0 rfl
  obtain ⟨_, _, hr0⟩ := hw.get 4 rfl
  obtain ⟨A0, c0, e0, _, _⟩ := hr0.shape
  obtain ⟨_, _, hr1⟩ := hw.get 5 rfl
  obtain ⟨A1, c1, e1, _, _⟩ := hr1.shape
  obtain ⟨_, _, hr2⟩ := hw.get 6 rfl
  obtain ⟨A2, c2, e2, _, _⟩ := hr2.shape
  obtain ⟨_, _, hr3⟩ := hw.get 7 rfl
  obtain ⟨A3, c3, e3, _, _⟩ := hr3.shape
  obtain ⟨_, _, hr4⟩ := hw.get 8 rfl
  obtain ⟨A4, c4, e4, _, _⟩ := hr4.shape
  obtain ⟨_, _, hr5⟩ := hw.get 9 rfl
  obtain ⟨A5, c5, e5, _, _⟩ := hr5.shape
  obtain ⟨_, _, hr6⟩ := hw.get 10 rfl
  obtain ⟨A6, c6, e6, _, _⟩ := hr6.shape
  obtain ⟨_, _, hr7⟩ := hw.get 11 rfl
  obtain ⟨A7, c7, e7, _, _⟩ := hr7.shape
  obtain ⟨_, _, hr8⟩ := hw.get 12 rfl
  obtain ⟨A8, c8, e8, _, _⟩ := hr8.shape
  obtain ⟨_, _, hr9⟩ := hw.get 13 rfl
  obtain ⟨A9, c9, e9, _, _⟩ := hr9.shape
  obtain ⟨v0, v1, v2, v3, v4, v5, v6, v7, v8, v9⟩ := V
  simp only at e0 e1 e2 e3 e4 e5 e6 e7 e8 e9
  subst e0 e1 e2 e3 e4 e5 e6 e7 e8 e9
  exact ⟨A0, c0, A1, c1, A2, c2, A3, c3, A4, c4, A5, c5, A6, c6, A7, c7, A8, c8, A9, c9, Went.trans k1 t1 hw, hok⟩
theorem pairAt.close {P : Prop} {I : PI} {c : Nat} {p : Pr} {V : PV} {T : Nat → Prop} {w0 w : World} {n0 n1 n2 n3 n4 n5 n6 n7 n8 n9 : Nat} {x0 x1 x2 x3 x4 x5 x6 x7 x8 x9 : List Value}
    (h : Went (all [fact P, blk I.g (.cells (pcells I p V) 38 (0, 0)), entAt I.b0 I.m0 I.f0 p.a.e, entAt I.b1 I.m1 I.f1 p.b.e, row 144 8 V.v0 n0 x0, row 144 8 V.v1 n1 x1, row 42 2 V.v2 n2 x2, row 42 2 V.v3 n3 x3, row 9 1 V.v4 n4 x4, row 9 1 V.v5 n5 x5, row 9 1 V.v6 n6 x6, row 9 1 V.v7 n7 x7, row 9 1 V.v8 n8 x8, row 9 1 V.v9 n9 x9]) T w0 w)
    (hok : PB c p) (hn0 : n0 = p.a.way.length) (hx0 : x0 = frs p.a.way) (hn1 : n1 = p.b.way.length) (hx1 : x1 = frs p.b.way) (hn2 : n2 = p.a.taken.length) (hx2 : x2 = evs p.a.taken) (hn3 : n3 = p.b.taken.length) (hx3 : x3 = evs p.b.taken) (hn4 : n4 = p.a.told.length) (hx4 : x4 = strs p.a.told) (hn5 : n5 = p.b.told.length) (hx5 : x5 = strs p.b.told) (hn6 : n6 = p.a.units.length) (hx6 : x6 = strs p.a.units) (hn7 : n7 = p.b.units.length) (hx7 : x7 = strs p.b.units) (hn8 : n8 = p.a.unit.length) (hx8 : x8 = strs p.a.unit) (hn9 : n9 = p.b.unit.length) (hx9 : x9 = strs p.b.unit) : Went (pairAt I c p) T w0 w := by
  subst hn0 hx0 hn1 hx1 hn2 hx2 hn3 hx3 hn4 hx4 hn5 hx5 hn6 hx6 hn7 hx7 hn8 hx8 hn9 hx9
  exact (h.at_ 0 rfl (B := fact (PB c p)) fun T1 h1 => Went.refl ⟨h1.1, hok⟩).imp (fun T1 h1 => ⟨V, h1⟩)
theorem cellAt {w : World} {g : Nat} {cs : Array Value} {t : TypeId} (h : w.heap[g]? = some (.cells cs t (0, 0))) (j : Nat) (u : Value) (hu : cs[j]? = some u) : w.cell? ⟨g, j, none⟩ = some u ∧ w.frozen? ⟨g, j, none⟩ = false := by
  refine ⟨?_, Lib.frozen_of_heap h j⟩
  rw [Lib.cell_of_heap h]
  exact hu
end Go.Proofs.YtljnfbpplhnmfaaGreatDoor.Pa
namespace Go.Proofs.YtljnfbpplhnmfaaGreatDoor.Pa
open Go Go.RowKit Go.Proofs.YtljnfbpplhnmfaaGreatDoorW.PrintWords Go.Proofs.YtljnfbpplhnmfaaGreatDoorW.PrintLast Go.Proofs.YtljnfbpplhnmfaaGreatDoorW.PrintMore Go.Proofs.YtljnfbpplhnmfaaGreatDoor.Str Go.Proofs.YtljnfbpplhnmfaaGreatDoor.Mp Go.Proofs.YtljnfbpplhnmfaaGreatDoor.Ra Go.Proofs.YtljnfbpplhnmfaaGreatDoor.Sl Go.Proofs.YtljnfbpplhnmfaaGreatDoor.Qu Go.Proofs.YtljnfbpplhnmfaaGreatDoor.Ru Go.Proofs.YtljnfbpplhnmfaaGreatDoor.Md
open Go.Proofs.YtljnfbpplhnmfaaGreatDoor.En (frCells efCells efs efs_app efs_one orow entAt)
set_option linter.unusedVariables false
set_option linter.unusedSimpArgs false
set_option maxRecDepth 1000000
set_option maxHeartbeats 8000000
theorem pairAt.opened2 {A : SP} {I : PI} {c : Nat} {p : Pr} {T : Nat → Prop} {w0 w : World} (h : Went (all [A, pairAt I c p]) T w0 w) : ∃ A0 c0 A1 c1 A2 c2 A3 c3 A4 c4 A5 c5 A6 c6 A7 c7 A8 c8 A9 c9, Went (all (A :: pparts I c p ⟨.slice A0 p.a.way.length c0, .slice A1 p.b.way.length c1, .slice A2 p.a.taken.length c2, .slice A3 p.b.taken.length c3, .slice A4 p.a.told.length c4, .slice A5 p.b.told.length c5, .slice A6 p.a.units.length c6, .slice A7 p.b.units.length c7, .slice A8 p.a.unit.length c8, .slice A9 p.b.unit.length c9⟩)) T w0 w ∧ PB c p := by
  obtain ⟨T1, ⟨Ta, Tb, ha, ⟨Tc, Td, ⟨V, hV⟩, hd, d2, e2⟩, d, e⟩, k1, t1⟩ := h
  have h1 : (all (A :: pparts I c p V)).h T1 w := ⟨Ta, Tc, ha, hV, fun k a b => d k a ((e2 k).2 (Or.inl b)), fun k => by
    rw [e, e2]
    constructor
    · rintro (a | a | a)
      · exact Or.inl a
      · exact Or.inr a
      · exact (hd.1 k a).elim
    · rintro (a | a)
      · exact Or.inl a
      · exact Or.inr (Or.inl a)⟩
  have hw : Went (all (A :: pparts I c p V)) T1 w w := Went.refl h1
  obtain ⟨_, _, hok⟩ := hw.get 1 rfl
  obtain ⟨_, _, hr0⟩ := hw.get 5 rfl
  obtain ⟨A0, c0, e0, _, _⟩ := hr0.shape
  obtain ⟨_, _, hr1⟩ := hw.get 6 rfl
  obtain ⟨A1, c1, e1, _, _⟩ := hr1.shape
  obtain ⟨_, _, hr2⟩ := hw.get 7 rfl
  obtain ⟨A2, c2, e2, _, _⟩ := hr2.shape
  obtain ⟨_, _, hr3⟩ := hw.get 8 rfl
  obtain ⟨A3, c3, e3, _, _⟩ := hr3.shape
  obtain ⟨_, _, hr4⟩ := hw.get 9 rfl
  obtain ⟨A4, c4, e4, _, _⟩ := hr4.shape
  obtain ⟨_, _, hr5⟩ := hw.get 10 rfl
  obtain ⟨A5, c5, e5, _, _⟩ := hr5.shape
  obtain ⟨_, _, hr6⟩ := hw.get 11 rfl
  obtain ⟨A6, c6, e6, _, _⟩ := hr6.shape
  obtain ⟨_, _, hr7⟩ := hw.get 12 rfl
  obtain ⟨A7, c7, e7, _, _⟩ := hr7.shape
  obtain ⟨_, _, hr8⟩ := hw.get 13 rfl
  obtain ⟨A8, c8, e8, _, _⟩ := hr8.shape
  obtain ⟨_, _, hr9⟩ := hw.get 14 rfl
  obtain ⟨A9, c9, e9, _, _⟩ := hr9.shape
  obtain ⟨v0, v1, v2, v3, v4, v5, v6, v7, v8, v9⟩ := V
  simp only at e0 e1 e2 e3 e4 e5 e6 e7 e8 e9
  subst e0 e1 e2 e3 e4 e5 e6 e7 e8 e9
  exact ⟨A0, c0, A1, c1, A2, c2, A3, c3, A4, c4, A5, c5, A6, c6, A7, c7, A8, c8, A9, c9, Went.trans k1 t1 hw, hok⟩
theorem pairAt.close2 {P : Prop} {A : SP} {I : PI} {c : Nat} {p : Pr} {V : PV} {T : Nat → Prop} {w0 w : World} {n0 n1 n2 n3 n4 n5 n6 n7 n8 n9 : Nat} {x0 x1 x2 x3 x4 x5 x6 x7 x8 x9 : List Value}
    (h : Went (all [A, fact P, blk I.g (.cells (pcells I p V) 38 (0, 0)), entAt I.b0 I.m0 I.f0 p.a.e, entAt I.b1 I.m1 I.f1 p.b.e, row 144 8 V.v0 n0 x0, row 144 8 V.v1 n1 x1, row 42 2 V.v2 n2 x2, row 42 2 V.v3 n3 x3, row 9 1 V.v4 n4 x4, row 9 1 V.v5 n5 x5, row 9 1 V.v6 n6 x6, row 9 1 V.v7 n7 x7, row 9 1 V.v8 n8 x8, row 9 1 V.v9 n9 x9]) T w0 w)
    (hok : PB c p) (hn0 : n0 = p.a.way.length) (hx0 : x0 = frs p.a.way) (hn1 : n1 = p.b.way.length) (hx1 : x1 = frs p.b.way) (hn2 : n2 = p.a.taken.length) (hx2 : x2 = evs p.a.taken) (hn3 : n3 = p.b.taken.length) (hx3 : x3 = evs p.b.taken) (hn4 : n4 = p.a.told.length) (hx4 : x4 = strs p.a.told) (hn5 : n5 = p.b.told.length) (hx5 : x5 = strs p.b.told) (hn6 : n6 = p.a.units.length) (hx6 : x6 = strs p.a.units) (hn7 : n7 = p.b.units.length) (hx7 : x7 = strs p.b.units) (hn8 : n8 = p.a.unit.length) (hx8 : x8 = strs p.a.unit) (hn9 : n9 = p.b.unit.length) (hx9 : x9 = strs p.b.unit) : Went (all [A, pairAt I c p]) T w0 w := by
  subst hn0 hx0 hn1 hx1 hn2 hx2 hn3 hx3 hn4 hx4 hn5 hx5 hn6 hx6 hn7 hx7 hn8 hx8 hn9 hx9
  refine h.imp fun T1 h1 => ?_
  obtain ⟨Ta, Tb, ha, ⟨Tf, Tr, hf, hr, d2, e2⟩, d, e⟩ := h1
  exact ⟨Ta, Tb, ha, ⟨Tb, fun _ => False, ⟨V, Tf, Tr, ⟨hf.1, hok⟩, hr, d2, e2⟩, ⟨fun _ h => h, trivial⟩, fun _ _ h => h, fun k => by simp⟩, d, e⟩
theorem efs_get : ∀ (l : List Ef) (k : Nat) (x : Ef) (j : Nat), l[k]? = some x → j < 11 → (efs l)[k * 11 + j]? = (efCells x)[j]?
  | [], k, x, j, h, _ => by simp at h
  | y :: l, 0, x, j, h, hj => by
    simp at h
    subst h
    show ((efCells y).toList ++ efs l)[0 * 11 + j]? = _
    rw [List.getElem?_append_left (by simp [efCells]; omega), Nat.zero_mul, Nat.zero_add, Array.getElem?_toList]
  | y :: l, k + 1, x, j, h, hj => by
    show ((efCells y).toList ++ efs l)[(k + 1) * 11 + j]? = _
    have hl : (efCells y).toList.length = 11 := by simp [efCells]
    rw [List.getElem?_append_right (by rw [hl]; omega), hl]
    have e : (k + 1) * 11 + j - 11 = k * 11 + j := by omega
    rw [e]
    exact efs_get l k x j (by simpa using h) hj
theorem ef_row {A : Option Addr} {c : Nat} {l : List Ef} {T : Nat → Prop} {w : World} (h : (orow (.slice A l.length c) l).h T w) (k : Nat) (x : Ef) (hx : l[k]? = some x) : ∃ g o, A = some ⟨g, o, none⟩ ∧ ∀ (j : Nat) (u : Value), (efCells x)[j]? = some u → w.cell? ⟨g, o + k * 11 + j, none⟩ = some u := by
  obtain ⟨g, o, hA, _, _⟩ := h.2.cell (k * 11 + 0) (.int .i64 x.kind) (efs_get l k x 0 hx (by decide))
  refine ⟨g, o * 11, hA, fun j u hu => ?_⟩
  have hj : j < 11 := by
    have := (Array.getElem?_eq_some_iff.1 hu).1
    simpa [efCells] using this
  obtain ⟨g2, o2, hq, h2, _⟩ := h.2.cell (k * 11 + j) u ((efs_get l k x j hx hj).trans hu)
  rw [hA] at hq
  injection hq with hq
  injection hq with h3 h4
  subst h3
  rw [← h4, ← Nat.add_assoc] at h2
  exact h2
theorem effs_take (i : Bool) (p : Pr) (l : List Ef) (k : Nat) (x : Ef) (h : l[k]? = some x) : effs i p (l.take (k + 1)) = eff i (effs i p (l.take k)) x := by
  have hlt := (List.getElem?_eq_some_iff.1 h).1
  have hx := (List.getElem?_eq_some_iff.1 h).2
  unfold effs
  rw [List.take_succ_eq_append_getElem hlt, List.foldl_append, hx]
  rfl
theorem SB.effTo {c : Nat} {s : Sd} (h : SB c s) {f : Fr} (hf : FrOk f) : SB (c + 1) { s with way := s.way ++ [f] } :=
  ⟨by have := h.way; simp; omega, by have := h.taken; simp; omega, by have := h.told; simp; omega, by have := h.units; simp; omega, by have := h.unit; simp; omega, ⟨h.ups.1, by have := h.ups; simp; omega⟩, ⟨h.downs.1, by have := h.downs; simp; omega⟩, fun g hg => by
    rcases List.mem_append.1 hg with hg | hg
    · exact h.frames g hg
    · rw [List.mem_singleton.1 hg]; exact hf, h.out⟩
theorem SB.effTold {c : Nat} {s : Sd} (h : SB c s) (d : ByteArray) : SB (c + 1) { s with told := s.told ++ [d] } :=
  ⟨by have := h.way; simp; omega, by have := h.taken; simp; omega, by have := h.told; simp; omega, by have := h.units; simp; omega, by have := h.unit; simp; omega, ⟨h.ups.1, by have := h.ups; simp; omega⟩, ⟨h.downs.1, by have := h.downs; simp; omega⟩, h.frames, h.out⟩
theorem SB.effUnits {c : Nat} {s : Sd} (h : SB c s) (d : ByteArray) : SB (c + 1) { s with units := s.units ++ [d] } :=
  ⟨by have := h.way; simp; omega, by have := h.taken; simp; omega, by have := h.told; simp; omega, by have := h.units; simp; omega, by have := h.unit; simp; omega, ⟨h.ups.1, by have := h.ups; simp; omega⟩, ⟨h.downs.1, by have := h.downs; simp; omega⟩, h.frames, h.out⟩
theorem SB.effUnit {c : Nat} {s : Sd} (h : SB c s) (d : ByteArray) : SB (c + 1) { s with unit := s.unit ++ [d] } :=
  ⟨by have := h.way; simp; omega, by have := h.taken; simp; omega, by have := h.told; simp; omega, by have := h.units; simp; omega, by have := h.unit; simp; omega, ⟨h.ups.1, by have := h.ups; simp; omega⟩, ⟨h.downs.1, by have := h.downs; simp; omega⟩, h.frames, h.out⟩
theorem SB.effTaken {c : Nat} {s : Sd} (h : SB c s) (d : Ev) : SB (c + 1) { s with taken := s.taken ++ [d] } :=
  ⟨by have := h.way; simp; omega, by have := h.taken; simp; omega, by have := h.told; simp; omega, by have := h.units; simp; omega, by have := h.unit; simp; omega, ⟨h.ups.1, by have := h.ups; simp; omega⟩, ⟨h.downs.1, by have := h.downs; simp; omega⟩, h.frames, h.out⟩
theorem SB.effUp {c : Nat} {s : Sd} (h : SB c s) (d : Ev) : SB (c + 1) { s with ups := s.ups + 1, taken := s.taken ++ [d] } :=
  ⟨by have := h.way; simp; omega, by have := h.taken; simp; omega, by have := h.told; simp; omega, by have := h.units; simp; omega, by have := h.unit; simp; omega, ⟨by have := h.ups; simp; omega, by have := h.ups; simp; omega⟩, ⟨h.downs.1, by have := h.downs; simp; omega⟩, h.frames, h.out⟩
theorem SB.effDown {c : Nat} {s : Sd} (h : SB c s) (d : Ev) : SB (c + 1) { s with downs := s.downs + 1, taken := s.taken ++ [d] } :=
  ⟨by have := h.way; simp; omega, by have := h.taken; simp; omega, by have := h.told; simp; omega, by have := h.units; simp; omega, by have := h.unit; simp; omega, ⟨h.ups.1, by have := h.ups; simp; omega⟩, ⟨by have := h.downs; simp; omega, by have := h.downs; simp; omega⟩, h.frames, h.out⟩
end Go.Proofs.YtljnfbpplhnmfaaGreatDoor.Pa
