/- Package flow by its own text, over what lies in memory. Conditions: sizes. Package flow by its own text: Take, New; the others under the model's names. Conditions: sizes. The timers' map: which of 200 and 203 run. No condition. -/
import Derived.Deep.RegionHeld3
import Derived.Test.YtljnfbpplhnmfaaGreatDoorProg
import Derived.WalkKit
import Derived.BigCall
import Derived.Maps.Range
import Derived.Maps.OwnSet
import Derived.Test.YtljnfbpplhnmfaaGreatDoorUs01
import Derived.Test.YtljnfbpplhnmfaaGreatDoorUs02
namespace Go.Proofs.YtljnfbpplhnmfaaGreatDoor.Fl
open Go Go.RowKit Go.Proofs.YtljnfbpplhnmfaaGreatDoorW.PrintWords Go.Proofs.YtljnfbpplhnmfaaGreatDoorW.PrintLast Go.Proofs.YtljnfbpplhnmfaaGreatDoorW.PrintMore Go.Proofs.YtljnfbpplhnmfaaGreatDoor.Str Go.Proofs.YtljnfbpplhnmfaaGreatDoor.Mp Go.Proofs.YtljnfbpplhnmfaaGreatDoor.Ra Go.Proofs.YtljnfbpplhnmfaaGreatDoor.Sl Go.Proofs.YtljnfbpplhnmfaaGreatDoor.Qu Go.Proofs.YtljnfbpplhnmfaaGreatDoor.Sq Go.Proofs.YtljnfbpplhnmfaaGreatDoor.Md
set_option linter.unusedVariables false
def fcells (f : F) (qb : Nat) : Array Value := #[.int .i64 f.vs, .int .i64 f.va, .int .i64 f.vr, .bool f.peer, .bool f.own, .bool f.ref, .int .i64 f.k, .pointer (some ⟨qb, 0, none⟩)]
def fparts (b : Nat) (f : F) (qb : Nat) : List SP := [fact (FOk f), blk b (.cells (fcells f qb) 139 (0, 0)), quAt qb f.q]
def flAt (b : Nat) (f : F) : SP := ex fun qb => all (fparts b f qb)
theorem flAt.opened {b : Nat} {f : F} {T : Nat → Prop} {w : World} (h : (flAt b f).h T w) : ∃ qb, Went (all (fparts b f qb)) T w w ∧ FOk f := by
  obtain ⟨qb, h⟩ := h
  have hw := Went.refl h
  obtain ⟨_, _, hok⟩ := hw.get 0 rfl
  exact ⟨qb, hw, hok⟩
theorem flAt.close {p : Prop} {b qb : Nat} {f : F} {T : Nat → Prop} {w w1 : World} (h : Went (all [fact p, blk b (.cells (fcells f qb) 139 (0, 0)), quAt qb f.q]) T w w1) (hok : FOk f) : Went (flAt b f) T w w1 :=
  (h.at_ 0 rfl (B := fact (FOk f)) fun T1 h1 => Went.refl ⟨h1.1, hok⟩).imp (fun T1 h1 => ⟨qb, h1⟩)
theorem cells8 {w : World} {g : Nat} {a0 a1 a2 a3 a4 a5 a6 a7 : Value} {t : TypeId} (h : w.heap[g]? = some (.cells #[a0, a1, a2, a3, a4, a5, a6, a7] t (0, 0))) :
    (w.cell? ⟨g, 0, none⟩ = some a0 ∧ w.cell? ⟨g, 1, none⟩ = some a1 ∧ w.cell? ⟨g, 2, none⟩ = some a2 ∧ w.cell? ⟨g, 3, none⟩ = some a3 ∧ w.cell? ⟨g, 4, none⟩ = some a4 ∧ w.cell? ⟨g, 5, none⟩ = some a5 ∧ w.cell? ⟨g, 6, none⟩ = some a6 ∧ w.cell? ⟨g, 7, none⟩ = some a7) ∧
    w.frozen? ⟨g, 0, none⟩ = false ∧ w.frozen? ⟨g, 1, none⟩ = false ∧ w.frozen? ⟨g, 2, none⟩ = false ∧ w.frozen? ⟨g, 3, none⟩ = false ∧ w.frozen? ⟨g, 4, none⟩ = false ∧ w.frozen? ⟨g, 5, none⟩ = false := by
  refine ⟨⟨?_, ?_, ?_, ?_, ?_, ?_, ?_, ?_⟩, Lib.frozen_of_heap h 0, Lib.frozen_of_heap h 1, Lib.frozen_of_heap h 2, Lib.frozen_of_heap h 3, Lib.frozen_of_heap h 4, Lib.frozen_of_heap h 5⟩ <;> rw [Lib.cell_of_heap h] <;> rfl
set_option maxRecDepth 1000000 in
theorem pushC0 (b : Nat) (f : F) (s : ByteArray) (hs : s.size ≤ 260) (T : Nat → Prop) (w : World) (h : (flAt b f).h T w) :
    Calls Tryz.prog 119 #[.pointer (some ⟨b, 0, none⟩), .string s] w fun e w' => e = .returned (.int .i64 (if (f.q.list.length : Int) < f.q.most then 0 else 10)) ∧ Went (flAt b { f with q := if (f.q.list.length : Int) < f.q.most then { f.q with list := f.q.list ++ [s] } else f.q }) T w w' := by
  obtain ⟨qb, HW, hok⟩ := flAt.opened h
  have HOK := Aside0.mk hok
  obtain ⟨⟨c0, c1, c2, c3, c4, c5, c6, c7⟩, f0, f1, f2, f3, f4, f5⟩ := cells8 (HW.heap 1 rfl)
  have HQ := Aside0.mk (HW.call_at 2 rfl (fun T1 h1 => Qu.pushC qb f.q s hs T1 w h1))
  clear h hok HW
  generalize (if (f.q.list.length : Int) < f.q.most then (0 : Int) else 10) = r at HQ ⊢
  have hqs : (if (f.q.list.length : Int) < f.q.most then { f.q with list := f.q.list ++ [s] } else f.q).sent = f.q.sent := by split <;> rfl
  generalize (if (f.q.list.length : Int) < f.q.most then { f.q with list := f.q.list ++ [s] } else f.q) = q' at HQ hqs ⊢
  have HQS := Aside0.mk hqs
  clear hqs
  go_enter Tryz.func119, Tryz.ntmps119
  go_wp2_with fail
  refine HQ.out.mono ?_
  rintro e w1 ⟨rfl, hw⟩
  have HW1 := Aside0.mk hw
  clear hw HQ
  go_wp2
  go_ret
  exact ⟨rfl, flAt.close (f := { f with q := q' }) HW1.out ⟨HOK.out.vs, HOK.out.va, HOK.out.vr, by show (f.vs - f.va) % 128 = (q'.sent : Int); rw [HQS.out]; exact HOK.out.win⟩⟩
theorem pushC (b : Nat) (f : F) (s : ByteArray) (hs : s.size ≤ 260) (T : Nat → Prop) (w : World) (h : (flAt b f).h T w) :
    Calls Tryz.prog 119 #[.pointer (some ⟨b, 0, none⟩), .string s] w fun e w' => e = .returned (.int .i64 (if canPush f then 0 else 10)) ∧ Went (flAt b (if canPush f then pushF f s else f)) T w w' := by
  have h0 := pushC0 b f s hs T w h
  by_cases hc : canPush f
  · have hc2 : (f.q.list.length : Int) < f.q.most := hc
    rw [if_pos hc2, if_pos hc2] at h0
    rw [if_pos hc, if_pos hc]
    exact h0
  · have hc2 : ¬ (f.q.list.length : Int) < f.q.most := hc
    rw [if_neg hc2, if_neg hc2] at h0
    rw [if_neg hc, if_neg hc]
    exact h0
set_option maxRecDepth 1000000 in
theorem setPeerC (b : Nat) (f : F) (x : Bool) (T : Nat → Prop) (w : World) (h : (flAt b f).h T w) :
    Calls Tryz.prog 159 #[.pointer (some ⟨b, 0, none⟩), .bool x] w fun e w' => e = .returned (.tuple #[]) ∧ Went (flAt b { f with peer := x }) T w w' := by
  obtain ⟨qb, HW, hok⟩ := flAt.opened h
  have HOK := Aside0.mk hok
  obtain ⟨⟨c0, c1, c2, c3, c4, c5, c6, c7⟩, f0, f1, f2, f3, f4, f5⟩ := cells8 (HW.heap 1 rfl)
  have HW := Aside0.mk HW
  clear h hok
  go_enter Tryz.func159, Tryz.ntmps159
  go_wp2
  go_end0
  exact ⟨rfl, flAt.close (f := { f with peer := x }) (HW.out.set 1 rfl 3 (.bool x)) ⟨HOK.out.vs, HOK.out.va, HOK.out.vr, HOK.out.win⟩⟩
set_option maxRecDepth 1000000 in
theorem backC (b : Nat) (f : F) (T : Nat → Prop) (w : World) (h : (flAt b f).h T w) :
    Calls Tryz.prog 160 #[.pointer (some ⟨b, 0, none⟩)] w fun e w' => e = .returned (.tuple #[]) ∧ Went (flAt b { f with vs := f.va, q := { f.q with sent := 0 } }) T w w' := by
  obtain ⟨qb, HW, hok⟩ := flAt.opened h
  have HOK := Aside0.mk hok
  obtain ⟨⟨c0, c1, c2, c3, c4, c5, c6, c7⟩, f0, f1, f2, f3, f4, f5⟩ := cells8 (HW.heap 1 rfl)
  have HQ := Aside0.mk (HW.call_at 2 rfl (fun T1 h1 => Qu.backC qb f.q T1 w h1))
  clear h hok HW
  go_enter Tryz.func160, Tryz.ntmps160
  go_wp2_with fail
  refine HQ.out.mono ?_
  rintro e w1 ⟨rfl, hw⟩
  have HW1 := Aside0.mk hw
  obtain ⟨⟨c0, c1, c2, c3, c4, c5, c6, c7⟩, f0, f1, f2, f3, f4, f5⟩ := cells8 (hw.heap 1 rfl)
  clear hw HQ
  go_wp2
  go_end0
  exact ⟨rfl, flAt.close (f := { f with vs := f.va, q := { f.q with sent := 0 } }) (HW1.out.set 1 rfl 0 (.int .i64 f.va)) ⟨HOK.out.va, HOK.out.va, HOK.out.vr, by show (f.va - f.va) % 128 = ((0 : Nat) : Int); rw [Int.sub_self]; rfl⟩⟩
set_option maxRecDepth 1000000 in
theorem clearC (b : Nat) (f : F) (T : Nat → Prop) (w : World) (h : (flAt b f).h T w) :
    Calls Tryz.prog 117 #[.pointer (some ⟨b, 0, none⟩)] w fun e w' => e = .returned (.int .i64 (f.q.list.length : Int)) ∧ Went (flAt b { f with vs := f.va, q := { f.q with list := [], sent := 0 } }) T w w' := by
  obtain ⟨qb, HW, hok⟩ := flAt.opened h
  have HOK := Aside0.mk hok
  obtain ⟨⟨c0, c1, c2, c3, c4, c5, c6, c7⟩, f0, f1, f2, f3, f4, f5⟩ := cells8 (HW.heap 1 rfl)
  have HW2 := Aside0.mk (HW.set 1 rfl 0 (.int .i64 f.va))
  have HQ := Aside0.mk (HW2.out.call_at 2 rfl (fun T1 h1 => Qu.clearC qb f.q T1 _ h1))
  obtain ⟨⟨d0, d1, d2, d3, d4, d5, d6, d7⟩, _⟩ := cells8 (HW2.out.heap 1 rfl)
  clear h hok HW
  go_enter Tryz.func117, Tryz.ntmps117
  go_wp2_with fail
  refine HQ.out.mono ?_
  rintro e w1 ⟨rfl, hw⟩
  have HW1 := Aside0.mk hw
  clear hw HQ
  go_wp2
  go_ret
  exact ⟨rfl, flAt.close (f := { f with vs := f.va, q := { f.q with list := [], sent := 0 } }) HW1.out ⟨HOK.out.va, HOK.out.va, HOK.out.vr, by show (f.va - f.va) % 128 = ((0 : Nat) : Int); rw [Int.sub_self]; rfl⟩⟩
set_option maxRecDepth 1000000 in
theorem resetC (b : Nat) (f : F) (T : Nat → Prop) (w : World) (h : (flAt b f).h T w) :
    Calls Tryz.prog 155 #[.pointer (some ⟨b, 0, none⟩)] w fun e w' => e = .returned (.tuple #[]) ∧ Went (flAt b ⟨0, 0, 0, false, false, false, f.k, { f.q with sent := 0 }⟩) T w w' := by
  obtain ⟨qb, HW, hok⟩ := flAt.opened h
  have HOK := Aside0.mk hok
  obtain ⟨⟨c0, c1, c2, c3, c4, c5, c6, c7⟩, f0, f1, f2, f3, f4, f5⟩ := cells8 (HW.heap 1 rfl)
  have HQ := Aside0.mk (HW.call_at 2 rfl (fun T1 h1 => Qu.backC qb f.q T1 w h1))
  clear h hok HW
  go_enter Tryz.func155, Tryz.ntmps155
  go_wp2_with fail
  refine HQ.out.mono ?_
  rintro e w1 ⟨rfl, hw⟩
  have HW1 := Aside0.mk hw
  obtain ⟨⟨c0, c1, c2, c3, c4, c5, c6, c7⟩, f0, f1, f2, f3, f4, f5⟩ := cells8 (hw.heap 1 rfl)
  clear hw HQ
  go_wp2
  go_end0
  exact ⟨rfl, flAt.close (f := ⟨0, 0, 0, false, false, false, f.k, { f.q with sent := 0 }⟩) ((((((HW1.out.set 1 rfl 0 (.int .i64 0)).set 1 rfl 1 (.int .i64 0)).set 1 rfl 2 (.int .i64 0)).set 1 rfl 3 (.bool false)).set 1 rfl 4 (.bool false)).set 1 rfl 5 (.bool false)) ⟨⟨Int.le_refl 0, (by decide : (0 : Int) < 128)⟩, ⟨Int.le_refl 0, (by decide : (0 : Int) < 128)⟩, ⟨Int.le_refl 0, (by decide : (0 : Int) < 128)⟩, by show ((0 : Int) - 0) % 128 = ((0 : Nat) : Int); rfl⟩⟩
set_option maxRecDepth 1000000 in
theorem setOwnC (b : Nat) (f : F) (x : Bool) (T : Nat → Prop) (w : World) (h : (flAt b f).h T w) :
    Calls Tryz.prog 121 #[.pointer (some ⟨b, 0, none⟩), .bool x] w fun e w' => e = .returned (.bool (f.own != x)) ∧ Went (flAt b { f with own := x }) T w w' := by
  obtain ⟨qb, HW, hok⟩ := flAt.opened h
  have HOK := Aside0.mk hok
  obtain ⟨⟨c0, c1, c2, c3, c4, c5, c6, c7⟩, f0, f1, f2, f3, f4, f5⟩ := cells8 (HW.heap 1 rfl)
  have HH := Aside0.mk h
  have HW := Aside0.mk HW
  clear h hok
  by_cases hx : f.own = x
  · have hb : (f.own == x) = true := by rw [beq_iff_eq]; exact hx
    have hn : (f.own != x) = false := by rw [bne, hb]; rfl
    rw [hn]
    go_enter Tryz.func121, Tryz.ntmps121
    go_wp2
    go_ret
    refine ⟨rfl, ?_⟩
    rw [show ({ f with own := x } : F) = f from by rw [← hx]]
    exact Went.refl HH.out
  · have hb : (f.own == x) = false := by rw [beq_eq_false_iff_ne]; exact hx
    have hn : (f.own != x) = true := by rw [bne, hb]; rfl
    rw [hn]
    go_enter Tryz.func121, Tryz.ntmps121
    go_wp2
    go_ret
    exact ⟨rfl, flAt.close (f := { f with own := x }) (HW.out.set 1 rfl 4 (.bool x)) ⟨HOK.out.vs, HOK.out.va, HOK.out.vr, HOK.out.win⟩⟩
theorem come_busy {f : F} (ns : Int) (h : f.own = true) : come f ns = 3 ∧ comeF f ns = f := by
  unfold come comeF
  rw [if_pos h, if_pos h]; exact ⟨rfl, rfl⟩
theorem come_next {f : F} {ns : Int} (h : f.own = false) (hv : ns % 128 = f.vr) : come f ns = 0 ∧ comeF f ns = { f with vr := (ns + 1) % 128, ref := false } := by
  have h' : ¬ f.own = true := by rw [h]; decide
  unfold come comeF
  rw [if_neg h', if_neg h', if_pos hv, if_pos hv]; exact ⟨rfl, rfl⟩
theorem come_again {f : F} {ns : Int} (h : f.own = false) (hv : ¬ ns % 128 = f.vr) (hr : f.ref = true) : come f ns = 2 ∧ comeF f ns = f := by
  have h' : ¬ f.own = true := by rw [h]; decide
  unfold come comeF
  rw [if_neg h', if_neg h', if_neg hv, if_neg hv, if_pos hr]
  refine ⟨rfl, ?_⟩
  cases f
  simp only at hr
  subst hr
  rfl
theorem come_wrong {f : F} {ns : Int} (h : f.own = false) (hv : ¬ ns % 128 = f.vr) (hr : f.ref = false) : come f ns = 1 ∧ comeF f ns = { f with ref := true } := by
  have h' : ¬ f.own = true := by rw [h]; decide
  have h2 : ¬ f.ref = true := by rw [hr]; decide
  unfold come comeF
  rw [if_neg h', if_neg h', if_neg hv, if_neg hv, if_neg h2]; exact ⟨rfl, rfl⟩
set_option maxRecDepth 1000000 in
theorem comeC (b : Nat) (f : F) (ns : Int) (T : Nat → Prop) (w : World) (h : (flAt b f).h T w) :
    Calls Tryz.prog 156 #[.pointer (some ⟨b, 0, none⟩), .int .i64 ns] w fun e w' => e = .returned (.int .i64 (come f ns)) ∧ Went (flAt b (comeF f ns)) T w w' := by
  obtain ⟨qb, HW, hok⟩ := flAt.opened h
  have HOK := Aside0.mk hok
  obtain ⟨⟨c0, c1, c2, c3, c4, c5, c6, c7⟩, f0, f1, f2, f3, f4, f5⟩ := cells8 (HW.heap 1 rfl)
  have HH := Aside0.mk h
  have HW := Aside0.mk HW
  have HN : Aside0 (∀ m, Calls Tryz.prog 174 #[.int .i64 ns] (w.drewN m) fun e w' => e = .returned (.int .i64 (ns % 128)) ∧ w' = w.drewN m) := ⟨fun m => (normC ns (w.drewN m)).mono (fun e w' h => ⟨h.1, h.2.symm⟩)⟩
  clear h hok
  cases ho : f.own with
  | true =>
    rw [(come_busy ns ho).1, (come_busy ns ho).2]
    rw [ho] at c4
    go_enter Tryz.func156, Tryz.ntmps156
    go_wp2
    go_ret
    exact ⟨rfl, Went.refl HH.out⟩
  | false =>
    rw [ho] at c4
    by_cases hv : ns % 128 = f.vr
    · rw [(come_next ho hv).1, (come_next ho hv).2]
      have hb : (ns % 128 == f.vr) = true := by rw [beq_iff_eq]; exact hv
      go_enter Tryz.func156, Tryz.ntmps156
      go_wp2_with fail
      go_quiet ((go_at_call 174; refine Calls.quiet_of_same (HN.out _)))
      have HW1 := Aside0.mk (HW.out.drewN nq)
      obtain ⟨⟨c0, c1, c2, c3, c4, c5, c6, c7⟩, f0, f1, f2, f3, f4, f5⟩ := cells8 (HW1.out.heap 1 rfl)
      generalize w.drewN nq = w1 at *
      go_wp2_with fail
      refine (addC ns 1 w1).mono ?_
      rintro e w2 ⟨rfl, rfl⟩
      go_wp2
      go_ret
      exact ⟨rfl, flAt.close (f := { f with vr := (ns + 1) % 128, ref := false }) ((HW1.out.set 1 rfl 2 (.int .i64 ((ns + 1) % 128))).set 1 rfl 5 (.bool false)) ⟨HOK.out.vs, HOK.out.va, by show 0 ≤ (ns + 1) % 128 ∧ (ns + 1) % 128 < 128; omega, HOK.out.win⟩⟩
    · have hb : (ns % 128 == f.vr) = false := by rw [beq_eq_false_iff_ne]; exact hv
      cases hr : f.ref with
      | true =>
        rw [(come_again ho hv hr).1, (come_again ho hv hr).2]
        rw [hr] at c5
        go_enter Tryz.func156, Tryz.ntmps156
        go_wp2_with fail
        go_quiet ((go_at_call 174; refine Calls.quiet_of_same (HN.out _)))
        go_wp2
        go_ret
        exact ⟨rfl, (Went.refl HH.out).drewN nq⟩
      | false =>
        rw [(come_wrong ho hv hr).1, (come_wrong ho hv hr).2]
        rw [hr] at c5
        go_enter Tryz.func156, Tryz.ntmps156
        go_wp2_with fail
        go_quiet ((go_at_call 174; refine Calls.quiet_of_same (HN.out _)))
        have HW1 := Aside0.mk (HW.out.drewN nq)
        go_wp2
        go_ret
        exact ⟨rfl, flAt.close (f := { f with ref := true }) (HW1.out.set 1 rfl 5 (.bool true)) ⟨HOK.out.vs, HOK.out.va, HOK.out.vr, HOK.out.win⟩⟩
theorem results_c1 {P : Program} {fn : Func} {p : Tmp} {ty : TypeId} (h : fn.results = #[.cell p ty]) (tmps : Array Value) (w : World) (g : Nat) (t : TypeId) (cs : Array Value) (fr : Nat × Nat) (d : TypeDesc)
    (hp : tmps.getD p undef = .pointer (some ⟨g, 0, none⟩)) (hg : w.heap[g]? = some (.cells cs t fr))
    (hu : P.underlying ty = some d) (hd : (match d with | .struct _ | .array _ _ => true | _ => false) = true) (hi : (P.info? ty).map (·.size) = some cs.size) :
    (results fn tmps).run P w = .ok (.agg cs) w := by
  have hp' : tmps[p]?.getD undef = .pointer (some ⟨g, 0, none⟩) := by simpa using hp
  simp [results, h, hp', asAddr, run_loadVar_row w g t ty cs fr d hg hu hd hi]
theorem cells6 {w : World} {g : Nat} {a0 a1 a2 a3 a4 a5 : Value} {t : TypeId} (h : w.heap[g]? = some (.cells #[a0, a1, a2, a3, a4, a5] t (0, 0))) :
    w.cell? ⟨g, 0, none⟩ = some a0 ∧ w.cell? ⟨g, 1, none⟩ = some a1 ∧ w.cell? ⟨g, 2, none⟩ = some a2 ∧ w.cell? ⟨g, 3, none⟩ = some a3 ∧ w.cell? ⟨g, 4, none⟩ = some a4 ∧ w.cell? ⟨g, 5, none⟩ = some a5 := by
  refine ⟨?_, ?_, ?_, ?_, ?_, ?_⟩ <;> rw [Lib.cell_of_heap h] <;> rfl
set_option maxRecDepth 1000000 in
theorem viewC (b : Nat) (f : F) (T : Nat → Prop) (w : World) (h : (flAt b f).h T w) :
    Calls Tryz.prog 33 #[.pointer (some ⟨b, 0, none⟩)] w fun e w' => e = .returned (.agg #[.int .i64 f.vs, .int .i64 f.va, .int .i64 f.vr, .bool f.peer, .bool f.own, .bool f.ref, .int .i64 f.q.sent, .int .i64 ((f.q.list.length : Int) - f.q.sent)]) ∧ Below w.heap.size w w' := by
  obtain ⟨qb, HW0, hok⟩ := flAt.opened h
  have HW := Aside0.mk (HW0.new (.cells #[.int .i64 0, .int .i64 0, .int .i64 0, .bool false, .bool false, .bool false, .int .i64 0, .int .i64 0] 47))
  obtain ⟨⟨c0, c1, c2, c3, c4, c5, c6, c7⟩, _⟩ := cells8 (HW.out.heap 2 rfl)
  have HB : Aside0 (Below w.heap.size w (w.alloc (.cells #[.int .i64 0, .int .i64 0, .int .i64 0, .bool false, .bool false, .bool false, .int .i64 0, .int .i64 0] 47))) := ⟨(Below.refl _ w).alloc (Nat.le_refl _) _⟩
  have hz : (w.alloc (.cells #[.int .i64 0, .int .i64 0, .int .i64 0, .bool false, .bool false, .bool false, .int .i64 0, .int .i64 0] 47)).heap.size = w.heap.size + 1 := by show (w.heap.push _).size = _; simp
  have HZ := Aside0.mk hz
  have hlt := (Array.getElem?_eq_some_iff.1 (HW0.heap 1 rfl)).1
  have hne : ¬ w.heap.size = b := by omega
  clear h hok HW0 hz
  go_enter Tryz.func33, Tryz.ntmps33
  go_wp2_with fail
  have HW2 := HW.out.new (.cells #[.int .i64 f.vs, .int .i64 f.va, .int .i64 f.vr, .bool f.peer, .bool f.own, .bool f.ref] 136)
  rw [HZ.out] at HW2
  have HB2 : Aside0 (Below w.heap.size w ((w.alloc (.cells #[.int .i64 0, .int .i64 0, .int .i64 0, .bool false, .bool false, .bool false, .int .i64 0, .int .i64 0] 47)).alloc (.cells #[.int .i64 f.vs, .int .i64 f.va, .int .i64 f.vr, .bool f.peer, .bool f.own, .bool f.ref] 136))) := ⟨HB.out.alloc HB.out.size _⟩
  generalize (w.alloc (.cells #[.int .i64 0, .int .i64 0, .int .i64 0, .bool false, .bool false, .bool false, .int .i64 0, .int .i64 0] 47)).alloc (.cells #[.int .i64 f.vs, .int .i64 f.va, .int .i64 f.vr, .bool f.peer, .bool f.own, .bool f.ref] 136) = w4 at HW2 HB2 ⊢
  clear c0 c1 c2 c3 c4 c5 c6 c7 HW HB
  have HW3 := Aside0.mk HW2
  clear HW2
  obtain ⟨n0, n1, n2, n3, n4, n5⟩ := cells6 (HW3.out.heap 0 rfl)
  obtain ⟨⟨c0, c1, c2, c3, c4, c5, c6, c7⟩, _⟩ := cells8 (HW3.out.heap 3 rfl)
  have r8 := HW3.out.heap 1 rfl
  have HSent : Aside0 (∀ v, Below w4.heap.size w4 v → Calls Tryz.prog 55 #[.pointer (some ⟨qb, 0, none⟩)] v fun e w' => e = .returned (.int .i64 (f.q.sent : Int)) ∧ v = w') := ⟨fun v hv => by
    obtain ⟨T1, h1⟩ := (HW3.out.below hv).get 4 rfl
    exact Qu.sentC qb f.q T1 v h1⟩
  have HLeft : Aside0 (∀ v, Below w4.heap.size w4 v → Calls Tryz.prog 56 #[.pointer (some ⟨qb, 0, none⟩)] v fun e w' => e = .returned (.int .i64 ((f.q.list.length : Int) - f.q.sent)) ∧ Below v.heap.size v w') := ⟨fun v hv => by
    obtain ⟨T1, h1⟩ := (HW3.out.below hv).get 4 rfl
    exact Qu.leftC qb f.q T1 v h1⟩
  have HV : Aside0 (Below w4.heap.size w4 w4.drew) := ⟨(Below.refl _ w4).drew⟩
  go_region_held3 (fun w' => w'.cell? ⟨w.heap.size + 1, 0, none⟩ = some (.int .i64 f.vs) ∧ w'.cell? ⟨w.heap.size + 1, 1, none⟩ = some (.int .i64 f.va) ∧ w'.cell? ⟨w.heap.size + 1, 2, none⟩ = some (.int .i64 f.vr) ∧ w'.cell? ⟨w.heap.size + 1, 3, none⟩ = some (.bool f.peer) ∧ w'.cell? ⟨w.heap.size + 1, 4, none⟩ = some (.bool f.own) ∧ w'.cell? ⟨w.heap.size + 1, 5, none⟩ = some (.bool f.ref) ∧ w'.cell? ⟨b, 7, none⟩ = some (.pointer (some ⟨qb, 0, none⟩))) (go_keep)
    (first | (go_at_call 55; refine (HSent.out _ HV.out).mono ?_; rintro e w' ⟨rfl, rfl⟩) | (go_at_call 56; refine (HLeft.out _ HV.out).mono ?_; rintro e w5 ⟨rfl, hb⟩; have k0 := pw_cell_below hb n0; have k1 := pw_cell_below hb n1; have k2 := pw_cell_below hb n2; have k3 := pw_cell_below hb n3; have k4 := pw_cell_below hb n4; have k5 := pw_cell_below hb n5; have k7 := pw_cell_below hb c7; have r9 := Aside0.mk ((hb.block _ (Array.getElem?_eq_some_iff.1 r8).1).trans r8); replace HV := Aside0.mk (below_step HV.out hb); clear hb; obtain ⟨⟨e0, e1, e2, e3, e4, e5, e6, e7⟩, q0, q1, q2, q3, q4, q5⟩ := cells8 r9.out; have q6 := Lib.frozen_of_heap r9.out 6; have q7 := Lib.frozen_of_heap r9.out 7))
  all_goals
    go_wp2
    refine bodyPost_ret (results_c1 rfl _ _ w.heap.size 47 #[.int .i64 f.vs, .int .i64 f.va, .int .i64 f.vr, .bool f.peer, .bool f.own, .bool f.ref, .int .i64 f.q.sent, .int .i64 ((f.q.list.length : Int) - f.q.sent)] (0, 0) _ rfl (blk_put (cs := #[.int .i64 f.vs, .int .i64 f.va, .int .i64 f.vr, .bool f.peer, .bool f.own, .bool f.ref, .int .i64 f.q.sent, .int .i64 0]) (blk_put (cs := #[.int .i64 f.vs, .int .i64 f.va, .int .i64 f.vr, .bool f.peer, .bool f.own, .bool f.ref, .int .i64 0, .int .i64 0]) (blk_put (cs := #[.int .i64 f.vs, .int .i64 f.va, .int .i64 f.vr, .bool f.peer, .bool f.own, .bool false, .int .i64 0, .int .i64 0]) (blk_put (cs := #[.int .i64 f.vs, .int .i64 f.va, .int .i64 f.vr, .bool f.peer, .bool false, .bool false, .int .i64 0, .int .i64 0]) (blk_put (cs := #[.int .i64 f.vs, .int .i64 f.va, .int .i64 f.vr, .bool false, .bool false, .bool false, .int .i64 0, .int .i64 0]) (blk_put (cs := #[.int .i64 f.vs, .int .i64 f.va, .int .i64 0, .bool false, .bool false, .bool false, .int .i64 0, .int .i64 0]) (blk_put (cs := #[.int .i64 f.vs, .int .i64 0, .int .i64 0, .bool false, .bool false, .bool false, .int .i64 0, .int .i64 0]) (blk_put (cs := #[.int .i64 0, .int .i64 0, .int .i64 0, .bool false, .bool false, .bool false, .int .i64 0, .int .i64 0]) r9.out 0 _ rfl) 1 _ rfl) 2 _ rfl) 3 _ rfl) 4 _ rfl) 5 _ rfl) 6 _ rfl) 7 _ rfl) Tryz.underlying47 rfl (by kernel_rfl)) rfl ?_
    exact ⟨rfl, (((((((((below_step HB2.out HV.out).setCell (p := ⟨w.heap.size, 0, none⟩) (Nat.le_refl _) _).setCell (p := ⟨w.heap.size, 1, none⟩) (Nat.le_refl _) _).setCell (p := ⟨w.heap.size, 2, none⟩) (Nat.le_refl _) _).setCell (p := ⟨w.heap.size, 3, none⟩) (Nat.le_refl _) _).setCell (p := ⟨w.heap.size, 4, none⟩) (Nat.le_refl _) _).setCell (p := ⟨w.heap.size, 5, none⟩) (Nat.le_refl _) _).setCell (p := ⟨w.heap.size, 6, none⟩) (Nat.le_refl _) _).setCell (p := ⟨w.heap.size, 7, none⟩) (Nat.le_refl _) _)⟩
end Go.Proofs.YtljnfbpplhnmfaaGreatDoor.Fl
namespace Go.Proofs.YtljnfbpplhnmfaaGreatDoor.Fl
open Go Go.RowKit Go.Proofs.YtljnfbpplhnmfaaGreatDoorW.PrintWords Go.Proofs.YtljnfbpplhnmfaaGreatDoorW.PrintLast Go.Proofs.YtljnfbpplhnmfaaGreatDoorW.PrintMore Go.Proofs.YtljnfbpplhnmfaaGreatDoor.Str Go.Proofs.YtljnfbpplhnmfaaGreatDoor.Mp Go.Proofs.YtljnfbpplhnmfaaGreatDoor.Ra Go.Proofs.YtljnfbpplhnmfaaGreatDoor.Sl Go.Proofs.YtljnfbpplhnmfaaGreatDoor.Qu Go.Proofs.YtljnfbpplhnmfaaGreatDoor.Sq Go.Proofs.YtljnfbpplhnmfaaGreatDoor.Md
set_option linter.unusedVariables false
theorem left_drewN {b qb : Nat} {f : F} {T : Nat → Prop} {w : World} (HW : Went (all (fparts b f qb)) T w w) (m : Nat) :
    Calls Tryz.prog 56 #[.pointer (some ⟨qb, 0, none⟩)] (w.drewN m) fun e w' => e = .returned (.int .i64 ((f.q.list.length : Int) - f.q.sent)) ∧ ∃ j, w' = (w.drewN m).drewN j := by
  obtain ⟨T1, h1⟩ := (HW.drewN m).get 2 rfl
  exact Qu.leftD qb f.q T1 _ h1
theorem win_take {f : F} (h : FOk f) (ht : takeOk f) : ((f.vs + 1) % 128 - f.va) % 128 = ((f.q.sent + 1 : Nat) : Int) := by
  obtain ⟨_, _, h3⟩ := ht
  have := h.win
  have := h.vs
  have := h.va
  unfold room at h3
  omega
set_option maxRecDepth 1000000 in
theorem takeC (b : Nat) (f : F) (T : Nat → Prop) (w : World) (h : (flAt b f).h T w) :
    Calls Tryz.prog 154 #[.pointer (some ⟨b, 0, none⟩)] w fun e w' => e = .returned (if takeOk f then .tuple #[.int .i64 f.vs, .string (takeS f), .bool true] else .tuple #[.int .i64 0, .string nil8, .bool false]) ∧ Went (flAt b (if takeOk f then takeF f else f)) T w w' := by
  obtain ⟨qb, HW, hok⟩ := flAt.opened h
  have HOK := Aside0.mk hok
  obtain ⟨⟨c0, c1, c2, c3, c4, c5, c6, c7⟩, f0, f1, f2, f3, f4, f5⟩ := cells8 (HW.heap 1 rfl)
  have HL : Aside0 (∀ m, Calls Tryz.prog 56 #[.pointer (some ⟨qb, 0, none⟩)] (w.drewN m) fun e w' => e = .returned (.int .i64 ((f.q.list.length : Int) - f.q.sent)) ∧ ∃ j, w' = (w.drewN m).drewN j) := ⟨left_drewN HW⟩
  have HR : Aside0 (∀ m, Calls Tryz.prog 170 #[.int .i64 f.va, .int .i64 f.vs, .int .i64 f.k] (w.drewN m) fun e w' => e = .returned (.int .i64 (room f.va f.vs f.k)) ∧ w' = w.drewN m) := ⟨fun m => (roomC f.va f.vs f.k (w.drewN m)).mono (fun e w' h => ⟨h.1, h.2.symm⟩)⟩
  obtain ⟨_, hq⟩ := HW.get 2 rfl
  obtain ⟨_, _, _, hqk, _⟩ := quAt.opened hq
  have hsl := hqk.sent
  have HH := Aside0.mk h
  have HW := Aside0.mk HW
  clear h hok hq hqk
  by_cases ht : takeOk f
  · rw [if_pos ht, if_pos ht]
    have HTO := Aside0.mk ht
    obtain ⟨hp, hs, hr⟩ := ht
    have h1 : ((f.q.list.length : Int) - f.q.sent == 0) = false := by rw [beq_eq_false_iff_ne]; omega
    have h2 : (room f.va f.vs f.k == 0) = false := by rw [beq_eq_false_iff_ne]; exact hr
    rw [hp] at c3
    obtain ⟨x, hx⟩ : ∃ x, takeS f = x := ⟨_, rfl⟩
    have HX := Aside0.mk hx
    rw [hx]
    have hs' := Aside0.mk hs
    clear hs hr hx
    go_enter Tryz.func154, Tryz.ntmps154
    go_wp2_with fail
    go_quiet (first | (go_at_call 56; refine Calls.quiet_of (HL.out _)) | (go_at_call 170; refine Calls.quiet_of_same (HR.out _)))
    have HW1 := Aside0.mk (HW.out.drewN nq)
    obtain ⟨⟨c0, c1, c2, c3, c4, c5, c6, c7⟩, f0, f1, f2, f3, f4, f5⟩ := cells8 (HW1.out.heap 1 rfl)
    generalize w.drewN nq = w1 at *
    have hc := HW1.out.call_at 2 rfl (fun T1 h1 => Qu.takeC qb f.q T1 _ h1)
    rw [if_pos hs'.out, if_pos hs'.out, decide_eq_true hs'.out, show f.q.list.getD f.q.sent ⟨#[]⟩ = x from HX.out] at hc
    have HC := Aside0.mk hc
    clear hc
    go_wp2_with fail
    refine HC.out.mono ?_
    rintro e w2 ⟨rfl, hw⟩
    have HW2 := Aside0.mk hw
    obtain ⟨⟨c0, c1, c2, c3, c4, c5, c6, c7⟩, f0, f1, f2, f3, f4, f5⟩ := cells8 (hw.heap 1 rfl)
    clear hw HC
    go_wp2_with fail
    refine (addC f.vs 1 w2).mono ?_
    rintro e w3 ⟨rfl, rfl⟩
    go_wp2
    go_ret3
    exact ⟨rfl, flAt.close (f := takeF f) (HW2.out.set 1 rfl 0 (.int .i64 ((f.vs + 1) % 128))) ⟨by show 0 ≤ (f.vs + 1) % 128 ∧ (f.vs + 1) % 128 < 128; omega, HOK.out.va, HOK.out.vr, by
      exact win_take HOK.out HTO.out⟩⟩
  · rw [if_neg ht, if_neg ht]
    cases hp : f.peer with
    | true =>
      rw [hp] at c3
      clear ht
      go_enter Tryz.func154, Tryz.ntmps154
      go_wp2_with fail
      go_quiet (fail)
      go_wp2
      go_ret3
      exact ⟨rfl, (Went.refl HH.out).drewN nq⟩
    | false =>
      rw [hp] at c3
      by_cases hs : f.q.sent < f.q.list.length
      · have hr : room f.va f.vs f.k = 0 := by
          by_cases hr : room f.va f.vs f.k = 0
          · exact hr
          · exact absurd ⟨hp, hs, hr⟩ ht
        have h1 : ((f.q.list.length : Int) - f.q.sent == 0) = false := by rw [beq_eq_false_iff_ne]; omega
        have h2 : (room f.va f.vs f.k == 0) = true := by rw [beq_iff_eq]; exact hr
        clear ht hs hr
        go_enter Tryz.func154, Tryz.ntmps154
        go_wp2_with fail
        go_quiet (first | (go_at_call 56; refine Calls.quiet_of (HL.out _)) | (go_at_call 170; refine Calls.quiet_of_same (HR.out _)))
        go_wp2
        go_ret3
        exact ⟨rfl, (Went.refl HH.out).drewN nq⟩
      · have h1 : ((f.q.list.length : Int) - f.q.sent == 0) = true := by rw [beq_iff_eq]; omega
        clear ht hs
        go_enter Tryz.func154, Tryz.ntmps154
        go_wp2_with fail
        go_quiet ((go_at_call 56; refine Calls.quiet_of (HL.out _)))
        go_wp2
        go_ret3
        exact ⟨rfl, (Went.refl HH.out).drewN nq⟩
set_option maxRecDepth 1000000 in
theorem newC (k : Int) (w : World) :
    Calls Tryz.prog 76 #[.int .i64 k, .int .i64 256] w fun e w' => ∃ b, e = .returned (.pointer (some ⟨b, 0, none⟩)) ∧ Went (flAt b ⟨0, 0, 0, false, false, false, k, ⟨256, [], 0⟩⟩) (fun _ => False) w w' := by
  go_enter Tryz.func76, Tryz.ntmps76
  go_wp2_with fail
  refine (Qu.newC w).mono ?_
  rintro e w1 ⟨rfl, hw⟩
  have HW := Aside0.mk hw
  clear hw
  go_wp2
  go_ret
  have h1 : Went (all [quAt w.heap.size ⟨256, [], 0⟩]) (fun _ => False) w w1 := HW.out.imp fun T1 h1 => ⟨T1, fun _ => False, h1, ⟨fun _ h => h, trivial⟩, fun _ _ h => h, fun k => by simp⟩
  exact ⟨_, rfl, flAt.close (f := ⟨0, 0, 0, false, false, false, k, ⟨256, [], 0⟩⟩) ((h1.new (.cells (fcells ⟨0, 0, 0, false, false, false, k, ⟨256, [], 0⟩⟩ w.heap.size) 139 (0, 0))).know (p := True) trivial) ⟨⟨Int.le_refl 0, (by decide : (0 : Int) < 128)⟩, ⟨Int.le_refl 0, (by decide : (0 : Int) < 128)⟩, ⟨Int.le_refl 0, (by decide : (0 : Int) < 128)⟩, rfl⟩⟩
end Go.Proofs.YtljnfbpplhnmfaaGreatDoor.Fl
namespace Go.Proofs.YtljnfbpplhnmfaaGreatDoor.Ru
open Go Go.RowKit Go.Maps Go.Proofs.YtljnfbpplhnmfaaGreatDoorW.PrintWords Go.Proofs.YtljnfbpplhnmfaaGreatDoorW.PrintLast Go.Proofs.YtljnfbpplhnmfaaGreatDoorW.PrintMore Go.Proofs.YtljnfbpplhnmfaaGreatDoor.Mp Go.Proofs.YtljnfbpplhnmfaaGreatDoor.Ra Go.Proofs.YtljnfbpplhnmfaaGreatDoor.Sl
set_option linter.unusedVariables false
theorem keyI : Maps.Keyed Tryz.prog 3 := Maps.int_keyed Tryz.underlying3
theorem zeroB (w : World) : (zeroValue 4).run Tryz.prog w = .ok (.bool false) w := by kernel_rfl
open Classical in
noncomputable def tf (a c : Option Bool) (l : Lit) : Option Value := if l = .int .i64 200 then a.map .bool else if l = .int .i64 203 then c.map .bool else none
theorem ne_key : (Lit.int .i64 203) ≠ Lit.int .i64 200 := by intro h; injection h with _ h; exact absurd h (by decide)
theorem tf_200 (a c : Option Bool) : tf a c (.int .i64 200) = a.map .bool := by unfold tf; rw [if_pos rfl]
theorem tf_203 (a c : Option Bool) : tf a c (.int .i64 203) = c.map .bool := by unfold tf; rw [if_neg ne_key, if_pos rfl]
theorem upd_200 (a c : Option Bool) (v : Bool) : upd (tf a c) (.int .i64 200) (some (.bool v)) = tf (some v) c := by
  funext l
  by_cases h : l = .int .i64 200
  · rw [h, upd_same, tf_200]; rfl
  · rw [upd_other h]; unfold tf; rw [if_neg h, if_neg h]
theorem upd_203 (a c : Option Bool) (v : Bool) : upd (tf a c) (.int .i64 203) (some (.bool v)) = tf a (some v) := by
  funext l
  by_cases h : l = .int .i64 203
  · rw [h, upd_same, tf_203]; rfl
  · rw [upd_other h]; unfold tf; rw [if_neg h, if_neg h]
theorem few (A B : Lit) : ∀ (es : List (Lit × DataW Value)), es.Pairwise (fun p q => p.1 ≠ q.1) → (∀ p ∈ es, p.1 = A ∨ p.1 = B) → es.length ≤ 2
  | [], _, _ => Nat.zero_le _
  | [_], _, _ => by simp
  | [_, _], _, _ => by simp
  | x :: y :: z :: r, hp, h => by
    exfalso
    rw [List.pairwise_cons, List.pairwise_cons] at hp
    have h1 := hp.1 y (by simp)
    have h2 := hp.1 z (by simp)
    have h3 := hp.2.1 z (by simp)
    have a := h x (by simp)
    have b := h y (by simp)
    have c := h z (by simp)
    rcases a with a | a <;> rcases b with b | b <;> rcases c with c | c <;> simp_all
theorem map_small {w : World} {b n : Nat} {a c : Option Bool} (h : MapAt Tryz.prog 3 w b n (tf a c)) : MapAt Tryz.prog 3 w b 2 (tf a c) := by
  obtain ⟨D, hD, h2⟩ := h
  obtain ⟨es, rfl, hpw, hk⟩ := hD.entries keyI
  have hlen := few (.int .i64 200) (.int .i64 203) es hpw (fun p hp => by
    have h3 := (h2 p.1 (hk p hp)).1
    have h4 : has (DataW.map es) p.1 = true := List.any_eq_true.2 ⟨p, hp, WideAt.sameKey_self (hk p hp)⟩
    rw [h4] at h3
    unfold tf at h3
    split at h3
    · rename_i e; exact Or.inl e
    · split at h3
      · rename_i e; exact Or.inr e
      · cases h3)
  obtain ⟨es0, clock, hb, F, hs, hDe⟩ := hD
  have e1 : Maps.size (DataW.map es) = es0.size := by rw [hDe]; simp [Maps.size, length_sorted]
  have e2 : Maps.size (DataW.map es) = es.length := rfl
  exact ⟨.map es, ⟨es0, clock, hb, F, by omega, hDe⟩, h2⟩
theorem key200 : keyOf Tryz.prog 3 (.int .i64 200) = some (.int .i64 200) := by kernel_rfl
theorem key203 : keyOf Tryz.prog 3 (.int .i64 203) = some (.int .i64 203) := by kernel_rfl
noncomputable def runsAt (mb : Nat) (x y : Bool) : SP := ex fun p : Option Bool × Option Bool => all [fact (p.1.getD false = x ∧ p.2.getD false = y), map_ Tryz.prog 3 mb 2 (tf p.1 p.2)]
theorem runsAt.opened {mb : Nat} {x y : Bool} {T : Nat → Prop} {w : World} (h : (runsAt mb x y).h T w) : ∃ a c : Option Bool, a.getD false = x ∧ c.getD false = y ∧ MapAt Tryz.prog 3 w mb 2 (tf a c) ∧ ∀ j, T j ↔ j = mb := by
  obtain ⟨⟨a, c⟩, T1, T2, h1, ⟨T3, T4, h3, h4, d2, e2⟩, d1, e1⟩ := h
  refine ⟨a, c, h1.2.1, h1.2.2, h3.2, fun j => ?_⟩
  rw [e1, e2, h3.1]
  constructor
  · rintro (q | q | q)
    · exact (h1.1 j q).elim
    · exact q
    · exact (h4.1 j q).elim
  · exact fun q => Or.inr (Or.inl q)
theorem runsAt.mk {mb : Nat} {x y : Bool} {T : Nat → Prop} {w : World} {a c : Option Bool} (ha : a.getD false = x) (hc : c.getD false = y) (h : MapAt Tryz.prog 3 w mb 2 (tf a c)) (hT : ∀ j, T j ↔ j = mb) : (runsAt mb x y).h T w :=
  ⟨(a, c), fun _ => False, T, ⟨fun _ h => h, ha, hc⟩, ⟨T, fun _ => False, ⟨hT, h⟩, ⟨fun _ h => h, trivial⟩, fun _ _ h => h, fun k => by simp⟩, fun _ h => h.elim, fun k => by simp⟩
theorem look200 {mb : Nat} {x y : Bool} {T : Nat → Prop} {w : World} (h : (runsAt mb x y).h T w) : (Instr.lookup 63 (.map (some mb)) (.int .i64 200) false).run Tryz.prog w = .ok (.bool x) w := by
  obtain ⟨a, c, rfl, rfl, hm, _⟩ := runsAt.opened h
  rw [MapAt.look keyI Tryz.underlying63 (zeroB w) hm (kl := .int .i64 200) key200, tf_200]
  cases a <;> rfl
theorem look203 {mb : Nat} {x y : Bool} {T : Nat → Prop} {w : World} (h : (runsAt mb x y).h T w) : (Instr.lookup 63 (.map (some mb)) (.int .i64 203) false).run Tryz.prog w = .ok (.bool y) w := by
  obtain ⟨a, c, rfl, rfl, hm, _⟩ := runsAt.opened h
  rw [MapAt.look keyI Tryz.underlying63 (zeroB w) hm (kl := .int .i64 203) key203, tf_203]
  cases c <;> rfl
theorem store200 {mb : Nat} {x y : Bool} {T : Nat → Prop} {w : World} (h : (runsAt mb x y).h T w) (v : Bool) : ∃ w', (Instr.mapUpdate 63 (.map (some mb)) (.int .i64 200) (.bool v)).run Tryz.prog w = .ok () w' ∧ Went (runsAt mb v y) T w w' := by
  obtain ⟨a, c, rfl, rfl, hm, hT⟩ := runsAt.opened h
  obtain ⟨w', hrun, h1, h2, h3⟩ := store_law keyI Tryz.underlying63 hm (by unfold maxLen; omega) (key := .int .i64 200) (val := .bool v) (kl := .int .i64 200) key200
  rw [upd_200] at h1
  refine ⟨w', hrun, T, runsAt.mk (a := some v) rfl rfl (map_small h1) hT, (Kb.refl T w).grown h2 (fun k hk _ => ?_), fun _ h => Or.inl h⟩
  injection hk with hk
  exact (hT k).2 hk.symm
theorem store203 {mb : Nat} {x y : Bool} {T : Nat → Prop} {w : World} (h : (runsAt mb x y).h T w) (v : Bool) : ∃ w', (Instr.mapUpdate 63 (.map (some mb)) (.int .i64 203) (.bool v)).run Tryz.prog w = .ok () w' ∧ Went (runsAt mb x v) T w w' := by
  obtain ⟨a, c, rfl, rfl, hm, hT⟩ := runsAt.opened h
  obtain ⟨w', hrun, h1, h2, h3⟩ := store_law keyI Tryz.underlying63 hm (by unfold maxLen; omega) (key := .int .i64 203) (val := .bool v) (kl := .int .i64 203) key203
  rw [upd_203] at h1
  refine ⟨w', hrun, T, runsAt.mk (c := some v) rfl rfl (map_small h1) hT, (Kb.refl T w).grown h2 (fun k hk _ => ?_), fun _ h => Or.inl h⟩
  injection hk with hk
  exact (hT k).2 hk.symm
theorem runs_new {L : List SP} {T : Nat → Prop} {w w1 : World} (h : Went (all L) T w w1) : Went (all (runsAt w1.heap.size false false :: L)) T w (w1.alloc (.map #[] 0)) := by
  refine (h.newmap Tryz.prog 3).at_ 0 rfl (B := runsAt w1.heap.size false false) fun T1 h1 => Went.refl (runsAt.mk (a := none) (c := none) rfl rfl ?_ h1.1)
  refine (h1.2.mono (Nat.zero_le 2)).congr fun kl _ => ?_
  unfold tf
  split
  · rfl
  · split <;> rfl
end Go.Proofs.YtljnfbpplhnmfaaGreatDoor.Ru
