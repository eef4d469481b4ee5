/- hdlc's decoder by its text: flag. Words on what a call leaves as it was. -/
import Derived.Test.YtolodlnndojaiaaDoorOctW
import Derived.Test.YtolodlnndojaiaaDoorHdlc
import Derived.Maps.AppendAt
import Derived.Handy
import Derived.Laws.ResultCell
import Derived.Laws.Rows
import Derived.WalkKit
import Derived.BigCall
namespace Go.Proofs.YtolodlnndojaiaaDoor.Hd
open Go.RowKit Go.Proofs.YtolodlnndojaiaaDoorW.PrintWords Go.Proofs.YtolodlnndojaiaaDoorW.PrintLast Go.Proofs.YtolodlnndojaiaaDoorW.PrintMore Go.Proofs.YtolodlnndojaiaaDoor.Str Go.Proofs.YtolodlnndojaiaaDoor.Bits Go.Proofs.YtolodlnndojaiaaDoor.Oct Go.Proofs.YtolodlnndojaiaaDoor.OctW
set_option linter.unusedVariables false

/-- Of the blocks that were there all but those of T are as they were. -/
structure Kb (T : Nat → Prop) (w w' : World) : Prop where
  os : w'.os = w.os
  tape : w'.tape = w.tape
  output : w'.output = w.output
  size : w.heap.size ≤ w'.heap.size
  block : ∀ k, k < w.heap.size → ¬ T k → w'.heap[k]? = w.heap[k]?
theorem Kb.refl (T : Nat → Prop) (w : World) : Kb T w w := ⟨rfl, rfl, rfl, Nat.le_refl _, fun _ _ _ => rfl⟩
theorem Kb.trans {T T' : Nat → Prop} {a b c : World} (h : Kb T a b) (k : Kb T' b c) (hT : ∀ j, j < a.heap.size → T' j → T j) : Kb T a c :=
  ⟨k.os.trans h.os, k.tape.trans h.tape, k.output.trans h.output, Nat.le_trans h.size k.size, fun i hi hn => (k.block i (Nat.lt_of_lt_of_le hi h.size) (fun t => hn (hT i hi t))).trans (h.block i hi hn)⟩
theorem Kb.mono {T T' : Nat → Prop} {w w' : World} (h : Kb T w w') (hT : ∀ k, T k → T' k) : Kb T' w w' := ⟨h.os, h.tape, h.output, h.size, fun k hk hn => h.block k hk (fun t => hn (hT k t))⟩
theorem Kb.alloc {T : Nat → Prop} {a w : World} (h : Kb T a w) (o : Obj) : Kb T a (w.alloc o) :=
  h.trans (T' := fun _ => False) ⟨rfl, rfl, rfl, by simp, fun k hk _ => Below.heap_alloc _ _ _ hk⟩ (fun _ _ h => h.elim)
theorem Kb.drew {T : Nat → Prop} {a w : World} (h : Kb T a w) : Kb T a w.drew := ⟨h.os, h.tape, h.output, h.size, h.block⟩
theorem Kb.drewN {T : Nat → Prop} {a w : World} (h : Kb T a w) (n : Nat) : Kb T a (w.drewN n) := by
  have hb := pw_below_drewN (Below.refl w.heap.size w) n
  exact h.trans (T' := fun _ => False) ⟨hb.os, hb.tape, hb.output, hb.size, fun k hk _ => hb.block k hk⟩ (fun _ _ h => h.elim)
theorem Kb.setCell {T : Nat → Prop} {a w : World} (h : Kb T a w) {p : Addr} (hp : p.block < a.heap.size → T p.block) (u : Value) : Kb T a (w.setCell p u) :=
  h.trans (T' := fun j => j = p.block) ⟨rfl, rfl, rfl, by simp [World.setCell], fun k _ hk => Below.heap_setCell _ _ _ _ hk⟩ (fun j hj e => by subst e; exact hp hj)
theorem Kb.grown {T : Nat → Prop} {a w w' : World} {row : Option Nat} (h : Kb T a w) (hg : w.grownBy w' row) (hr : ∀ k, row = some k → k < a.heap.size → T k) : Kb T a w' :=
  h.trans (T' := fun j => row = some j) ⟨hg.os, hg.tape, hg.output, hg.size, fun k hk hn => hg.block k hk (fun e => hn e.symm)⟩ (fun j hj e => hr j e hj)
theorem Kb.ofBelow {T : Nat → Prop} {a w w' : World} (h : Kb T a w) (hb : Below w.heap.size w w') : Kb T a w' :=
  h.trans (T' := fun _ => False) ⟨hb.os, hb.tape, hb.output, hb.size, fun k hk _ => hb.block k hk⟩ (fun _ _ h => h.elim)
theorem Kb.below {T : Nat → Prop} {w w' : World} {B : Nat} (h : Kb T w w') (hB : B ≤ w.heap.size) (hT : ∀ k, T k → B ≤ k) : Below B w w' :=
  ⟨h.os, h.tape, h.output, h.size, fun k hk => h.block k (by omega) (fun t => by have := hT k t; omega)⟩
theorem Kb.cell {T : Nat → Prop} {w w' : World} (h : Kb T w w') {p : Addr} (hl : p.block < w.heap.size) (hn : ¬ T p.block) : w'.cell? p = w.cell? p := World.cell?_of_block (w := w) (h.block p.block hl hn)
theorem Kb.row {T : Nat → Prop} {w w' : World} (h : Kb T w w') {B : Nat} {e : TypeId} {z n : Nat} {v : Value} {xs : List Value} (ho : w.ownsRow B e z v n xs) (hn : ∀ j, v.ownBlock = some j → ¬ T j) : w'.ownsRow B e z v n xs := by
  obtain ⟨h1, h2⟩ := ho
  refine ⟨h1, ?_⟩
  rcases h2 with h2 | ⟨g, cap, cur, rfl, hg, hh, r⟩
  · exact Or.inl h2
  · exact Or.inr ⟨g, cap, cur, rfl, hg, by rw [h.block g (Array.getElem?_eq_some_iff.1 hh).1 (hn g rfl)]; exact hh, r⟩
theorem own_ne {w : World} {B d z n : Nat} {e T : TypeId} {v : Value} {xs : List Value} {cs : Array Value} {m : Nat × Nat} (ho : w.ownsRow B e z v n xs) (h : w.heap[d]? = some (.cells cs T m)) (hne : T ≠ e) (j : Nat) (hj : v.ownBlock = some j) : j ≠ d := by
  rcases ho.2 with ⟨rfl, _⟩ | ⟨g, cap, cur, rfl, _, hh, _⟩
  · cases hj
  · rintro rfl
    obtain rfl : g = j := by simpa [Value.ownBlock] using hj
    rw [hh] at h
    injection h with h
    injection h with _ h2 _
    exact hne h2.symm
/-- A decoder lies in block d: its content's slice is v; it is in state s. -/
def DecAt (B : Nat) (w : World) (d : Nat) (v : Value) (s : St) : Prop :=
  w.heap[d]? = some (.cells #[v, .bool s.within, .int .i64 (s.ones : Int)] 55 (0, 0)) ∧ w.ownsRow B 5 1 v s.c.length (cellsOf s.c)
theorem DecAt.lt {B : Nat} {w : World} {d : Nat} {v : Value} {s : St} (h : DecAt B w d v s) : d < w.heap.size := (Array.getElem?_eq_some_iff.1 h.1).1
def evV (e : Ev) : Value := .agg #[.int .i64 e.1, .string ⟨e.2.toArray⟩]
theorem own_shape8 {w : World} {base : Nat} {e : TypeId} {v : Value} {l : List UInt8} (h : w.ownsRow base e 1 v l.length (cellsOf l)) : ∃ A c, v = .slice A l.length c ∧ l.length ≤ c := by
  rcases h.2 with ⟨rfl, h1⟩ | ⟨g, cap, cur, rfl, _, _, h2, _⟩
  · have : l = [] := List.eq_nil_of_length_eq_zero h1
    subst this
    exact ⟨none, 0, rfl, Nat.le_refl _⟩
  · exact ⟨_, _, rfl, h2⟩
theorem own_take8 {w : World} {base : Nat} {e : TypeId} {A : Option Addr} {n c : Nat} {l : List UInt8} (h : w.ownsRow base e 1 (.slice A n c) n (cellsOf l)) (k : Nat) (hk : k ≤ n) : w.ownsRow base e 1 (.slice A k c) (l.take k).length (cellsOf (l.take k)) := by
  obtain ⟨h1, h2⟩ := h
  rw [cellsOf_length] at h1
  have hl : (l.take k).length = k := by rw [List.length_take]; omega
  rw [hl]
  refine ⟨by rw [cellsOf_length, hl]; omega, ?_⟩
  rcases h2 with ⟨e1, e2⟩ | ⟨g, cap, cur, e1, hg, hh, h3, h4, h5, h6⟩
  · injection e1 with e3 e4 e5
    subst e3; subst e5
    exact Or.inl ⟨by congr 1; omega, by omega⟩
  · injection e1 with e3 e4 e5
    subst e3; subst e5
    refine Or.inr ⟨g, c, cur, rfl, hg, hh, by omega, h4, h5, ?_⟩
    have e : cellsOf (l.take k) = (cellsOf l).take k := by simp [cellsOf, List.map_take]
    rw [e, ← h6, List.take_take]
    congr 1
    omega
theorem heap_set {w : World} {d : Nat} {a b c : Value} {T : TypeId} {m : Nat × Nat} (h : w.heap[d]? = some (.cells #[a, b, c] T m)) (v : Value) :
    (w.setCell ⟨d, 0, none⟩ v).heap[d]? = some (.cells #[v, b, c] T m) ∧ (w.setCell ⟨d, 1, none⟩ v).heap[d]? = some (.cells #[a, v, c] T m) ∧ (w.setCell ⟨d, 2, none⟩ v).heap[d]? = some (.cells #[a, b, v] T m) := by
  simp [World.setCell, Array.getElem?_modify, h]
theorem heap_al {w : World} {d : Nat} {o : Obj} (h : w.heap[d]? = some o) (o' : Obj) : (w.alloc o').heap[d]? = some o := (Below.heap_alloc _ _ _ (Array.getElem?_eq_some_iff.1 h).1).trans h
theorem heap_set2 {w : World} {d : Nat} {a b : Value} {T : TypeId} {m : Nat × Nat} (h : w.heap[d]? = some (.cells #[a, b] T m)) (v u : Value) :
    ((w.setCell ⟨d, 0, none⟩ v).setCell ⟨d, 1, none⟩ u).heap[d]? = some (.cells #[v, u] T m) := by
  simp [World.setCell, Array.getElem?_modify, h]
theorem ret_cell_tmp {P : Program} {fn : Func} {p u : Tmp} {ty : TypeId} (h : fn.results = #[.cell p ty, .tmp u]) (tmps : Array Value) (w : World) (g : Nat) (t : TypeId) (cs : Array Value) (fr : Nat × Nat) (d : TypeDesc)
    (hp : tmps.getD p undef = .pointer (some ⟨g, 0, none⟩)) (hg : w.heap[g]? = some (.cells cs t fr))
    (hu : P.underlying ty = some d) (hd : (match d with | .struct _ | .array _ _ => true | _ => false) = true) (hi : (P.info? ty).map (·.size) = some cs.size) :
    (results fn tmps).run P w = .ok (.tuple #[.agg cs, tmps.getD u undef]) w := by
  rw [results_cell_tmp h, hp]
  simp [asAddr, Result.andThen, run_loadVar_row w g t ty cs fr d hg hu hd hi]
set_option maxHeartbeats 4000000 in
set_option maxRecDepth 1000000 in
theorem flag (B d : Nat) (v : Value) (s : St) (w : World) (h : DecAt B w d v s) (hok : s.ok) :
    Calls Tryd.prog 36 #[.pointer (some ⟨d, 0, none⟩)] w fun e w' => e = .returned (.tuple #[evV ((flagS s.c s.within).getD (0, [])), .bool (flagS s.c s.within).isSome]) ∧ (w'.heap[d]? = some (.cells #[.slice none 0 0, .bool true, .int .i64 (s.ones : Int)] 55 (0, 0)) ∧ Kb (fun j => j = d) w w') := by
  have hd := h.lt
  obtain ⟨cl, wi, on⟩ := s
  obtain ⟨hh, ho⟩ := h
  replace hh : w.heap[d]? = some (.cells #[v, .bool wi, .int .i64 (on : Int)] 55 (0, 0)) := hh
  replace ho : w.ownsRow B 5 1 v cl.length (cellsOf cl) := ho
  replace hok : cl.length ≤ 2135 := hok
  obtain ⟨A, c, rfl, hc⟩ := own_shape8 ho
  show Calls _ _ _ _ fun e w' => e = .returned (.tuple #[evV ((flagS cl wi).getD (0, [])), .bool (flagS cl wi).isSome]) ∧ (w'.heap[d]? = some (.cells #[.slice none 0 0, .bool true, .int .i64 (on : Int)] 55 (0, 0)) ∧ Kb (fun j => j = d) w w')
  have c0 : w.cell? ⟨d, 0, none⟩ = some (.slice A cl.length c) := by rw [Lib.cell_of_heap hh]; rfl
  have c1 : w.cell? ⟨d, 1, none⟩ = some (.bool wi) := by rw [Lib.cell_of_heap hh]; rfl
  have f0 := Lib.frozen_of_heap hh 0
  have f1 := Lib.frozen_of_heap hh 1
  have HH := Aside0.mk hh
  have HO := Aside0.mk ho
  clear hh ho
  obtain ⟨wf, hwf⟩ : ∃ wf, wf = (w.setCell ⟨d, 0, none⟩ (.slice none 0 0)).setCell ⟨d, 1, none⟩ (.bool true) := ⟨_, rfl⟩
  have hfin : wf.heap[d]? = some (.cells #[.slice none 0 0, .bool true, .int .i64 (on : Int)] 55 (0, 0)) ∧ Kb (fun j => j = d) w wf := by
    subst hwf
    exact ⟨(heap_set (heap_set HH.out _).1 _).2.1, ((Kb.refl (fun j => j = d) w).setCell (p := ⟨d, 0, none⟩) (fun _ => rfl) _).setCell (p := ⟨d, 1, none⟩) (fun _ => rfl) _⟩
  have HF := Aside0.mk hfin
  have HW := Aside0.mk hwf.symm
  clear hfin hwf
  by_cases hno : wi = false ∨ cl.length ≤ 6
  · have hfl : flagS cl wi = none := by unfold flagS; rw [if_pos hno]
    rw [hfl]
    cases wi with
    | false =>
      go_enter Tryd.func36, Tryd.ntmps36
      go_wp2
      go_returns
      rw [HW.out]
      exact ⟨rfl, heap_al HF.out.1 _, HF.out.2.alloc _⟩
    | true =>
      have h6 : cl.length ≤ 6 := by simpa using hno
      go_enter Tryd.func36, Tryd.ntmps36
      go_wp2
      go_returns
      rw [HW.out]
      exact ⟨rfl, heap_al HF.out.1 _, HF.out.2.alloc _⟩
  · obtain rfl : wi = true := by cases wi <;> simp at hno ⊢
    have h6 : 6 < cl.length := by simpa using hno
    clear hno
    have hs0 : ¬ ((cl.length : Int) - 5 - 1 ≤ 0) := by omega
    have hs1 : (cl.length : Int) - 5 - 1 ≤ (c : Int) := by omega
    by_cases hbad : cl.length - 6 > 2128 ∨ (cl.length - 6) % 8 ≠ 0
    · have hfl : flagS cl true = some (2, []) := by unfold flagS; rw [if_neg (by simp; omega), if_pos hbad]
      rw [hfl]
      by_cases hb1 : 2128 < (cl.length : Int) - 5 - 1
      · clear hbad
        go_enter Tryd.func36, Tryd.ntmps36
        go_wp2
        go_returns
        rw [HW.out]
        exact ⟨rfl, heap_al HF.out.1 _, HF.out.2.alloc _⟩
      · have hb2 : ¬ (((cl.length : Int) - 5 - 1) % 8 = 0) := by omega
        clear hbad
        go_enter Tryd.func36, Tryd.ntmps36
        go_wp2
        go_returns
        rw [HW.out]
        exact ⟨rfl, heap_al HF.out.1 _, HF.out.2.alloc _⟩
    · have hfl : flagS cl true = some (0, (octR (cl.take (cl.length - 5 - 1))).1) := by unfold flagS; rw [if_neg (by simp; omega), if_neg hbad]; rfl
      have HFL := Aside0.mk hfl
      have hb1 : ¬ 2128 < (cl.length : Int) - 5 - 1 := by omega
      have hb2 : ((cl.length : Int) - 5 - 1) % 8 = 0 := by omega
      have hO2 := own_take8 HO.out (cl.length - 5 - 1) (by omega)
      rw [cellsOf_nums] at hO2
      have hcv := own_string (P := Tryd.prog) Tryd.underlying22 Tryd.underlying5 Tryd.underlying9 ((HF.out.2.alloc (.cells #[.int .i64 0, .string ⟨#[]⟩] 31)).row hO2 (own_ne hO2 HH.out (by decide)))
      rw [nums_of] at hcv
      have hsz : (⟨(cl.take (cl.length - 5 - 1)).toArray⟩ : ByteArray).size ≤ 140737488351232 := by rw [size_L, L_mk, List.length_take]; omega
      have HSZ := Aside0.mk hsz
      clear hbad hfl hO2 hsz
      rw [← HW.out] at hcv
      go_enter Tryd.func36, Tryd.ntmps36
      go_wp2_with fail
      rw [HW.out]
      have hws : wf.heap.size = w.heap.size := by rw [← HW.out]; simp [World.setCell]
      have hnew := Go.heap_alloc_new wf (.cells #[.int .i64 0, .string ⟨#[]⟩] 31)
      rw [hws] at hnew
      refine (OctW.walk _ _ HSZ.out).mono ?_
      rintro e w1 ⟨rfl, hb⟩
      have hk1 := (HF.out.2.alloc (.cells #[.int .i64 0, .string ⟨#[]⟩] 31)).ofBelow hb
      have hd1 := heap_al HF.out.1 (.cells #[.int .i64 0, .string ⟨#[]⟩] 31)
      rw [← hb.block d (Array.getElem?_eq_some_iff.1 hd1).1] at hd1
      rw [← hb.block _ (Array.getElem?_eq_some_iff.1 hnew).1] at hnew
      clear hb hcv
      have e0 : w1.cell? ⟨w.heap.size, 0, none⟩ = some (.int .i64 0) := by rw [Lib.cell_of_heap hnew]; rfl
      have e1 : w1.cell? ⟨w.heap.size, 1, none⟩ = some (.string ⟨#[]⟩) := by rw [Lib.cell_of_heap hnew]; rfl
      have f2 := Lib.frozen_of_heap hnew 0
      have f3 := Lib.frozen_of_heap hnew 1
      have HD1 := Aside0.mk hd1
      have HK1 := Aside0.mk hk1
      clear hd1 hk1
      rw [L_mk]
      go_wp2
      have hEV := Aside0.mk (heap_set2 hnew (.int .i64 0) (.string ⟨(octR (List.take (cl.length - 5 - 1) cl)).1.toArray⟩))
      clear hnew
      try simp only [Exit.inBlock, Exit.then]
      refine bodyPost_ret (ret_cell_tmp rfl _ _ _ _ _ _ _ rfl hEV.out Tryd.underlying31 rfl (by kernel_rfl)) rfl ?_
      rw [HFL.out]
      have hne : w.heap.size ≠ d := by omega
      refine ⟨rfl, ?_, (HK1.out.setCell (p := ⟨w.heap.size, 0, none⟩) (fun h => absurd h (Nat.lt_irrefl _)) _).setCell (p := ⟨w.heap.size, 1, none⟩) (fun h => absurd h (Nat.lt_irrefl _)) _⟩
      rw [Below.heap_setCell _ _ _ _ (fun e => hne e.symm), Below.heap_setCell _ _ _ _ (fun e => hne e.symm)]
      exact HD1.out
end Go.Proofs.YtolodlnndojaiaaDoor.Hd
