/- hdlc's decoder by its text: flag. Words on what a call leaves as it was. hdlc's decoder by its text: bit. strings.Builder's copyCheck and WriteByte at this dump, over the kit's words on a builder of the call's own: a byte more stands in it. No condition but Go's own limit on the length. -/
import Derived.Maps.AppendAt
import Derived.Handy
import Derived.Laws.ResultCell
import Derived.Laws.Rows
import Derived.WalkKit
import Derived.BigCall
import Derived.Test.YtljnfbpplhnmfaaGreatDoorProg
import Derived.Shelf.Strings.BuilderK
import Derived.Laws.Externs
import Derived.Test.YtljnfbpplhnmfaaGreatDoorUs24
namespace Go.Proofs.YtljnfbpplhnmfaaGreatDoor.Hd
open Go.RowKit Go.Proofs.YtljnfbpplhnmfaaGreatDoorW.PrintWords Go.Proofs.YtljnfbpplhnmfaaGreatDoorW.PrintLast Go.Proofs.YtljnfbpplhnmfaaGreatDoorW.PrintMore Go.Proofs.YtljnfbpplhnmfaaGreatDoor.Str Go.Proofs.YtljnfbpplhnmfaaGreatDoor.Bits Go.Proofs.YtljnfbpplhnmfaaGreatDoor.Oct Go.Proofs.YtljnfbpplhnmfaaGreatDoor.OctW
set_option linter.unusedVariables false
structure Kb (T : Nat → Prop) (w w' : World) : Prop where
  os : w'.os = w.os
  tape : w'.tape = w.tape
  output : w'.output = w.output
  size : w.heap.size ≤ w'.heap.size
  block : ∀ k, k < w.heap.size → ¬ T k → w'.heap[k]? = w.heap[k]?
theorem Kb.refl (T : Nat → Prop) (w : World) : Kb T w w := ⟨rfl, rfl, rfl, Nat.le_refl _, fun _ _ _ => rfl⟩
theorem Kb.trans {T T' : Nat → Prop} {a b c : World} (h : Kb T a b) (k : Kb T' b c) (hT : ∀ j, j < a.heap.size → T' j → T j) : Kb T a c :=
  ⟨k.os.trans h.os, k.tape.trans h.tape, k.output.trans h.output, Nat.le_trans h.size k.size, fun i hi hn => (k.block i (Nat.lt_of_lt_of_le hi h.size) (fun t => hn (hT i hi t))).trans (h.block i hi hn)⟩
theorem Kb.mono {T T' : Nat → Prop} {w w' : World} (h : Kb T w w') (hT : ∀ k, T k → T' k) : Kb T' w w' := ⟨h.os, h.tape, h.output, h.size, fun k hk hn => h.block k hk (fun t => hn (hT k t))⟩
theorem Kb.alloc {T : Nat → Prop} {a w : World} (h : Kb T a w) (o : Obj) : Kb T a (w.alloc o) :=
  h.trans (T' := fun _ => False) ⟨rfl, rfl, rfl, by simp, fun k hk _ => Below.heap_alloc _ _ _ hk⟩ (fun _ _ h => h.elim)
theorem Kb.setCell {T : Nat → Prop} {a w : World} (h : Kb T a w) {p : Addr} (hp : p.block < a.heap.size → T p.block) (u : Value) : Kb T a (w.setCell p u) :=
  h.trans (T' := fun j => j = p.block) ⟨rfl, rfl, rfl, by simp [World.setCell], fun k _ hk => Below.heap_setCell _ _ _ _ hk⟩ (fun j hj e => by subst e; exact hp hj)
theorem Kb.grown {T : Nat → Prop} {a w w' : World} {row : Option Nat} (h : Kb T a w) (hg : w.grownBy w' row) (hr : ∀ k, row = some k → k < a.heap.size → T k) : Kb T a w' :=
  h.trans (T' := fun j => row = some j) ⟨hg.os, hg.tape, hg.output, hg.size, fun k hk hn => hg.block k hk (fun e => hn e.symm)⟩ (fun j hj e => hr j e hj)
theorem Kb.ofBelow {T : Nat → Prop} {a w w' : World} (h : Kb T a w) (hb : Below w.heap.size w w') : Kb T a w' :=
  h.trans (T' := fun _ => False) ⟨hb.os, hb.tape, hb.output, hb.size, fun k hk _ => hb.block k hk⟩ (fun _ _ h => h.elim)
theorem Kb.below {T : Nat → Prop} {w w' : World} {B : Nat} (h : Kb T w w') (hB : B ≤ w.heap.size) (hT : ∀ k, T k → B ≤ k) : Below B w w' :=
  ⟨h.os, h.tape, h.output, h.size, fun k hk => h.block k (by omega) (fun t => by have := hT k t; omega)⟩
theorem Kb.row {T : Nat → Prop} {w w' : World} (h : Kb T w w') {B : Nat} {e : TypeId} {z n : Nat} {v : Value} {xs : List Value} (ho : w.ownsRow B e z v n xs) (hn : ∀ j, v.ownBlock = some j → ¬ T j) : w'.ownsRow B e z v n xs := by
  obtain ⟨h1, h2⟩ := ho
  refine ⟨h1, ?_⟩
  rcases h2 with h2 | ⟨g, cap, cur, rfl, hg, hh, r⟩
  · exact Or.inl h2
  · exact Or.inr ⟨g, cap, cur, rfl, hg, by rw [h.block g (Array.getElem?_eq_some_iff.1 hh).1 (hn g rfl)]; exact hh, r⟩
theorem own_ne {w : World} {B d z n : Nat} {e T : TypeId} {v : Value} {xs : List Value} {cs : Array Value} {m : Nat × Nat} (ho : w.ownsRow B e z v n xs) (h : w.heap[d]? = some (.cells cs T m)) (hne : T ≠ e) (j : Nat) (hj : v.ownBlock = some j) : j ≠ d := by
  rcases ho.2 with ⟨rfl, _⟩ | ⟨g, cap, cur, rfl, _, hh, _⟩
  · cases hj
  · rintro rfl
    obtain rfl : g = j := by simpa [Value.ownBlock] using hj
    rw [hh] at h
    injection h with h
    injection h with _ h2 _
    exact hne h2.symm
def DecAt (B : Nat) (w : World) (d : Nat) (v : Value) (s : St) : Prop :=
  w.heap[d]? = some (.cells #[v, .bool s.within, .int .i64 (s.ones : Int)] 199 (0, 0)) ∧ w.ownsRow B 5 1 v s.c.length (cellsOf s.c)
theorem DecAt.lt {B : Nat} {w : World} {d : Nat} {v : Value} {s : St} (h : DecAt B w d v s) : d < w.heap.size := (Array.getElem?_eq_some_iff.1 h.1).1
def evV (e : Ev) : Value := .agg #[.int .i64 e.1, .string ⟨e.2.toArray⟩]
theorem own_shape8 {w : World} {base : Nat} {e : TypeId} {v : Value} {l : List UInt8} (h : w.ownsRow base e 1 v l.length (cellsOf l)) : ∃ A c, v = .slice A l.length c ∧ l.length ≤ c := by
  rcases h.2 with ⟨rfl, h1⟩ | ⟨g, cap, cur, rfl, _, _, h2, _⟩
  · have : l = [] := List.eq_nil_of_length_eq_zero h1
    subst this
    exact ⟨none, 0, rfl, Nat.le_refl _⟩
  · exact ⟨_, _, rfl, h2⟩
theorem own_take8 {w : World} {base : Nat} {e : TypeId} {A : Option Addr} {n c : Nat} {l : List UInt8} (h : w.ownsRow base e 1 (.slice A n c) n (cellsOf l)) (k : Nat) (hk : k ≤ n) : w.ownsRow base e 1 (.slice A k c) (l.take k).length (cellsOf (l.take k)) := by
  obtain ⟨h1, h2⟩ := h
  rw [cellsOf_length] at h1
  have hl : (l.take k).length = k := by rw [List.length_take]; omega
  rw [hl]
  refine ⟨by rw [cellsOf_length, hl]; omega, ?_⟩
  rcases h2 with ⟨e1, e2⟩ | ⟨g, cap, cur, e1, hg, hh, h3, h4, h5, h6⟩
  · injection e1 with e3 e4 e5
    subst e3; subst e5
    exact Or.inl ⟨by congr 1; omega, by omega⟩
  · injection e1 with e3 e4 e5
    subst e3; subst e5
    refine Or.inr ⟨g, c, cur, rfl, hg, hh, by omega, h4, h5, ?_⟩
    have e : cellsOf (l.take k) = (cellsOf l).take k := by simp [cellsOf, List.map_take]
    rw [e, ← h6, List.take_take]
    congr 1
    omega
theorem heap_set {w : World} {d : Nat} {a b c : Value} {T : TypeId} {m : Nat × Nat} (h : w.heap[d]? = some (.cells #[a, b, c] T m)) (v : Value) :
    (w.setCell ⟨d, 0, none⟩ v).heap[d]? = some (.cells #[v, b, c] T m) ∧ (w.setCell ⟨d, 1, none⟩ v).heap[d]? = some (.cells #[a, v, c] T m) ∧ (w.setCell ⟨d, 2, none⟩ v).heap[d]? = some (.cells #[a, b, v] T m) := by
  simp [World.setCell, Array.getElem?_modify, h]
theorem heap_al {w : World} {d : Nat} {o : Obj} (h : w.heap[d]? = some o) (o' : Obj) : (w.alloc o').heap[d]? = some o := (Below.heap_alloc _ _ _ (Array.getElem?_eq_some_iff.1 h).1).trans h
theorem heap_set2 {w : World} {d : Nat} {a b : Value} {T : TypeId} {m : Nat × Nat} (h : w.heap[d]? = some (.cells #[a, b] T m)) (v u : Value) :
    ((w.setCell ⟨d, 0, none⟩ v).setCell ⟨d, 1, none⟩ u).heap[d]? = some (.cells #[v, u] T m) := by
  simp [World.setCell, Array.getElem?_modify, h]
theorem ret_cell_tmp {P : Program} {fn : Func} {p u : Tmp} {ty : TypeId} (h : fn.results = #[.cell p ty, .tmp u]) (tmps : Array Value) (w : World) (g : Nat) (t : TypeId) (cs : Array Value) (fr : Nat × Nat) (d : TypeDesc)
    (hp : tmps.getD p undef = .pointer (some ⟨g, 0, none⟩)) (hg : w.heap[g]? = some (.cells cs t fr))
    (hu : P.underlying ty = some d) (hd : (match d with | .struct _ | .array _ _ => true | _ => false) = true) (hi : (P.info? ty).map (·.size) = some cs.size) :
    (results fn tmps).run P w = .ok (.tuple #[.agg cs, tmps.getD u undef]) w := by
  rw [results_cell_tmp h, hp]
  simp [asAddr, Result.andThen, run_loadVar_row w g t ty cs fr d hg hu hd hi]
set_option maxHeartbeats 4000000 in
set_option maxRecDepth 1000000 in
theorem flag (B d : Nat) (v : Value) (s : St) (w : World) (h : DecAt B w d v s) (hok : s.ok) :
    Calls Tryz.prog 136 #[.pointer (some ⟨d, 0, none⟩)] w fun e w' => e = .returned (.tuple #[evV ((flagS s.c s.within).getD (0, [])), .bool (flagS s.c s.within).isSome]) ∧ (w'.heap[d]? = some (.cells #[.slice none 0 0, .bool true, .int .i64 (s.ones : Int)] 199 (0, 0)) ∧ Kb (fun j => j = d) w w') := by
  have hd := h.lt
  obtain ⟨cl, wi, on⟩ := s
  obtain ⟨hh, ho⟩ := h
  replace hh : w.heap[d]? = some (.cells #[v, .bool wi, .int .i64 (on : Int)] 199 (0, 0)) := hh
  replace ho : w.ownsRow B 5 1 v cl.length (cellsOf cl) := ho
  replace hok : cl.length ≤ 2135 := hok
  obtain ⟨A, c, rfl, hc⟩ := own_shape8 ho
  show Calls _ _ _ _ fun e w' => e = .returned (.tuple #[evV ((flagS cl wi).getD (0, [])), .bool (flagS cl wi).isSome]) ∧ (w'.heap[d]? = some (.cells #[.slice none 0 0, .bool true, .int .i64 (on : Int)] 199 (0, 0)) ∧ Kb (fun j => j = d) w w')
  have c0 : w.cell? ⟨d, 0, none⟩ = some (.slice A cl.length c) := by rw [Lib.cell_of_heap hh]; rfl
  have c1 : w.cell? ⟨d, 1, none⟩ = some (.bool wi) := by rw [Lib.cell_of_heap hh]; rfl
  have f0 := Lib.frozen_of_heap hh 0
  have f1 := Lib.frozen_of_heap hh 1
  have HH := Aside0.mk hh
  have HO := Aside0.mk ho
  clear hh ho
  obtain ⟨wf, hwf⟩ : ∃ wf, wf = (w.setCell ⟨d, 0, none⟩ (.slice none 0 0)).setCell ⟨d, 1, none⟩ (.bool true) := ⟨_, rfl⟩
  have hfin : wf.heap[d]? = some (.cells #[.slice none 0 0, .bool true, .int .i64 (on : Int)] 199 (0, 0)) ∧ Kb (fun j => j = d) w wf := by
    subst hwf
    exact ⟨(heap_set (heap_set HH.out _).1 _).2.1, ((Kb.refl (fun j => j = d) w).setCell (p := ⟨d, 0, none⟩) (fun _ => rfl) _).setCell (p := ⟨d, 1, none⟩) (fun _ => rfl) _⟩
  have HF := Aside0.mk hfin
  have HW := Aside0.mk hwf.symm
  clear hfin hwf
  by_cases hno : wi = false ∨ cl.length ≤ 6
  · have hfl : flagS cl wi = none := by unfold flagS; rw [if_pos hno]
    rw [hfl]
    cases wi with
    | false =>
      go_enter Tryz.func136, Tryz.ntmps136
      go_wp2
      go_returns
      rw [HW.out]
      exact ⟨rfl, heap_al HF.out.1 _, HF.out.2.alloc _⟩
    | true =>
      have h6 : cl.length ≤ 6 := by simpa using hno
      go_enter Tryz.func136, Tryz.ntmps136
      go_wp2
      go_returns
      rw [HW.out]
      exact ⟨rfl, heap_al HF.out.1 _, HF.out.2.alloc _⟩
  · obtain rfl : wi = true := by cases wi <;> simp at hno ⊢
    have h6 : 6 < cl.length := by simpa using hno
    clear hno
    have hs0 : ¬ ((cl.length : Int) - 5 - 1 ≤ 0) := by omega
    have hs1 : (cl.length : Int) - 5 - 1 ≤ (c : Int) := by omega
    by_cases hbad : cl.length - 6 > 2128 ∨ (cl.length - 6) % 8 ≠ 0
    · have hfl : flagS cl true = some (2, []) := by unfold flagS; rw [if_neg (by simp; omega), if_pos hbad]
      rw [hfl]
      by_cases hb1 : 2128 < (cl.length : Int) - 5 - 1
      · clear hbad
        go_enter Tryz.func136, Tryz.ntmps136
        go_wp2
        go_returns
        rw [HW.out]
        exact ⟨rfl, heap_al HF.out.1 _, HF.out.2.alloc _⟩
      · have hb2 : ¬ (((cl.length : Int) - 5 - 1) % 8 = 0) := by omega
        clear hbad
        go_enter Tryz.func136, Tryz.ntmps136
        go_wp2
        go_returns
        rw [HW.out]
        exact ⟨rfl, heap_al HF.out.1 _, HF.out.2.alloc _⟩
    · have hfl : flagS cl true = some (0, (octR (cl.take (cl.length - 5 - 1))).1) := by unfold flagS; rw [if_neg (by simp; omega), if_neg hbad]; rfl
      have HFL := Aside0.mk hfl
      have hb1 : ¬ 2128 < (cl.length : Int) - 5 - 1 := by omega
      have hb2 : ((cl.length : Int) - 5 - 1) % 8 = 0 := by omega
      have hO2 := own_take8 HO.out (cl.length - 5 - 1) (by omega)
      rw [cellsOf_nums] at hO2
      have hcv := own_string (P := Tryz.prog) Tryz.underlying181 Tryz.underlying5 Tryz.underlying9 ((HF.out.2.alloc (.cells #[.int .i64 0, .string ⟨#[]⟩] 160)).row hO2 (own_ne hO2 HH.out (by decide)))
      rw [nums_of] at hcv
      have hsz : (⟨(cl.take (cl.length - 5 - 1)).toArray⟩ : ByteArray).size ≤ 140737488351232 := by rw [size_L, L_mk, List.length_take]; omega
      have HSZ := Aside0.mk hsz
      clear hbad hfl hO2 hsz
      rw [← HW.out] at hcv
      go_enter Tryz.func136, Tryz.ntmps136
      go_wp2_with fail
      rw [HW.out]
      have hws : wf.heap.size = w.heap.size := by rw [← HW.out]; simp [World.setCell]
      have hnew := Go.heap_alloc_new wf (.cells #[.int .i64 0, .string ⟨#[]⟩] 160)
      rw [hws] at hnew
      refine (OctW.walk _ _ HSZ.out).mono ?_
      rintro e w1 ⟨rfl, hb⟩
      have hk1 := (HF.out.2.alloc (.cells #[.int .i64 0, .string ⟨#[]⟩] 160)).ofBelow hb
      have hd1 := heap_al HF.out.1 (.cells #[.int .i64 0, .string ⟨#[]⟩] 160)
      rw [← hb.block d (Array.getElem?_eq_some_iff.1 hd1).1] at hd1
      rw [← hb.block _ (Array.getElem?_eq_some_iff.1 hnew).1] at hnew
      clear hb hcv
      have e0 : w1.cell? ⟨w.heap.size, 0, none⟩ = some (.int .i64 0) := by rw [Lib.cell_of_heap hnew]; rfl
      have e1 : w1.cell? ⟨w.heap.size, 1, none⟩ = some (.string ⟨#[]⟩) := by rw [Lib.cell_of_heap hnew]; rfl
      have f2 := Lib.frozen_of_heap hnew 0
      have f3 := Lib.frozen_of_heap hnew 1
      have HD1 := Aside0.mk hd1
      have HK1 := Aside0.mk hk1
      clear hd1 hk1
      rw [L_mk]
      go_wp2
      have hEV := Aside0.mk (heap_set2 hnew (.int .i64 0) (.string ⟨(octR (List.take (cl.length - 5 - 1) cl)).1.toArray⟩))
      clear hnew
      try simp only [Exit.inBlock, Exit.then]
      refine bodyPost_ret (ret_cell_tmp rfl _ _ _ _ _ _ _ rfl hEV.out Tryz.underlying160 rfl (by kernel_rfl)) rfl ?_
      rw [HFL.out]
      have hne : w.heap.size ≠ d := by omega
      refine ⟨rfl, ?_, (HK1.out.setCell (p := ⟨w.heap.size, 0, none⟩) (fun h => absurd h (Nat.lt_irrefl _)) _).setCell (p := ⟨w.heap.size, 1, none⟩) (fun h => absurd h (Nat.lt_irrefl _)) _⟩
      rw [Below.heap_setCell _ _ _ _ (fun e => hne e.symm), Below.heap_setCell _ _ _ _ (fun e => hne e.symm)]
      exact HD1.out
end Go.Proofs.YtljnfbpplhnmfaaGreatDoor.Hd
namespace Go.Proofs.YtljnfbpplhnmfaaGreatDoor.Hd
open Go.RowKit Go.Proofs.YtljnfbpplhnmfaaGreatDoorW.PrintWords Go.Proofs.YtljnfbpplhnmfaaGreatDoorW.PrintLast Go.Proofs.YtljnfbpplhnmfaaGreatDoorW.PrintMore Go.Proofs.YtljnfbpplhnmfaaGreatDoor.Str Go.Proofs.YtljnfbpplhnmfaaGreatDoor.Bits Go.Proofs.YtljnfbpplhnmfaaGreatDoor.Oct Go.Proofs.YtljnfbpplhnmfaaGreatDoor.OctW
set_option linter.unusedVariables false
def Went (B d : Nat) (v : Value) (s' : St) (w w' : World) : Prop :=
  ∃ v', DecAt B w' d v' s' ∧ (∀ j, v'.ownBlock = some j → v.ownBlock = some j ∨ w.heap.size ≤ j) ∧ Kb (fun j => j = d ∨ v.ownBlock = some j) w w'
def Did (B d : Nat) (v : Value) (q : St × Option Ev) (w : World) (e : Ending) (w' : World) : Prop :=
  e = .returned (.tuple #[evV (q.2.getD (0, [])), .bool q.2.isSome]) ∧ Went B d v q.1 w w'
theorem no_row (w : World) (B : Nat) (e : TypeId) : w.ownsRow B e 1 (.slice none 0 0) 0 [] := World.ownsRow_nil _ _ _ _
theorem went_same {B d : Nat} {v : Value} {cl : List UInt8} {wi : Bool} {on : Int} {w : World} (m : Int) (m' : Nat) (hh : w.heap[d]? = some (.cells #[v, .bool wi, .int .i64 on] 199 (0, 0))) (ho : w.ownsRow B 5 1 v cl.length (cellsOf cl)) (hm : m = (m' : Int)) (o : Obj) :
    Went B d v ⟨cl, wi, m'⟩ w ((w.setCell ⟨d, 2, none⟩ (.int .i64 m)).alloc o) := by
  subst hm
  have hk : Kb (fun j => j = d) w ((w.setCell ⟨d, 2, none⟩ (.int .i64 (m' : Int))).alloc o) := ((Kb.refl (fun j => j = d) w).setCell (p := ⟨d, 2, none⟩) (fun _ => rfl) _).alloc _
  exact ⟨_, ⟨heap_al (heap_set hh _).2.2 _, hk.row ho (own_ne ho hh (by decide))⟩, fun j hj => Or.inl hj, hk.mono fun _ h => Or.inl h⟩
theorem went_abort {B d : Nat} {v : Value} {wi : Bool} {on : Int} {w : World} (m : Int) (m' : Nat) (hh : w.heap[d]? = some (.cells #[v, .bool wi, .int .i64 on] 199 (0, 0))) (hm : m = (m' : Int)) (o : Obj) :
    Went B d v ⟨[], false, m'⟩ w ((((w.setCell ⟨d, 2, none⟩ (.int .i64 m)).setCell ⟨d, 0, none⟩ (.slice none 0 0)).setCell ⟨d, 1, none⟩ (.bool false)).alloc o) := by
  subst hm
  have hk : Kb (fun j => j = d) w ((((w.setCell ⟨d, 2, none⟩ (.int .i64 (m' : Int))).setCell ⟨d, 0, none⟩ (.slice none 0 0)).setCell ⟨d, 1, none⟩ (.bool false)).alloc o) := ((((Kb.refl (fun j => j = d) w).setCell (p := ⟨d, 2, none⟩) (fun _ => rfl) _).setCell (p := ⟨d, 0, none⟩) (fun _ => rfl) _).setCell (p := ⟨d, 1, none⟩) (fun _ => rfl) _).alloc _
  exact ⟨_, ⟨heap_al (heap_set (heap_set (heap_set hh _).2.2 _).1 _).2.1 _, no_row _ _ _⟩, (fun j (hj : (none : Option Nat) = some j) => by cases hj), hk.mono fun _ h => Or.inl h⟩
theorem setCell_size (w : World) (p : Addr) (v : Value) : (w.setCell p v).heap.size = w.heap.size := by simp [World.setCell]
theorem did_end {B d : Nat} {v : Value} {q : St × Option Ev} {w w' : World} {tmps : Array Value} {g : Nat} {k : Int} {s : ByteArray} {b : Bool} (hp : tmps.getD 4 undef = .pointer (some ⟨g, 0, none⟩)) (hg : w'.heap[g]? = some (.cells #[.int .i64 k, .string s] 160 (0, 0))) (hb : tmps.getD 5 undef = .bool b)
    (hq : evV (q.2.getD (0, [])) = .agg #[.int .i64 k, .string s] ∧ q.2.isSome = b) (hw : Went B d v q.1 w w') :
    bodyPost Tryz.prog Tryz.f99 (fun e w' => Did B d v q w e w') Exit.ret ⟨tmps, []⟩ w' := by
  refine bodyPost_ret (ret_cell_tmp rfl _ _ _ _ _ _ _ hp hg Tryz.underlying160 rfl (by kernel_rfl)) rfl ?_
  refine ⟨?_, hw⟩
  show Ending.returned (.tuple #[.agg #[.int .i64 k, .string s], tmps.getD 5 undef]) = _
  rw [hb, hq.1, hq.2]
theorem went_push {B d on : Nat} {v v' : Value} {cl : List UInt8} {w w1 : World} (m : Int) (m' : Nat) (x : UInt8) (hh : w.heap[d]? = some (.cells #[v, .bool true, .int .i64 (on : Int)] 199 (0, 0))) (ho : w.ownsRow B 5 1 v cl.length (cellsOf cl)) (hm : m = (m' : Int))
    (hown : w1.ownsRow B 5 1 v' (cl.length + 1) (cellsOf cl ++ [.int .u8 (x.toNat : Int)])) (hg : (((w.setCell ⟨d, 2, none⟩ (.int .i64 m)).alloc (.cells #[.int .i64 0, .string ⟨#[]⟩] 160)).alloc (.cells #[.int .u8 (x.toNat : Int)] 5)).grownBy w1 v.ownBlock)
    (hat : v'.ownBlock = v.ownBlock ∨ v'.ownBlock = some (w.heap.size + 2)) :
    w1.heap[d]? = some (.cells #[v, .bool true, .int .i64 m] 199 (0, 0)) ∧ w1.heap[w.heap.size]? = some (.cells #[.int .i64 0, .string ⟨#[]⟩] 160 (0, 0)) ∧ (w1.setCell ⟨d, 0, none⟩ v').heap[w.heap.size]? = some (.cells #[.int .i64 0, .string ⟨#[]⟩] 160 (0, 0)) ∧
      Went B d v ⟨cl ++ [x], true, m'⟩ w (w1.setCell ⟨d, 0, none⟩ v') := by
  subst hm
  have hd : d < w.heap.size := (Array.getElem?_eq_some_iff.1 hh).1
  have hne := own_ne ho hh (by decide)
  have hk0 : Kb (fun j => j = d) w (w.setCell ⟨d, 2, none⟩ (.int .i64 (m' : Int))) := (Kb.refl (fun j => j = d) w).setCell (p := ⟨d, 2, none⟩) (fun _ => rfl) _
  have hk1 : Kb (fun j => j = d ∨ v.ownBlock = some j) w w1 := (((hk0.mono fun _ h => Or.inl h).alloc _).alloc _).grown hg (fun k hk _ => Or.inr hk)
  have h1 := (heap_set hh (.int .i64 (m' : Int))).2.2
  have hd1 : w1.heap[d]? = some (.cells #[v, .bool true, .int .i64 (m' : Int)] 199 (0, 0)) := by
    have h2 := heap_al (heap_al h1 (.cells #[.int .i64 0, .string ⟨#[]⟩] 160)) (.cells #[.int .u8 (x.toNat : Int)] 5)
    rw [hg.block d (Array.getElem?_eq_some_iff.1 h2).1 (fun e => hne d e.symm rfl)]
    exact h2
  have he1 : w1.heap[w.heap.size]? = some (.cells #[.int .i64 0, .string ⟨#[]⟩] 160 (0, 0)) := by
    have h2 := Go.heap_alloc_new (w.setCell ⟨d, 2, none⟩ (.int .i64 (m' : Int))) (.cells #[.int .i64 0, .string ⟨#[]⟩] 160)
    rw [setCell_size] at h2
    have h3 := heap_al h2 (.cells #[.int .u8 (x.toNat : Int)] 5)
    rw [hg.block _ (Array.getElem?_eq_some_iff.1 h3).1 (fun e => by have := (ho.lt _ e.symm).2; omega)]
    exact h3
  refine ⟨hd1, he1, ?_, v', ⟨(heap_set hd1 _).1, ?_⟩, ?_, hk1.setCell (p := ⟨d, 0, none⟩) (fun _ => Or.inl rfl) _⟩
  · rw [Below.heap_setCell _ _ _ _ (by show w.heap.size ≠ d; omega)]
    exact he1
  · have hk2 : Kb (fun j => j = d) w1 (w1.setCell ⟨d, 0, none⟩ v') := (Kb.refl (fun j => j = d) w1).setCell (p := ⟨d, 0, none⟩) (fun _ => rfl) _
    have hn := own_ne hown hd1 (by decide)
    have h3 := hk2.row hown hn
    show (w1.setCell ⟨d, 0, none⟩ v').ownsRow B 5 1 v' (cl ++ [x]).length (cellsOf (cl ++ [x]))
    rw [List.length_append, show cellsOf (cl ++ [x]) = cellsOf cl ++ [.int .u8 (x.toNat : Int)] from by simp [cellsOf]]
    exact h3
  · intro j hj
    rcases hat with h | h
    · exact Or.inl (h ▸ hj)
    · rw [h] at hj
      injection hj with hj
      exact Or.inr (by omega)
theorem went_event {B d g : Nat} {v : Value} {s' : St} {w w' : World} {a b : Value} (h : Went B d v s' w w') (hg : w'.heap[g]? = some (.cells #[a, b] 160 (0, 0))) (hge : w.heap.size ≤ g) (hd : d < w.heap.size) (x y : Value) :
    Went B d v s' w ((w'.setCell ⟨g, 0, none⟩ x).setCell ⟨g, 1, none⟩ y) := by
  obtain ⟨v', ⟨h1, h2⟩, h3, h4⟩ := h
  have hk : Kb (fun j => j = g) w' ((w'.setCell ⟨g, 0, none⟩ x).setCell ⟨g, 1, none⟩ y) := ((Kb.refl (fun j => j = g) w').setCell (p := ⟨g, 0, none⟩) (fun _ => rfl) _).setCell (p := ⟨g, 1, none⟩) (fun _ => rfl) _
  refine ⟨v', ⟨?_, hk.row h2 (own_ne h2 hg (by decide))⟩, h3, h4.trans hk (fun j hj e => by omega)⟩
  rw [hk.block d (Array.getElem?_eq_some_iff.1 h1).1 (by omega)]
  exact h1
theorem own_some {w : World} {base n : Nat} {e : TypeId} {v : Value} {xs : List Value} (h : w.ownsRow base e 1 v (n + 1) xs) : ∃ g c, v = .slice (some ⟨g, 0, none⟩) (n + 1) c := by
  rcases h.2 with ⟨_, h1⟩ | ⟨g, cap, cur, rfl, _⟩
  · omega
  · exact ⟨g, cap, rfl⟩
theorem step_push (cl : List UInt8) (wi : Bool) (on : Nat) (h : ¬ (on + 1 = 7 ∧ wi = true)) (hn : ¬ (wi = true ∧ on + 1 ≤ 5 ∧ cl.length ≤ 2134)) : stepS ⟨cl, wi, on⟩ 49 = (⟨cl, wi, on + 1⟩, none) := by
  unfold stepS
  rw [if_pos rfl, if_neg h]
  unfold push
  rw [if_neg hn]
set_option maxHeartbeats 4000000 in
set_option maxRecDepth 1000000 in
theorem bit_one (B d : Nat) (v : Value) (s : St) (w : World) (h : DecAt B w d v s) (hB : B ≤ w.heap.size) (hok : s.ok) (hon : s.ones ≤ 4611686018427387904) :
    Calls Tryz.prog 99 #[.pointer (some ⟨d, 0, none⟩), .int .u8 49] w fun e w' => Did B d v (stepS s 49) w e w' := by
  have hd := h.lt
  obtain ⟨cl, wi, on⟩ := s
  obtain ⟨hh, ho⟩ := h
  replace hh : w.heap[d]? = some (.cells #[v, .bool wi, .int .i64 (on : Int)] 199 (0, 0)) := hh
  replace ho : w.ownsRow B 5 1 v cl.length (cellsOf cl) := ho
  replace hok : cl.length ≤ 2135 := hok
  replace hon : on ≤ 4611686018427387904 := hon
  obtain ⟨A, c, rfl, hc⟩ := own_shape8 ho
  have c0 : w.cell? ⟨d, 0, none⟩ = some (.slice A cl.length c) := by rw [Lib.cell_of_heap hh]; rfl
  have c1 : w.cell? ⟨d, 1, none⟩ = some (.bool wi) := by rw [Lib.cell_of_heap hh]; rfl
  have c2 : w.cell? ⟨d, 2, none⟩ = some (.int .i64 (on : Int)) := by rw [Lib.cell_of_heap hh]; rfl
  have f0 := Lib.frozen_of_heap hh 0
  have f1 := Lib.frozen_of_heap hh 1
  have f2 := Lib.frozen_of_heap hh 2
  have HH := Aside0.mk hh
  have HO := Aside0.mk ho
  clear hh ho
  by_cases h7 : on + 1 = 7 ∧ wi = true
  · obtain ⟨h7, rfl⟩ := h7
    have h7' : (on : Int) + 1 = 7 := by omega
    have HA := fun o => Aside0.mk (went_abort (v := .slice A cl.length c) (B := B) 7 (on + 1) HH.out (by omega) o)
    have e : stepS ⟨cl, true, on⟩ 49 = (⟨[], false, on + 1⟩, some (1, [])) := by unfold stepS; rw [if_pos rfl, if_pos ⟨h7, rfl⟩]
    rw [e]
    go_enter Tryz.func99, Tryz.ntmps99
    go_wp2
    exact did_end (g := w.heap.size) rfl (by rw [← setCell_size w ⟨d, 2, none⟩ (.int .i64 7), ← setCell_size _ ⟨d, 0, none⟩ (.slice none 0 0), ← setCell_size _ ⟨d, 1, none⟩ (.bool false)]; exact Go.heap_alloc_new _ _) rfl ⟨rfl, rfl⟩ (HA _).out
  · by_cases hp : wi = true ∧ on + 1 ≤ 5 ∧ cl.length ≤ 2134
    · obtain ⟨rfl, h5, hl⟩ := hp
      have e : stepS ⟨cl, true, on⟩ 49 = (⟨cl ++ [49], true, on + 1⟩, none) := by
        unfold stepS
        rw [if_pos rfl, if_neg h7]
        unfold push
        rw [if_pos ⟨rfl, h5, hl⟩]
      rw [e]
      have h6 : ¬ ((on : Int) + 1 = 7) := by omega
      have hOa := ((((Kb.refl (fun j => j = d) w).setCell (p := ⟨d, 2, none⟩) (fun _ => rfl) (.int .i64 ((on : Int) + 1))).alloc (.cells #[.int .i64 0, .string ⟨#[]⟩] 160)).alloc (.cells #[.int .u8 49] 5)).row HO.out (own_ne HO.out HH.out (by decide))
      have HOA := Aside0.mk hOa
      clear h7 hOa
      obtain ⟨i0, hi, hz0, hz1, hz2⟩ := info_parts infoByte
      go_enter Tryz.func99, Tryz.ntmps99
      go_wp2_with (at_builtin; refine wpList_append_own_at _ rfl _ _ 181 rfl B 5 i0 (.int .u8 0) 1 1 Tryz.underlying181 hi hz0 hz1 hz2 rfl (by decide) _ _ _ rfl HOA.out ⟨w.heap.size + 1, 0, none⟩ 1 1 [.int .u8 49] rfl rfl ?c1 ?c2 ?c3 ?c4 ?c5 ?_)
      case c1 => have := cell_one_new ((w.setCell ⟨d, 2, none⟩ (.int .i64 ((on : Int) + 1))).alloc (.cells #[.int .i64 0, .string ⟨#[]⟩] 160)) (.int .u8 49) 5; first | simpa using this | simpa [setCell_size] using this
      case c2 => first | rfl | (intro u hu; simp at hu; subst hu; rfl)
      case c3 => unfold maxLen; omega
      case c4 => omega
      case c5 => first | omega | (simp; omega)
      intro v' w1 hown' hgrow _ hat
      replace hat : v'.ownBlock = (Value.slice A cl.length c).ownBlock ∨ v'.ownBlock = some (w.heap.size + 2) := hat
      obtain ⟨hd1, he1, he2, hWent⟩ := went_push (x := 49) ((on : Int) + 1) (on + 1) HH.out HO.out (by omega) hown' hgrow hat
      obtain ⟨g, cp, rfl⟩ := own_some hown'
      have e0 : w1.cell? ⟨d, 0, none⟩ = some (.slice A cl.length c) := by rw [Lib.cell_of_heap hd1]; rfl
      have ff0 := Lib.frozen_of_heap hd1 0
      have e1 : w1.cell? ⟨w.heap.size, 0, none⟩ = some (.int .i64 0) := by rw [Lib.cell_of_heap he1]; rfl
      have e2 : w1.cell? ⟨w.heap.size, 1, none⟩ = some (.string ⟨#[]⟩) := by rw [Lib.cell_of_heap he1]; rfl
      have ff1 := Lib.frozen_of_heap he1 0
      have ff2 := Lib.frozen_of_heap he1 1
      have HE2 := Aside0.mk he2
      have HWE := Aside0.mk hWent
      clear hd1 he1 he2 hWent hown' hgrow hat
      go_wp2
      exact did_end rfl (heap_set2 HE2.out _ _) rfl ⟨rfl, rfl⟩ (went_event HWE.out HE2.out (Nat.le_refl _) hd _ _)
    · rw [step_push cl wi on h7 hp]
      have HWS := fun m hm o => Aside0.mk (went_same m (on + 1) HH.out HO.out hm o)
      have HN := fun (m : Int) => Go.heap_alloc_new (w.setCell ⟨d, 2, none⟩ (.int .i64 m)) (.cells #[.int .i64 0, .string ⟨#[]⟩] 160)
      simp only [setCell_size] at HN
      have HN' := Aside0.mk HN
      clear HN
      cases wi with
      | false =>
        go_enter Tryz.func99, Tryz.ntmps99
        go_wp2
        · exact did_end rfl (HN'.out _) rfl ⟨rfl, rfl⟩ (HWS _ (by omega) _).out
        · exact did_end rfl (HN'.out _) rfl ⟨rfl, rfl⟩ (HWS _ (by omega) _).out
      | true =>
        have hp' : on + 1 ≤ 5 → ¬ cl.length ≤ 2134 := by simpa using hp
        have h6 : ¬ ((on : Int) + 1 = 7) := fun h => h7 ⟨by omega, rfl⟩
        clear hp h7
        by_cases h5 : (on : Int) + 1 ≤ 5
        · have hl : ¬ ((cl.length : Int) ≤ 2134) := by have := hp' (by omega); omega
          clear hp'
          go_enter Tryz.func99, Tryz.ntmps99
          go_wp2
          exact did_end rfl (HN'.out _) rfl ⟨rfl, rfl⟩ (HWS _ (by omega) _).out
        · clear hp'
          go_enter Tryz.func99, Tryz.ntmps99
          go_wp2
          exact did_end rfl (HN'.out _) rfl ⟨rfl, rfl⟩ (HWS _ (by omega) _).out
set_option maxHeartbeats 4000000 in
set_option maxRecDepth 1000000 in
theorem bit_zero (B d : Nat) (v : Value) (s : St) (w : World) (h : DecAt B w d v s) (hB : B ≤ w.heap.size) (hok : s.ok) (hon : s.ones ≤ 4611686018427387904) :
    Calls Tryz.prog 99 #[.pointer (some ⟨d, 0, none⟩), .int .u8 48] w fun e w' => Did B d v (stepS s 48) w e w' := by
  have hd := h.lt
  obtain ⟨cl, wi, on⟩ := s
  obtain ⟨hh, ho⟩ := h
  replace hh : w.heap[d]? = some (.cells #[v, .bool wi, .int .i64 (on : Int)] 199 (0, 0)) := hh
  replace ho : w.ownsRow B 5 1 v cl.length (cellsOf cl) := ho
  replace hok : cl.length ≤ 2135 := hok
  replace hon : on ≤ 4611686018427387904 := hon
  obtain ⟨A, c, rfl, hc⟩ := own_shape8 ho
  have c0 : w.cell? ⟨d, 0, none⟩ = some (.slice A cl.length c) := by rw [Lib.cell_of_heap hh]; rfl
  have c1 : w.cell? ⟨d, 1, none⟩ = some (.bool wi) := by rw [Lib.cell_of_heap hh]; rfl
  have c2 : w.cell? ⟨d, 2, none⟩ = some (.int .i64 (on : Int)) := by rw [Lib.cell_of_heap hh]; rfl
  have f0 := Lib.frozen_of_heap hh 0
  have f1 := Lib.frozen_of_heap hh 1
  have f2 := Lib.frozen_of_heap hh 2
  have HH := Aside0.mk hh
  have HO := Aside0.mk ho
  clear hh ho
  by_cases h5 : on ≥ 5
  · by_cases h6 : on = 6
    · subst h6
      have e : stepS ⟨cl, wi, 6⟩ 48 = (⟨[], true, 0⟩, flagS cl wi) := by unfold stepS; rw [if_neg (by decide), if_pos (by simp), if_pos rfl]
      rw [e]
      have hDec : DecAt B ((w.setCell ⟨d, 2, none⟩ (.int .i64 0)).alloc (.cells #[.int .i64 0, .string ⟨#[]⟩] 160)) d (.slice A cl.length c) ⟨cl, wi, 0⟩ := by
        obtain ⟨v', h1, _, h3⟩ := went_same 0 0 HH.out HO.out rfl (.cells #[.int .i64 0, .string ⟨#[]⟩] 160)
        have hk : Kb (fun j => j = d) w ((w.setCell ⟨d, 2, none⟩ (.int .i64 0)).alloc (.cells #[.int .i64 0, .string ⟨#[]⟩] 160)) := ((Kb.refl (fun j => j = d) w).setCell (p := ⟨d, 2, none⟩) (fun _ => rfl) _).alloc _
        exact ⟨heap_al (heap_set HH.out _).2.2 _, hk.row HO.out (own_ne HO.out HH.out (by decide))⟩
      have HDEC := Aside0.mk hDec
      clear hDec h5
      obtain ⟨⟨k, l⟩, HQ⟩ : ∃ q : Ev, Aside0 ((flagS cl wi).getD (0, []) = q) := ⟨_, ⟨rfl⟩⟩
      obtain ⟨bb, HBB⟩ : ∃ b : Bool, Aside0 ((flagS cl wi).isSome = b) := ⟨_, ⟨rfl⟩⟩
      go_enter Tryz.func99, Tryz.ntmps99
      go_wp2_with fail
      refine (flag B d _ _ _ HDEC.out hok).mono ?_
      rintro e w1 ⟨he, hd1, hk⟩
      rw [show flagS (St.mk cl wi 0).c (St.mk cl wi 0).within = flagS cl wi from rfl, HQ.out, HBB.out] at he
      replace he : e = .returned (.tuple #[.agg #[.int .i64 k, .string ⟨l.toArray⟩], .bool bb]) := he
      subst he
      have he1 : w1.heap[w.heap.size]? = some (.cells #[.int .i64 0, .string ⟨#[]⟩] 160 (0, 0)) := by
        have h2 := Go.heap_alloc_new (w.setCell ⟨d, 2, none⟩ (.int .i64 0)) (.cells #[.int .i64 0, .string ⟨#[]⟩] 160)
        rw [setCell_size] at h2
        rw [hk.block _ (Array.getElem?_eq_some_iff.1 h2).1 (by omega)]
        exact h2
      have hWent : Went B d (.slice A cl.length c) ⟨[], true, 0⟩ w w1 :=
        ⟨.slice none 0 0, ⟨hd1, no_row _ _ _⟩, (fun j (hj : (none : Option Nat) = some j) => by cases hj), ((((Kb.refl (fun j => j = d ∨ _) w).setCell (p := ⟨d, 2, none⟩) (fun _ => Or.inl rfl) _).alloc _).trans hk (fun j _ h => Or.inl h))⟩
      have e1 : w1.cell? ⟨w.heap.size, 0, none⟩ = some (.int .i64 0) := by rw [Lib.cell_of_heap he1]; rfl
      have e2 : w1.cell? ⟨w.heap.size, 1, none⟩ = some (.string ⟨#[]⟩) := by rw [Lib.cell_of_heap he1]; rfl
      have ff1 := Lib.frozen_of_heap he1 0
      have ff2 := Lib.frozen_of_heap he1 1
      have HE2 := Aside0.mk he1
      have HWE := Aside0.mk hWent
      clear hd1 hk he1 hWent
      go_wp2
      exact did_end rfl (heap_set2 HE2.out _ _) rfl ⟨by rw [HQ.out]; rfl, HBB.out⟩ (went_event HWE.out HE2.out (Nat.le_refl _) hd _ _)
    · have e : stepS ⟨cl, wi, on⟩ 48 = (⟨cl, wi, 0⟩, none) := by unfold stepS; rw [if_neg (by decide), if_pos h5, if_neg h6]
      rw [e]
      have HWS := fun o => Aside0.mk (went_same 0 0 HH.out HO.out rfl o)
      have HN := Go.heap_alloc_new (w.setCell ⟨d, 2, none⟩ (.int .i64 0)) (.cells #[.int .i64 0, .string ⟨#[]⟩] 160)
      simp only [setCell_size] at HN
      have HN' := Aside0.mk HN
      clear HN e
      have h6' : ¬ ((on : Int) = 6) := by omega
      by_cases h5e : on = 5
      · subst h5e
        clear h5
        go_enter Tryz.func99, Tryz.ntmps99
        go_wp2
        exact did_end rfl HN'.out rfl ⟨rfl, rfl⟩ (HWS _).out
      · have h5' : (5 : Int) < (on : Int) := by omega
        clear h5 h5e
        go_enter Tryz.func99, Tryz.ntmps99
        go_wp2
        exact did_end rfl HN'.out rfl ⟨rfl, rfl⟩ (HWS _).out
  · have h5a : ¬ ((5 : Int) < (on : Int)) := by omega
    have h5b : ¬ ((on : Int) = 5) := by omega
    have h6 : ¬ (on = 6) := by omega
    by_cases hp : wi = true ∧ 0 ≤ 5 ∧ cl.length ≤ 2134
    · obtain ⟨rfl, _, hl⟩ := hp
      have e : stepS ⟨cl, true, on⟩ 48 = (⟨cl ++ [48], true, 0⟩, none) := by
        unfold stepS
        rw [if_neg (by decide), if_neg h5]
        unfold push
        rw [if_pos ⟨rfl, Nat.zero_le _, hl⟩]
      rw [e]
      clear h5 h6
      have hOa := ((((Kb.refl (fun j => j = d) w).setCell (p := ⟨d, 2, none⟩) (fun _ => rfl) (.int .i64 0)).alloc (.cells #[.int .i64 0, .string ⟨#[]⟩] 160)).alloc (.cells #[.int .u8 48] 5)).row HO.out (own_ne HO.out HH.out (by decide))
      have HOA := Aside0.mk hOa
      clear hOa
      obtain ⟨i0, hi, hz0, hz1, hz2⟩ := info_parts infoByte
      go_enter Tryz.func99, Tryz.ntmps99
      go_wp2_with (at_builtin; refine wpList_append_own_at _ rfl _ _ 181 rfl B 5 i0 (.int .u8 0) 1 1 Tryz.underlying181 hi hz0 hz1 hz2 rfl (by decide) _ _ _ rfl HOA.out ⟨w.heap.size + 1, 0, none⟩ 1 1 [.int .u8 48] rfl rfl ?c1 ?c2 ?c3 ?c4 ?c5 ?_)
      try (case c1 => (have := cell_one_new ((w.setCell ⟨d, 2, none⟩ (.int .i64 0)).alloc (.cells #[.int .i64 0, .string ⟨#[]⟩] 160)) (.int .u8 48) 5; first | simpa using this | simpa [setCell_size] using this))
      case c2 => first | rfl | (intro u hu; simp at hu; subst hu; rfl)
      case c3 => unfold maxLen; omega
      case c4 => omega
      case c5 => first | omega | (simp; omega)
      intro v' w1 hown' hgrow _ hat
      replace hat : v'.ownBlock = (Value.slice A cl.length c).ownBlock ∨ v'.ownBlock = some (w.heap.size + 2) := hat
      obtain ⟨hd1, he1, he2, hWent⟩ := went_push (x := 48) 0 0 HH.out HO.out rfl hown' hgrow hat
      obtain ⟨g, cp, rfl⟩ := own_some hown'
      have e0 : w1.cell? ⟨d, 0, none⟩ = some (.slice A cl.length c) := by rw [Lib.cell_of_heap hd1]; rfl
      have ff0 := Lib.frozen_of_heap hd1 0
      have e1 : w1.cell? ⟨w.heap.size, 0, none⟩ = some (.int .i64 0) := by rw [Lib.cell_of_heap he1]; rfl
      have e2 : w1.cell? ⟨w.heap.size, 1, none⟩ = some (.string ⟨#[]⟩) := by rw [Lib.cell_of_heap he1]; rfl
      have ff1 := Lib.frozen_of_heap he1 0
      have ff2 := Lib.frozen_of_heap he1 1
      have HE2 := Aside0.mk he2
      have HWE := Aside0.mk hWent
      clear hd1 he1 he2 hWent hown' hgrow hat
      go_wp2
      exact did_end rfl (heap_set2 HE2.out _ _) rfl ⟨rfl, rfl⟩ (went_event HWE.out HE2.out (Nat.le_refl _) hd _ _)
    · have e : stepS ⟨cl, wi, on⟩ 48 = (⟨cl, wi, 0⟩, none) := by
        unfold stepS
        rw [if_neg (by decide), if_neg h5]
        unfold push
        rw [if_neg hp]
      rw [e]
      have HWS := fun o => Aside0.mk (went_same 0 0 HH.out HO.out rfl o)
      have HN := Go.heap_alloc_new (w.setCell ⟨d, 2, none⟩ (.int .i64 0)) (.cells #[.int .i64 0, .string ⟨#[]⟩] 160)
      simp only [setCell_size] at HN
      have HN' := Aside0.mk HN
      clear HN e h5 h6
      cases wi with
      | false =>
        clear hp
        go_enter Tryz.func99, Tryz.ntmps99
        go_wp2
        exact did_end rfl HN'.out rfl ⟨rfl, rfl⟩ (HWS _).out
      | true =>
        have hl : ¬ ((cl.length : Int) ≤ 2134) := by simp at hp; omega
        clear hp
        go_enter Tryz.func99, Tryz.ntmps99
        go_wp2
        exact did_end rfl HN'.out rfl ⟨rfl, rfl⟩ (HWS _).out
theorem bit (B d : Nat) (v : Value) (s : St) (x : UInt8) (w : World) (hx : x = 48 ∨ x = 49) (h : DecAt B w d v s) (hB : B ≤ w.heap.size) (hok : s.ok) (hon : s.ones ≤ 4611686018427387904) :
    Calls Tryz.prog 99 #[.pointer (some ⟨d, 0, none⟩), .int .u8 (x.toNat : Int)] w fun e w' => Did B d v (stepS s x) w e w' := by
  rcases hx with rfl | rfl
  · exact bit_zero B d v s w h hB hok hon
  · exact bit_one B d v s w h hB hok hon
end Go.Proofs.YtljnfbpplhnmfaaGreatDoor.Hd
namespace Go.Proofs.YtljnfbpplhnmfaaGreatDoor.Buil
open Go.RowKit
set_option linter.unusedVariables false
theorem sizeB : (Tryz.prog.info? 230).map (·.size) = some 2 := by kernel_rfl
theorem liesB : liesAt Tryz.prog Tryz.prog.depth 230 (2 / Tryz.prog.cellsOf 230) 0 230 1 = true := by kernel_rfl
theorem infoByte : (Tryz.prog.info? 5).map (fun i => (i.zero, i.size, i.bytes)) = some (some (.int .u8 0), 1, 1) := by kernel_rfl
set_option maxHeartbeats 1000000 in
set_option maxRecDepth 100000 in
theorem check_used (b : Nat) (w : World) (h0 : w.cell? ⟨b, 0, none⟩ = some (.pointer (some ⟨b, 0, none⟩))) :
    Calls Tryz.prog 163 #[.pointer (some ⟨b, 0, none⟩)] w fun e w' => e = .returned (.tuple #[]) ∧ w' = w := by
  obtain ⟨j, hj, _⟩ := Option.map_eq_some_iff.1 sizeB
  go_enter Tryz.func163, Tryz.ntmps163
  go_wp2
  rw [Lib.run_neq_ptr_same w _ Tryz.underlying228 hj]
  go_wp2
  go_end0
  exact ⟨rfl, rfl⟩
set_option maxHeartbeats 1000000 in
set_option maxRecDepth 100000 in
theorem check_fresh (b : Nat) (w : World) (h0 : w.cell? ⟨b, 0, none⟩ = some (.pointer none)) (hsh : w.shape? b = some (230, 2)) (hfz : w.frozen? ⟨b, 0, none⟩ = false) :
    Calls Tryz.prog 163 #[.pointer (some ⟨b, 0, none⟩)] w fun e w' => e = .returned (.tuple #[]) ∧ w' = w.setCell ⟨b, 0, none⟩ (.pointer (some ⟨b, 0, none⟩)) := by
  obtain ⟨j, hj, hjs⟩ := Option.map_eq_some_iff.1 sizeB
  go_enter Tryz.func163, Tryz.ntmps163
  go_wp2
  rw [Lib.run_to_unsafe w ⟨b, 0, none⟩ Tryz.underlying228 Tryz.underlying271 hj (by rw [hjs]; decide) hsh (Nat.zero_lt_succ 1)]
  simp only [Result.andThen]
  rw [Oper.upon_value]
  go_wp2
  rw [run_callFunc_extern Tryz.func179 (by kernel_rfl) (by kernel_rfl) (by kernel_rfl) (e := Extern.AbiNoEscape.same) (by kernel_rfl)]
  rw [Lib.run_noEscape]
  simp only [Result.andThen]
  rw [Oper.upon_value]
  go_wp2
  rw [Lib.run_from_unsafe w ⟨b, 0, none⟩ Tryz.underlying271 Tryz.underlying228 hj hsh liesB]
  simp only [Result.andThen]
  rw [Oper.upon_value]
  go_wp2
  go_end0
  exact ⟨rfl, rfl⟩
theorem check (B b : Nat) (bs : List Value) (w : World) (h : Lib.IsBuilderF 230 5 B b bs w) :
    Calls Tryz.prog 163 #[.pointer (some ⟨b, 0, none⟩)] w fun e w' => e = .returned (.tuple #[]) ∧ (Lib.BuilderAtF 230 5 B b (.pointer (some ⟨b, 0, none⟩)) bs w' ∧ Below B w w' ∧ Lib.OthersKept 5 (some b) w w') := by
  rcases h with h | h
  · refine (check_fresh b w h.cell0 h.shape h.frozen0).mono ?_
    rintro e w' ⟨rfl, rfl⟩
    exact ⟨rfl, h.used _, (Below.refl B w).setCell (p := ⟨b, 0, none⟩) h.1 _, (Lib.OthersKept.refl _ _ w).setCell ⟨b, 0, none⟩ rfl _⟩
  · refine (check_used b w h.cell0).mono ?_
    rintro e w' ⟨rfl, rfl⟩
    exact ⟨rfl, h, Below.refl B _, Lib.OthersKept.refl _ _ _⟩
set_option maxHeartbeats 2000000 in
set_option maxRecDepth 100000 in
theorem byte (B b : Nat) (bs : List Value) (c : Int) (w : World) (h : Lib.IsBuilderF 230 5 B b bs w) (hlen : bs.length + 1 ≤ 140737488355328) (hBw : B ≤ w.heap.size) :
    Calls Tryz.prog 137 #[.pointer (some ⟨b, 0, none⟩), .int .u8 c] w fun e w' => e = .returned .nilIface ∧ (Lib.BuilderAtF 230 5 B b (.pointer (some ⟨b, 0, none⟩)) (bs ++ [.int .u8 c]) w' ∧ Below B w w' ∧ Lib.OthersKept 5 (some b) w w') := by
  obtain ⟨i0, hi, hz0, hz1, hz2⟩ := info_parts infoByte
  go_enter Tryz.func137, Tryz.ntmps137
  go_wp2_with (go_at_call 163; refine (check B b bs _ h).mono ?_)
  rintro e w1 ⟨rfl, h1, hb1, hk1⟩
  obtain ⟨hB, v, hbk, hown, hne⟩ := h1
  have c0 : w1.cell? ⟨b, 0, none⟩ = some (.pointer (some ⟨b, 0, none⟩)) := by rw [Lib.cell_of_heap hbk]; rfl
  have c1 : w1.cell? ⟨b, 1, none⟩ = some v := by rw [Lib.cell_of_heap hbk]; rfl
  go_wp2_with (at_builtin; refine wpList_append_ownF _ rfl _ _ 181 rfl B 5 i0 (.int .u8 0) 1 1 Tryz.underlying181 hi hz0 hz1 hz2 rfl (by decide) _ _ _ rfl (hown.alloc _) ⟨w1.heap.size, 0, none⟩ 1 1 [.int .u8 c] rfl rfl ?c1 ?c2 ?c3 ?c4 ?c5 ?_)
  case c1 =>
    intro j u hj
    match j, hj with
    | 0, hj => simp at hj; subst hj; simp [Addr.add]
  case c2 => intro u hu; simp at hu; subst hu; rfl
  case c3 => unfold maxLen; omega
  case c4 => omega
  case c5 => have := hb1.size; simp; omega
  intro v' w2 hown' hgrow _
  have hlt : b < w1.heap.size := by
    rcases Nat.lt_or_ge b w1.heap.size with h' | h'
    · exact h'
    · simp [Array.getElem?_eq_none h'] at hbk
  have hb2 : w2.heap[b]? = some (.cells #[.pointer (some ⟨b, 0, none⟩), v] 230 (0, 0)) := by
    rw [hgrow.block b (by simp; omega) (fun e => hne e.symm), Lib.alloc_old w1 _ b hlt]
    exact hbk
  have d0 : w2.cell? ⟨b, 0, none⟩ = some (.pointer (some ⟨b, 0, none⟩)) := by rw [Lib.cell_of_heap hb2]; rfl
  have d1 : w2.cell? ⟨b, 1, none⟩ = some v := by rw [Lib.cell_of_heap hb2]; rfl
  have f1 : w2.frozen? ⟨b, 1, none⟩ = false := Lib.frozen_of_heap hb2 1
  obtain ⟨g, cap, rfl⟩ : ∃ g cap, v' = .slice (some ⟨g, 0, none⟩) (bs.length + 1) cap := by
    rcases hown'.2 with ⟨_, h0⟩ | ⟨g, cap, cur, fz, hv, _⟩
    · omega
    · exact ⟨g, cap, hv⟩
  go_wp2
  go_ret
  refine ⟨rfl, ?_, ?_, ((hk1.alloc _).grown hgrow (Lib.ownsRowF_kind (hown.alloc _))).setCell ⟨b, 1, none⟩ rfl _⟩
  · exact Lib.BuilderAtF.put (T := 230) (e := 5) hB hb2 (bs' := bs ++ [.int .u8 c]) (by simpa using hown') (by decide)
  · exact ((hb1.alloc (by have := hb1.size; omega) _).grown hgrow (by have := hb1.size; simp; omega) (fun k hk => (hown.lt k hk).1)).setCell (p := ⟨b, 1, none⟩) hB _
end Go.Proofs.YtljnfbpplhnmfaaGreatDoor.Buil
