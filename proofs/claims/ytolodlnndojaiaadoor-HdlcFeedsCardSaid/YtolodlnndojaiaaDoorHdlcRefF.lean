/- The document's own decoder by its text: Feed. -/
import Derived.Test.YtolodlnndojaiaaDoorHdlcRel
import Derived.Test.YtolodlnndojaiaaDoorHdlcD
import Derived.Deep.AppendLies
import Derived.Deep.RegionLaw
namespace Go.Proofs.YtolodlnndojaiaaDoor.Hd
open Go.RowKit Go.Proofs.YtolodlnndojaiaaDoorW.PrintWords Go.Proofs.YtolodlnndojaiaaDoorW.PrintLast Go.Proofs.YtolodlnndojaiaaDoorW.PrintMore Go.Proofs.YtolodlnndojaiaaDoor.Str Go.Proofs.YtolodlnndojaiaaDoor.Bits Go.Proofs.YtolodlnndojaiaaDoor.Oct Go.Proofs.YtolodlnndojaiaaDoor.OctW
set_option linter.unusedVariables false
theorem infoEv3 : (Tryd.prog.info? 59).map (fun i => (i.zero, i.size, i.bytes)) = some (some (.agg #[.int .i64 0, .string ⟨#[]⟩]), 2, 24) := by kernel_rfl
def RefAt (B : Nat) (w : World) (d : Nat) (v : Value) (s : RSt) : Prop :=
  w.heap[d]? = some (.cells #[v, .bool s.within, .int .i64 (s.ones : Int)] 37 (0, 0)) ∧ w.ownsRow B 5 1 v s.since.length (cellsOf s.since)
def RWent (B d : Nat) (v : Value) (s' : RSt) (w w' : World) : Prop :=
  ∃ v', RefAt B w' d v' s' ∧ (∀ j, v'.ownBlock = some j → v.ownBlock = some j ∨ w.heap.size ≤ j) ∧ Kb (fun j => j = d ∨ v.ownBlock = some j) w w'
theorem RefAt.lt {B : Nat} {w : World} {d : Nat} {v : Value} {s : RSt} (h : RefAt B w d v s) : d < w.heap.size := (Array.getElem?_eq_some_iff.1 h.1).1
theorem RWent.refl {B d : Nat} {v : Value} {s : RSt} {w : World} (h : RefAt B w d v s) : RWent B d v s w w := ⟨v, h, fun j hj => Or.inl hj, Kb.refl _ _⟩
/-- A step taken from a state that is kept as the first world's. -/
theorem RWent.step {B d : Nat} {v : Value} {s1 : RSt} {w wr : World} (h : RWent B d v s1 w wr) (hd : d < w.heap.size) : ∃ v1, RefAt B wr d v1 s1 ∧ w.heap.size ≤ wr.heap.size ∧
    (∀ (s2 : RSt) (w1 : World) (v2 : Value), RefAt B w1 d v2 s2 → (∀ j, v2.ownBlock = some j → v1.ownBlock = some j ∨ wr.heap.size ≤ j) → Kb (fun j => j = d ∨ v1.ownBlock = some j ∨ w.heap.size ≤ j) wr w1 → RWent B d v s2 w w1) := by
  obtain ⟨v1, h1, h2, h3⟩ := h
  refine ⟨v1, h1, h3.size, fun s2 w1 v2 k1 k2 k3 => ⟨v2, k1, fun j hj => ?_, h3.trans k3 (fun j hj t => ?_)⟩⟩
  · rcases k2 j hj with h | h
    · exact h2 j h
    · exact Or.inr (Nat.le_trans h3.size h)
  · rcases t with t | t | t
    · exact Or.inl t
    · rcases h2 j t with h | h
      · exact Or.inr h
      · omega
    · omega
theorem ref_close {B d i : Nat} {v v2 : Value} {s r2 : RSt} {bs : List UInt8} {w wr wx : World} {evs2 : List Ev} {u' : Value} {own1 : Option Nat}
    (htr : ∀ (s2 : RSt) (w1 : World) (v2 : Value), RefAt B w1 d v2 s2 → (∀ j, v2.ownBlock = some j → own1 = some j ∨ wr.heap.size ≤ j) → Kb (fun j => j = d ∨ own1 = some j ∨ w.heap.size ≤ j) wr w1 → RWent B d v s2 w w1)
    (hst : feedR s (bs.take (i + 1)) = (r2, evs2)) (ho : wx.ownsRow w.heap.size 59 2 u' evs2.length (evCells evs2)) (hr : RefAt B wx d v2 r2) (hloc : ∀ j, v2.ownBlock = some j → own1 = some j ∨ wr.heap.size ≤ j) (hk : Kb (fun j => j = d ∨ own1 = some j ∨ w.heap.size ≤ j) wr wx) :
    Aside0 (wx.ownsRow w.heap.size 59 2 u' (feedR s (bs.take (i + 1))).2.length (evCells (feedR s (bs.take (i + 1))).2)) ∧ Aside0 (RWent B d v (feedR s (bs.take (i + 1))).1 w wx) := by
  rw [hst]
  exact ⟨⟨ho⟩, ⟨htr _ _ _ hr hloc hk⟩⟩
/-- The append onto Since is over. -/
theorem ref_push {wr W w1 : World} {o : Obj} {B d : Nat} {v1 : Value} {n : Nat} {cs : Array Value} {xs : List Value} (hg : W.grownBy w1 v1.ownBlock) (hh : wr.heap[d]? = some (.cells cs 37 (0, 0))) (ho : wr.ownsRow B 5 1 v1 n xs)
    (hW : W.heap = (wr.alloc o).heap ∧ W.os = wr.os ∧ W.tape = wr.tape ∧ W.output = wr.output) : w1.heap[d]? = some (.cells cs 37 (0, 0)) ∧ Kb (fun j => v1.ownBlock = some j) wr w1 := by
  obtain ⟨h1, h2, h3, h4⟩ := hW
  have hs : W.heap.size = wr.heap.size + 1 := by rw [h1]; show (wr.heap.push o).size = _; simp
  have hk : Kb (fun j => v1.ownBlock = some j) wr w1 := by
    refine ⟨hg.os.trans h2, hg.tape.trans h3, hg.output.trans h4, by have := hg.size; omega, fun k hk hn => ?_⟩
    rw [hg.block k (by omega) (fun e => hn e.symm), h1]
    exact Below.heap_alloc _ _ _ hk
  refine ⟨?_, hk⟩
  rw [hk.block d (Array.getElem?_eq_some_iff.1 hh).1 (fun e => own_ne ho hh (by decide) d e rfl)]
  exact hh
theorem ref_push2 {w wr w1 wx : World} {B d g cap H : Nat} {v1 : Value} {si : List UInt8} {x : UInt8} {wi' : Bool} {on' : Nat} {cs : Array Value} (hp : Kb (fun j => v1.ownBlock = some j) wr w1) (hh : w1.heap[d]? = some (.cells cs 37 (0, 0)))
    (hown : w1.ownsRow B 5 1 (.slice (some ⟨g, 0, none⟩) (si.length + 1) cap) (si.length + 1) (cellsOf si ++ [.int .u8 (x.toNat : Int)])) (hat : v1.ownBlock = some g ∨ g = H) (hH : wr.heap.size ≤ H) (hk : Kb (fun j => j = d) w1 wx)
    (hx : wx.heap[d]? = some (.cells #[.slice (some ⟨g, 0, none⟩) (si.length + 1) cap, .bool wi', .int .i64 (on' : Int)] 37 (0, 0))) :
    RefAt B wx d (.slice (some ⟨g, 0, none⟩) (si.length + 1) cap) ⟨si ++ [x], wi', on'⟩ ∧ (∀ j, (Value.slice (some ⟨g, 0, none⟩) (si.length + 1) cap).ownBlock = some j → v1.ownBlock = some j ∨ wr.heap.size ≤ j) ∧ Kb (fun j => j = d ∨ v1.ownBlock = some j ∨ w.heap.size ≤ j) wr wx := by
  have h1 := hk.row hown (own_ne hown hh (by decide))
  refine ⟨⟨hx, ?_⟩, fun j hj => ?_, (hp.mono (T' := fun j => j = d ∨ v1.ownBlock = some j ∨ w.heap.size ≤ j) (fun _ h => Or.inr (Or.inl h))).trans hk (fun j _ h => Or.inl h)⟩
  · show wx.ownsRow B 5 1 _ (si ++ [x]).length (cellsOf (si ++ [x]))
    rw [List.length_append, show cellsOf (si ++ [x]) = cellsOf si ++ [.int .u8 (x.toNat : Int)] from by simp [cellsOf]]
    exact h1
  · have : g = j := by simpa [Value.ownBlock] using hj
    subst this
    rcases hat with h | h
    · exact Or.inl h
    · exact Or.inr (by omega)
theorem setCell_sz (w : World) (p : Addr) (v : Value) : (w.setCell p v).heap.size = w.heap.size := by simp [World.setCell]
theorem two_new (w : World) (x y : Value) (T : TypeId) (j : Nat) (u : Value) (hj : [x, y][j]? = some u) : (w.alloc (.cells #[x, y] T)).cell? ((⟨w.heap.size, 0, none⟩ : Addr).add j) = some u := by
  have hn := Go.heap_alloc_new w (.cells #[x, y] T)
  match j, hj with
  | 0, hj => simp at hj; subst hj; rw [show (⟨w.heap.size, 0, none⟩ : Addr).add 0 = ⟨w.heap.size, 0, none⟩ from by simp [Addr.add], Lib.cell_of_heap hn]; rfl
  | 1, hj => simp at hj; subst hj; rw [show (⟨w.heap.size, 0, none⟩ : Addr).add 1 = ⟨w.heap.size, 1, none⟩ from by simp [Addr.add], Lib.cell_of_heap hn]; rfl
theorem ref_out {Wb W w3 : World} {d N n : Nat} {u : Value} {xs : List Value} {cs : Array Value} (hg : W.grownBy w3 u.ownBlock) (hh : Wb.heap[d]? = some (.cells cs 37 (0, 0))) (ho : Wb.ownsRow N 59 2 u n xs) (hW : Kb (fun _ => False) Wb W) :
    w3.heap[d]? = some (.cells cs 37 (0, 0)) ∧ Kb (fun j => u.ownBlock = some j) Wb w3 := by
  have hk : Kb (fun j => u.ownBlock = some j) Wb w3 := by
    refine ⟨hg.os.trans hW.os, hg.tape.trans hW.tape, hg.output.trans hW.output, Nat.le_trans hW.size hg.size, fun k hk hn => ?_⟩
    rw [hg.block k (Nat.lt_of_lt_of_le hk hW.size) (fun e => hn e.symm)]
    exact hW.block k hk (fun h => h.elim)
  refine ⟨?_, hk⟩
  rw [hk.block d (Array.getElem?_eq_some_iff.1 hh).1 (fun e => own_ne ho hh (by decide) d e rfl)]
  exact hh
/-- The decoder's state is begun anew; what was met is laid behind. -/
theorem ref_anew {B d n : Nat} {w wr w1 Wb w3 : World} {v1 u : Value} {xs : List Value} {a0 a1 : Value} {on' : Nat} {wi : Bool} (hp : Kb (fun j => v1.ownBlock = some j) wr w1) (hs : Kb (fun j => j = d) w1 Wb) (ho : Wb.ownsRow w.heap.size 59 2 u n xs) (hk : Kb (fun j => u.ownBlock = some j) Wb w3)
    (hh : w3.heap[d]? = some (.cells #[a0, a1, .int .i64 (on' : Int)] 37 (0, 0))) :
    RefAt B ((w3.setCell ⟨d, 1, none⟩ (.bool wi)).setCell ⟨d, 0, none⟩ (.slice none 0 0)) d (.slice none 0 0) ⟨[], wi, on'⟩ ∧ Kb (fun j => j = d ∨ v1.ownBlock = some j ∨ w.heap.size ≤ j) wr ((w3.setCell ⟨d, 1, none⟩ (.bool wi)).setCell ⟨d, 0, none⟩ (.slice none 0 0)) := by
  have k1 := hp.mono (T' := fun j => j = d ∨ v1.ownBlock = some j ∨ w.heap.size ≤ j) (fun _ h => Or.inr (Or.inl h))
  have k2 := k1.trans hs (fun j _ h => Or.inl h)
  have k3 := k2.trans hk (fun j _ h => Or.inr (Or.inr (ho.lt j h).1))
  exact ⟨⟨(heap_set (heap_set hh (.bool wi)).2.1 (.slice none 0 0)).1, no_row _ _ _⟩, (k3.setCell (p := ⟨d, 1, none⟩) (fun _ => Or.inl rfl) _).setCell (p := ⟨d, 0, none⟩) (fun _ => Or.inl rfl) _⟩
theorem no_own (P : Nat → Prop) (j : Nat) (h : (Value.slice none 0 0).ownBlock = some j) : P j := by cases h
set_option maxHeartbeats 200000000 in
set_option maxRecDepth 1000000 in
theorem feedRW (B d : Nat) (v : Value) (s : RSt) (b : ByteArray) (w : World) (h : RefAt B w d v s) (hB : B ≤ w.heap.size) (hl : s.since.length ≤ 1099511627776) (hon : s.ones ≤ 1099511627776) (hs : b.size ≤ 1099511627776) :
    Calls Tryd.prog 17 #[.pointer (some ⟨d, 0, none⟩), .string b] w fun e w' => ∃ u, e = .returned u ∧ w'.ownsRow w.heap.size 59 2 u (feedR s (L b)).2.length (evCells (feedR s (L b)).2) ∧ RWent B d v (feedR s (L b)).1 w w' := by
  have hd := h.lt
  have H := Aside0.mk h
  clear h
  obtain ⟨i0, hi, hz0, hz1, hz2⟩ := info_parts infoEv3
  obtain ⟨j0, hj, hy0, hy1, hy2⟩ := info_parts infoByte
  go_enter Tryd.func17, Tryd.ntmps17
  go_wp2
  go_loopw [5, 6] (fun u x wr => ∃ i : Nat, i ≤ b.size ∧ x = .int .i64 i ∧ Aside0 (wr.ownsRow w.heap.size 59 2 u (feedR s ((L b).take i)).2.length (evCells (feedR s ((L b).take i)).2)) ∧ Aside0 (RWent B d v (feedR s ((L b).take i)).1 w wr)) (fun _ x _ => b.size - (intOf x).toNat)
  case atStart => exact ⟨0, Nat.zero_le _, rfl, ⟨World.ownsRow_nil _ _ _ _⟩, ⟨RWent.refl H.out⟩⟩
  case round =>
    obtain ⟨i, hi', rfl, HO, HW⟩ := hrel
    by_cases hlt : i < b.size
    · have hl' : i < (L b).length := by rw [← size_L]; exact hlt
      have HST := Aside0.mk (feedR_take s (L b) i hl')
      have hbd := feedR_bound s (L b) i (by omega)
      obtain ⟨q, HQ⟩ : ∃ q, Aside0 (feedR s ((L b).take i) = q) := ⟨_, ⟨rfl⟩⟩
      rw [HQ.out] at HO HW hbd HST
      obtain ⟨r1, evs⟩ := q
      obtain ⟨hb1, hb2, hb3⟩ := hbd
      dsimp only at HO HW hb1 hb2 hb3
      obtain ⟨x, HX⟩ : ∃ x, Aside0 ((L b)[i] = x) := ⟨_, ⟨rfl⟩⟩
      rw [HX.out] at HST
      have hbx : ∀ y : UInt8, ((((b[i]'hlt).toNat : Nat) : Int) = (y.toNat : Int)) ↔ x = y := fun y => by
        have : (b[i]'hlt) = x := HX.out
        rw [this]
        constructor
        · intro h
          apply UInt8.toNat_inj.1
          omega
        · rintro rfl; rfl
      obtain ⟨v1, hr1, hsr, htr⟩ := HW.out.step hd
      obtain ⟨si, wi, on⟩ := r1
      dsimp only at hb1 hb2
      have HTR := Aside0.mk htr
      have HR1 := Aside0.mk hr1
      have hh := hr1.1
      have hdr := hr1.lt
      obtain ⟨A1, k1, rfl, hk1⟩ := own_shape8 hr1.2
      have c0 : wr.cell? ⟨d, 0, none⟩ = some (.slice A1 si.length k1) := by rw [Lib.cell_of_heap hh]; rfl
      have c1 : wr.cell? ⟨d, 1, none⟩ = some (.bool wi) := by rw [Lib.cell_of_heap hh]; rfl
      have c2 : wr.cell? ⟨d, 2, none⟩ = some (.int .i64 (on : Int)) := by rw [Lib.cell_of_heap hh]; rfl
      have f0 := Lib.frozen_of_heap hh 0
      have f1 := Lib.frozen_of_heap hh 1
      have f2 := Lib.frozen_of_heap hh 2
      have HH := Aside0.mk hh
      clear hh hr1 htr
      by_cases h48 : x = 48
      · have hx48 : ((((b[i]'hlt).toNat : Nat)) : Int) = 48 := (hbx 48).2 h48
        subst h48
        clear hbx
        cases wi with
        | false =>
          by_cases h6 : on = 6
          · subst h6
            have hst2 : feedR s ((L b).take (i + 1)) = (⟨[], true, 0⟩, evs) := by rw [HST.out]; unfold feedR1; rw [if_pos (by decide), R48_6]; simp
            have HST2 := Aside0.mk hst2
            have hk : Kb (fun j => j = d) wr (((wr.setCell ⟨d, 2, none⟩ (.int .i64 0)).setCell ⟨d, 1, none⟩ (.bool true)).setCell ⟨d, 0, none⟩ (.slice none 0 0)) := (((Kb.refl (fun j => j = d) wr).setCell (p := ⟨d, 2, none⟩) (fun _ => rfl) _).setCell (p := ⟨d, 1, none⟩) (fun _ => rfl) _).setCell (p := ⟨d, 0, none⟩) (fun _ => rfl) _
            have HC := Aside0.mk (ref_close HTR.out hst2 (hk.row HO.out (fun j hj e => by have := (HO.out.lt j hj).1; omega)) ⟨(heap_set (heap_set (heap_set HH.out (.int .i64 0)).2.2 (.bool true)).2.1 (.slice none 0 0)).1, no_row _ _ _⟩ (fun j (hj : (none : Option Nat) = some j) => by cases hj) (hk.mono fun _ h => Or.inl h))
            clear hst2 hk
            go_wp2
            exact ⟨⟨i + 1, by omega, by go_num, HC.out.1, HC.out.2⟩, by simp [intOf]; omega⟩
          · have h6' : ¬ ((on : Int) = 6) := by omega
            have hst2 : feedR s ((L b).take (i + 1)) = (⟨si, false, 0⟩, evs) := by rw [HST.out]; unfold feedR1; rw [if_pos (by decide), R48 _ _ _ h6]; simp
            have hk : Kb (fun j => j = d) wr (wr.setCell ⟨d, 2, none⟩ (.int .i64 0)) := (Kb.refl (fun j => j = d) wr).setCell (p := ⟨d, 2, none⟩) (fun _ => rfl) _
            have HC := Aside0.mk (ref_close HTR.out hst2 (hk.row HO.out (fun j hj e => by have := (HO.out.lt j hj).1; omega)) ⟨(heap_set HH.out (.int .i64 0)).2.2, hk.row HR1.out.2 (own_ne HR1.out.2 HH.out (by decide))⟩ (fun j hj => Or.inl hj) (hk.mono fun _ h => Or.inl h))
            clear hst2 hk h6
            go_wp2
            exact ⟨⟨i + 1, by omega, by go_num, HC.out.1, HC.out.2⟩, by simp [intOf]; omega⟩
        | true =>
          by_cases h6 : on = 6
          · subst h6
            obtain ⟨o, HOE⟩ : ∃ o, Aside0 (endedS (si ++ [48]) = o) := ⟨_, ⟨rfl⟩⟩
            have HST2 : Aside0 (feedR s ((L b).take (i + 1)) = (⟨[], true, 0⟩, evs ++ o.toList)) := ⟨by rw [HST.out]; unfold feedR1; rw [if_pos (by decide), R48_6, if_pos rfl, HOE.out]⟩
            go_wp2_with fail
            go_region_law (refine step_append_lies _ rfl _ _ 22 rfl B 5 j0 (.int .u8 0) 1 1 Tryd.underlying22 hj hy0 hy1 hy2 rfl (by decide) _ _ _ rfl (HR1.out.2.alloc _) ⟨wr.heap.size, 0, none⟩ 1 1 [.int .u8 48] rfl rfl (cell_one_new _ _ _) (by intro u hu; simp at hu; subst hu; rfl) (by decide) (by unfold maxLen; dsimp only; omega) (by dsimp only; omega) (by simp; omega) _ rfl ?_; intro g cap w1 hown hgrow hat hlt1; have hp := ref_push hgrow HH.out HR1.out.2 ⟨rfl, rfl, rfl, rfl⟩; have q0 : w1.cell? ⟨d, 0, none⟩ = some (.slice A1 si.length k1) := by { rw [Lib.cell_of_heap hp.1]; rfl }; have q1 : w1.cell? ⟨d, 1, none⟩ = some (.bool true) := by { rw [Lib.cell_of_heap hp.1]; rfl }; have q2 : w1.cell? ⟨d, 2, none⟩ = some (.int .i64 6) := by { rw [Lib.cell_of_heap hp.1]; rfl }; have p0 := Lib.frozen_of_heap hp.1 0; have p1 := Lib.frozen_of_heap hp.1 1; have p2 := Lib.frozen_of_heap hp.1 2; have HP := Aside0.mk hp; have HOWN := Aside0.mk hown; have HAT := Aside0.mk hat; clear hp hown hgrow hat)
            all_goals
              have hk : Kb (fun j => j = d) w1 ((w1.setCell ⟨d, 0, none⟩ (.slice (some ⟨g, 0, none⟩) (si.length + 1) cap)).setCell ⟨d, 2, none⟩ (.int .i64 0)) := ((Kb.refl (fun j => j = d) w1).setCell (p := ⟨d, 0, none⟩) (fun _ => rfl) _).setCell (p := ⟨d, 2, none⟩) (fun _ => rfl) _
              have hOb := hk.row (HP.out.2.row HO.out (fun j hj t => own_apart HR1.out.2 HO.out (by decide) j t hj)) (fun j hj e => by have := (HO.out.lt j hj).1; omega)
              have hhb := (heap_set (heap_set HP.out.1 (.slice (some ⟨g, 0, none⟩) (si.length + 1) cap)).1 (.int .i64 0)).2.2
              have hrf := (ref_push2 (w := w) (x := 48) (on' := 0) HP.out.2 HP.out.1 HOWN.out HAT.out (by show wr.heap.size ≤ (wr.heap.push _).size; simp) hk hhb).1.2
              obtain ⟨A', c', hv', hc', hC'⟩ := own_shapeK hrf
              have hE := endedW A' c' (si ++ [48]) ((w1.setCell ⟨d, 0, none⟩ (.slice (some ⟨g, 0, none⟩) (si.length + 1) cap)).setCell ⟨d, 2, none⟩ (.int .i64 0)) (by simp; omega) hC' hc'
              rw [← hv', HOE.out] at hE
              have HE := Aside0.mk hE
              have HK := Aside0.mk hk
              have HOb := Aside0.mk hOb
              have HHb := Aside0.mk hhb
              have hs1 : w.heap.size ≤ w1.heap.size := by have := HP.out.2.size; omega
              clear hk hOb hhb hrf hv' hc' hC' hE
              go_wp2_with fail
              refine HE.out.mono ?_
              rintro e w3 ⟨he, hb⟩
              have hk3 : Kb (fun _ => False) _ w3 := (Kb.refl _ _).ofBelow hb
              have hd3 := (hk3.block d (Array.getElem?_eq_some_iff.1 HHb.out).1 (fun h => h)).trans HHb.out
              have hO3 := hk3.row HOb.out (fun _ _ h => h)
              have hs3 : w1.heap.size ≤ w3.heap.size := by have := hk3.size; rw [setCell_sz, setCell_sz] at this; exact this
              have hx0 : w3.cell? ⟨d, 0, none⟩ = some (.slice (some ⟨g, 0, none⟩) (si.length + 1) cap) := by rw [Lib.cell_of_heap hd3]; rfl
              have hx2 : w3.cell? ⟨d, 1, none⟩ = some (.bool true) := by rw [Lib.cell_of_heap hd3]; rfl
              have hx3 := Lib.frozen_of_heap hd3 0
              have hx4 := Lib.frozen_of_heap hd3 1
              have hdl := (Array.getElem?_eq_some_iff.1 hd3).1
              have HD3 := Aside0.mk hd3
              have HK3 := Aside0.mk hk3
              have HO3 := Aside0.mk hO3
              clear hd3 hk3 hO3 hb HE
              cases o with
              | none =>
                replace he : e = .returned (.tuple #[.agg #[.int .i64 0, .string ⟨#[]⟩], .bool false]) := he
                subst he
                have HST3 : Aside0 (feedR s ((L b).take (i + 1)) = (⟨[], true, 0⟩, evs)) := ⟨by rw [HST2.out]; simp⟩
                go_wp2
                obtain ⟨z1, z2⟩ := ref_anew (B := B) (on' := 0) (wi := true) HP.out.2 HK.out HOb.out (HK3.out.mono (fun _ h => h.elim)) HD3.out
                have hkx : Kb (fun j => j = d) w3 ((w3.setCell ⟨d, 1, none⟩ (.bool true)).setCell ⟨d, 0, none⟩ (.slice none 0 0)) := ((Kb.refl (fun j => j = d) w3).setCell (p := ⟨d, 1, none⟩) (fun _ => rfl) _).setCell (p := ⟨d, 0, none⟩) (fun _ => rfl) _
                have HC := ref_close HTR.out HST3.out ((hkx.row HO3.out (fun j hj e => by have := (HO3.out.lt j hj).1; omega)).alloc (.cells #[.int .i64 0, .string ⟨#[]⟩] 59)) ⟨heap_al z1.1 _, z1.2.alloc _⟩ (fun j (hj : (none : Option Nat) = some j) => by cases hj) (z2.alloc _)
                exact ⟨⟨i + 1, by omega, by go_num, HC.1, HC.2⟩, by simp [intOf]; omega⟩
              | some ev =>
                obtain ⟨k, l⟩ := ev
                replace he : e = .returned (.tuple #[.agg #[.int .i64 k, .string ⟨l.toArray⟩], .bool true]) := he
                subst he
                have HC1 : Aside0 (∀ j u, [(.int .i64 k : Value), .string ⟨l.toArray⟩][j]? = some u → ((w3.alloc (.cells #[.int .i64 k, .string ⟨l.toArray⟩] 59)).alloc (.cells #[.int .i64 k, .string ⟨l.toArray⟩] 59)).cell? ((⟨w3.heap.size + 1, 0, none⟩ : Addr).add j) = some u) := ⟨fun j u hj => by
                  have := two_new (w3.alloc (.cells #[.int .i64 k, .string ⟨l.toArray⟩] 59)) _ _ 59 j u hj
                  rw [show (w3.alloc (.cells #[.int .i64 k, .string ⟨l.toArray⟩] 59)).heap.size = w3.heap.size + 1 from by show (w3.heap.push _).size = _; simp] at this
                  exact this⟩
                go_wp2_with (at_builtin; refine wpList_append_own_at _ rfl _ _ 39 rfl w.heap.size 59 i0 (.agg #[.int .i64 0, .string ⟨#[]⟩]) 2 24 Tryd.underlying39 hi hz0 hz1 hz2 rfl (by decide) _ _ _ rfl ((HO3.out.alloc _).alloc _) ⟨w3.heap.size + 1, 0, none⟩ 1 1 [.int .i64 k, .string ⟨l.toArray⟩] rfl rfl HC1.out (by intro u hu; simp at hu; rcases hu with rfl | rfl <;> rfl) (by unfold maxLen; omega) (by omega) (by first | omega | (simp; omega)) ?_)
                intro v' w4 hown' hgrow _ _
                obtain ⟨hd4, hk4⟩ := ref_out hgrow HD3.out HO3.out (((Kb.refl _ _).alloc _).alloc _)
                have hy1 : w4.cell? ⟨d, 0, none⟩ = some (.slice (some ⟨g, 0, none⟩) (si.length + 1) cap) := by rw [Lib.cell_of_heap hd4]; rfl
                have hy2 : w4.cell? ⟨d, 1, none⟩ = some (.bool true) := by rw [Lib.cell_of_heap hd4]; rfl
                have hy3 := Lib.frozen_of_heap hd4 0
                have hy4 := Lib.frozen_of_heap hd4 1
                have HD4 := Aside0.mk hd4
                have HK4 := Aside0.mk hk4
                have HO4 : Aside0 (w4.ownsRow w.heap.size 59 2 v' (evs ++ [(k, l)]).length (evCells (evs ++ [(k, l)]))) := ⟨by
                  rw [List.length_append, evCells_append]
                  exact hown'⟩
                have HST3 : Aside0 (feedR s ((L b).take (i + 1)) = (⟨[], true, 0⟩, evs ++ [(k, l)])) := ⟨HST2.out⟩
                clear hd4 hk4 hown' hgrow hx0 hx2 hx3 hx4
                go_wp2
                obtain ⟨z1, z2⟩ := ref_anew (B := B) (on' := 0) (wi := true) HP.out.2 HK.out HOb.out ((HK3.out.mono (fun _ h => h.elim)).trans HK4.out (fun _ _ h => h)) HD4.out
                have hkx : Kb (fun j => j = d) w4 ((w4.setCell ⟨d, 1, none⟩ (.bool true)).setCell ⟨d, 0, none⟩ (.slice none 0 0)) := ((Kb.refl (fun j => j = d) w4).setCell (p := ⟨d, 1, none⟩) (fun _ => rfl) _).setCell (p := ⟨d, 0, none⟩) (fun _ => rfl) _
                have HC := ref_close HTR.out HST3.out (hkx.row HO4.out (fun j hj e => by have := (HO4.out.lt j hj).1; omega)) z1 (fun j (hj : (none : Option Nat) = some j) => by cases hj) z2
                exact ⟨⟨i + 1, by omega, by go_num, HC.1, HC.2⟩, by simp [intOf]; omega⟩
          · have h6' : ¬ ((on : Int) = 6) := by omega
            have HST2 : Aside0 (feedR s ((L b).take (i + 1)) = (⟨si ++ [48], true, 0⟩, evs)) := ⟨by rw [HST.out]; unfold feedR1; rw [if_pos (by decide), R48 _ _ _ h6]; simp⟩
            clear h6
            go_wp2_with fail
            go_region_law (refine step_append_lies _ rfl _ _ 22 rfl B 5 j0 (.int .u8 0) 1 1 Tryd.underlying22 hj hy0 hy1 hy2 rfl (by decide) _ _ _ rfl (HR1.out.2.alloc _) ⟨wr.heap.size, 0, none⟩ 1 1 [.int .u8 48] rfl rfl (cell_one_new _ _ _) (by intro u hu; simp at hu; subst hu; rfl) (by decide) (by unfold maxLen; dsimp only; omega) (by dsimp only; omega) (by simp; omega) _ rfl ?_; intro g cap w1 hown hgrow hat hlt1; have hp := ref_push hgrow HH.out HR1.out.2 ⟨rfl, rfl, rfl, rfl⟩; have q0 : w1.cell? ⟨d, 0, none⟩ = some (.slice A1 si.length k1) := by { rw [Lib.cell_of_heap hp.1]; rfl }; have q1 : w1.cell? ⟨d, 1, none⟩ = some (.bool true) := by { rw [Lib.cell_of_heap hp.1]; rfl }; have q2 : w1.cell? ⟨d, 2, none⟩ = some (.int .i64 (on : Int)) := by { rw [Lib.cell_of_heap hp.1]; rfl }; have p0 := Lib.frozen_of_heap hp.1 0; have p1 := Lib.frozen_of_heap hp.1 1; have p2 := Lib.frozen_of_heap hp.1 2; have HP := Aside0.mk hp; have HOWN := Aside0.mk hown; have HAT := Aside0.mk hat; clear hp hown hgrow hat)
            all_goals
              go_wp2
              have hk : Kb (fun j => j = d) w1 ((w1.setCell ⟨d, 0, none⟩ (.slice (some ⟨g, 0, none⟩) (si.length + 1) cap)).setCell ⟨d, 2, none⟩ (.int .i64 0)) := ((Kb.refl (fun j => j = d) w1).setCell (p := ⟨d, 0, none⟩) (fun _ => rfl) _).setCell (p := ⟨d, 2, none⟩) (fun _ => rfl) _
              obtain ⟨z1, z2, z3⟩ := ref_push2 (w := w) (x := 48) (on' := 0) HP.out.2 HP.out.1 HOWN.out HAT.out (by show wr.heap.size ≤ (wr.heap.push _).size; simp) hk (heap_set (heap_set HP.out.1 _).1 _).2.2
              have HC := ref_close HTR.out HST2.out (hk.row (HP.out.2.row HO.out (fun j hj t => own_apart HR1.out.2 HO.out (by decide) j t hj)) (fun j hj e => by have := (HO.out.lt j hj).1; omega)) z1 z2 z3
              exact ⟨⟨i + 1, by omega, by go_num, HC.1, HC.2⟩, by simp [intOf]; omega⟩
      · by_cases h49 : x = 49
        · have hx49 : ((((b[i]'hlt).toNat : Nat)) : Int) = 49 := (hbx 49).2 h49
          subst h49
          clear hbx h48
          cases wi with
          | false =>
            have hst2 : feedR s ((L b).take (i + 1)) = (⟨si, false, on + 1⟩, evs) := by rw [HST.out]; unfold feedR1; rw [if_pos (by decide), R49 _ _ _ (by simp)]; simp
            by_cases h7 : on = 6
            · subst h7
              have hk : Kb (fun j => j = d) wr (wr.setCell ⟨d, 2, none⟩ (.int .i64 7)) := (Kb.refl (fun j => j = d) wr).setCell (p := ⟨d, 2, none⟩) (fun _ => rfl) _
              have HC := Aside0.mk (ref_close HTR.out hst2 (hk.row HO.out (fun j hj e => by have := (HO.out.lt j hj).1; omega)) ⟨(heap_set HH.out (.int .i64 7)).2.2, hk.row HR1.out.2 (own_ne HR1.out.2 HH.out (by decide))⟩ (fun j hj => Or.inl hj) (hk.mono fun _ h => Or.inl h))
              clear hst2 hk
              go_wp2
              exact ⟨⟨i + 1, by omega, by go_num, HC.out.1, HC.out.2⟩, by simp [intOf]; omega⟩
            · have h7' : ¬ ((on : Int) + 1 = 7) := by omega
              have hk : Kb (fun j => j = d) wr (wr.setCell ⟨d, 2, none⟩ (.int .i64 ((on : Int) + 1))) := (Kb.refl (fun j => j = d) wr).setCell (p := ⟨d, 2, none⟩) (fun _ => rfl) _
              have HC := Aside0.mk (ref_close HTR.out hst2 (hk.row HO.out (fun j hj e => by have := (HO.out.lt j hj).1; omega)) ⟨(heap_set HH.out (.int .i64 ((on : Int) + 1))).2.2, hk.row HR1.out.2 (own_ne HR1.out.2 HH.out (by decide))⟩ (fun j hj => Or.inl hj) (hk.mono fun _ h => Or.inl h))
              clear hst2 hk h7
              go_wp2
              exact ⟨⟨i + 1, by omega, by go_num, HC.out.1, HC.out.2⟩, by simp [intOf]; omega⟩
          | true =>
            by_cases h7 : on = 6
            · subst h7
              have HST2 : Aside0 (feedR s ((L b).take (i + 1)) = (⟨[], false, 7⟩, evs ++ [(1, [])])) := ⟨by rw [HST.out]; unfold feedR1; rw [if_pos (by decide), R49_7 _ _ rfl]; rfl⟩
              go_wp2_with fail
              go_region_law (refine step_append_lies _ rfl _ _ 22 rfl B 5 j0 (.int .u8 0) 1 1 Tryd.underlying22 hj hy0 hy1 hy2 rfl (by decide) _ _ _ rfl (HR1.out.2.alloc _) ⟨wr.heap.size, 0, none⟩ 1 1 [.int .u8 49] rfl rfl (cell_one_new _ _ _) (by intro u hu; simp at hu; subst hu; rfl) (by decide) (by unfold maxLen; dsimp only; omega) (by dsimp only; omega) (by simp; omega) _ rfl ?_; intro g cap w1 hown hgrow hat hlt1; have hp := ref_push hgrow HH.out HR1.out.2 ⟨rfl, rfl, rfl, rfl⟩; have q0 : w1.cell? ⟨d, 0, none⟩ = some (.slice A1 si.length k1) := by { rw [Lib.cell_of_heap hp.1]; rfl }; have q1 : w1.cell? ⟨d, 1, none⟩ = some (.bool true) := by { rw [Lib.cell_of_heap hp.1]; rfl }; have q2 : w1.cell? ⟨d, 2, none⟩ = some (.int .i64 6) := by { rw [Lib.cell_of_heap hp.1]; rfl }; have p0 := Lib.frozen_of_heap hp.1 0; have p1 := Lib.frozen_of_heap hp.1 1; have p2 := Lib.frozen_of_heap hp.1 2; have HP := Aside0.mk hp; have HOWN := Aside0.mk hown; have HAT := Aside0.mk hat; clear hp hown hgrow hat)
              all_goals
                have hk : Kb (fun j => j = d) w1 ((w1.setCell ⟨d, 0, none⟩ (.slice (some ⟨g, 0, none⟩) (si.length + 1) cap)).setCell ⟨d, 2, none⟩ (.int .i64 7)) := ((Kb.refl (fun j => j = d) w1).setCell (p := ⟨d, 0, none⟩) (fun _ => rfl) _).setCell (p := ⟨d, 2, none⟩) (fun _ => rfl) _
                have hOb := hk.row (HP.out.2.row HO.out (fun j hj t => own_apart HR1.out.2 HO.out (by decide) j t hj)) (fun j hj e => by have := (HO.out.lt j hj).1; omega)
                have hhb := (heap_set (heap_set HP.out.1 (.slice (some ⟨g, 0, none⟩) (si.length + 1) cap)).1 (.int .i64 7)).2.2
                have HK := Aside0.mk hk
                have HOb := Aside0.mk hOb
                have HHb := Aside0.mk hhb
                have hs1 : w.heap.size ≤ w1.heap.size := by have := HP.out.2.size; omega
                have HC1 : Aside0 (∀ j u, [(.int .i64 1 : Value), .string ⟨#[]⟩][j]? = some u → ((((w1.setCell ⟨d, 0, none⟩ (.slice (some ⟨g, 0, none⟩) (si.length + 1) cap)).setCell ⟨d, 2, none⟩ (.int .i64 7))).alloc (.cells #[.int .i64 1, .string ⟨#[]⟩] 59)).cell? ((⟨w1.heap.size, 0, none⟩ : Addr).add j) = some u) := ⟨fun j u hj => by
                  have := two_new ((w1.setCell ⟨d, 0, none⟩ (.slice (some ⟨g, 0, none⟩) (si.length + 1) cap)).setCell ⟨d, 2, none⟩ (.int .i64 7)) _ _ 59 j u hj
                  rw [setCell_sz, setCell_sz] at this
                  exact this⟩
                clear hk hOb hhb
                go_wp2_with (at_builtin; refine wpList_append_own_at _ rfl _ _ 39 rfl w.heap.size 59 i0 (.agg #[.int .i64 0, .string ⟨#[]⟩]) 2 24 Tryd.underlying39 hi hz0 hz1 hz2 rfl (by decide) _ _ _ rfl (HOb.out.alloc _) ⟨w1.heap.size, 0, none⟩ 1 1 [.int .i64 1, .string ⟨#[]⟩] rfl rfl HC1.out (by intro u hu; simp at hu; rcases hu with rfl | rfl <;> rfl) (by unfold maxLen; omega) (by omega) (by first | omega | (simp; omega)) ?_)
                intro v' w3 hown' hgrow _ _
                obtain ⟨hd3, hk3⟩ := ref_out hgrow HHb.out HOb.out ((Kb.refl _ _).alloc _)
                have hx1 : w3.cell? ⟨d, 0, none⟩ = some (.slice (some ⟨g, 0, none⟩) (si.length + 1) cap) := by rw [Lib.cell_of_heap hd3]; rfl
                have hx2 : w3.cell? ⟨d, 1, none⟩ = some (.bool true) := by rw [Lib.cell_of_heap hd3]; rfl
                have hx3 := Lib.frozen_of_heap hd3 0
                have hx4 := Lib.frozen_of_heap hd3 1
                have HD3 := Aside0.mk hd3
                have HK3 := Aside0.mk hk3
                have HO3 : Aside0 (w3.ownsRow w.heap.size 59 2 v' (evs ++ [(1, [])]).length (evCells (evs ++ [(1, [])]))) := ⟨by
                  rw [List.length_append, evCells_append]
                  exact hown'⟩
                clear hd3 hk3 hown' hgrow
                go_wp2
                obtain ⟨z1, z2⟩ := ref_anew (B := B) (on' := 7) (wi := false) HP.out.2 HK.out HOb.out HK3.out HD3.out
                have hkx : Kb (fun j => j = d) w3 ((w3.setCell ⟨d, 1, none⟩ (.bool false)).setCell ⟨d, 0, none⟩ (.slice none 0 0)) := ((Kb.refl (fun j => j = d) w3).setCell (p := ⟨d, 1, none⟩) (fun _ => rfl) _).setCell (p := ⟨d, 0, none⟩) (fun _ => rfl) _
                have HC := ref_close HTR.out HST2.out (hkx.row HO3.out (fun j hj e => by have := (HO3.out.lt j hj).1; omega)) z1 (fun j (hj : (none : Option Nat) = some j) => by cases hj) z2
                exact ⟨⟨i + 1, by omega, by go_num, HC.1, HC.2⟩, by simp [intOf]; omega⟩
            · have h7' : ¬ ((on : Int) + 1 = 7) := by omega
              have HST2 : Aside0 (feedR s ((L b).take (i + 1)) = (⟨si ++ [49], true, on + 1⟩, evs)) := ⟨by rw [HST.out]; unfold feedR1; rw [if_pos (by decide), R49 _ _ _ (by omega)]; simp⟩
              clear h7
              go_wp2_with fail
              go_region_law (refine step_append_lies _ rfl _ _ 22 rfl B 5 j0 (.int .u8 0) 1 1 Tryd.underlying22 hj hy0 hy1 hy2 rfl (by decide) _ _ _ rfl (HR1.out.2.alloc _) ⟨wr.heap.size, 0, none⟩ 1 1 [.int .u8 49] rfl rfl (cell_one_new _ _ _) (by intro u hu; simp at hu; subst hu; rfl) (by decide) (by unfold maxLen; dsimp only; omega) (by dsimp only; omega) (by simp; omega) _ rfl ?_; intro g cap w1 hown hgrow hat hlt1; have hp := ref_push hgrow HH.out HR1.out.2 ⟨rfl, rfl, rfl, rfl⟩; have q0 : w1.cell? ⟨d, 0, none⟩ = some (.slice A1 si.length k1) := by { rw [Lib.cell_of_heap hp.1]; rfl }; have q1 : w1.cell? ⟨d, 1, none⟩ = some (.bool true) := by { rw [Lib.cell_of_heap hp.1]; rfl }; have q2 : w1.cell? ⟨d, 2, none⟩ = some (.int .i64 (on : Int)) := by { rw [Lib.cell_of_heap hp.1]; rfl }; have p0 := Lib.frozen_of_heap hp.1 0; have p1 := Lib.frozen_of_heap hp.1 1; have p2 := Lib.frozen_of_heap hp.1 2; have HP := Aside0.mk hp; have HOWN := Aside0.mk hown; have HAT := Aside0.mk hat; clear hp hown hgrow hat)
              all_goals
                go_wp2
                have hk : Kb (fun j => j = d) w1 ((w1.setCell ⟨d, 0, none⟩ (.slice (some ⟨g, 0, none⟩) (si.length + 1) cap)).setCell ⟨d, 2, none⟩ (.int .i64 ((on : Int) + 1))) := ((Kb.refl (fun j => j = d) w1).setCell (p := ⟨d, 0, none⟩) (fun _ => rfl) _).setCell (p := ⟨d, 2, none⟩) (fun _ => rfl) _
                obtain ⟨z1, z2, z3⟩ := ref_push2 (w := w) (x := 49) (on' := on + 1) HP.out.2 HP.out.1 HOWN.out HAT.out (by show wr.heap.size ≤ (wr.heap.push _).size; simp) hk (heap_set (heap_set HP.out.1 _).1 _).2.2
                have HC := ref_close HTR.out HST2.out (hk.row (HP.out.2.row HO.out (fun j hj t => own_apart HR1.out.2 HO.out (by decide) j t hj)) (fun j hj e => by have := (HO.out.lt j hj).1; omega)) z1 z2 z3
                exact ⟨⟨i + 1, by omega, by go_num, HC.1, HC.2⟩, by simp [intOf]; omega⟩
        · have hx48 : ¬ (((((b[i]'hlt).toNat : Nat)) : Int) = 48) := fun h => h48 ((hbx 48).1 h)
          have hx49 : ¬ (((((b[i]'hlt).toNat : Nat)) : Int) = 49) := fun h => h49 ((hbx 49).1 h)
          have HST2 : Aside0 (feedR s ((L b).take (i + 1)) = (⟨si, wi, on⟩, evs)) := ⟨by rw [HST.out]; unfold feedR1; rw [if_neg (by unfold isDig; simp [h48, h49])]⟩
          have hx48b : ((((b[i]'hlt).toNat : Nat) : Int) != 48) = true := by simpa using hx48
          have hx49b : ((((b[i]'hlt).toNat : Nat) : Int) != 49) = true := by simpa using hx49
          clear hbx h48 h49 hx48 hx49
          go_wp2
          exact ⟨⟨i + 1, by omega, by go_num, by rw [HST2.out]; exact HO, by rw [HST2.out]; exact HW⟩, by simp [intOf]; omega⟩
    · have e : (L b).take i = L b := List.take_of_length_le (by rw [← size_L]; omega)
      rw [e] at HO HW
      go_wp2
      go_ret
      exact ⟨_, rfl, HO.out, HW.out⟩
end Go.Proofs.YtolodlnndojaiaaDoor.Hd
