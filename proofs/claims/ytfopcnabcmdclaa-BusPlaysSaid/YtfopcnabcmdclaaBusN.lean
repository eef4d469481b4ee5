/- The bus of the document (lapwingref20): what it is in memory; a store to one of its rows. No condition. -/
import Derived.Test.YtfopcnabcmdclaaBusTwo
namespace Go.Proofs.Ytfopcnabcmdclaa.Bs
open Go Go.RowKit Go.Proofs.YtfopcnabcmdclaaW.PrintWords Go.Proofs.YtfopcnabcmdclaaW.PrintLast Go.Proofs.YtfopcnabcmdclaaW.PrintMore Go.Proofs.Ytfopcnabcmdclaa.Str Go.Proofs.Ytfopcnabcmdclaa.Bits Go.Proofs.Ytfopcnabcmdclaa.Mp Go.Proofs.Ytfopcnabcmdclaa.Ra
set_option linter.unusedVariables false
/-- Where a row's slice lies. -/
def off (d : Bool) (i : Nat) : Nat := if d then 1 + i else 17 + i
theorem off_lt (d : Bool) (i : Nat) (h : i < 16) : 0 < off d i ∧ off d i < 33 := by cases d <;> simp [off] <;> omega
theorem off_inj (d d' : Bool) (i i' : Nat) (h : i < 16) (h' : i' < 16) (hn : (d, i) ≠ (d', i')) : off d i ≠ off d' i' := by
  cases d <;> cases d' <;> simp [off] <;> first | omega | (intro e; subst e; exact hn rfl)
/-- One of the slices made another one. -/
def updV (v : Bool → Nat → Value) (d : Bool) (i : Nat) (x : Value) : Bool → Nat → Value := fun d' i' => if d' = d ∧ i' = i then x else v d' i'
theorem updV_same (v : Bool → Nat → Value) (d : Bool) (i : Nat) (x : Value) : updV v d i x d i = x := by unfold updV; rw [if_pos ⟨rfl, rfl⟩]
theorem updV_other {v : Bool → Nat → Value} {d d' : Bool} {i i' : Nat} {x : Value} (h : (d, i) ≠ (d', i')) : updV v d i x d' i' = v d' i' := by
  unfold updV
  rw [if_neg (fun e => h (by rw [e.1, e.2]))]
structure RefAt (T : Nat → Prop) (w : World) (p n : Nat) (q : Bool → Int → List ByteArray) (v : Bool → Nat → Value) : Prop where
  tp : T p
  lt : ∀ k, T k → k < w.heap.size
  cells : ∃ cur, w.heap[p]? = some (.cells cur 40 (0, 0)) ∧ cur.size = 33 ∧ cur[0]? = some (.int .i64 n) ∧ ∀ d i, i < 16 → cur[off d i]? = some (v d i)
  rows : ∀ d i, i < 16 → Row w T (v d i) (q d (i : Int))
  apart : ∀ d i d' i', i < 16 → i' < 16 → (d, i) ≠ (d', i') → ∀ k, (v d i).ownBlock = some k → (v d' i').ownBlock ≠ some k
  out : ∀ d i, ¬ (0 ≤ i ∧ i < (n : Int)) → q d i = []
  short : ∀ d i, (q d i).length ≤ 256
  sizes : ∀ d i s, s ∈ q d i → s.size ≤ 9223372036854775807
  n1 : 1 ≤ n
  n16 : n ≤ 16
section
variable {T : Nat → Prop} {w : World} {p n : Nat} {q : Bool → Int → List ByteArray} {v : Bool → Nat → Value}
theorem RefAt.same {w' : World} (h : RefAt T w p n q v) (hb : ∀ k, T k → w'.heap[k]? = w.heap[k]?) (hs : w.heap.size ≤ w'.heap.size) : RefAt T w' p n q v where
  tp := h.tp
  lt := fun k hk => Nat.lt_of_lt_of_le (h.lt k hk) hs
  cells := by
    obtain ⟨cur, h1, h2⟩ := h.cells
    exact ⟨cur, (hb p h.tp).trans h1, h2⟩
  rows := fun d i hi => (h.rows d i hi).same fun k hk => hb k ((h.rows d i hi).lt k hk).1
  apart := h.apart
  out := h.out
  short := h.short
  sizes := h.sizes
  n1 := h.n1
  n16 := h.n16
theorem RefAt.below {w' : World} (h : RefAt T w p n q v) (hb : Below w.heap.size w w') : RefAt T w' p n q v := h.same (fun k hk => hb.block k (h.lt k hk)) hb.size
theorem RefAt.far {T' : Nat → Prop} {w' : World} (h : RefAt T w p n q v) (hk : Kb T' w w') (hd : ∀ k, T k → ¬ T' k) : RefAt T w' p n q v := h.same (fun k ht => hk.block k (h.lt k ht) (hd k ht)) hk.size
theorem RefAt.cell0 (h : RefAt T w p n q v) : w.cell? ⟨p, 0, none⟩ = some (.int .i64 (n : Int)) := by
  obtain ⟨cur, h1, h2, h3, h4⟩ := h.cells
  rw [Lib.cell_of_heap h1]; exact h3
theorem RefAt.cell (h : RefAt T w p n q v) (d : Bool) (i : Nat) (hi : i < 16) : w.cell? ⟨p, off d i, none⟩ = some (v d i) ∧ w.frozen? ⟨p, off d i, none⟩ = false := by
  obtain ⟨cur, h1, h2, h3, h4⟩ := h.cells
  exact ⟨by rw [Lib.cell_of_heap h1]; exact h4 d i hi, Lib.frozen_of_heap h1 _⟩
theorem RefAt.own_ne (h : RefAt T w p n q v) (d : Bool) (i : Nat) (hi : i < 16) : (v d i).ownBlock ≠ some p := by
  obtain ⟨cur, h1, _⟩ := h.cells
  exact own_ne_cells (h.rows d i hi) h1 (by decide)
/-- A row made another one, behind which its slice is stored. -/
theorem RefAt.put {T' : Nat → Prop} {w2 : World} (h : RefAt T w p n q v) (d : Bool) (i : Nat) (hi : i < n) (v' : Value) (l : List ByteArray) (hs : w.heap.size ≤ w2.heap.size)
    (hT : ∀ k, T k → T' k) (hlt : ∀ k, T' k → k < w2.heap.size) (hk : ∀ k, T k → (v d i).ownBlock ≠ some k → w2.heap[k]? = w.heap[k]?)
    (hv : Row w2 T' v' l) (hloc : ∀ k, v'.ownBlock = some k → (v d i).ownBlock = some k ∨ ¬ T k) (hl : l.length ≤ 256) (hsz : ∀ s ∈ l, s.size ≤ 9223372036854775807) :
    RefAt T' (w2.setCell ⟨p, off d i, none⟩ v') p n (updQ q d i l) (updV v d i v') := by
  have h16 := h.n16
  have hi16 : i < 16 := by omega
  have hpo := h.own_ne d i hi16
  obtain ⟨cur, h1, h2, h3, h4⟩ := h.cells
  have hp2 : w2.heap[p]? = some (.cells cur 40 (0, 0)) := (hk p h.tp hpo).trans h1
  have hvp : v'.ownBlock ≠ some p := own_ne_cells hv hp2 (by decide)
  have hoth : ∀ k, k ≠ p → (w2.setCell ⟨p, off d i, none⟩ v').heap[k]? = w2.heap[k]? := fun k hk => Below.heap_setCell _ _ _ _ hk
  have ho := off_lt d i hi16
  have hnew : ∀ d' i', i' < 16 → (d, i) ≠ (d', i') → ∀ k, v'.ownBlock = some k → (v d' i').ownBlock ≠ some k := by
    intro d' i' hi' hne k hk1 hk2
    rcases hloc k hk1 with e | e
    · exact h.apart d i d' i' hi16 hi' hne k e hk2
    · exact e ((h.rows d' i' hi').lt k hk2).1
  refine ⟨hT p h.tp, fun k hk => by rw [show (w2.setCell ⟨p, off d i, none⟩ v').heap.size = w2.heap.size from by simp [World.setCell]]; exact hlt k hk, ⟨_, heap_setAt hp2 _, ?_, ?_, ?_⟩, ?_, ?_, ?_, ?_, ?_, h.n1, h.n16⟩
  · rw [Array.size_setIfInBounds]; exact h2
  · rw [Array.getElem?_setIfInBounds, if_neg (by omega)]; exact h3
  · intro d' i' hi'
    rw [Array.getElem?_setIfInBounds]
    by_cases e : (d, i) = (d', i')
    · injection e with e1 e2
      subst e1; subst e2
      rw [if_pos rfl, if_pos (by omega), updV_same]
    · rw [if_neg (off_inj d d' i i' hi16 hi' e), updV_other e]
      exact h4 d' i' hi'
  · intro d' i' hi'
    by_cases e : (d, i) = (d', i')
    · injection e with e1 e2
      subst e1; subst e2
      rw [updV_same, updQ_same]
      exact hv.same (fun k hk => hoth k (fun e => hvp (by rw [hk, e])))
    · rw [updV_other e, updQ_other (fun e2 => e (by injection e2 with e1 e2; rw [e1]; congr 1; omega))]
      have hr := h.rows d' i' hi'
      refine OwnsAt.mono (hr.same (fun k hk2 => ?_)) (fun k _ ht => hT k ht)
      rw [hoth k (fun e => h.own_ne d' i' hi' (by rw [hk2, e]))]
      exact hk k (hr.lt k hk2).1 (fun e2 => h.apart d i d' i' hi16 hi' e k e2 hk2)
  · intro d1 i1 d2 i2 k1 k2 hne k hk1
    by_cases e1 : (d, i) = (d1, i1)
    · injection e1 with e1 e2
      subst e1; subst e2
      rw [updV_same] at hk1
      rw [updV_other hne]
      exact hnew d2 i2 k2 hne k hk1
    · rw [updV_other e1] at hk1
      by_cases e2 : (d, i) = (d2, i2)
      · injection e2 with e2 e3
        subst e2; subst e3
        rw [updV_same]
        exact fun e => hnew d1 i1 k1 e1 k e hk1
      · rw [updV_other e2]
        exact h.apart d1 i1 d2 i2 k1 k2 hne k hk1
  · intro d' i' ho
    rw [updQ_other (fun e => by injection e with _ e2; subst e2; exact ho ⟨by omega, by omega⟩)]
    exact h.out d' i' ho
  · intro d' i'
    by_cases hk : (d, (i : Int)) = (d', i')
    · injection hk with e1 e2
      subst e1; subst e2
      rw [updQ_same]
      exact hl
    · rw [updQ_other hk]
      exact h.short d' i'
  · intro d' i' x hx
    by_cases hk : (d, (i : Int)) = (d', i')
    · injection hk with e1 e2
      subst e1; subst e2
      rw [updQ_same] at hx
      exact hsz x hx
    · rw [updQ_other hk] at hx
      exact h.sizes _ _ x hx
/-- The first string of a row made another one. -/
theorem RefAt.spoil (h : RefAt T w p n q v) (d : Bool) (i : Nat) (hi : i < n) {g o cp : Nat} {s s' : ByteArray} {l : List ByteArray}
    (hv : v d i = .slice (some ⟨g, o, none⟩) (s :: l).length cp) (hq : q d i = s :: l) (hs : s'.size ≤ 9223372036854775807) :
    RefAt T (w.setCell ⟨g, o, none⟩ (.string s')) p n (updQ q d i (s' :: l)) v := by
  have h16 := h.n16
  have hi16 : i < 16 := by omega
  have hrow := h.rows d i hi16
  have hob : (v d i).ownBlock = some g := by rw [hv]; rfl
  have hgp : g ≠ p := fun e => h.own_ne d i hi16 (by rw [hob, e])
  have hoth : ∀ k, k ≠ g → (w.setCell ⟨g, o, none⟩ (.string s')).heap[k]? = w.heap[k]? := fun k hk => Below.heap_setCell _ _ _ _ hk
  obtain ⟨cur, h1, h2⟩ := h.cells
  refine ⟨h.tp, fun k hk => by rw [show (w.setCell ⟨g, o, none⟩ (.string s')).heap.size = w.heap.size from by simp [World.setCell]]; exact h.lt k hk, ⟨cur, (hoth p hgp.symm).trans h1, h2⟩, ?_, h.apart, ?_, ?_, ?_, h.n1, h.n16⟩
  · intro d' i' hi'
    by_cases e : (d, i) = (d', i')
    · injection e with e1 e2
      subst e1; subst e2
      rw [updQ_same, hv]
      rw [hv, hq] at hrow
      exact row_set hrow
    · rw [updQ_other (fun e2 => e (by injection e2 with e1 e2; rw [e1]; congr 1; omega))]
      exact (h.rows d' i' hi').same (fun k hk2 => hoth k (fun e2 => h.apart d i d' i' hi16 hi' e g hob (by rw [hk2, e2])))
  · intro d' i' ho
    rw [updQ_other (fun e => by injection e with _ e2; subst e2; exact ho ⟨by omega, by omega⟩)]
    exact h.out d' i' ho
  · intro d' i'
    by_cases hk : (d, (i : Int)) = (d', i')
    · injection hk with e1 e2
      subst e1; subst e2
      rw [updQ_same]
      have := h.short d i
      rw [hq] at this
      exact this
    · rw [updQ_other hk]
      exact h.short d' i'
  · intro d' i' x hx
    by_cases hk : (d, (i : Int)) = (d', i')
    · injection hk with e1 e2
      subst e1; subst e2
      rw [updQ_same] at hx
      rcases List.mem_cons.1 hx with rfl | hx
      · exact hs
      · exact h.sizes d i x (by rw [hq]; exact List.mem_cons_of_mem _ hx)
    · rw [updQ_other hk] at hx
      exact h.sizes _ _ x hx
end
/-- What a call on the document's bus leaves. -/
def WentR (T : Nat → Prop) (w : World) (p n : Nat) (q' : Bool → Int → List ByteArray) (w' : World) : Prop :=
  ∃ T' v', RefAt T' w' p n q' v' ∧ Kb T w w' ∧ ∀ k, T' k → T k ∨ w.heap.size ≤ k
theorem WentR.trans {T T1 : Nat → Prop} {w w1 w2 : World} {p n : Nat} {q2 : Bool → Int → List ByteArray} (k1 : Kb T w w1) (hT : ∀ k, T1 k → T k ∨ w.heap.size ≤ k) (h : WentR T1 w1 p n q2 w2) : WentR T w p n q2 w2 := by
  obtain ⟨T', v', hb, h3, h4⟩ := h
  refine ⟨T', v', hb, k1.trans h3 (fun j hj ht => ?_), fun k hk => ?_⟩
  · rcases hT j ht with h | h
    · exact h
    · omega
  · rcases h4 k hk with h | h
    · exact hT k h
    · right; have := k1.size; omega
theorem WentR.still {T : Nat → Prop} {w w' : World} {p n : Nat} {q : Bool → Int → List ByteArray} {v : Bool → Nat → Value} (h : RefAt T w p n q v) (hb : Below w.heap.size w w') : WentR T w p n q w' :=
  ⟨T, v, h.below hb, (Kb.refl T w).ofBelow hb, fun k hk => Or.inl hk⟩
/-- The document's bus between calls. -/
def HasR (F : Nat → Prop) (w : World) (p n : Nat) (q : Bool → Int → List ByteArray) : Prop := ∃ T v, RefAt T w p n q v ∧ ∀ k, F k → ¬ T k ∧ k < w.heap.size
theorem HasR.went {F T : Nat → Prop} {w w' : World} {p n : Nat} {q' : Bool → Int → List ByteArray} (hF : ∀ k, F k → ¬ T k ∧ k < w.heap.size) (h : WentR T w p n q' w') : HasR F w' p n q' ∧ Kb (fun k => ¬ F k) w w' := by
  obtain ⟨T', v', hb, hk, hT'⟩ := h
  refine ⟨⟨T', v', hb, fun k hFk => ⟨fun ht => ?_, ?_⟩⟩, hk.mono (fun k hT hFk => (hF k hFk).1 hT)⟩
  · rcases hT' k ht with h | h
    · exact (hF k hFk).1 h
    · have := (hF k hFk).2; omega
  · have := (hF k hFk).2
    have := hk.size
    omega
theorem HasR.below {F : Nat → Prop} {w w' : World} {p n : Nat} {q : Bool → Int → List ByteArray} (h : HasR F w p n q) (hb : Below w.heap.size w w') : HasR F w' p n q := by
  obtain ⟨T, v, h1, hF⟩ := h
  exact ⟨T, v, h1.below hb, fun k hk => ⟨(hF k hk).1, Nat.lt_of_lt_of_le (hF k hk).2 hb.size⟩⟩
/-- A bus and the document's one, apart from one another and from the blocks of F. -/
def Pair (F : Nat → Prop) (w : World) (p mb c n : Nat) (qa : Bool → Int → List ByteArray) (r : Nat) (qb : Bool → Int → List ByteArray) : Prop :=
  ∃ Tb v, RefAt Tb w r n qb v ∧ (∀ k, F k → ¬ Tb k ∧ k < w.heap.size) ∧ Has (fun k => F k ∨ Tb k) w p mb c n qa
section
variable {F : Nat → Prop} {w : World} {p mb c n r : Nat} {qa qb : Bool → Int → List ByteArray}
theorem Pair.first (h : Pair F w p mb c n qa r qb) : ∃ F' : Nat → Prop, (∀ k, F k → F' k) ∧ Has F' w p mb c n qa ∧
    ∀ w' c' qa', Has F' w' p mb c' n qa' → Kb (fun k => ¬ F' k) w w' → Pair F w' p mb c' n qa' r qb ∧ Kb (fun k => ¬ F k) w w' := by
  obtain ⟨Tb, v, hb, hF, ha⟩ := h
  exact ⟨fun k => F k ∨ Tb k, fun k hk => Or.inl hk, ha, fun w' c' qa' h1 k1 => ⟨⟨Tb, v, hb.far k1 (fun k ht hn => hn (Or.inr ht)), fun k hk => ⟨(hF k hk).1, Nat.lt_of_lt_of_le (hF k hk).2 k1.size⟩, h1⟩, k1.mono (fun k hn hk => hn (Or.inl hk))⟩⟩
theorem Pair.second (h : Pair F w p mb c n qa r qb) : ∃ F' : Nat → Prop, (∀ k, F k → F' k) ∧ HasR F' w r n qb ∧
    ∀ w' qb', HasR F' w' r n qb' → Kb (fun k => ¬ F' k) w w' → Pair F w' p mb c n qa r qb' ∧ Kb (fun k => ¬ F k) w w' := by
  obtain ⟨Tb, v, hb, hF, Ta, c', f, ha, hc, hFa⟩ := h
  refine ⟨fun k => F k ∨ Ta k, fun k hk => Or.inl hk, ⟨Tb, v, hb, fun k hk => ?_⟩, fun w' qb' h1 k1 => ⟨?_, k1.mono (fun k hn hk => hn (Or.inl hk))⟩⟩
  · rcases hk with hk | hk
    · exact hF k hk
    · exact ⟨fun ht => (hFa k (Or.inr ht)).1 hk, ha.lt k hk⟩
  · obtain ⟨Tb', v', hb', hF'⟩ := h1
    refine ⟨Tb', v', hb', fun k hk => hF' k (Or.inl hk), Ta, c', f, ha.far k1 (fun k ht hn => hn (Or.inr ht)), hc, fun k hk => ?_⟩
    rcases hk with hk | hk
    · exact ⟨(hFa k (Or.inl hk)).1, (hF' k (Or.inl hk)).2⟩
    · exact ⟨fun ht => (hF' k (Or.inr ht)).1 hk, hb'.lt k hk⟩
theorem Pair.more {F' : Nat → Prop} {w' : World} (h : Pair F w p mb c n qa r qb) (hb : Below w.heap.size w w') (hF' : ∀ k, F' k → F k ∨ (w.heap.size ≤ k ∧ k < w'.heap.size)) : Pair F' w' p mb c n qa r qb := by
  obtain ⟨Tb, v, h1, hF, ha⟩ := h
  refine ⟨Tb, v, h1.below hb, fun k hk => ?_, ha.more hb (fun k hk => ?_)⟩
  · rcases hF' k hk with h | h
    · exact ⟨(hF k h).1, Nat.lt_of_lt_of_le (hF k h).2 hb.size⟩
    · exact ⟨fun ht => by have := h1.lt k ht; omega, h.2⟩
  · rcases hk with hk | hk
    · rcases hF' k hk with h | h
      · exact Or.inl (Or.inl h)
      · exact Or.inr h
    · exact Or.inl (Or.inr hk)
theorem Pair.less {F' : Nat → Prop} (h : Pair F w p mb c n qa r qb) (hF' : ∀ k, F' k → F k) : Pair F' w p mb c n qa r qb := h.more (Below.refl _ w) (fun k hk => Or.inl (hF' k hk))
theorem Pair.below {w' : World} (h : Pair F w p mb c n qa r qb) (hb : Below w.heap.size w w') : Pair F w' p mb c n qa r qb := by
  obtain ⟨Tb, v, h1, hF, ha⟩ := h
  exact ⟨Tb, v, h1.below hb, fun k hk => ⟨(hF k hk).1, Nat.lt_of_lt_of_le (hF k hk).2 hb.size⟩, ha.below hb⟩
theorem Pair.le {c' : Nat} (h : Pair F w p mb c n qa r qb) (h1 : c ≤ c') : Pair F w p mb c' n qa r qb := by
  obtain ⟨Tb, v, hb, hF, ha⟩ := h
  exact ⟨Tb, v, hb, hF, ha.le h1⟩
theorem Pair.kept {w' : World} (h : Pair F w p mb c n qa r qb) (hk : Kb F w w') : Pair F w' p mb c n qa r qb := by
  obtain ⟨Tb, v, h1, hF, ha⟩ := h
  exact ⟨Tb, v, h1.far hk (fun k ht hf => (hF k hf).1 ht), fun k hf => ⟨(hF k hf).1, Nat.lt_of_lt_of_le (hF k hf).2 hk.size⟩, ha.kept (hk.mono (fun k hk => Or.inl hk))⟩
theorem Pair.made {w0 w1 w2 : World} (ha : Has (fun k => k < w0.heap.size) w1 p mb c n qa) (b1 : Below w0.heap.size w0 w1) (hb : HasR (fun k => k < w1.heap.size) w2 r n qb) (b2 : Below w1.heap.size w1 w2) : Pair (fun k => k < w0.heap.size) w2 p mb c n qa r qb := by
  obtain ⟨Tb, v, h1, hF⟩ := hb
  refine ⟨Tb, v, h1, fun k hk => hF k (Nat.lt_of_lt_of_le hk b1.size), ?_⟩
  refine ha.more b2 (fun k hk => ?_)
  rcases hk with hk | hk
  · exact Or.inl hk
  · right
    have hl := h1.lt k hk
    by_cases hlt : k < w1.heap.size
    · exact absurd hk (hF k hlt).1
    · exact ⟨by omega, hl⟩
end
end Go.Proofs.Ytfopcnabcmdclaa.Bs
