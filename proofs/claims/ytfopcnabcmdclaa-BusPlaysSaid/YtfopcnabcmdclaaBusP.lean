/- One more on its way: what an entry's making, an append and the entry's store do to a bus. No condition. -/
import Derived.Test.YtfopcnabcmdclaaBusR
namespace Go.Proofs.Ytfopcnabcmdclaa.Bs
open Go Go.RowKit Go.Proofs.YtfopcnabcmdclaaW.PrintWords Go.Proofs.YtfopcnabcmdclaaW.PrintLast Go.Proofs.YtfopcnabcmdclaaW.PrintMore Go.Proofs.Ytfopcnabcmdclaa.Str Go.Proofs.Ytfopcnabcmdclaa.Bits Go.Proofs.Ytfopcnabcmdclaa.Mp Go.Proofs.Ytfopcnabcmdclaa.Ra
set_option linter.unusedVariables false
/-- A row made another one. -/
def updQ (q : Bool → Int → List ByteArray) (d : Bool) (i : Int) (l : List ByteArray) : Bool → Int → List ByteArray := fun d' i' => if d' = d ∧ i' = i then l else q d' i'
theorem updQ_same (q : Bool → Int → List ByteArray) (d : Bool) (i : Int) (l : List ByteArray) : updQ q d i l d i = l := by unfold updQ; rw [if_pos ⟨rfl, rfl⟩]
theorem updQ_other {q : Bool → Int → List ByteArray} {d d' : Bool} {i i' : Int} {l : List ByteArray} (h : (d, i) ≠ (d', i')) : updQ q d i l d' i' = q d' i' := by
  unfold updQ
  rw [if_neg (fun e => h (by rw [e.1, e.2]))]
theorem val_upd_same (f : Lit → Option Value) (d : Bool) (i : Int) (v : Value) : val (upd f (keyL d i) (some v)) d i = v := by unfold val; rw [upd_same]; rfl
theorem val_upd_other {f : Lit → Option Value} {d d' : Bool} {i i' : Int} {o : Option Value} (hi : wfi i) (hi' : wfi i') (h : (d, i) ≠ (d', i')) : val (upd f (keyL d i) o) d' i' = val f d' i' := by
  unfold val
  rw [upd_other (fun e => h (by obtain ⟨e1, e2⟩ := keyL_inj d' d i' i hi' hi e; rw [e1, e2]))]
theorem MapAt.heap {P : Program} {k : TypeId} {w : World} {b n : Nat} {f : Lit → Option Value} (h : MapAt P k w b n f) : ∃ es cl, w.heap[b]? = some (.map es cl) := by
  obtain ⟨D, ⟨es, cl, h1, _⟩, _⟩ := h
  exact ⟨es, cl, h1⟩
/-- A row's block is no map's. -/
theorem own_ne_map {w : World} {T : Nat → Prop} {e : TypeId} {z n : Nat} {v : Value} {xs : List Value} (ho : OwnsAt w T e z v n xs) {b : Nat} {es : Array MapEntry} {cl : Nat} (hb : w.heap[b]? = some (.map es cl)) : v.ownBlock ≠ some b := by
  intro hk
  rcases ho.2 with ⟨rfl, _⟩ | ⟨g, o, cap, cur, rfl, ht, hg, _⟩
  · cases hk
  · injection hk with hk
    subst hk
    rw [hb] at hg
    cases hg
/-- A row's block is none of another type. -/
theorem own_ne_cells {w : World} {T : Nat → Prop} {e e' : TypeId} {z n : Nat} {v : Value} {xs : List Value} (ho : OwnsAt w T e z v n xs) {b : Nat} {cs : Array Value} {m : Nat × Nat} (hb : w.heap[b]? = some (.cells cs e' m)) (hne : e' ≠ e) : v.ownBlock ≠ some b := by
  intro hk
  rcases ho.2 with ⟨rfl, _⟩ | ⟨g, o, cap, cur, rfl, ht, hg, _⟩
  · cases hk
  · injection hk with hk
    subst hk
    rw [hb] at hg
    injection hg with hg
    injection hg with _ e2 _
    exact hne e2
theorem p_ne_mb {T : Nat → Prop} {w : World} {p mb c n : Nat} {q : Bool → Int → List ByteArray} {f : Lit → Option Value} (h : BusAt T w p mb c n q f) : p ≠ mb := by
  intro e
  obtain ⟨es, cl, hb⟩ := MapAt.heap h.map
  have := h.cells
  rw [e, hb] at this
  cases this
theorem put_step {T : Nat → Prop} {w : World} {p mb c n : Nat} {q : Bool → Int → List ByteArray} {f : Lit → Option Value} (h : BusAt T w p mb c n q f) (hcn : c ≤ 1000000000) (d : Bool) (i : Int) (hi : wfi i) (hin : 0 ≤ i ∧ i < (n : Int)) (s : ByteArray) (hs : s.size ≤ 9223372036854775807) (hlen : (q d i).length < 256) :
    ∃ st w1, (Instr.mapEntry 56 (.map (some mb)) (.agg #[.bool d, .int .i64 i])).run Try.prog ((w.alloc (.cells #[.string s] 9)).drew) = .ok (.tuple #[val f d i, st]) w1 ∧
      OwnsAt w1 T 9 1 (val f d i) (q d i).length (strs (q d i)) ∧ (∀ j u, [.string s][j]? = some u → w1.cell? ((⟨w.heap.size, 0, none⟩ : Addr).add j) = some u) ∧
      ∀ v' w2, OwnsAt w2 (fun k => T k ∨ k = w1.heap.size) 9 1 v' ((q d i).length + 1) (strs (q d i) ++ [.string s]) → w1.grownBy w2 (val f d i).ownBlock → (v'.ownBlock = (val f d i).ownBlock ∨ v'.ownBlock = some w1.heap.size) →
        ∃ w3, (Instr.entryStore 56 (.map (some mb)) st v').run Try.prog w2 = .ok () w3 ∧ Went T w p mb (c + 1) n (updQ q d i (q d i ++ [s])) w3 := by
  have k0 : Kb T w ((w.alloc (.cells #[.string s] 9)).drew) := ((Kb.refl T w).alloc _).drew
  have hs0 : ((w.alloc (.cells #[.string s] 9)).drew).heap.size = w.heap.size + 1 := by show (w.heap.push _).size = _; simp
  have hn0 : ((w.alloc (.cells #[.string s] 9)).drew).heap[w.heap.size]? = some (.cells #[.string s] 9 (0, 0)) := heap_alloc_new w _
  have hW : BusAt T ((w.alloc (.cells #[.string s] 9)).drew) p mb c n q f := h.same (fun k hk => Below.heap_alloc _ _ _ (h.lt k hk)) (by rw [hs0]; omega)
  generalize (w.alloc (.cells #[.string s] 9)).drew = W at k0 hs0 hn0 hW ⊢
  obtain ⟨st, w1, hrun, hg1, hs1, hst⟩ := entry_law rowLaw Try.underlying56 zeroS hW.map (by unfold maxLen; omega) (keyRow d i hi)
  obtain ⟨es, cl, hmb⟩ := MapAt.heap hW.map
  have hpm := p_ne_mb hW
  have k1 : Kb T w w1 := k0.grown hg1 (fun k hk _ => by cases hk; exact h.tm)
  have hnb : w.heap.size ≠ mb := fun e => by have := h.lt mb h.tm; omega
  have hn1 := (hg1.block w.heap.size (by rw [hs0]; omega) (fun e => hnb (Option.some.inj e))).trans hn0
  have hrow1 : ∀ d' i', wfi i' → Row w1 T (val f d' i') (q d' i') := fun d' i' hi' => (hW.rows d' i' hi').kept hg1 (Or.inr (own_ne_map (hW.rows d' i' hi') hmb))
  have hcell1 : w1.heap[p]? = some (.cells #[.int .i64 n, .map (some mb)] 58 (0, 0)) := (hg1.block p (hW.lt p hW.tp) (fun e => hpm (Option.some.inj e))).trans hW.cells
  have hlt1 : ∀ k, T k → k < w1.heap.size := fun k hk => by rw [hs1]; exact hW.lt k hk
  refine ⟨st, w1, hrun, hrow1 d i hi, ?_, ?_⟩
  · intro j u hu
    match j, hu with
    | 0, hu =>
      simp at hu
      subst hu
      show w1.cell? ⟨w.heap.size, 0, none⟩ = _
      rw [Lib.cell_of_heap hn1]; rfl
  · intro v' w2 hown2 hg2 hloc
    have hvm : (val f d i).ownBlock ≠ some mb := own_ne_map (hW.rows d i hi) hmb
    have hmb2 : w2.heap[mb]? = w1.heap[mb]? := hg2.block mb (hlt1 mb h.tm) (fun e => hvm e.symm)
    obtain ⟨w3, hrun3, hm3, hg3, hs3⟩ := hst w2 v' hmb2
    have hvm' : v'.ownBlock ≠ some mb := by
      rcases hloc with e | e
      · rw [e]; exact hvm
      · rw [e]; intro e2; have := hlt1 mb h.tm; injection e2 with e2; omega
    have hvp : (val f d i).ownBlock ≠ some p := own_ne_cells (hW.rows d i hi) hW.cells (by decide)
    have hlt3 : ∀ k, T k → k < w3.heap.size := fun k hk => by rw [hs3]; exact Nat.lt_of_lt_of_le (hlt1 k hk) hg2.size
    have hnew : ∀ d' i', wfi i' → (d, i) ≠ (d', i') → ∀ k, v'.ownBlock = some k → (val f d' i').ownBlock ≠ some k := by
      intro d' i' hi' hne k hk
      rcases hloc with e | e
      · exact h.apart d i d' i' hi hi' hne k (by rw [← e]; exact hk)
      · intro e2
        have := hlt1 k ((h.rows d' i' hi').lt k e2).1
        rw [e] at hk
        injection hk with hk
        omega
    refine ⟨w3, hrun3, fun k => (T k ∨ k = w1.heap.size) ∧ k < w3.heap.size, c + 1, upd f (keyL d i) (some v'), ?_, Nat.le_refl _, ?_, ?_⟩
    · refine ⟨⟨Or.inl h.tp, hlt3 p h.tp⟩, ⟨Or.inl h.tm, hlt3 mb h.tm⟩, fun k hk => hk.2, ?_, hm3, ?_, ?_, ?_, ?_, ?_, h.n1, h.n16⟩
      · exact (hg3.block p (by have := hlt1 p h.tp; have := hg2.size; omega) (fun e => hpm (Option.some.inj e))).trans ((hg2.block p (hlt1 p h.tp) (fun e => hvp e.symm)).trans hcell1)
      · intro d' i' hi'
        by_cases hk : (d, i) = (d', i')
        · injection hk with e1 e2
          subst e1; subst e2
          rw [val_upd_same, updQ_same]
          have h3 := hown2.kept hg3 (Or.inr hvm')
          unfold Row
          rw [List.length_append, strs_app]
          exact h3.mono (fun k hk ht => ⟨ht, (h3.lt k hk).2⟩)
        · rw [val_upd_other hi hi' hk, updQ_other hk]
          have hne2 : (val f d' i').ownBlock = none ∨ (val f d' i').ownBlock ≠ (val f d i).ownBlock := by
            cases hv : (val f d' i').ownBlock with
            | none => exact Or.inl rfl
            | some k => exact Or.inr (fun e => h.apart d i d' i' hi hi' hk k e.symm hv)
          have h3 := ((hrow1 d' i' hi').kept hg2 hne2).kept hg3 (Or.inr (own_ne_map (hW.rows d' i' hi') hmb))
          exact h3.mono (fun k hk ht => ⟨Or.inl ht, (h3.lt k hk).2⟩)
      · intro d1 i1 d2 i2 h1 h2 hne k hk
        by_cases e1 : (d, i) = (d1, i1)
        · injection e1 with e1 e2
          subst e1; subst e2
          rw [val_upd_same] at hk
          rw [val_upd_other hi h2 hne]
          exact hnew d2 i2 h2 hne k hk
        · rw [val_upd_other hi h1 e1] at hk
          by_cases e2 : (d, i) = (d2, i2)
          · injection e2 with e2 e3
            subst e2; subst e3
            rw [val_upd_same]
            exact fun e => hnew d1 i1 h1 e1 k e hk
          · rw [val_upd_other hi h2 e2]
            exact h.apart d1 i1 d2 i2 h1 h2 hne k hk
      · intro d' i' ho
        have hk : (d, i) ≠ (d', i') := fun e => by injection e with _ e2; subst e2; exact ho hin
        rw [updQ_other hk]
        exact h.out d' i' ho
      · intro d' i'
        by_cases hk : (d, i) = (d', i')
        · injection hk with e1 e2
          subst e1; subst e2
          rw [updQ_same, List.length_append]
          show _ + 1 ≤ _
          omega
        · rw [updQ_other hk]
          exact h.short d' i'
      · intro d' i' x hx
        by_cases hk : (d, i) = (d', i')
        · injection hk with e1 e2
          subst e1; subst e2
          rw [updQ_same, List.mem_append] at hx
          rcases hx with hx | hx
          · exact h.sizes _ _ x hx
          · rw [List.mem_singleton.1 hx]; exact hs
        · rw [updQ_other hk] at hx
          exact h.sizes _ _ x hx
    · exact (k1.grown hg2 (fun k hk _ => ((hW.rows d i hi).lt k hk).1)).grown hg3 (fun k hk _ => by cases hk; exact h.tm)
    · intro k hk
      rcases hk.1 with hk | hk
      · exact Or.inl hk
      · exact Or.inr (by omega)
end Go.Proofs.Ytfopcnabcmdclaa.Bs
