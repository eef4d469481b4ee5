/- Slices of the call's own that may begin behind their block's first cell ('s = s[1:]', then 'append'): what they hold, and an append onto one. No condition but Go's own limits. -/
import Derived.Laws.AppendOwn
import Derived.Below
import Derived.Tactics
import Derived.RegionTactic
import Derived.Lib.Builder
namespace Go.Proofs.Ytfopcnabcmdclaa.Ra
open Go Go.RowKit
set_option linter.unusedVariables false
/-- The slice v has n elements, whose cells are xs; its block is one of T. -/
def OwnsAt (w : World) (T : Nat → Prop) (e : TypeId) (size : Nat) (v : Value) (n : Nat) (xs : List Value) : Prop :=
  xs.length = n * size ∧
  ((v = .slice none 0 0 ∧ n = 0) ∨
   ∃ g o cap cur, v = .slice (some ⟨g, o * size, none⟩) n cap ∧ T g ∧ w.heap[g]? = some (.cells cur e (0, 0)) ∧ n ≤ cap ∧ cap ≤ maxLen ∧ (o + cap) * size ≤ cur.size ∧ (cur.toList.drop (o * size)).take (n * size) = xs)
section
variable {w : World} {T : Nat → Prop} {e : TypeId} {size : Nat} {v : Value} {n : Nat} {xs : List Value}
theorem ownsAt_nil (w : World) (T : Nat → Prop) (e : TypeId) (size : Nat) : OwnsAt w T e size (.slice none 0 0) 0 [] := ⟨by simp, .inl ⟨rfl, rfl⟩⟩
theorem OwnsAt.mono {T' : Nat → Prop} (h : OwnsAt w T e size v n xs) (hT : ∀ k, v.ownBlock = some k → T k → T' k) : OwnsAt w T' e size v n xs := by
  refine ⟨h.1, ?_⟩
  rcases h.2 with h2 | ⟨g, o, cap, cur, rfl, ht, r⟩
  · exact .inl h2
  · exact .inr ⟨g, o, cap, cur, rfl, hT g rfl ht, r⟩
theorem OwnsAt.lt (h : OwnsAt w T e size v n xs) : ∀ k, v.ownBlock = some k → T k ∧ k < w.heap.size := by
  intro k hk
  rcases h.2 with ⟨rfl, _⟩ | ⟨g, o, cap, cur, rfl, ht, hg, _⟩
  · simp [Value.ownBlock] at hk
  · simp [Value.ownBlock] at hk
    subst hk
    exact ⟨ht, (Array.getElem?_eq_some_iff.1 hg).1⟩
/-- The block is as it was. -/
theorem OwnsAt.same {w' : World} (h : OwnsAt w T e size v n xs) (hb : ∀ k, v.ownBlock = some k → w'.heap[k]? = w.heap[k]?) : OwnsAt w' T e size v n xs := by
  refine ⟨h.1, ?_⟩
  rcases h.2 with h2 | ⟨g, o, cap, cur, rfl, ht, hg, r⟩
  · exact .inl h2
  · exact .inr ⟨g, o, cap, cur, rfl, ht, (hb g rfl).trans hg, r⟩
theorem OwnsAt.kept {w' : World} {row : Option Nat} (h : OwnsAt w T e size v n xs) (hg : w.grownBy w' row) (hne : v.ownBlock = none ∨ v.ownBlock ≠ row) : OwnsAt w' T e size v n xs :=
  h.same fun k hk => hg.block k (h.lt k hk).2 (fun e1 => by rcases hne with h1 | h1 <;> rw [hk] at h1 <;> first | cases h1 | exact h1 e1)
theorem OwnsAt.below {w' : World} (h : OwnsAt w T e size v n xs) (hb : Below w.heap.size w w') : OwnsAt w' T e size v n xs := h.same fun k hk => hb.block k (h.lt k hk).2
theorem OwnsAt.alloc (h : OwnsAt w T e size v n xs) (o : Obj) : OwnsAt (w.alloc o) T e size v n xs := h.same fun k hk => heap_alloc_old w o k (h.lt k hk).2
theorem OwnsAt.drew (h : OwnsAt w T e size v n xs) : OwnsAt w.drew T e size v n xs := h
theorem OwnsAt.shape (h : OwnsAt w T e size v n xs) : ∃ A c, v = .slice A n c ∧ n ≤ c ∧ c ≤ maxLen := by
  rcases h.2 with ⟨rfl, rfl⟩ | ⟨g, o, cap, cur, rfl, ht, hg, h1, h2, _⟩
  · exact ⟨_, _, rfl, Nat.le_refl _, Nat.zero_le _⟩
  · exact ⟨_, _, rfl, h1, h2⟩
/-- Cell j of the elements. -/
theorem OwnsAt.cell {A : Option Addr} {c : Nat} (h : OwnsAt w T e size (.slice A n c) n xs) (j : Nat) (u : Value) (hu : xs[j]? = some u) : ∃ g o, A = some ⟨g, o * size, none⟩ ∧ w.cell? ⟨g, o * size + j, none⟩ = some u ∧ w.frozen? ⟨g, o * size + j, none⟩ = false := by
  rcases h.2 with ⟨_, h0⟩ | ⟨g, o, cap, cur, hv, ht, hg, h1, h2, h3, h4⟩
  · have := h.1
    rw [h0] at this
    have hx : xs = [] := List.eq_nil_of_length_eq_zero (by simpa using this)
    rw [hx] at hu
    cases hu
  · injection hv with e1 e2 e3
    subst e1
    refine ⟨g, o, rfl, ?_, ?_⟩
    · rw [cell_of_row w g _ cur e (0, 0) hg]
      rw [← h4, List.getElem?_take] at hu
      split at hu
      · rw [List.getElem?_drop] at hu
        simpa using hu
      · cases hu
    · exact Lib.frozen_of_heap hg _
end
theorem take_drop_fit {α : Type} (l : List α) (a b c : Nat) (news : List α) (h : a + b ≤ l.length) :
    ((l.take (a + b) ++ news ++ l.drop (a + b + news.length)).drop a).take (b + news.length) = (l.drop a).take b ++ news := by
  have e1 : l.take (a + b) = l.take a ++ (l.drop a).take b := by rw [List.take_add]
  have hla : (l.take a).length = a := by rw [List.length_take]; omega
  rw [e1, List.append_assoc, List.append_assoc, List.drop_append, hla, Nat.sub_self, List.drop_zero, List.drop_of_length_le (by omega), List.nil_append]
  have hlb : ((l.drop a).take b).length = b := by rw [List.length_take, List.length_drop]; omega
  rw [← List.append_assoc, List.take_append_of_le_length (by rw [List.length_append]; omega), List.take_of_length_le (by rw [List.length_append]; omega)]
section
variable {P : Program} (w : World)
theorem run_append_at (T : Nat → Prop) (t ty e : TypeId) (i : TypeInfo) (z : Value) (size bytes : Nat) (ht : P.underlying t = some (.slice e)) (hi : P.info? e = some i) (hz : i.zero = some z)
    (hsize : i.size = size) (hby : i.bytes = bytes) (hzs : z.cells.size = size) (hsz : 0 < size)
    (v : Value) (n : Nat) (xs : List Value) (hown : OwnsAt w T e size v n xs)
    (a : Addr) (m c : Nat) (news : List Value) (hl : news.length = m * size) (hnews : ∀ j u, news[j]? = some u → w.cell? (a.add j) = some u) (h1 : ∀ u ∈ news, u.oneCell' = true)
    (hm : 0 < m) (h63 : n + m ≤ maxLen) (hbytes : (n + m) * bytes ≤ 140737488355328) :
    ∃ v' w', (Builtin.append_ #[t, t] ty #[v, .slice (some a) m c]).run P w = .ok v' w' ∧ OwnsAt w' (fun k => T k ∨ k = w.heap.size) e size v' (n + m) (xs ++ news) ∧ w.grownBy w' v.ownBlock ∧
      (v'.ownBlock = v.ownBlock ∨ v'.ownBlock = some w.heap.size) := by
  subst hsize
  subst hby
  have hlen : (xs ++ news).length = (n + m) * i.size := by rw [List.length_append, hown.1, hl, Nat.add_mul]
  have hsmall : n + m ≤ 9223372036854775807 := by simp only [maxLen] at h63; omega
  have grown : ∀ (old : Nat), old < n + m → ∀ (row : Option Nat),
      OwnsAt (w.drew.alloc (.cells (xs.toArray ++ news.toArray ++ Builtin.zeroCells z.cells (grownCap w (n + m) old e - (n + m))) e)) (fun k => T k ∨ k = w.heap.size) e i.size
        (.slice (some ⟨w.heap.size, 0 * i.size, none⟩) (n + m) (grownCap w (n + m) old e)) (n + m) (xs ++ news) ∧
      w.grownBy (w.drew.alloc (.cells (xs.toArray ++ news.toArray ++ Builtin.zeroCells z.cells (grownCap w (n + m) old e - (n + m))) e)) row := by
    intro old ho row
    have hge := grownCap_ge w (n + m) old e
    have hcm : grownCap w (n + m) old e ≤ maxLen := grownCap_le_maxLen w (n + m) old e h63
    refine ⟨⟨hlen, .inr ⟨w.heap.size, 0, _, _, rfl, Or.inr rfl, heap_alloc_new w.drew _, hge, hcm, ?_, ?_⟩⟩, ⟨rfl, rfl, rfl, by simp, fun k hk _ => heap_alloc_old w.drew _ k hk⟩⟩
    · simp only [Array.size_append, List.size_toArray, size_zeroCells, hzs, hown.1, hl, ← Nat.add_mul]
      apply Nat.mul_le_mul_right
      omega
    · simp only [Array.toList_append, List.append_assoc, Nat.zero_mul, List.drop_zero]
      rw [← List.append_assoc, ← hlen]
      exact List.take_left
  rcases hown.2 with ⟨rfl, rfl⟩ | ⟨g, o, cap, cur, rfl, hbg, hg, hnc, hcm, hcs, htake⟩
  · have hx : xs = [] := List.eq_nil_of_length_eq_zero (by simpa using hown.1)
    subst hx
    have hr := run_append_nil (P := P) w t ty e i z ht hi hz a m c news hl hnews (by omega) (by omega) (by have hb := hbytes; simp only [Nat.zero_add] at hb; omega)
    have hgr := grown 0 (by omega) (Value.ownBlock (.slice none 0 0))
    simp only [Nat.zero_add, List.nil_append, Array.empty_append, Nat.zero_mul] at hgr ⊢
    exact ⟨_, _, hr, hgr.1, hgr.2, Or.inr rfl⟩
  · by_cases hroom : n + m ≤ cap
    · have hfit : o * i.size + n * i.size + news.length ≤ cur.size := by
        rw [hl, ← Nat.add_mul, ← Nat.add_mul]
        exact Nat.le_trans (Nat.mul_le_mul_right _ (by omega)) hcs
      have hf := run_firstCells_some (P := P) w i.size m a m c news hl hnews
      have hst := run_storeCells_at P g (o * i.size + n * i.size) e news 0 cur w hg (by simpa using hfit) h1
      simp only [Nat.add_zero] at hst
      have hr : (Builtin.append_ #[t, t] ty #[.slice (some ⟨g, o * i.size, none⟩) n cap, .slice (some a) m c]).run P w =
          .ok (.slice (some ⟨g, o * i.size, none⟩) (n + m) cap) (w.setRow g (cur.toList.take (o * i.size + n * i.size) ++ news ++ cur.toList.drop (o * i.size + n * i.size + news.length)).toArray) := by
        simp [Builtin.append_, run_underlying ht, sizeOf, typeInfo, hi, Builtin.lenOf, hroom, hf, Addr.add_lit, hst]
      refine ⟨_, _, hr, ⟨hlen, .inr ⟨g, o, cap, _, rfl, Or.inl hbg, setRow_heap w g cur _ e _ hg, hroom, hcm, ?_, ?_⟩⟩, ⟨rfl, rfl, rfl, by simp, fun k _ hk => setRow_other w g k _ (fun e => hk (by simp [Value.ownBlock, e]))⟩, Or.inl rfl⟩
      · simp only [List.size_toArray, List.length_append, List.length_take, List.length_drop, Array.length_toList]
        omega
      · rw [Nat.add_mul, ← hl]
        show List.take _ (List.drop _ (_ ++ _ ++ _)) = _
        rw [take_drop_fit cur.toList (o * i.size) (n * i.size) 0 news (by rw [Array.length_toList]; omega), htake]
    · have holds : ∀ j u, xs[j]? = some u → w.cell? ((⟨g, o * i.size, none⟩ : Addr).add j) = some u := by
        intro j u hu
        obtain ⟨g', o', e1, e2, _⟩ := OwnsAt.cell ⟨hown.1, .inr ⟨g, o, cap, cur, rfl, hbg, hg, hnc, hcm, hcs, htake⟩⟩ j u hu
        simp only [Option.some.injEq, Addr.mk.injEq, and_true] at e1
        obtain ⟨rfl, e3⟩ := e1
        rw [Addr.add_lit, e3]
        exact e2
      have hr := run_append_grow (P := P) w t ty e i z ht hi hz ⟨g, o * i.size, none⟩ n cap xs hown.1 holds a m c news hl hnews (by omega) (by omega) (growslice_fits (by omega) hbytes)
      have hgr := grown cap (by omega) (Value.ownBlock (.slice (some ⟨g, o * i.size, none⟩) n cap))
      simp only [Nat.zero_mul] at hgr
      exact ⟨_, _, hr, hgr.1, hgr.2, Or.inr rfl⟩
theorem wp_append_at {o : Oper} {a : Act} {K : Act → World → Prop} {Q : Exit → Act → World → Prop} (s x : Operand) (t : TypeId)
    (ho : o.op = .call { callee := .builtin .append, args := #[s, x], argTypes := #[t, t] })
    (T : Nat → Prop) (e : TypeId) (i : TypeInfo) (z : Value) (size bytes : Nat) (ht : P.underlying t = some (.slice e)) (hi : P.info? e = some i) (hz : i.zero = some z)
    (hsize : i.size = size) (hby : i.bytes = bytes) (hzs : z.cells.size = size) (hsz : 0 < size)
    (v : Value) (n : Nat) (xs : List Value) (hs : a.eval s = v) (hown : OwnsAt w T e size v n xs)
    (ad : Addr) (m c : Nat) (news : List Value) (hx : a.eval x = .slice (some ad) m c) (hl : news.length = m * size) (hnews : ∀ j u, news[j]? = some u → w.cell? (ad.add j) = some u) (h1 : ∀ u ∈ news, u.oneCell' = true)
    (hm : 0 < m) (h63 : n + m ≤ maxLen) (hbytes : (n + m) * bytes ≤ 140737488355328)
    (h : ∀ v' w', OwnsAt w' (fun k => T k ∨ k = w.heap.size) e size v' (n + m) (xs ++ news) → w.grownBy w' v.ownBlock → (v'.ownBlock = v.ownBlock ∨ v'.ownBlock = some w.heap.size) → K (a.put o.dst v') w') : o.wp P a w K Q := by
  obtain ⟨v', w', hr, h2, h3, h4⟩ := run_append_at (P := P) w T t o.type e i z size bytes ht hi hz hsize hby hzs hsz v n xs hown ad m c news hl hnews h1 hm h63 hbytes
  unfold Oper.wp execOp
  simp only [ho, resolve, invoke, builtin, Sem.run_bind, Sem.run_pure, Result.andThen_ok, List.map_toArray, List.map_cons, List.map_nil, hs, hx, hr]
  exact h v' w' h2 h3 h4
theorem wpList_append_at {ops : Array Oper} {rest : List Oper} {o : Oper} {a : Act} {Q : Exit → Act → World → Prop} (hgd : o.guard = none) (s x : Operand) (t : TypeId)
    (ho : o.op = .call { callee := .builtin .append, args := #[s, x], argTypes := #[t, t] })
    (T : Nat → Prop) (e : TypeId) (i : TypeInfo) (z : Value) (size bytes : Nat) (ht : P.underlying t = some (.slice e)) (hi : P.info? e = some i) (hz : i.zero = some z)
    (hsize : i.size = size) (hby : i.bytes = bytes) (hzs : z.cells.size = size) (hsz : 0 < size)
    (v : Value) (n : Nat) (xs : List Value) (hs : a.eval s = v) (hown : OwnsAt w T e size v n xs)
    (ad : Addr) (m c : Nat) (news : List Value) (hx : a.eval x = .slice (some ad) m c) (hl : news.length = m * size) (hnews : ∀ j u, news[j]? = some u → w.cell? (ad.add j) = some u) (h1 : ∀ u ∈ news, u.oneCell' = true)
    (hm : 0 < m) (h63 : n + m ≤ maxLen) (hbytes : (n + m) * bytes ≤ 140737488355328)
    (h : ∀ v' w', OwnsAt w' (fun k => T k ∨ k = w.heap.size) e size v' (n + m) (xs ++ news) → w.grownBy w' v.ownBlock → (v'.ownBlock = v.ownBlock ∨ v'.ownBlock = some w.heap.size) → wpList P ops Q rest (a.put o.dst v') w') : wpList P ops Q (o :: rest) a w :=
  wpList_plain hgd fun _ hK => wp_append_at w s x t ho T e i z size bytes ht hi hz hsize hby hzs hsz v n xs hs hown ad m c news hx hl hnews h1 hm h63 hbytes fun v' w' h2 h3 h4 => hK _ _ (h v' w' h2 h3 h4)
theorem step_append_at {ops : Array Oper} {o : Oper} {a : Act} {K : Act → World → Prop} {Q : Exit → Act → World → Prop} {E : Prop} (hgd : o.guard = none) (s x : Operand) (t : TypeId)
    (ho : o.op = .call { callee := .builtin .append, args := #[s, x], argTypes := #[t, t] })
    (T : Nat → Prop) (e : TypeId) (i : TypeInfo) (z : Value) (size bytes : Nat) (ht : P.underlying t = some (.slice e)) (hi : P.info? e = some i) (hz : i.zero = some z)
    (hsize : i.size = size) (hby : i.bytes = bytes) (hzs : z.cells.size = size) (hsz : 0 < size)
    (v : Value) (n : Nat) (xs : List Value) (hs : a.eval s = v) (hown : OwnsAt w T e size v n xs)
    (ad : Addr) (m c : Nat) (news : List Value) (hx : a.eval x = .slice (some ad) m c) (hl : news.length = m * size) (hnews : ∀ j u, news[j]? = some u → w.cell? (ad.add j) = some u) (h1 : ∀ u ∈ news, u.oneCell' = true)
    (hm : 0 < m) (h63 : n + m ≤ maxLen) (hbytes : (n + m) * bytes ≤ 140737488355328)
    (h : ∀ v' w', OwnsAt w' (fun k => T k ∨ k = w.heap.size) e size v' (n + m) (xs ++ news) → w.grownBy w' v.ownBlock → (v'.ownBlock = v.ownBlock ∨ v'.ownBlock = some w.heap.size) → K (a.put o.dst v') w') :
    if Region.wanted o (yielded ops a.tmps) = true then Oper.wp P o a w K Q else E := by
  have hw : Region.wanted o (yielded ops a.tmps) = true := by simp [Region.wanted, hgd]
  rw [if_pos hw]
  exact wp_append_at w s x t ho T e i z size bytes ht hi hz hsize hby hzs hsz v n xs hs hown ad m c news hx hl hnews h1 hm h63 hbytes h
/-- 's[1:]' of a slice with an element. -/
theorem run_tail (T : Nat → Prop) (t e : TypeId) (i : TypeInfo) (size : Nat) (ht : P.underlying t = some (.slice e)) (hi : P.info? e = some i) (hsize : i.size = size)
    (v : Value) (n : Nat) (xs : List Value) (hown : OwnsAt w T e size v (n + 1) xs) :
    ∃ v', (Instr.slice t v (some (.int .i64 1)) none none).run P w = .ok v' w ∧ OwnsAt w T e size v' n (xs.drop size) ∧ v'.ownBlock = v.ownBlock := by
  subst hsize
  rcases hown.2 with ⟨_, h⟩ | ⟨g, o, cap, cur, rfl, hbg, hg, hnc, hcm, hcs, htake⟩
  · cases h
  · have hl : (xs.drop i.size).length = n * i.size := by rw [List.length_drop, hown.1, Nat.add_mul]; omega
    have hnn : (1 : Int) ≤ (n : Int) + 1 := by omega
    by_cases hc : cap = 1
    · subst hc
      obtain rfl : n = 0 := by omega
      refine ⟨.slice (some ⟨g, o * i.size, none⟩) 0 0, ?_, ⟨hl, .inr ⟨g, o, 0, cur, rfl, hbg, hg, Nat.le_refl _, Nat.zero_le _, ?_, ?_⟩⟩, rfl⟩
      · simp [Instr.slice, Instr.sliceBounds, Instr.sliceBound, run_underlying ht, asIntOf, sizeOf, typeInfo, hi, Result.andThen]
      · exact Nat.le_trans (Nat.mul_le_mul_right _ (by omega)) hcs
      · simp only [Nat.zero_mul, List.take_zero]
        exact (List.eq_nil_of_length_eq_zero (by simpa using hl)).symm
    · refine ⟨.slice (some ⟨g, (o + 1) * i.size, none⟩) n (cap - 1), ?_, ⟨hl, .inr ⟨g, o + 1, cap - 1, cur, rfl, hbg, hg, by omega, by omega, ?_, ?_⟩⟩, rfl⟩
      · simp [Instr.slice, Instr.sliceBounds, Instr.sliceBound, run_underlying ht, asIntOf, sizeOf, typeInfo, hi, Result.andThen, hc, hnn, Addr.add_lit, Nat.add_mul]
      · exact Nat.le_trans (Nat.mul_le_mul_right _ (by omega)) hcs
      · rw [← htake, List.drop_take, List.drop_drop, Nat.add_mul, Nat.add_mul]
        simp
end
end Go.Proofs.Ytfopcnabcmdclaa.Ra
