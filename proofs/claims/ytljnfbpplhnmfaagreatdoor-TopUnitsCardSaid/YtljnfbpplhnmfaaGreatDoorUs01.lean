/- Maps of the call's own, whatever their elements are: a function from what a key reads as to a value. No condition. Maps of the call's own: a new key's entry, made first and stored into later, whatever kind of key. No condition. Slices of the call's own that may begin behind their block's first cell ('s = s[1:]', then 'append'): what they hold, and an append onto one. No condition but Go's own limits. What lies in memory, told in parts that lie apart: a part is a set of blocks and what is held of them. Plain words over worlds; no program in sight. No condition. -/
import Derived.Maps.OwnSet
import Derived.WideKeyEntry
import Derived.Laws.AppendOwn
import Derived.Below
import Derived.Tactics
import Derived.RegionTactic
import Derived.Lib.Builder
import Derived.Deep.Draws
import Derived.Deep.AppendLies
import Derived.Maps.AppendAt
import Derived.OwnWalk
import Derived.Laws.BytesArg
import Derived.Laws.MakeOwn
import Derived.Laws.OwnMore
import Derived.Deep.OwnRows
import Derived.Lib.ConvBytes
import Derived.Laws.Slices
import Derived.WalkKit
import Derived.KernelRfl
import Derived.RowKit3
import Derived.Deep.LoopGhost
import Derived.Deep.QuietTactic
import Derived.BigQuiet
import Derived.WideLaws
import Derived.Deep.DeepCutAuto
import Derived.Deep.CutBlock
import Derived.Deep.RegionHeld3
import Derived.Laws.Rows
import Derived.Lib.AppendStr
import Derived.ArgAppend
import Derived.Laws.IdiomCopy
import Derived.RowKit
import Derived.OrdersHeld
import Derived.Laws.BitsLemmas
namespace Go.Proofs.YtljnfbpplhnmfaaGreatDoor.Mp
open Go Go.RowKit Go.Maps
set_option linter.unusedVariables false
def anyElem (v : Value) : Option (DataW Value × List MemPlace) := some (.held v, [])
def MapAt (P : Program) (k : TypeId) (w : World) (b n : Nat) (f : Lit → Option Value) : Prop :=
  ∃ D, w.ownsMap P k anyElem b n D ∧ ∀ kl, WideAt.IsKeyLit kl → has D kl = (f kl).isSome ∧ ∀ z, D.atKey kl z = match f kl with | some v => .held v | none => z
open Classical in
noncomputable def upd (f : Lit → Option Value) (kl : Lit) (o : Option Value) (l : Lit) : Option Value := if l = kl then o else f l
theorem upd_same (f : Lit → Option Value) (kl : Lit) (o : Option Value) : upd f kl o kl = o := by unfold upd; rw [if_pos rfl]
theorem upd_other {f : Lit → Option Value} {kl l : Lit} {o : Option Value} (h : l ≠ kl) : upd f kl o l = f l := by unfold upd; rw [if_neg h]
theorem mapAt_made (P : Program) (k : TypeId) (w : World) : MapAt P k (w.alloc (.map #[] 0)) w.heap.size 0 (fun _ => none) :=
  ⟨_, World.ownsMap_made w P k anyElem, fun kl _ => ⟨rfl, fun z => rfl⟩⟩
theorem MapAt.lt {P : Program} {k : TypeId} {w : World} {b n : Nat} {f : Lit → Option Value} (h : MapAt P k w b n f) : b < w.heap.size := by
  obtain ⟨D, h1, _⟩ := h
  exact h1.lt
theorem MapAt.mono {P : Program} {k : TypeId} {w : World} {b n m : Nat} {f : Lit → Option Value} (h : MapAt P k w b n f) (hn : n ≤ m) : MapAt P k w b m f := by
  obtain ⟨D, h1, h2⟩ := h
  exact ⟨D, h1.mono hn, h2⟩
theorem MapAt.same {P : Program} {k : TypeId} {w w' : World} {b n : Nat} {f : Lit → Option Value} (h : MapAt P k w b n f) (hb : w'.heap[b]? = w.heap[b]?) : MapAt P k w' b n f := by
  obtain ⟨D, ⟨es, clock, h1, h2⟩, h3⟩ := h
  exact ⟨D, ⟨es, clock, hb.trans h1, h2⟩, h3⟩
theorem MapAt.congr {P : Program} {k : TypeId} {w : World} {b n : Nat} {f g : Lit → Option Value} (h : MapAt P k w b n f) (hg : ∀ kl, WideAt.IsKeyLit kl → f kl = g kl) : MapAt P k w b n g := by
  obtain ⟨D, h1, h2⟩ := h
  exact ⟨D, h1, fun kl hk => by rw [← hg kl hk]; exact h2 kl hk⟩
theorem at_f {D : DataW Value} {kl : Lit} {z : Value} {o : Option Value} (h : ∀ z, D.atKey kl z = match o with | some v => .held v | none => z) : D.atKey kl (.held z) = .held (o.getD z) := by
  rw [h]; cases o <;> rfl
theorem store_law {P : Program} {w : World} {t k e : TypeId} (K : Keyed P k) (ht : P.underlying t = some (.map k e)) {b n : Nat} {f : Lit → Option Value}
    (hown : MapAt P k w b n f) (hn : n < maxLen) {key val : Value} {kl : Lit} (hkey : keyOf P k key = some kl) :
    ∃ w', (Instr.mapUpdate t (.map (some b)) key val).run P w = .ok () w' ∧ MapAt P k w' b (n + 1) (upd f kl (some val)) ∧ w.grownBy w' (some b) ∧ w'.heap.size = w.heap.size := by
  obtain ⟨D, h1, h2⟩ := hown
  obtain ⟨w', hrun, r1, r2⟩ := h1.store K ht hn hkey (val := val) (d := .held val) (ps := []) rfl
  refine ⟨w', hrun, ⟨_, r1, fun l hl => ?_⟩, r2.grown, ?_⟩
  · by_cases h : l = kl
    · subst h
      rw [upd_same]
      exact ⟨has_put_same h1.isMap hl _, fun z => atKey_put_same h1.isMap hl _ z⟩
    · rw [upd_other h]
      exact ⟨(has_put_other h _).trans (h2 l hl).1, fun z => (atKey_put_other h _ z).trans ((h2 l hl).2 z)⟩
  · obtain ⟨_, _, _, _, _, rfl⟩ := r2
    simp [ChangeMaps.setBlock]
end Go.Proofs.YtljnfbpplhnmfaaGreatDoor.Mp
namespace Go.Proofs.YtljnfbpplhnmfaaGreatDoor.Mp
open Go Go.RowKit Go.Maps
set_option linter.unusedVariables false
theorem MapAt.look {P : Program} {w : World} {t k e : TypeId} (K : Keyed P k) (ht : P.underlying t = some (.map k e)) {z : Value} (hz : (zeroValue e).run P w = .ok z w) {b n : Nat} {f : Lit → Option Value}
    (hown : MapAt P k w b n f) {key : Value} {kl : Lit} (hkey : keyOf P k key = some kl) : (Instr.lookup t (.map (some b)) key false).run P w = .ok ((f kl).getD z) w := by
  obtain ⟨D, h1, h2⟩ := hown
  obtain ⟨v, ps, hrun, hv⟩ := h1.lookup K ht hz (zd := .held z) (zp := []) rfl hkey
  have h3 := at_f (z := z) (h2 kl (K.key hkey)).2
  rw [h3] at hv
  simp [anyElem] at hv
  rw [hrun, hv.1]
end Go.Proofs.YtljnfbpplhnmfaaGreatDoor.Mp
namespace Go.Proofs.YtljnfbpplhnmfaaGreatDoor.Ra
open Go Go.RowKit
set_option linter.unusedVariables false
def OwnsAt (w : World) (T : Nat → Prop) (e : TypeId) (size : Nat) (v : Value) (n : Nat) (xs : List Value) : Prop :=
  xs.length = n * size ∧
  ((v = .slice none 0 0 ∧ n = 0) ∨
   ∃ g o cap cur, v = .slice (some ⟨g, o * size, none⟩) n cap ∧ T g ∧ w.heap[g]? = some (.cells cur e (0, 0)) ∧ n ≤ cap ∧ cap ≤ maxLen ∧ (o + cap) * size ≤ cur.size ∧ (cur.toList.drop (o * size)).take (n * size) = xs)
section
variable {w : World} {T : Nat → Prop} {e : TypeId} {size : Nat} {v : Value} {n : Nat} {xs : List Value}
theorem ownsAt_nil (w : World) (T : Nat → Prop) (e : TypeId) (size : Nat) : OwnsAt w T e size (.slice none 0 0) 0 [] := ⟨by simp, .inl ⟨rfl, rfl⟩⟩
theorem OwnsAt.mono {T' : Nat → Prop} (h : OwnsAt w T e size v n xs) (hT : ∀ k, v.ownBlock = some k → T k → T' k) : OwnsAt w T' e size v n xs := by
  refine ⟨h.1, ?_⟩
  rcases h.2 with h2 | ⟨g, o, cap, cur, rfl, ht, r⟩
  · exact .inl h2
  · exact .inr ⟨g, o, cap, cur, rfl, hT g rfl ht, r⟩
theorem OwnsAt.lt (h : OwnsAt w T e size v n xs) : ∀ k, v.ownBlock = some k → T k ∧ k < w.heap.size := by
  intro k hk
  rcases h.2 with ⟨rfl, _⟩ | ⟨g, o, cap, cur, rfl, ht, hg, _⟩
  · simp [Value.ownBlock] at hk
  · simp [Value.ownBlock] at hk
    subst hk
    exact ⟨ht, (Array.getElem?_eq_some_iff.1 hg).1⟩
theorem OwnsAt.same {w' : World} (h : OwnsAt w T e size v n xs) (hb : ∀ k, v.ownBlock = some k → w'.heap[k]? = w.heap[k]?) : OwnsAt w' T e size v n xs := by
  refine ⟨h.1, ?_⟩
  rcases h.2 with h2 | ⟨g, o, cap, cur, rfl, ht, hg, r⟩
  · exact .inl h2
  · exact .inr ⟨g, o, cap, cur, rfl, ht, (hb g rfl).trans hg, r⟩
theorem OwnsAt.shape (h : OwnsAt w T e size v n xs) : ∃ A c, v = .slice A n c ∧ n ≤ c ∧ c ≤ maxLen := by
  rcases h.2 with ⟨rfl, rfl⟩ | ⟨g, o, cap, cur, rfl, ht, hg, h1, h2, _⟩
  · exact ⟨_, _, rfl, Nat.le_refl _, Nat.zero_le _⟩
  · exact ⟨_, _, rfl, h1, h2⟩
theorem OwnsAt.cell {A : Option Addr} {c : Nat} (h : OwnsAt w T e size (.slice A n c) n xs) (j : Nat) (u : Value) (hu : xs[j]? = some u) : ∃ g o, A = some ⟨g, o * size, none⟩ ∧ w.cell? ⟨g, o * size + j, none⟩ = some u ∧ w.frozen? ⟨g, o * size + j, none⟩ = false := by
  rcases h.2 with ⟨_, h0⟩ | ⟨g, o, cap, cur, hv, ht, hg, h1, h2, h3, h4⟩
  · have := h.1
    rw [h0] at this
    have hx : xs = [] := List.eq_nil_of_length_eq_zero (by simpa using this)
    rw [hx] at hu
    cases hu
  · injection hv with e1 e2 e3
    subst e1
    refine ⟨g, o, rfl, ?_, ?_⟩
    · rw [cell_of_row w g _ cur e (0, 0) hg]
      rw [← h4, List.getElem?_take] at hu
      split at hu
      · rw [List.getElem?_drop] at hu
        simpa using hu
      · cases hu
    · exact Lib.frozen_of_heap hg _
end
theorem take_drop_fit {α : Type} (l : List α) (a b c : Nat) (news : List α) (h : a + b ≤ l.length) :
    ((l.take (a + b) ++ news ++ l.drop (a + b + news.length)).drop a).take (b + news.length) = (l.drop a).take b ++ news := by
  have e1 : l.take (a + b) = l.take a ++ (l.drop a).take b := by rw [List.take_add]
  have hla : (l.take a).length = a := by rw [List.length_take]; omega
  rw [e1, List.append_assoc, List.append_assoc, List.drop_append, hla, Nat.sub_self, List.drop_zero, List.drop_of_length_le (by omega), List.nil_append]
  have hlb : ((l.drop a).take b).length = b := by rw [List.length_take, List.length_drop]; omega
  rw [← List.append_assoc, List.take_append_of_le_length (by rw [List.length_append]; omega), List.take_of_length_le (by rw [List.length_append]; omega)]
section
variable {P : Program} (w : World)
theorem run_append_at (T : Nat → Prop) (t ty e : TypeId) (i : TypeInfo) (z : Value) (size bytes : Nat) (ht : P.underlying t = some (.slice e)) (hi : P.info? e = some i) (hz : i.zero = some z)
    (hsize : i.size = size) (hby : i.bytes = bytes) (hzs : z.cells.size = size) (hsz : 0 < size)
    (v : Value) (n : Nat) (xs : List Value) (hown : OwnsAt w T e size v n xs)
    (a : Addr) (m c : Nat) (news : List Value) (hl : news.length = m * size) (hnews : ∀ j u, news[j]? = some u → w.cell? (a.add j) = some u) (h1 : ∀ u ∈ news, u.oneCell' = true)
    (hm : 0 < m) (h63 : n + m ≤ maxLen) (hbytes : (n + m) * bytes ≤ 140737488355328) :
    ∃ v' w', (Builtin.append_ #[t, t] ty #[v, .slice (some a) m c]).run P w = .ok v' w' ∧ OwnsAt w' (fun k => T k ∨ k = w.heap.size) e size v' (n + m) (xs ++ news) ∧ w.grownBy w' v.ownBlock ∧
      (v'.ownBlock = v.ownBlock ∨ v'.ownBlock = some w.heap.size) := by
  subst hsize
  subst hby
  have hlen : (xs ++ news).length = (n + m) * i.size := by rw [List.length_append, hown.1, hl, Nat.add_mul]
  have hsmall : n + m ≤ 9223372036854775807 := by simp only [maxLen] at h63; omega
  have grown : ∀ (old : Nat), old < n + m → ∀ (row : Option Nat),
      OwnsAt (w.drew.alloc (.cells (xs.toArray ++ news.toArray ++ Builtin.zeroCells z.cells (grownCap w (n + m) old e - (n + m))) e)) (fun k => T k ∨ k = w.heap.size) e i.size
        (.slice (some ⟨w.heap.size, 0 * i.size, none⟩) (n + m) (grownCap w (n + m) old e)) (n + m) (xs ++ news) ∧
      w.grownBy (w.drew.alloc (.cells (xs.toArray ++ news.toArray ++ Builtin.zeroCells z.cells (grownCap w (n + m) old e - (n + m))) e)) row := by
    intro old ho row
    have hge := grownCap_ge w (n + m) old e
    have hcm : grownCap w (n + m) old e ≤ maxLen := grownCap_le_maxLen w (n + m) old e h63
    refine ⟨⟨hlen, .inr ⟨w.heap.size, 0, _, _, rfl, Or.inr rfl, heap_alloc_new w.drew _, hge, hcm, ?_, ?_⟩⟩, ⟨rfl, rfl, rfl, by simp, fun k hk _ => (by first | exact heap_alloc_old w.drew _ k hk | exact heap_alloc_old w.drew _ hk)⟩⟩
    · simp only [Array.size_append, List.size_toArray, size_zeroCells, hzs, hown.1, hl, ← Nat.add_mul]
      apply Nat.mul_le_mul_right
      omega
    · simp only [Array.toList_append, List.append_assoc, Nat.zero_mul, List.drop_zero]
      rw [← List.append_assoc, ← hlen]
      exact List.take_left
  rcases hown.2 with ⟨rfl, rfl⟩ | ⟨g, o, cap, cur, rfl, hbg, hg, hnc, hcm, hcs, htake⟩
  · have hx : xs = [] := List.eq_nil_of_length_eq_zero (by simpa using hown.1)
    subst hx
    have hr := run_append_nil (P := P) w t ty e i z ht hi hz a m c news hl hnews (by omega) (by omega) (by have hb := hbytes; simp only [Nat.zero_add] at hb; omega)
    have hgr := grown 0 (by omega) (Value.ownBlock (.slice none 0 0))
    simp only [Nat.zero_add, List.nil_append, Array.empty_append, Nat.zero_mul] at hgr ⊢
    exact ⟨_, _, hr, hgr.1, hgr.2, Or.inr rfl⟩
  · by_cases hroom : n + m ≤ cap
    · have hfit : o * i.size + n * i.size + news.length ≤ cur.size := by
        rw [hl, ← Nat.add_mul, ← Nat.add_mul]
        exact Nat.le_trans (Nat.mul_le_mul_right _ (by omega)) hcs
      have hf := run_firstCells_some (P := P) w i.size m a m c news hl hnews
      have hst := run_storeCells_at P g (o * i.size + n * i.size) e news 0 cur w hg (by simpa using hfit) h1
      simp only [Nat.add_zero] at hst
      have hr : (Builtin.append_ #[t, t] ty #[.slice (some ⟨g, o * i.size, none⟩) n cap, .slice (some a) m c]).run P w =
          .ok (.slice (some ⟨g, o * i.size, none⟩) (n + m) cap) (w.setRow g (cur.toList.take (o * i.size + n * i.size) ++ news ++ cur.toList.drop (o * i.size + n * i.size + news.length)).toArray) := by
        simp [Builtin.append_, run_underlying ht, sizeOf, typeInfo, hi, Builtin.lenOf, hroom, hf, Addr.add_lit, hst]
      refine ⟨_, _, hr, ⟨hlen, .inr ⟨g, o, cap, _, rfl, Or.inl hbg, setRow_heap w g cur _ e _ hg, hroom, hcm, ?_, ?_⟩⟩, ⟨rfl, rfl, rfl, by simp, fun k _ hk => setRow_other w g k _ (fun e => hk (by simp [Value.ownBlock, e]))⟩, Or.inl rfl⟩
      · simp only [List.size_toArray, List.length_append, List.length_take, List.length_drop, Array.length_toList]
        omega
      · rw [Nat.add_mul, ← hl]
        show List.take _ (List.drop _ (_ ++ _ ++ _)) = _
        rw [take_drop_fit cur.toList (o * i.size) (n * i.size) 0 news (by rw [Array.length_toList]; omega), htake]
    · have holds : ∀ j u, xs[j]? = some u → w.cell? ((⟨g, o * i.size, none⟩ : Addr).add j) = some u := by
        intro j u hu
        obtain ⟨g', o', e1, e2, _⟩ := OwnsAt.cell ⟨hown.1, .inr ⟨g, o, cap, cur, rfl, hbg, hg, hnc, hcm, hcs, htake⟩⟩ j u hu
        simp only [Option.some.injEq, Addr.mk.injEq, and_true] at e1
        obtain ⟨rfl, e3⟩ := e1
        rw [Addr.add_lit, e3]
        exact e2
      have hr := run_append_grow (P := P) w t ty e i z ht hi hz ⟨g, o * i.size, none⟩ n cap xs hown.1 holds a m c news hl hnews (by omega) (by omega) (growslice_fits (by omega) hbytes)
      have hgr := grown cap (by omega) (Value.ownBlock (.slice (some ⟨g, o * i.size, none⟩) n cap))
      simp only [Nat.zero_mul] at hgr
      exact ⟨_, _, hr, hgr.1, hgr.2, Or.inr rfl⟩
theorem wp_append_at {o : Oper} {a : Act} {K : Act → World → Prop} {Q : Exit → Act → World → Prop} (s x : Operand) (t : TypeId)
    (ho : o.op = .call { callee := .builtin .append, args := #[s, x], argTypes := #[t, t] })
    (T : Nat → Prop) (e : TypeId) (i : TypeInfo) (z : Value) (size bytes : Nat) (ht : P.underlying t = some (.slice e)) (hi : P.info? e = some i) (hz : i.zero = some z)
    (hsize : i.size = size) (hby : i.bytes = bytes) (hzs : z.cells.size = size) (hsz : 0 < size)
    (v : Value) (n : Nat) (xs : List Value) (hs : a.eval s = v) (hown : OwnsAt w T e size v n xs)
    (ad : Addr) (m c : Nat) (news : List Value) (hx : a.eval x = .slice (some ad) m c) (hl : news.length = m * size) (hnews : ∀ j u, news[j]? = some u → w.cell? (ad.add j) = some u) (h1 : ∀ u ∈ news, u.oneCell' = true)
    (hm : 0 < m) (h63 : n + m ≤ maxLen) (hbytes : (n + m) * bytes ≤ 140737488355328)
    (h : ∀ v' w', OwnsAt w' (fun k => T k ∨ k = w.heap.size) e size v' (n + m) (xs ++ news) → w.grownBy w' v.ownBlock → (v'.ownBlock = v.ownBlock ∨ v'.ownBlock = some w.heap.size) → K (a.put o.dst v') w') : o.wp P a w K Q := by
  obtain ⟨v', w', hr, h2, h3, h4⟩ := run_append_at (P := P) w T t o.type e i z size bytes ht hi hz hsize hby hzs hsz v n xs hown ad m c news hl hnews h1 hm h63 hbytes
  unfold Oper.wp execOp
  simp only [ho, resolve, invoke, builtin, Sem.run_bind, Sem.run_pure, Result.andThen_ok, List.map_toArray, List.map_cons, List.map_nil, hs, hx, hr]
  exact h v' w' h2 h3 h4
theorem wpList_append_at {ops : Array Oper} {rest : List Oper} {o : Oper} {a : Act} {Q : Exit → Act → World → Prop} (hgd : o.guard = none) (s x : Operand) (t : TypeId)
    (ho : o.op = .call { callee := .builtin .append, args := #[s, x], argTypes := #[t, t] })
    (T : Nat → Prop) (e : TypeId) (i : TypeInfo) (z : Value) (size bytes : Nat) (ht : P.underlying t = some (.slice e)) (hi : P.info? e = some i) (hz : i.zero = some z)
    (hsize : i.size = size) (hby : i.bytes = bytes) (hzs : z.cells.size = size) (hsz : 0 < size)
    (v : Value) (n : Nat) (xs : List Value) (hs : a.eval s = v) (hown : OwnsAt w T e size v n xs)
    (ad : Addr) (m c : Nat) (news : List Value) (hx : a.eval x = .slice (some ad) m c) (hl : news.length = m * size) (hnews : ∀ j u, news[j]? = some u → w.cell? (ad.add j) = some u) (h1 : ∀ u ∈ news, u.oneCell' = true)
    (hm : 0 < m) (h63 : n + m ≤ maxLen) (hbytes : (n + m) * bytes ≤ 140737488355328)
    (h : ∀ v' w', OwnsAt w' (fun k => T k ∨ k = w.heap.size) e size v' (n + m) (xs ++ news) → w.grownBy w' v.ownBlock → (v'.ownBlock = v.ownBlock ∨ v'.ownBlock = some w.heap.size) → wpList P ops Q rest (a.put o.dst v') w') : wpList P ops Q (o :: rest) a w :=
  wpList_plain hgd fun _ hK => wp_append_at w s x t ho T e i z size bytes ht hi hz hsize hby hzs hsz v n xs hs hown ad m c news hx hl hnews h1 hm h63 hbytes fun v' w' h2 h3 h4 => hK _ _ (h v' w' h2 h3 h4)
theorem step_append_at {ops : Array Oper} {o : Oper} {a : Act} {K : Act → World → Prop} {Q : Exit → Act → World → Prop} {E : Prop} (hgd : o.guard = none) (s x : Operand) (t : TypeId)
    (ho : o.op = .call { callee := .builtin .append, args := #[s, x], argTypes := #[t, t] })
    (T : Nat → Prop) (e : TypeId) (i : TypeInfo) (z : Value) (size bytes : Nat) (ht : P.underlying t = some (.slice e)) (hi : P.info? e = some i) (hz : i.zero = some z)
    (hsize : i.size = size) (hby : i.bytes = bytes) (hzs : z.cells.size = size) (hsz : 0 < size)
    (v : Value) (n : Nat) (xs : List Value) (hs : a.eval s = v) (hown : OwnsAt w T e size v n xs)
    (ad : Addr) (m c : Nat) (news : List Value) (hx : a.eval x = .slice (some ad) m c) (hl : news.length = m * size) (hnews : ∀ j u, news[j]? = some u → w.cell? (ad.add j) = some u) (h1 : ∀ u ∈ news, u.oneCell' = true)
    (hm : 0 < m) (h63 : n + m ≤ maxLen) (hbytes : (n + m) * bytes ≤ 140737488355328)
    (h : ∀ v' w', OwnsAt w' (fun k => T k ∨ k = w.heap.size) e size v' (n + m) (xs ++ news) → w.grownBy w' v.ownBlock → (v'.ownBlock = v.ownBlock ∨ v'.ownBlock = some w.heap.size) → K (a.put o.dst v') w') :
    if Region.wanted o (yielded ops a.tmps) = true then Oper.wp P o a w K Q else E := by
  have hw : Region.wanted o (yielded ops a.tmps) = true := by simp [Region.wanted, hgd]
  rw [if_pos hw]
  exact wp_append_at w s x t ho T e i z size bytes ht hi hz hsize hby hzs hsz v n xs hs hown ad m c news hx hl hnews h1 hm h63 hbytes h
end
end Go.Proofs.YtljnfbpplhnmfaaGreatDoor.Ra
set_option linter.unusedVariables false
set_option linter.unusedSimpArgs false
namespace Go.Proofs.YtljnfbpplhnmfaaGreatDoorW.PrintWords
open Go.RowKit
structure Aside0 (p : Prop) : Prop where mk :: (out : p)
def rd (xs : List Int) (i : Int) : Int := xs.getD i.toNat 0
def nums (k : IntKind) (xs : List Int) : List Value := xs.map fun x => .int k x
theorem pw_below_drewN {B : Nat} {w W : World} (h : Below B w W) (n : Nat) : Below B w (W.drewN n) := ⟨h.os, h.tape, h.output, h.size, h.block⟩
theorem below_then {B : Nat} {w w1 w2 : World} (h : Below B w w1) (hB : B ≤ w1.heap.size) (k : Below w1.heap.size w1 w2) : Below B w w2 :=
  h.trans ⟨k.os, k.tape, k.output, k.size, fun i hi => k.block i (Nat.lt_of_lt_of_le hi hB)⟩
theorem pw_cell_below {w w1 : World} (h : Below w.heap.size w w1) {a : Addr} {v : Value} (hc : w.cell? a = some v) : w1.cell? a = some v := (h.cell (World.block_lt_of_cell? w a hc)).trans hc
theorem add_plain (g j : Nat) : (⟨g, 0, none⟩ : Addr).add j = ⟨g, j, none⟩ := by unfold Addr.add; split <;> simp_all
def ReadsInt (w : World) (k : IntKind) (A : Option Addr) (n : Nat) (xs : List Int) : Prop :=
  xs.length = n ∧ n ≤ 9223372036854775807 ∧ (0 < n → ∃ ad, A = some ad ∧ ∀ j, j < n → w.cell? (ad.add j) = some (.int k (xs.getD j 0)))
theorem ReadsInt.at_ {w : World} {k : IntKind} {A : Option Addr} {n : Nat} {xs : List Int} (h : ReadsInt w k A n xs) (i : Int) (h0 : 0 ≤ i) (h1 : i < n) : ∃ ad, A = some ad ∧ w.cell? (ad.add i.toNat) = some (.int k (rd xs i)) := by
  obtain ⟨ad, e, hc⟩ := h.2.2 (by omega)
  exact ⟨ad, e, hc _ (by omega)⟩
theorem own_string {P : Program} {w : World} {base n : Nat} {e' src dst e : TypeId} {v : Value} {xs : List Int} (hs : P.underlying src = some (.slice e)) (he : P.underlying e = some (.int .u8)) (hd : P.underlying dst = some .string)
    (h : w.ownsRow base e' 1 v n (nums .u8 xs)) : (convert src dst v).run P w = .ok (.string (strOfNums xs)) w := by
  have hl : xs.length = n := by have := h.1; simp [nums] at this; exact this
  rcases h.2 with ⟨rfl, rfl⟩ | ⟨g, cap, cur, rfl, _⟩
  · obtain rfl : xs = [] := List.eq_nil_of_length_eq_zero hl
    exact run_convert_bytes_nil w src e hs he 0 0 dst hd
  · refine run_convert_bytes_arg w src e hs he g 0 n cap xs hl (fun i hi => ?_) dst hd
    have hc := h.cells (g := g) rfl i (.int .u8 (xs.getD i 0)) (by simp [nums, List.getElem?_eq_getElem (show i < xs.length by omega), List.getD_eq_getElem?_getD])
    have ha : (⟨g, 0, none⟩ : Addr).add i = ⟨g, 0 + i, none⟩ := by unfold Addr.add; split <;> simp_all
    rwa [ha] at hc
theorem data_length (s : ByteArray) : s.data.toList.length = s.size := by rw [Array.length_toList]; rfl
def ReadsRow {α : Type} (R : α → List Value → Prop) (size : Nat) (w : World) (A : Option Addr) (n : Nat) (ps : List α) : Prop :=
  ps.length = n ∧ n ≤ 9223372036854775807 ∧ (0 < n → ∃ ad, A = some ad ∧ ∀ j p, ps[j]? = some p → ∃ c, c.length = size ∧ R p c ∧ ∀ i u, c[i]? = some u → w.cell? (ad.add (j * size + i)) = some u)
theorem blk_set {w : World} {g : Nat} {t : TypeId} {cs : Array Value} (h : w.heap[g]? = some (.cells cs t (0, 0))) (i : Nat) (u : Value) : (w.setCell ⟨g, i, none⟩ u).heap[g]? = some (.cells (cs.setIfInBounds i u) t (0, 0)) := by
  simp [World.setCell, Array.getElem?_modify, h]
theorem blk_lt {w : World} {g : Nat} {o : Obj} (h : w.heap[g]? = some o) : g < w.heap.size := (Array.getElem?_eq_some_iff.1 h).1
section
variable {α : Type} {enc : α → Value} {d : α}
def rdOf (d : α) (xs : List α) (i : Int) : α := xs.getD i.toNat d
def ReadsOf (enc : α → Value) (d : α) (w : World) (A : Option Addr) (n : Nat) (xs : List α) : Prop :=
  xs.length = n ∧ n ≤ 9223372036854775807 ∧ (0 < n → ∃ ad, A = some ad ∧ ∀ j, j < n → w.cell? (ad.add j) = some (enc (xs.getD j d)))
theorem ReadsOf.at_ {w : World} {A : Option Addr} {n : Nat} {xs : List α} (h : ReadsOf enc d w A n xs) (i : Int) (h0 : 0 ≤ i) (h1 : i < n) : ∃ ad, A = some ad ∧ w.cell? (ad.add i.toNat) = some (enc (rdOf d xs i)) := by
  obtain ⟨ad, e, hc⟩ := h.2.2 (by omega)
  exact ⟨ad, e, hc _ (by omega)⟩
end
theorem blk_alloc {w : World} {g : Nat} {o : Obj} (h : w.heap[g]? = some o) (o' : Obj) : (w.alloc o').heap[g]? = some o := (Below.heap_alloc w o' g (blk_lt h)).trans h
theorem blk_new (w : World) (o : Obj) : (w.alloc o).heap[w.heap.size]? = some o := heap_alloc_new w o
section
variable {P : Program}
theorem results_ct {fn : Func} {p u : Tmp} {ty : TypeId} (h : fn.results = #[.cell p ty, .tmp u]) (tmps : Array Value) (w : World) (g : Nat) (t : TypeId) (cs : Array Value) (fr : Nat × Nat) (d : TypeDesc)
    (hp : tmps.getD p undef = .pointer (some ⟨g, 0, none⟩)) (hg : w.heap[g]? = some (.cells cs t fr))
    (hu : P.underlying ty = some d) (hd : (match d with | .struct _ | .array _ _ => true | _ => false) = true) (hi : (P.info? ty).map (·.size) = some cs.size) :
    (results fn tmps).run P w = .ok (.tuple #[.agg cs, tmps.getD u undef]) w := by
  have hp' : tmps[p]?.getD undef = .pointer (some ⟨g, 0, none⟩) := by simpa using hp
  simp [results, h, hp', asAddr, run_loadVar_row w g t ty cs fr d hg hu hd hi]
theorem results_ctt {fn : Func} {p u v : Tmp} {ty : TypeId} (h : fn.results = #[.cell p ty, .tmp u, .tmp v]) (tmps : Array Value) (w : World) (g : Nat) (t : TypeId) (cs : Array Value) (fr : Nat × Nat) (d : TypeDesc)
    (hp : tmps.getD p undef = .pointer (some ⟨g, 0, none⟩)) (hg : w.heap[g]? = some (.cells cs t fr))
    (hu : P.underlying ty = some d) (hd : (match d with | .struct _ | .array _ _ => true | _ => false) = true) (hi : (P.info? ty).map (·.size) = some cs.size) :
    (results fn tmps).run P w = .ok (.tuple #[.agg cs, tmps.getD u undef, tmps.getD v undef]) w := by
  have hp' : tmps[p]?.getD undef = .pointer (some ⟨g, 0, none⟩) := by simpa using hp
  simp [results, h, hp', asAddr, run_loadVar_row w g t ty cs fr d hg hu hd hi]
end
structure Kd (α : Type) where
  sz : Nat
  E : List Nat
  K : World → α → List Value → Prop
  M : World → Nat → (Nat → Prop) → α → List Value → Prop
  K_len : ∀ {w x cs}, K w x cs → cs.length = sz
  K_one : ∀ {w x cs}, K w x cs → ∀ u ∈ cs, u.oneCell' = true
  K_below : ∀ {w w1 : World} {x cs}, Below w.heap.size w w1 → K w x cs → K w1 x cs
  K_of_M : ∀ {w base ok x cs}, M w base ok x cs → K w x cs
  M_mono : ∀ {w base ok ok' x cs}, (∀ k, ok k → ok' k) → M w base ok x cs → M w base ok' x cs
  M_bound : ∀ {w : World} {base ok x cs}, M w base ok x cs → M w base (fun k => ok k ∧ base ≤ k ∧ k < w.heap.size ∧ ∃ q, q ∈ E ∧ ∃ cells, w.heap[k]? = some (.cells cells q (0, 0))) x cs
  M_move : ∀ {w w1 : World} {base ok x cs}, (∀ k, ok k → w1.heap[k]? = w.heap[k]?) → M w base ok x cs → M w1 base ok x cs
  M_lower : ∀ {w base base' ok x cs}, base' ≤ base → M w base ok x cs → M w base' ok x cs
namespace Kd
def C {α : Type} (d : Kd α) (w : World) (A : Option Addr) (n : Nat) (xs : List α) : Prop := ReadsRow (d.K w) d.sz w A n xs
def scalar {α : Type} (enc : α → Value) (h1 : ∀ x, (enc x).oneCell' = true) : Kd α where
  sz := 1
  E := []
  K := fun _ x cs => cs = [enc x]
  M := fun _ _ _ x cs => cs = [enc x]
  K_len := fun h => by rw [h]; rfl
  K_one := fun h u hu => by
    rw [h] at hu
    rw [List.mem_singleton.1 hu]
    exact h1 _
  K_below := fun _ h => h
  K_of_M := fun h => h
  M_mono := fun _ h => h
  M_bound := fun h => h
  M_move := fun _ h => h
  M_lower := fun _ h => h
def int (k : IntKind) : Kd Int := scalar (Value.int k) (fun _ => rfl)
theorem reads_of_C {α : Type} {enc : α → Value} {d : α} {h1 : ∀ x, (enc x).oneCell' = true} {w : World} {A : Option Addr} {n : Nat} {xs : List α} (h : (scalar enc h1).C w A n xs) : ReadsOf enc d w A n xs := by
  refine ⟨h.1, h.2.1, fun hn => ?_⟩
  obtain ⟨ad, e, hc⟩ := h.2.2 hn
  refine ⟨ad, e, fun j hj => ?_⟩
  have hl : j < xs.length := by have := h.1; omega
  obtain ⟨c, _, hK, hcell⟩ := hc j _ (List.getElem?_eq_getElem hl)
  have hK' : c = [enc xs[j]] := hK
  subst hK'
  have := hcell 0 _ rfl
  simpa [scalar, List.getD_eq_getElem?_getD, List.getElem?_eq_getElem hl] using this
end Kd
namespace Kd
end Kd
namespace Kd
end Kd
namespace Kd
section
variable {w W : World} {A : Option Addr} {n : Nat}
theorem at_int {k : IntKind} {xs : List Int} (h : (Kd.int k).C w A n xs) (i : Int) (h0 : 0 ≤ i) (h1 : i < n) : ∃ ad, A = some ad ∧ w.cell? (ad.add i.toNat) = some (.int k (rd xs i)) :=
  ReadsOf.at_ (reads_of_C (enc := Value.int k) (d := (0 : Int)) (h1 := fun _ => rfl) h) i h0 h1
variable {α : Type} {enc : α → Value} {h1 : ∀ x, (enc x).oneCell' = true} {e base g cap : Nat} {ok : Nat → Prop} {xs : List α}
end
end Kd
namespace Kd
end Kd
namespace Kd
end Kd
namespace Kd
end Kd
namespace Kd
end Kd
namespace Kd
end Kd
namespace Kd
end Kd
namespace Kd
end Kd
theorem string_of_reads {P : Program} {w : World} {src dst e : TypeId} {A : Option Addr} {n c : Nat} {xs : List Int} (hs : P.underlying src = some (.slice e)) (he : P.underlying e = some (.int .u8)) (hd : P.underlying dst = some .string)
    (h : ReadsInt w .u8 A n xs) : (convert src dst (.slice A n c)).run P w = .ok (.string (strOfNums xs)) w := by
  have hn : xs.length = n := h.1
  rcases A with _ | ad
  · have h0 : n = 0 := by
      rcases Nat.eq_zero_or_pos n with h0 | h0
      · exact h0
      · obtain ⟨ad, h', _⟩ := h.2.2 h0
        cases h'
    subst h0
    obtain rfl : xs = [] := List.eq_nil_of_length_eq_zero hn
    exact run_convert_bytes_nil w src e hs he 0 c dst hd
  · have hl : (loadCells ad n).run P w = .ok (xs.map (Value.int .u8)).toArray w := by
      have := run_loadCells_list (P := P) w ad (xs.map (Value.int .u8)) (fun j v hj => by
        have hjl : j < xs.length := by
          rcases Nat.lt_or_ge j xs.length with h' | h'
          · exact h'
          · rw [List.getElem?_eq_none (by rw [List.length_map]; exact h')] at hj
            cases hj
        obtain ⟨ad', he', hc⟩ := h.2.2 (by omega)
        injection he' with he'
        subst he'
        rw [hc j (by omega)]
        rw [List.getElem?_map, List.getElem?_eq_getElem hjl] at hj
        simp at hj
        subst hj
        simp [List.getD_eq_getElem?_getD, List.getElem?_eq_getElem hjl])
      simpa [hn] using this
    rw [run_convert_bytes_string w src dst e _ n c hs he hd, run_bytesToString w ad n c xs hl, foldl_push_bytes]
    simp [strOfNums, ByteArray.empty, ByteArray.emptyWithCapacity]
    rfl
theorem Kd.C_string {P : Program} {w : World} {src dst e : TypeId} {A : Option Addr} {n c : Nat} {xs : List Int} (hs : P.underlying src = some (.slice e)) (he : P.underlying e = some (.int .u8)) (hd : P.underlying dst = some .string)
    (h : (Kd.int .u8).C w A n xs) : (convert src dst (.slice A n c)).run P w = .ok (.string (strOfNums xs)) w :=
  string_of_reads hs he hd (Kd.reads_of_C (enc := Value.int .u8) (d := (0 : Int)) (h1 := fun _ => rfl) h)
theorem below_step {w W w2 : World} (h : Below w.heap.size w W) (k : Below W.heap.size W w2) : Below w.heap.size w w2 := below_then h h.size k
theorem blk_put {w : World} {g : Nat} {t : TypeId} {cs cs' : Array Value} (h : w.heap[g]? = some (.cells cs t (0, 0))) (i : Nat) (u : Value) (e : cs.setIfInBounds i u = cs') : (w.setCell ⟨g, i, none⟩ u).heap[g]? = some (.cells cs' t (0, 0)) := e ▸ blk_set h i u
namespace Kd
end Kd
namespace Kd
end Kd
namespace Kd
end Kd
namespace Kd
end Kd
section
variable {P : Program} {ops : Array Oper} {o : Oper} {a : Act} {Q : Exit → Act → World → Prop} {Kc : Act → World → Prop}
namespace Kd
variable {α : Type}
end Kd
end
namespace Kd
end Kd
end Go.Proofs.YtljnfbpplhnmfaaGreatDoorW.PrintWords
namespace Go.Proofs.YtljnfbpplhnmfaaGreatDoorW.PrintLast
end Go.Proofs.YtljnfbpplhnmfaaGreatDoorW.PrintLast
namespace Go.Proofs.YtljnfbpplhnmfaaGreatDoorW.PrintWords
namespace Kd
end Kd
end Go.Proofs.YtljnfbpplhnmfaaGreatDoorW.PrintWords
namespace Go.Proofs.YtljnfbpplhnmfaaGreatDoorW.PrintWords
namespace Kd
end Kd
end Go.Proofs.YtljnfbpplhnmfaaGreatDoorW.PrintWords
namespace Go.Proofs.YtljnfbpplhnmfaaGreatDoorW.PrintWords
namespace Kd
end Kd
end Go.Proofs.YtljnfbpplhnmfaaGreatDoorW.PrintWords
namespace Go.Proofs.YtljnfbpplhnmfaaGreatDoorW.PrintWords
namespace Kd
end Kd
end Go.Proofs.YtljnfbpplhnmfaaGreatDoorW.PrintWords
namespace Go.Proofs.YtljnfbpplhnmfaaGreatDoorW.PrintWords
namespace Kd
end Kd
end Go.Proofs.YtljnfbpplhnmfaaGreatDoorW.PrintWords
namespace Go.Proofs.YtljnfbpplhnmfaaGreatDoorW.PrintWords
namespace Kd
end Kd
end Go.Proofs.YtljnfbpplhnmfaaGreatDoorW.PrintWords
namespace Go.Proofs.YtljnfbpplhnmfaaGreatDoorW.PrintWords
namespace Foot
end Foot
namespace Kd
end Kd
end Go.Proofs.YtljnfbpplhnmfaaGreatDoorW.PrintWords
namespace Go.Proofs.YtljnfbpplhnmfaaGreatDoorW.PrintWords
namespace Kd
end Kd
end Go.Proofs.YtljnfbpplhnmfaaGreatDoorW.PrintWords
namespace Go.Proofs.YtljnfbpplhnmfaaGreatDoorW.PrintWords
namespace Kd
end Kd
end Go.Proofs.YtljnfbpplhnmfaaGreatDoorW.PrintWords
namespace Go.Proofs.YtljnfbpplhnmfaaGreatDoorW.PrintMore
namespace Kd
end Kd
namespace Kd
end Kd
end Go.Proofs.YtljnfbpplhnmfaaGreatDoorW.PrintMore
namespace Go.Proofs.YtljnfbpplhnmfaaGreatDoorW.PrintWords
namespace Kd
end Kd
end Go.Proofs.YtljnfbpplhnmfaaGreatDoorW.PrintWords
namespace Go.Proofs.YtljnfbpplhnmfaaGreatDoorW.PrintWords
namespace Kd
end Kd
end Go.Proofs.YtljnfbpplhnmfaaGreatDoorW.PrintWords
namespace Go.Proofs.YtljnfbpplhnmfaaGreatDoor.Sl
open Go Go.RowKit Go.Proofs.YtljnfbpplhnmfaaGreatDoorW.PrintWords Go.Proofs.YtljnfbpplhnmfaaGreatDoorW.PrintLast Go.Proofs.YtljnfbpplhnmfaaGreatDoorW.PrintMore Go.Proofs.YtljnfbpplhnmfaaGreatDoor.Mp Go.Proofs.YtljnfbpplhnmfaaGreatDoor.Ra
set_option linter.unusedVariables false
structure Kb (T : Nat → Prop) (w w' : World) : Prop where
  os : w'.os = w.os
  tape : w'.tape = w.tape
  output : w'.output = w.output
  size : w.heap.size ≤ w'.heap.size
  block : ∀ k, k < w.heap.size → ¬ T k → w'.heap[k]? = w.heap[k]?
theorem Kb.refl (T : Nat → Prop) (w : World) : Kb T w w := ⟨rfl, rfl, rfl, Nat.le_refl _, fun _ _ _ => rfl⟩
theorem Kb.trans {T T' : Nat → Prop} {a b c : World} (h : Kb T a b) (k : Kb T' b c) (hT : ∀ j, j < a.heap.size → T' j → T j) : Kb T a c :=
  ⟨k.os.trans h.os, k.tape.trans h.tape, k.output.trans h.output, Nat.le_trans h.size k.size, fun i hi hn => (k.block i (Nat.lt_of_lt_of_le hi h.size) (fun t => hn (hT i hi t))).trans (h.block i hi hn)⟩
theorem Kb.ofBelow {T : Nat → Prop} {a w w' : World} (h : Kb T a w) (hb : Below w.heap.size w w') : Kb T a w' :=
  h.trans (T' := fun _ => False) ⟨hb.os, hb.tape, hb.output, hb.size, fun k hk _ => hb.block k hk⟩ (fun _ _ h => h.elim)
theorem Kb.setCell {T : Nat → Prop} {a w : World} (h : Kb T a w) {p : Addr} (hp : p.block < a.heap.size → T p.block) (u : Value) : Kb T a (w.setCell p u) :=
  h.trans (T' := fun j => j = p.block) ⟨rfl, rfl, rfl, by simp [World.setCell], fun k _ hk => Below.heap_setCell _ _ _ _ hk⟩ (fun j hj e => by subst e; exact hp hj)
theorem Kb.grown {T : Nat → Prop} {a w w' : World} {row : Option Nat} (h : Kb T a w) (hg : w.grownBy w' row) (hr : ∀ k, row = some k → k < a.heap.size → T k) : Kb T a w' :=
  h.trans (T' := fun j => row = some j) ⟨hg.os, hg.tape, hg.output, hg.size, fun k hk hn => hg.block k hk (fun e => hn e.symm)⟩ (fun j hj e => hr j e hj)
theorem Kb.below {T : Nat → Prop} {w w' : World} {B : Nat} (h : Kb T w w') (hB : B ≤ w.heap.size) (hT : ∀ k, T k → B ≤ k) : Below B w w' :=
  ⟨h.os, h.tape, h.output, h.size, fun k hk => h.block k (by omega) (fun t => by have := hT k t; omega)⟩
theorem Kb.mono {T T' : Nat → Prop} {w w' : World} (h : Kb T w w') (hT : ∀ k, T k → T' k) : Kb T' w w' :=
  ⟨h.os, h.tape, h.output, h.size, fun k hk hn => h.block k hk (fun t => hn (hT k t))⟩
structure SP where
  h : (Nat → Prop) → World → Prop
  lt : ∀ {T w}, h T w → ∀ k, T k → k < w.heap.size
  same : ∀ {T w w'}, h T w → (∀ k, T k → w'.heap[k]? = w.heap[k]?) → w.heap.size ≤ w'.heap.size → h T w'
theorem SP.below {A : SP} {T : Nat → Prop} {w w' : World} (h : A.h T w) (hb : Below w.heap.size w w') : A.h T w' := A.same h (fun k hk => hb.block k (A.lt h k hk)) hb.size
def blk (g : Nat) (o : Obj) : SP where
  h T w := (∀ k, T k ↔ k = g) ∧ w.heap[g]? = some o
  lt h k hk := by have := (h.1 k).1 hk; subst this; exact (Array.getElem?_eq_some_iff.1 h.2).1
  same h hb _ := ⟨h.1, (hb g ((h.1 g).2 rfl)).trans h.2⟩
def row (e : TypeId) (size : Nat) (v : Value) (n : Nat) (xs : List Value) : SP where
  h T w := (∀ k, T k ↔ v.ownBlock = some k) ∧ OwnsAt w T e size v n xs
  lt h k hk := (h.2.lt k ((h.1 k).1 hk)).2
  same h hb _ := ⟨h.1, h.2.same fun k hk => hb k ((h.1 k).2 hk)⟩
def map_ (P : Program) (k : TypeId) (b n : Nat) (f : Lit → Option Value) : SP where
  h T w := (∀ j, T j ↔ j = b) ∧ MapAt P k w b n f
  lt h j hj := by have := (h.1 j).1 hj; subst this; exact h.2.lt
  same h hb _ := ⟨h.1, h.2.same (hb b ((h.1 b).2 rfl))⟩
def fact (p : Prop) : SP where
  h T w := (∀ k, ¬ T k) ∧ p
  lt h k hk := (h.1 k hk).elim
  same h _ _ := h
def sep (A B : SP) : SP where
  h T w := ∃ T1 T2, A.h T1 w ∧ B.h T2 w ∧ (∀ k, T1 k → ¬ T2 k) ∧ ∀ k, T k ↔ T1 k ∨ T2 k
  lt := by
    rintro T w ⟨T1, T2, h1, h2, _, hT⟩ k hk
    rcases (hT k).1 hk with h | h
    · exact A.lt h1 k h
    · exact B.lt h2 k h
  same := by
    rintro T w w' ⟨T1, T2, h1, h2, hd, hT⟩ hb hs
    exact ⟨T1, T2, A.same h1 (fun k hk => hb k ((hT k).2 (Or.inl hk))) hs, B.same h2 (fun k hk => hb k ((hT k).2 (Or.inr hk))) hs, hd, hT⟩
infixr:60 " ∗ " => sep
def ex {α : Type} (A : α → SP) : SP where
  h T w := ∃ x, (A x).h T w
  lt := by rintro T w ⟨x, h⟩ k hk; exact (A x).lt h k hk
  same := by rintro T w w' ⟨x, h⟩ hb hs; exact ⟨x, (A x).same h hb hs⟩
def Went (A : SP) (T : Nat → Prop) (w w' : World) : Prop := ∃ T', A.h T' w' ∧ Kb T w w' ∧ ∀ k, T' k → T k ∨ w.heap.size ≤ k
section
variable {A B C : SP} {T : Nat → Prop} {w w1 w2 : World}
theorem Went.refl (h : A.h T w) : Went A T w w := ⟨T, h, Kb.refl T w, fun _ h => Or.inl h⟩
theorem Went.trans {T1 : Nat → Prop} (k1 : Kb T w w1) (t1 : ∀ k, T1 k → T k ∨ w.heap.size ≤ k) (h : Went B T1 w1 w2) : Went B T w w2 := by
  obtain ⟨T2, h2, k2, t2⟩ := h
  refine ⟨T2, h2, k1.trans k2 (fun j hj ht => ?_), fun k hk => ?_⟩
  · rcases t1 j ht with h | h
    · exact h
    · omega
  · rcases t2 k hk with h | h
    · exact t1 k h
    · right; have := k1.size; omega
theorem Went.bind (h : Went A T w w1) (f : ∀ T1, A.h T1 w1 → Went B T1 w1 w2) : Went B T w w2 := by
  obtain ⟨T1, h1, k1, t1⟩ := h
  exact Went.trans k1 t1 (f T1 h1)
theorem Went.below (h : Went A T w w1) (hb : Below w1.heap.size w1 w2) : Went A T w w2 :=
  h.bind fun T1 h1 => ⟨T1, SP.below h1 hb, (Kb.refl T1 w1).ofBelow hb, fun _ h => Or.inl h⟩
theorem Went.drew (h : Went A T w w1) : Went A T w w1.drew := h.below ((Below.refl _ w1).drew)
theorem Went.alloc (h : Went A T w w1) (o : Obj) : Went A T w (w1.alloc o) := h.below ((Below.refl _ w1).alloc (Nat.le_refl _) o)
theorem Went.drewN (h : Went A T w w1) (n : Nat) : Went A T w (w1.drewN n) := h.below (pw_below_drewN (Below.refl _ w1) n)
theorem Went.imp (h : Went A T w w1) (f : ∀ T1, A.h T1 w1 → B.h T1 w1) : Went B T w w1 := h.bind fun T1 h1 => Went.refl (f T1 h1)
theorem Went.keeps (h : Went A T w w1) : Kb T w w1 := by
  obtain ⟨_, _, k, _⟩ := h
  exact k
theorem Went.call1 {P : Program} {f : FuncId} {args : Array Value} {r : Value} (h : Went A T w w1) (m : ∀ T1, A.h T1 w1 → Calls P f args w1 fun e w2 => e = .returned r ∧ Went B T1 w1 w2) :
    Calls P f args w1 fun e w2 => e = .returned r ∧ Went B T w w2 := by
  obtain ⟨T1, h1, k1, t1⟩ := h
  exact (m T1 h1).mono fun e w2 ⟨he, hw⟩ => ⟨he, Went.trans k1 t1 hw⟩
theorem frame (h : (A ∗ C).h T w) : ∃ T1, A.h T1 w ∧ ∀ B w2, Went B T1 w w2 → Went (B ∗ C) T w w2 := by
  obtain ⟨T1, T2, h1, h2, hd, hT⟩ := h
  refine ⟨T1, h1, fun B w2 ⟨T3, h3, k3, t3⟩ => ⟨fun k => T3 k ∨ T2 k, ⟨T3, T2, h3, C.same h2 (fun k hk => k3.block k (C.lt h2 k hk) (fun h => hd k h hk)) k3.size, fun k hk hk2 => ?_, fun k => Iff.rfl⟩, k3.mono (fun k hk => (hT k).2 (Or.inl hk)), fun k hk => ?_⟩⟩
  · rcases t3 k hk with h | h
    · exact hd k h hk2
    · have := C.lt h2 k hk2; omega
  · rcases hk with h | h
    · rcases t3 k h with h | h
      · exact Or.inl ((hT k).2 (Or.inl h))
      · exact Or.inr h
    · exact Or.inl ((hT k).2 (Or.inr h))
theorem frameR (h : (C ∗ A).h T w) : ∃ T1, A.h T1 w ∧ ∀ B w2, Went B T1 w w2 → Went (C ∗ B) T w w2 := by
  obtain ⟨T1, T2, h1, h2, hd, hT⟩ := h
  obtain ⟨T3, h3, f⟩ := frame (A := A) (C := C) (T := T) (w := w) ⟨T2, T1, h2, h1, fun k a b => hd k b a, fun k => (hT k).trans Or.comm⟩
  refine ⟨T3, h3, fun B w2 hw => (f B w2 hw).imp ?_⟩
  rintro T4 ⟨S1, S2, s1, s2, sd, sT⟩
  exact ⟨S2, S1, s2, s1, fun k a b => sd k b a, fun k => (sT k).trans Or.comm⟩
def all : List SP → SP
  | [] => fact True
  | A :: L => A ∗ all L
theorem focus : ∀ {L : List SP} {i : Nat} {A : SP} {T : Nat → Prop} {w : World}, (all L).h T w → L[i]? = some A → ∃ T1, A.h T1 w ∧ ∀ B w2, Went B T1 w w2 → Went (all (L.set i B)) T w w2
  | [], i, A, T, w, h, hi => by simp at hi
  | A0 :: L, 0, A, T, w, h, hi => by
    simp at hi
    subst hi
    exact frame h
  | A0 :: L, i + 1, A, T, w, h, hi => by
    obtain ⟨T1, h1, f⟩ := frameR (C := A0) (A := all L) h
    obtain ⟨T2, h2, g⟩ := focus (L := L) (i := i) (A := A) h1 (by simpa using hi)
    exact ⟨T2, h2, fun B w2 hw => f _ w2 (g B w2 hw)⟩
theorem Went.get {L : List SP} (h : Went (all L) T w w1) (i : Nat) (hi : L[i]? = some A) : ∃ T1, A.h T1 w1 := by
  obtain ⟨T1, h1, _⟩ := h
  obtain ⟨T2, h2, _⟩ := focus h1 hi
  exact ⟨T2, h2⟩
theorem Went.heap {L : List SP} (h : Went (all L) T w w1) (i : Nat) {g : Nat} {o : Obj} (hi : L[i]? = some (blk g o)) : w1.heap[g]? = some o := by
  obtain ⟨_, h2⟩ := h.get i hi
  exact h2.2
theorem Went.at_ {L : List SP} (h : Went (all L) T w w1) (i : Nat) (hi : L[i]? = some A) (f : ∀ T1, A.h T1 w1 → Went B T1 w1 w2) : Went (all (L.set i B)) T w w2 :=
  h.bind fun T1 h1 => by
    obtain ⟨T2, h2, g⟩ := focus h1 hi
    exact g B w2 (f T2 h2)
theorem Went.call_at {P : Program} {f : FuncId} {args : Array Value} {r : Value} {L : List SP} (h : Went (all L) T w w1) (i : Nat) (hi : L[i]? = some A) (m : ∀ T1, A.h T1 w1 → Calls P f args w1 fun e w2 => e = .returned r ∧ Went B T1 w1 w2) :
    Calls P f args w1 fun e w2 => e = .returned r ∧ Went (all (L.set i B)) T w w2 :=
  h.call1 fun T1 h1 => by
    obtain ⟨T2, h2, g⟩ := focus h1 hi
    exact (m T2 h2).mono fun e w2 ⟨he, hw⟩ => ⟨he, g B w2 hw⟩
theorem Went.set {L : List SP} (h : Went (all L) T w w1) (i : Nat) {g : Nat} {cs : Array Value} {t : TypeId} (hi : L[i]? = some (blk g (.cells cs t (0, 0)))) (j : Nat) (u : Value) :
    Went (all (L.set i (blk g (.cells (cs.setIfInBounds j u) t (0, 0))))) T w (w1.setCell ⟨g, j, none⟩ u) :=
  h.at_ i hi fun T1 h1 => ⟨T1, ⟨h1.1, blk_put h1.2 j u rfl⟩, (Kb.refl T1 w1).setCell (p := ⟨g, j, none⟩) (fun _ => (h1.1 g).2 rfl) u, fun _ h => Or.inl h⟩
theorem Went.new {L : List SP} (h : Went (all L) T w w1) (o : Obj) : Went (all (blk w1.heap.size o :: L)) T w (w1.alloc o) :=
  h.bind fun T1 h1 => by
    have hb := (Below.refl w1.heap.size w1).alloc (Nat.le_refl _) o
    refine ⟨fun k => k = w1.heap.size ∨ T1 k, ⟨fun k => k = w1.heap.size, T1, ⟨fun _ => Iff.rfl, blk_new w1 o⟩, SP.below h1 hb, fun k e h => ?_, fun k => Iff.rfl⟩, (Kb.refl T1 w1).ofBelow hb, fun k hk => ?_⟩
    · have := (all L).lt h1 k h; omega
    · rcases hk with h | h
      · exact Or.inr (by omega)
      · exact Or.inl h
theorem sep_swap (h : (A ∗ (B ∗ C)).h T w) : (B ∗ (A ∗ C)).h T w := by
  obtain ⟨T1, T2, h1, ⟨T3, T4, h3, h4, d2, e2⟩, d1, e1⟩ := h
  refine ⟨T3, fun k => T1 k ∨ T4 k, h3, ⟨T1, T4, h1, h4, fun k a b => d1 k a ((e2 k).2 (Or.inr b)), fun k => Iff.rfl⟩, fun k a b => ?_, fun k => ?_⟩
  · rcases b with b | b
    · exact d1 k b ((e2 k).2 (Or.inl a))
    · exact d2 k a b
  · rw [e1 k, e2 k]
    constructor
    · rintro (a | a | a)
      · exact Or.inr (Or.inl a)
      · exact Or.inl a
      · exact Or.inr (Or.inr a)
    · rintro (a | a | a)
      · exact Or.inr (Or.inl a)
      · exact Or.inl a
      · exact Or.inr (Or.inr a)
theorem all_perm {L L' : List SP} (p : L.Perm L') : ∀ {T : Nat → Prop} {w : World}, (all L).h T w → (all L').h T w := by
  induction p with
  | nil => exact fun h => h
  | cons A _ ih =>
    rintro T w ⟨T1, T2, h1, h2, d, e⟩
    exact ⟨T1, T2, h1, ih h2, d, e⟩
  | swap A B L => exact fun h => sep_swap h
  | trans _ _ ih1 ih2 => exact fun h => ih2 (ih1 h)
theorem Went.perm {L L' : List SP} (h : Went (all L) T w w1) (p : L.Perm L') : Went (all L') T w w1 := h.imp fun T1 h1 => all_perm p h1
theorem Went.nothing : Went (all []) (fun _ => False) w w := Went.refl ⟨fun _ h => h, trivial⟩
theorem Went.know {L : List SP} {p : Prop} (h : Went (all L) T w w1) (hp : p) : Went (all (fact p :: L)) T w w1 :=
  h.imp fun T1 h1 => ⟨fun _ => False, T1, ⟨fun _ h => h, hp⟩, h1, fun _ h => h.elim, fun k => by simp⟩
theorem Went.norow {L : List SP} (e : TypeId) (size : Nat) (h : Went (all L) T w w1) : Went (all (row e size (.slice none 0 0) 0 [] :: L)) T w w1 :=
  h.imp fun T1 h1 => ⟨fun _ => False, T1, ⟨fun k => by simp [Value.ownBlock], ownsAt_nil w1 _ e size⟩, h1, fun _ h => h.elim, fun k => by simp⟩
theorem Went.newmap {L : List SP} (P : Program) (k : TypeId) (h : Went (all L) T w w1) : Went (all (map_ P k w1.heap.size 0 (fun _ => none) :: L)) T w (w1.alloc (.map #[] 0)) :=
  h.bind fun T1 h1 => by
    have hb := (Below.refl w1.heap.size w1).alloc (Nat.le_refl _) (.map #[] 0)
    refine ⟨fun j => j = w1.heap.size ∨ T1 j, ⟨fun j => j = w1.heap.size, T1, ⟨fun _ => Iff.rfl, mapAt_made P k w1⟩, SP.below h1 hb, fun j e h => ?_, fun j => Iff.rfl⟩, (Kb.refl T1 w1).ofBelow hb, fun j hj => ?_⟩
    · have := (all L).lt h1 j h; omega
    · rcases hj with h | h
      · exact Or.inr (by omega)
      · exact Or.inl h
theorem Went.same {L L' : List SP} (h : Went (all L) T w w1) (e : L = L') : Went (all L') T w w1 := e ▸ h
end
end Go.Proofs.YtljnfbpplhnmfaaGreatDoor.Sl
