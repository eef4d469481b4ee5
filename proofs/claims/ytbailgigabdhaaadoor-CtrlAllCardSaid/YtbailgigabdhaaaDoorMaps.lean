/- Maps of the call's own, whatever their elements are: a function from what a key reads as to a value. No condition. -/
import Derived.Maps.OwnSet
import Derived.WideKeyEntry
namespace Go.Proofs.YtbailgigabdhaaaDoor.Mp
open Go Go.RowKit Go.Maps
set_option linter.unusedVariables false
/-- An element is read as itself. -/
def anyElem (v : Value) : Option (DataW Value × List MemPlace) := some (.held v, [])
/-- Block b is a map of at most n entries; at the key kl it has what f says. -/
def MapAt (P : Program) (k : TypeId) (w : World) (b n : Nat) (f : Lit → Option Value) : Prop :=
  ∃ D, w.ownsMap P k anyElem b n D ∧ ∀ kl, WideAt.IsKeyLit kl → has D kl = (f kl).isSome ∧ ∀ z, D.atKey kl z = match f kl with | some v => .held v | none => z
open Classical in
/-- f, but for one key. -/
noncomputable def upd (f : Lit → Option Value) (kl : Lit) (o : Option Value) (l : Lit) : Option Value := if l = kl then o else f l
theorem upd_same (f : Lit → Option Value) (kl : Lit) (o : Option Value) : upd f kl o kl = o := by unfold upd; rw [if_pos rfl]
theorem upd_other {f : Lit → Option Value} {kl l : Lit} {o : Option Value} (h : l ≠ kl) : upd f kl o l = f l := by unfold upd; rw [if_neg h]
theorem mapAt_made (P : Program) (k : TypeId) (w : World) : MapAt P k (w.alloc (.map #[] 0)) w.heap.size 0 (fun _ => none) :=
  ⟨_, World.ownsMap_made w P k anyElem, fun kl _ => ⟨rfl, fun z => rfl⟩⟩
theorem MapAt.lt {P : Program} {k : TypeId} {w : World} {b n : Nat} {f : Lit → Option Value} (h : MapAt P k w b n f) : b < w.heap.size := by
  obtain ⟨D, h1, _⟩ := h
  exact h1.lt
theorem MapAt.mono {P : Program} {k : TypeId} {w : World} {b n m : Nat} {f : Lit → Option Value} (h : MapAt P k w b n f) (hn : n ≤ m) : MapAt P k w b m f := by
  obtain ⟨D, h1, h2⟩ := h
  exact ⟨D, h1.mono hn, h2⟩
/-- The same block in another world. -/
theorem MapAt.same {P : Program} {k : TypeId} {w w' : World} {b n : Nat} {f : Lit → Option Value} (h : MapAt P k w b n f) (hb : w'.heap[b]? = w.heap[b]?) : MapAt P k w' b n f := by
  obtain ⟨D, ⟨es, clock, h1, h2⟩, h3⟩ := h
  exact ⟨D, ⟨es, clock, hb.trans h1, h2⟩, h3⟩
theorem MapAt.below {P : Program} {k : TypeId} {w w' : World} {b n : Nat} {f : Lit → Option Value} (h : MapAt P k w b n f) (hb : Below w.heap.size w w') : MapAt P k w' b n f := h.same (hb.block _ h.lt)
theorem MapAt.congr {P : Program} {k : TypeId} {w : World} {b n : Nat} {f g : Lit → Option Value} (h : MapAt P k w b n f) (hg : ∀ kl, WideAt.IsKeyLit kl → f kl = g kl) : MapAt P k w b n g := by
  obtain ⟨D, h1, h2⟩ := h
  exact ⟨D, h1, fun kl hk => by rw [← hg kl hk]; exact h2 kl hk⟩
theorem at_f {D : DataW Value} {kl : Lit} {z : Value} {o : Option Value} (h : ∀ z, D.atKey kl z = match o with | some v => .held v | none => z) : D.atKey kl (.held z) = .held (o.getD z) := by
  rw [h]; cases o <;> rfl
section
variable {P : Program} (w : World) {ops : Array Oper} {rest : List Oper} {o : Oper} {a : Act} {Q : Exit → Act → World → Prop}
theorem wp_look (hg : o.guard = none) (m x : Operand) (t : TypeId) (hop : o.op = Op.lookup t m x false)
    (k e : TypeId) (K : Keyed P k) (ht : P.underlying t = some (.map k e)) {z : Value} (hz : (zeroValue e).run P w = .ok z w) (b n : Nat) (f : Lit → Option Value)
    (hm : a.eval m = .map (some b)) (hown : MapAt P k w b n f) (key : Value) (kl : Lit) (hx : a.eval x = key) (hkey : keyOf P k key = some kl)
    (hK : wpList P ops Q rest (a.put o.dst ((f kl).getD z)) w) : wpList P ops Q (o :: rest) a w := by
  refine wpList_plain hg fun K' hK' => ?_
  obtain ⟨D, h1, h2⟩ := hown
  obtain ⟨v, ps, hrun, hv⟩ := h1.lookup K ht hz (zd := .held z) (zp := []) rfl hkey
  have e1 : v = (f kl).getD z := by
    have h3 := at_f (z := z) (h2 kl (K.key hkey)).2
    rw [h3] at hv
    simp [anyElem] at hv
    exact hv.1
  unfold Oper.wp
  simp [execOp, hop, hm, hx, hrun, Result.andThen]
  rw [e1]
  exact hK' _ _ hK
theorem wp_look_ok (hg : o.guard = none) (m x : Operand) (t : TypeId) (hop : o.op = Op.lookup t m x true)
    (k e : TypeId) (K : Keyed P k) (ht : P.underlying t = some (.map k e)) {z : Value} (hz : (zeroValue e).run P w = .ok z w) (b n : Nat) (f : Lit → Option Value)
    (hm : a.eval m = .map (some b)) (hown : MapAt P k w b n f) (key : Value) (kl : Lit) (hx : a.eval x = key) (hkey : keyOf P k key = some kl)
    (hK : wpList P ops Q rest (a.put o.dst (.tuple #[(f kl).getD z, .bool (f kl).isSome])) w) : wpList P ops Q (o :: rest) a w := by
  obtain ⟨D, h1, h2⟩ := hown
  refine wpList_lookup_own_ok w hg m x t hop k e K ht anyElem hz (.held z) [] rfl b n D hm h1 key kl hx hkey (fun v ps hv => ?_)
  have h3 := at_f (z := z) (h2 kl (K.key hkey)).2
  rw [h3] at hv
  simp [anyElem] at hv
  rw [hv.1, (h2 kl (K.key hkey)).1]
  exact hK
theorem wp_store (hg : o.guard = none) (m x v : Operand) (t : TypeId) (hop : o.op = Op.mapUpdate t m x v)
    (k e : TypeId) (K : Keyed P k) (ht : P.underlying t = some (.map k e)) (b n : Nat) (f : Lit → Option Value)
    (hm : a.eval m = .map (some b)) (hown : MapAt P k w b n f) (hn : n < maxLen) (key val : Value) (kl : Lit) (hx : a.eval x = key) (hv : a.eval v = val) (hkey : keyOf P k key = some kl)
    (hK : ∀ w', MapAt P k w' b (n + 1) (upd f kl (some val)) → w.grownBy w' (some b) → w'.heap.size = w.heap.size → wpList P ops Q rest (a.put o.dst undef) w') : wpList P ops Q (o :: rest) a w := by
  obtain ⟨D, h1, h2⟩ := hown
  refine wpList_mapUpdate_in w hg m x v t hop k e K ht anyElem b n D hm h1 hn key val kl hx hv hkey (.held val) [] rfl (fun w' r1 r2 => hK w' ⟨_, r1, fun l hl => ?_⟩ r2.grown ?_)
  · by_cases h : l = kl
    · subst h
      rw [upd_same]
      exact ⟨has_put_same h1.isMap hl _, fun z => atKey_put_same h1.isMap hl _ z⟩
    · rw [upd_other h]
      exact ⟨(has_put_other h _).trans (h2 l hl).1, fun z => (atKey_put_other h _ z).trans ((h2 l hl).2 z)⟩
  · obtain ⟨_, _, _, _, _, rfl⟩ := r2
    simp [ChangeMaps.setBlock]
theorem wp_drop (hg : o.guard = none) (m x : Operand) (t k : TypeId) (hop : o.op = Op.call { callee := Callee.builtin Builtin.delete, args := #[m, x], argTypes := #[t, k] })
    (e : TypeId) (K : Keyed P k) (ht : P.underlying t = some (.map k e)) (b n : Nat) (f : Lit → Option Value)
    (hm : a.eval m = .map (some b)) (hown : MapAt P k w b n f) (key : Value) (kl : Lit) (hx : a.eval x = key) (hkey : keyOf P k key = some kl)
    (hK : ∀ w', MapAt P k w' b n (upd f kl none) → w.grownBy w' (some b) → w'.heap.size = w.heap.size → wpList P ops Q rest (a.put o.dst (.tuple #[])) w') : wpList P ops Q (o :: rest) a w := by
  obtain ⟨D, h1, h2⟩ := hown
  refine wpList_delete_own w hg m x t k hop e K ht anyElem b n D hm h1 key kl hx hkey (fun w' r1 r2 => hK w' ⟨_, r1, fun l hl => ?_⟩ r2.grown ?_)
  · by_cases h : l = kl
    · subst h
      rw [upd_same]
      exact ⟨has_del_same, fun z => atKey_del_same z⟩
    · rw [upd_other h]
      exact ⟨(has_del_other h).trans (h2 l hl).1, fun z => (atKey_del_other h z).trans ((h2 l hl).2 z)⟩
  · obtain ⟨_, _, _, _, _, rfl⟩ := r2
    simp [ChangeMaps.setBlock]
end
/-- 'm[k] op= ..': the entry is looked for (or made) first, the value stored into it later. -/
theorem entry_law {P : Program} {w : World} {t k e : TypeId} (K : WideMaps.KeyLaw P k) (ht : P.underlying t = some (.map k e)) {z : Value} (hz : ∀ u : World, (zeroValue e).run P u = .ok z u) {b n : Nat} {f : Lit → Option Value}
    (hown : MapAt P k w b n f) (hn : n < maxLen) {key : Value} {kl : Lit} (hkey : keyOf P k key = some kl) :
    ∃ st w1, (Instr.mapEntry t (.map (some b)) key).run P w = .ok (.tuple #[(f kl).getD z, st]) w1 ∧ w.grownBy w1 (some b) ∧ w1.heap.size = w.heap.size ∧
      ∀ (w2 : World) (val : Value), w2.heap[b]? = w1.heap[b]? → ∃ w3, (Instr.entryStore t (.map (some b)) st val).run P w2 = .ok () w3 ∧ MapAt P k w3 b (n + 1) (upd f kl (some val)) ∧ w2.grownBy w3 (some b) ∧ w3.heap.size = w2.heap.size := by
  obtain ⟨D, hD, h2⟩ := hown
  obtain ⟨es, clock, hb, F, hs, hDe⟩ := hD
  obtain ⟨v0, st, es1, clock1, hrun, hv0, hst⟩ := WideElems.entry_then_store K ht hz hb F hkey
  have KK := Keyed.of_law K
  have hup : ∀ (o o' : Obj) (u : World), u.heap[b]? = some o → u.grownBy (ChangeMaps.setBlock u b o') (some b) ∧ (ChangeMaps.setBlock u b o').heap.size = u.heap.size ∧ (ChangeMaps.setBlock u b o').heap[b]? = some o' := by
    intro o o' u hu
    have hlt := (Array.getElem?_eq_some_iff.1 hu).1
    refine ⟨⟨rfl, rfl, rfl, by simp [ChangeMaps.setBlock], fun i hi hne => ?_⟩, by simp [ChangeMaps.setBlock], ?_⟩
    · simp only [ChangeMaps.setBlock, Array.getElem?_setIfInBounds]
      rw [if_neg (fun e1 => hne (by rw [e1]))]
    · simp only [ChangeMaps.setBlock, Array.getElem?_setIfInBounds]
      simp [hlt]
  have hval : v0 = (f kl).getD z := by
    have hown' : w.ownsMap P k anyElem b n D := ⟨es, clock, hb, F, hs, hDe⟩
    obtain ⟨v, ps, hr1, hv⟩ := hown'.lookup KK ht (hz w) (zd := .held z) (zp := []) rfl hkey
    have h3 := at_f (z := z) (h2 kl (KK.key hkey)).2
    rw [h3] at hv
    simp [anyElem] at hv
    rw [← hv.1]
    rcases Maps.fit_look false KK ht (hz w) hb F hkey with ⟨r1, r2, _⟩ | ⟨e0, y, m0, k0, r1, _⟩
    · rw [r1] at hr1
      simp at hr1
      rcases hv0 with ⟨e1, m1, k1, rfl⟩ | ⟨_, rfl⟩
      · exact absurd k1 (r2 e1 m1)
      · exact hr1
    · rw [r1] at hr1
      simp at hr1
      rcases hv0 with ⟨e1, m1, k1, rfl⟩ | ⟨no, _⟩
      · rw [← hr1]
        have hj := F.stamped
        obtain ⟨_, _, s3⟩ := hj
        obtain ⟨i1, hi1, q1⟩ := List.getElem_of_mem m1
        obtain ⟨i0, hi0, q0⟩ := List.getElem_of_mem m0
        by_cases hii : i1 = i0
        · subst hii; rw [← q1, ← q0]
        · exact absurd (k1.trans k0.symm) (WideElems.other_key F (List.getElem?_eq_some_iff.2 ⟨hi0, q0⟩) (List.getElem?_eq_some_iff.2 ⟨hi1, q1⟩) hii)
      · exact absurd k0 (no e0 m0)
  obtain ⟨u1, u2, u3⟩ := hup _ (.map es1 clock1) w hb
  refine ⟨goInt st, _, by rw [← hval]; exact hrun, u1, u2, fun w2 val hw2 => ?_⟩
  rw [u3] at hw2
  obtain ⟨es', clock', hr2, hr3⟩ := hst w2 val hw2
  obtain ⟨w', hr4, hD', _⟩ := World.ownsMap.store (R := anyElem) ⟨es, clock, hb, F, hs, hDe⟩ KK ht hn (val := val) hkey (d := .held val) (ps := []) rfl
  rw [hr3] at hr4
  simp only [Result.ok.injEq, true_and] at hr4
  obtain ⟨x1, x2, x3⟩ := hup _ (.map es' clock') w2 hw2
  obtain ⟨_, _, y3⟩ := hup _ (.map es' clock') w hb
  refine ⟨_, hr2, MapAt.same (w := w') ⟨_, hD', fun l hl => ?_⟩ (by rw [x3, ← hr4, y3]), x1, x2⟩
  have hisMap : IsMap D := ⟨_, hDe⟩
  by_cases h : l = kl
  · subst h
    rw [upd_same]
    exact ⟨has_put_same hisMap hl _, fun z => atKey_put_same hisMap hl _ z⟩
  · rw [upd_other h]
    exact ⟨(has_put_other h _).trans (h2 l hl).1, fun z => (atKey_put_other h _ z).trans ((h2 l hl).2 z)⟩
/-- 'm[k] = v', as a run. -/
theorem store_law {P : Program} {w : World} {t k e : TypeId} (K : Keyed P k) (ht : P.underlying t = some (.map k e)) {b n : Nat} {f : Lit → Option Value}
    (hown : MapAt P k w b n f) (hn : n < maxLen) {key val : Value} {kl : Lit} (hkey : keyOf P k key = some kl) :
    ∃ w', (Instr.mapUpdate t (.map (some b)) key val).run P w = .ok () w' ∧ MapAt P k w' b (n + 1) (upd f kl (some val)) ∧ w.grownBy w' (some b) ∧ w'.heap.size = w.heap.size := by
  obtain ⟨D, h1, h2⟩ := hown
  obtain ⟨w', hrun, r1, r2⟩ := h1.store K ht hn hkey (val := val) (d := .held val) (ps := []) rfl
  refine ⟨w', hrun, ⟨_, r1, fun l hl => ?_⟩, r2.grown, ?_⟩
  · by_cases h : l = kl
    · subst h
      rw [upd_same]
      exact ⟨has_put_same h1.isMap hl _, fun z => atKey_put_same h1.isMap hl _ z⟩
    · rw [upd_other h]
      exact ⟨(has_put_other h _).trans (h2 l hl).1, fun z => (atKey_put_other h _ z).trans ((h2 l hl).2 z)⟩
  · obtain ⟨_, _, _, _, _, rfl⟩ := r2
    simp [ChangeMaps.setBlock]
end Go.Proofs.YtbailgigabdhaaaDoor.Mp
