/- Maps of the call's own, whatever their elements are: a function from what a key reads as to a value. No condition. -/
import Derived.Maps.OwnSet
namespace Go.Proofs.Ytbppngopiackcaa.Mp
open Go Go.RowKit Go.Maps
set_option linter.unusedVariables false
/-- An element is read as itself. -/
def anyElem (v : Value) : Option (DataW Value × List MemPlace) := some (.held v, [])
/-- Block b is a map of at most n entries; at the key kl it has what f says. -/
def MapAt (P : Program) (k : TypeId) (w : World) (b n : Nat) (f : Lit → Option Value) : Prop :=
  ∃ D, w.ownsMap P k anyElem b n D ∧ ∀ kl, WideAt.IsKeyLit kl → has D kl = (f kl).isSome ∧ ∀ z, D.atKey kl z = match f kl with | some v => .held v | none => z
open Classical in
/-- f, but for one key. -/
noncomputable def upd (f : Lit → Option Value) (kl : Lit) (o : Option Value) (l : Lit) : Option Value := if l = kl then o else f l
theorem upd_same (f : Lit → Option Value) (kl : Lit) (o : Option Value) : upd f kl o kl = o := by unfold upd; rw [if_pos rfl]
theorem upd_other {f : Lit → Option Value} {kl l : Lit} {o : Option Value} (h : l ≠ kl) : upd f kl o l = f l := by unfold upd; rw [if_neg h]
theorem mapAt_made (P : Program) (k : TypeId) (w : World) : MapAt P k (w.alloc (.map #[] 0)) w.heap.size 0 (fun _ => none) :=
  ⟨_, World.ownsMap_made w P k anyElem, fun kl _ => ⟨rfl, fun z => rfl⟩⟩
theorem MapAt.lt {P : Program} {k : TypeId} {w : World} {b n : Nat} {f : Lit → Option Value} (h : MapAt P k w b n f) : b < w.heap.size := by
  obtain ⟨D, h1, _⟩ := h
  exact h1.lt
theorem MapAt.mono {P : Program} {k : TypeId} {w : World} {b n m : Nat} {f : Lit → Option Value} (h : MapAt P k w b n f) (hn : n ≤ m) : MapAt P k w b m f := by
  obtain ⟨D, h1, h2⟩ := h
  exact ⟨D, h1.mono hn, h2⟩
/-- The same block in another world. -/
theorem MapAt.same {P : Program} {k : TypeId} {w w' : World} {b n : Nat} {f : Lit → Option Value} (h : MapAt P k w b n f) (hb : w'.heap[b]? = w.heap[b]?) : MapAt P k w' b n f := by
  obtain ⟨D, ⟨es, clock, h1, h2⟩, h3⟩ := h
  exact ⟨D, ⟨es, clock, hb.trans h1, h2⟩, h3⟩
theorem MapAt.below {P : Program} {k : TypeId} {w w' : World} {b n : Nat} {f : Lit → Option Value} (h : MapAt P k w b n f) (hb : Below w.heap.size w w') : MapAt P k w' b n f := h.same (hb.block _ h.lt)
theorem MapAt.congr {P : Program} {k : TypeId} {w : World} {b n : Nat} {f g : Lit → Option Value} (h : MapAt P k w b n f) (hg : ∀ kl, WideAt.IsKeyLit kl → f kl = g kl) : MapAt P k w b n g := by
  obtain ⟨D, h1, h2⟩ := h
  exact ⟨D, h1, fun kl hk => by rw [← hg kl hk]; exact h2 kl hk⟩
theorem at_f {D : DataW Value} {kl : Lit} {z : Value} {o : Option Value} (h : ∀ z, D.atKey kl z = match o with | some v => .held v | none => z) : D.atKey kl (.held z) = .held (o.getD z) := by
  rw [h]; cases o <;> rfl
section
variable {P : Program} (w : World) {ops : Array Oper} {rest : List Oper} {o : Oper} {a : Act} {Q : Exit → Act → World → Prop}
theorem wp_look (hg : o.guard = none) (m x : Operand) (t : TypeId) (hop : o.op = Op.lookup t m x false)
    (k e : TypeId) (K : Keyed P k) (ht : P.underlying t = some (.map k e)) {z : Value} (hz : (zeroValue e).run P w = .ok z w) (b n : Nat) (f : Lit → Option Value)
    (hm : a.eval m = .map (some b)) (hown : MapAt P k w b n f) (key : Value) (kl : Lit) (hx : a.eval x = key) (hkey : keyOf P k key = some kl)
    (hK : wpList P ops Q rest (a.put o.dst ((f kl).getD z)) w) : wpList P ops Q (o :: rest) a w := by
  refine wpList_plain hg fun K' hK' => ?_
  obtain ⟨D, h1, h2⟩ := hown
  obtain ⟨v, ps, hrun, hv⟩ := h1.lookup K ht hz (zd := .held z) (zp := []) rfl hkey
  have e1 : v = (f kl).getD z := by
    have h3 := at_f (z := z) (h2 kl (K.key hkey)).2
    rw [h3] at hv
    simp [anyElem] at hv
    exact hv.1
  unfold Oper.wp
  simp [execOp, hop, hm, hx, hrun, Result.andThen]
  rw [e1]
  exact hK' _ _ hK
theorem wp_look_ok (hg : o.guard = none) (m x : Operand) (t : TypeId) (hop : o.op = Op.lookup t m x true)
    (k e : TypeId) (K : Keyed P k) (ht : P.underlying t = some (.map k e)) {z : Value} (hz : (zeroValue e).run P w = .ok z w) (b n : Nat) (f : Lit → Option Value)
    (hm : a.eval m = .map (some b)) (hown : MapAt P k w b n f) (key : Value) (kl : Lit) (hx : a.eval x = key) (hkey : keyOf P k key = some kl)
    (hK : wpList P ops Q rest (a.put o.dst (.tuple #[(f kl).getD z, .bool (f kl).isSome])) w) : wpList P ops Q (o :: rest) a w := by
  obtain ⟨D, h1, h2⟩ := hown
  refine wpList_lookup_own_ok w hg m x t hop k e K ht anyElem hz (.held z) [] rfl b n D hm h1 key kl hx hkey (fun v ps hv => ?_)
  have h3 := at_f (z := z) (h2 kl (K.key hkey)).2
  rw [h3] at hv
  simp [anyElem] at hv
  rw [hv.1, (h2 kl (K.key hkey)).1]
  exact hK
theorem wp_store (hg : o.guard = none) (m x v : Operand) (t : TypeId) (hop : o.op = Op.mapUpdate t m x v)
    (k e : TypeId) (K : Keyed P k) (ht : P.underlying t = some (.map k e)) (b n : Nat) (f : Lit → Option Value)
    (hm : a.eval m = .map (some b)) (hown : MapAt P k w b n f) (hn : n < maxLen) (key val : Value) (kl : Lit) (hx : a.eval x = key) (hv : a.eval v = val) (hkey : keyOf P k key = some kl)
    (hK : ∀ w', MapAt P k w' b (n + 1) (upd f kl (some val)) → w.grownBy w' (some b) → w'.heap.size = w.heap.size → wpList P ops Q rest (a.put o.dst undef) w') : wpList P ops Q (o :: rest) a w := by
  obtain ⟨D, h1, h2⟩ := hown
  refine wpList_mapUpdate_in w hg m x v t hop k e K ht anyElem b n D hm h1 hn key val kl hx hv hkey (.held val) [] rfl (fun w' r1 r2 => hK w' ⟨_, r1, fun l hl => ?_⟩ r2.grown ?_)
  · by_cases h : l = kl
    · subst h
      rw [upd_same]
      exact ⟨has_put_same h1.isMap hl _, fun z => atKey_put_same h1.isMap hl _ z⟩
    · rw [upd_other h]
      exact ⟨(has_put_other h _).trans (h2 l hl).1, fun z => (atKey_put_other h _ z).trans ((h2 l hl).2 z)⟩
  · obtain ⟨_, _, _, _, _, rfl⟩ := r2
    simp [ChangeMaps.setBlock]
theorem wp_drop (hg : o.guard = none) (m x : Operand) (t k : TypeId) (hop : o.op = Op.call { callee := Callee.builtin Builtin.delete, args := #[m, x], argTypes := #[t, k] })
    (e : TypeId) (K : Keyed P k) (ht : P.underlying t = some (.map k e)) (b n : Nat) (f : Lit → Option Value)
    (hm : a.eval m = .map (some b)) (hown : MapAt P k w b n f) (key : Value) (kl : Lit) (hx : a.eval x = key) (hkey : keyOf P k key = some kl)
    (hK : ∀ w', MapAt P k w' b n (upd f kl none) → w.grownBy w' (some b) → w'.heap.size = w.heap.size → wpList P ops Q rest (a.put o.dst (.tuple #[])) w') : wpList P ops Q (o :: rest) a w := by
  obtain ⟨D, h1, h2⟩ := hown
  refine wpList_delete_own w hg m x t k hop e K ht anyElem b n D hm h1 key kl hx hkey (fun w' r1 r2 => hK w' ⟨_, r1, fun l hl => ?_⟩ r2.grown ?_)
  · by_cases h : l = kl
    · subst h
      rw [upd_same]
      exact ⟨has_del_same, fun z => atKey_del_same z⟩
    · rw [upd_other h]
      exact ⟨(has_del_other h).trans (h2 l hl).1, fun z => (atKey_del_other h z).trans ((h2 l hl).2 z)⟩
  · obtain ⟨_, _, _, _, _, rfl⟩ := r2
    simp [ChangeMaps.setBlock]
end
end Go.Proofs.Ytbppngopiackcaa.Mp
