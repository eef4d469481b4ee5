/- Two buses side by side; what an act does to a bus, plain: two buses that agree on a terminal's rows agree behind it. No condition. -/
import Derived.Test.YtfopcnabcmdclaaBusH
import Derived.Test.YtfopcnabcmdclaaActs
namespace Go.Proofs.Ytfopcnabcmdclaa.Bs
open Go Go.RowKit Go.Proofs.YtfopcnabcmdclaaW.PrintWords Go.Proofs.YtfopcnabcmdclaaW.PrintLast Go.Proofs.YtfopcnabcmdclaaW.PrintMore Go.Proofs.Ytfopcnabcmdclaa.Str Go.Proofs.Ytfopcnabcmdclaa.Bits Go.Proofs.Ytfopcnabcmdclaa.Mp Go.Proofs.Ytfopcnabcmdclaa.Ra
set_option linter.unusedVariables false
/-- Two buses apart from one another and from the blocks of F. -/
def Two (F : Nat → Prop) (w : World) (pa ma ca : Nat) (qa : Bool → Int → List ByteArray) (pb mb cb : Nat) (qb : Bool → Int → List ByteArray) (n : Nat) : Prop :=
  ∃ Tb c' f, BusAt Tb w pb mb c' n qb f ∧ c' ≤ cb ∧ (∀ k, F k → ¬ Tb k ∧ k < w.heap.size) ∧ Has (fun k => F k ∨ Tb k) w pa ma ca n qa
section
variable {F : Nat → Prop} {w : World} {pa ma ca pb mb cb n : Nat} {qa qb : Bool → Int → List ByteArray}
theorem Two.symm (h : Two F w pa ma ca qa pb mb cb qb n) : Two F w pb mb cb qb pa ma ca qa n := by
  obtain ⟨Tb, c', f, hb, hc, hF, Ta, ca', fa, ha, hca, hFa⟩ := h
  refine ⟨Ta, ca', fa, ha, hca, fun k hk => hFa k (Or.inl hk), Tb, c', f, hb, hc, fun k hk => ?_⟩
  rcases hk with hk | hk
  · exact hF k hk
  · exact ⟨fun ht => (hFa k (Or.inr ht)).1 hk, ha.lt k hk⟩
/-- A call on the first one. -/
theorem Two.first (h : Two F w pa ma ca qa pb mb cb qb n) : ∃ F' : Nat → Prop, (∀ k, F k → F' k) ∧ Has F' w pa ma ca n qa ∧
    ∀ w' ca' qa', Has F' w' pa ma ca' n qa' → Kb (fun k => ¬ F' k) w w' → Two F w' pa ma ca' qa' pb mb cb qb n ∧ Kb (fun k => ¬ F k) w w' := by
  obtain ⟨Tb, c', f, hb, hc, hF, ha⟩ := h
  refine ⟨fun k => F k ∨ Tb k, fun k hk => Or.inl hk, ha, fun w' ca' qa' h1 k1 => ⟨⟨Tb, c', f, hb.far k1 (fun k ht hn => hn (Or.inr ht)), hc, fun k hk => ⟨(hF k hk).1, Nat.lt_of_lt_of_le (hF k hk).2 k1.size⟩, h1⟩, k1.mono (fun k hn hk => hn (Or.inl hk))⟩⟩
theorem Two.below {w' : World} (h : Two F w pa ma ca qa pb mb cb qb n) (hb : Below w.heap.size w w') : Two F w' pa ma ca qa pb mb cb qb n := by
  obtain ⟨Tb, c', f, h1, hc, hF, ha⟩ := h
  exact ⟨Tb, c', f, h1.below hb, hc, fun k hk => ⟨(hF k hk).1, Nat.lt_of_lt_of_le (hF k hk).2 hb.size⟩, ha.below hb⟩
theorem Two.le {ca' cb' : Nat} (h : Two F w pa ma ca qa pb mb cb qb n) (h1 : ca ≤ ca') (h2 : cb ≤ cb') : Two F w pa ma ca' qa pb mb cb' qb n := by
  obtain ⟨Tb, c', f, hb, hc, hF, ha⟩ := h
  exact ⟨Tb, c', f, hb, by omega, hF, ha.le h1⟩
theorem Two.more {F' : Nat → Prop} {w' : World} (h : Two F w pa ma ca qa pb mb cb qb n) (hb : Below w.heap.size w w') (hF' : ∀ k, F' k → F k ∨ (w.heap.size ≤ k ∧ k < w'.heap.size)) : Two F' w' pa ma ca qa pb mb cb qb n := by
  obtain ⟨Tb, c', f, h1, hc, hF, ha⟩ := h
  refine ⟨Tb, c', f, h1.below hb, hc, fun k hk => ?_, ha.more hb (fun k hk => ?_)⟩
  · rcases hF' k hk with h | h
    · exact ⟨(hF k h).1, Nat.lt_of_lt_of_le (hF k h).2 hb.size⟩
    · exact ⟨fun ht => by have := h1.lt k ht; omega, h.2⟩
  · rcases hk with hk | hk
    · rcases hF' k hk with h | h
      · exact Or.inl (Or.inl h)
      · exact Or.inr h
    · exact Or.inl (Or.inr hk)
/-- Fewer blocks that are apart. -/
theorem Two.less {F' : Nat → Prop} (h : Two F w pa ma ca qa pb mb cb qb n) (hF' : ∀ k, F' k → F k) : Two F' w pa ma ca qa pb mb cb qb n :=
  h.more (Below.refl _ w) (fun k hk => Or.inl (hF' k hk))
theorem Two.kept {w' : World} (h : Two F w pa ma ca qa pb mb cb qb n) (hk : Kb F w w') : Two F w' pa ma ca qa pb mb cb qb n := by
  obtain ⟨Tb, c', f, h1, hc, hF, ha⟩ := h
  exact ⟨Tb, c', f, h1.far hk (fun k ht hf => (hF k hf).1 ht), hc, fun k hf => ⟨(hF k hf).1, Nat.lt_of_lt_of_le (hF k hf).2 hk.size⟩, ha.kept (hk.mono (fun k hk => Or.inl hk))⟩
/-- Two buses that are made one behind the other. -/
theorem Two.made {w0 w1 w2 : World} (ha : Has (fun k => k < w0.heap.size) w1 pa ma ca n qa) (b1 : Below w0.heap.size w0 w1) (hb : Has (fun k => k < w1.heap.size) w2 pb mb cb n qb) (b2 : Below w1.heap.size w1 w2) : Two (fun k => k < w0.heap.size) w2 pa ma ca qa pb mb cb qb n := by
  obtain ⟨Tb, c', f, h1, hc, hF⟩ := hb
  refine ⟨Tb, c', f, h1, hc, fun k hk => hF k (Nat.lt_of_lt_of_le hk b1.size), ?_⟩
  refine ha.more b2 (fun k hk => ?_)
  rcases hk with hk | hk
  · exact Or.inl hk
  · right
    have hl := h1.lt k hk
    by_cases hlt : k < w1.heap.size
    · exact absurd hk (hF k hlt).1
    · exact ⟨by omega, hl⟩
end
theorem Has.short {F : Nat → Prop} {w : World} {p mb c n : Nat} {q : Bool → Int → List ByteArray} (h : Has F w p mb c n q) (d : Bool) (i : Int) : (q d i).length ≤ 256 := by
  obtain ⟨T, c', f, hb, _⟩ := h
  exact hb.short d i
/-- What an act does to a bus of n: x of seven, its number. -/
def opQ (q : Bool → Int → List ByteArray) (n : Nat) (x : Int) (i : Int) (wy : Bool) (s : ByteArray) (m : List Int) : Bool → Int → List ByteArray :=
  if x = 1 then upQ q n i s else if x = 2 then updQ q wy i (q wy i).tail else if x = 3 then spoilQ q wy i m else if x = 4 then clrQ q i 2 else downQ q s n
/-- Two buses hold the same for a terminal. -/
def Same (qa qb : Bool → Int → List ByteArray) (t : Int) : Prop := ∀ d, qa d t = qb d t
theorem upd_same_both {qa qb : Bool → Int → List ByteArray} {t : Int} (h : Same qa qb t) (d : Bool) (i : Int) {la lb : List ByteArray} (hl : i = t → la = lb) : Same (updQ qa d i la) (updQ qb d i lb) t := by
  intro d'
  unfold updQ
  by_cases e : d' = d ∧ t = i
  · rw [if_pos e, if_pos e, hl e.2.symm]
  · rw [if_neg e, if_neg e, h d']
theorem upd_far {q : Bool → Int → List ByteArray} {t i : Int} (h : i ≠ t) (d : Bool) (l : List ByteArray) : Same (updQ q d i l) q t := fun d' => by
  unfold updQ
  rw [if_neg (fun e => h e.2.symm)]
theorem add_same_both {qa qb : Bool → Int → List ByteArray} {t : Int} (h : Same qa qb t) (d : Bool) (i : Int) (s : ByteArray) : Same (addQ qa d i s) (addQ qb d i s) t := by
  by_cases e : i = t
  · subst e
    unfold addQ
    rw [h d]
    split
    · exact upd_same_both h d i (fun _ => rfl)
    · exact h
  · have h1 : ∀ q : Bool → Int → List ByteArray, Same (addQ q d i s) q t := fun q => by
      unfold addQ
      split
      · exact upd_far e d _
      · exact fun _ => rfl
    exact fun d' => (h1 qa d').trans ((h d').trans (h1 qb d').symm)
theorem add_far {q : Bool → Int → List ByteArray} {t i : Int} (h : i ≠ t) (d : Bool) (s : ByteArray) : Same (addQ q d i s) q t := by
  unfold addQ
  split
  · exact upd_far h d _
  · exact fun _ => rfl
theorem down_same_both {qa qb : Bool → Int → List ByteArray} {t : Int} (h : Same qa qb t) (s : ByteArray) (k : Nat) : Same (downQ qa s k) (downQ qb s k) t := by
  induction k with
  | zero => exact h
  | succ k ih => exact add_same_both ih true k s
theorem spoil_same_both {qa qb : Bool → Int → List ByteArray} {t : Int} (h : Same qa qb t) (d : Bool) (i : Int) (m : List Int) : Same (spoilQ qa d i m) (spoilQ qb d i m) t := by
  by_cases e : i = t
  · subst e
    unfold spoilQ
    rw [h d]
    split
    · exact h
    · exact upd_same_both h d i (fun _ => rfl)
  · have h1 : ∀ q : Bool → Int → List ByteArray, Same (spoilQ q d i m) q t := fun q => by
      unfold spoilQ
      split
      · exact fun _ => rfl
      · exact upd_far e d _
    exact fun d' => (h1 qa d').trans ((h d').trans (h1 qb d').symm)
theorem spoil_far {q : Bool → Int → List ByteArray} {t i : Int} (h : i ≠ t) (d : Bool) (m : List Int) : Same (spoilQ q d i m) q t := by
  unfold spoilQ
  split
  · exact fun _ => rfl
  · exact upd_far h d _
/-- An act that both get. -/
theorem op_both {qa qb : Bool → Int → List ByteArray} {t : Int} (h : Same qa qb t) (n : Nat) (x i : Int) (wy : Bool) (s : ByteArray) (m : List Int) : Same (opQ qa n x i wy s m) (opQ qb n x i wy s m) t := by
  unfold opQ
  split
  · unfold upQ
    split
    · exact add_same_both h false i s
    · exact h
  · split
    · exact upd_same_both h wy i (fun e => by subst e; rw [h wy])
    · split
      · exact spoil_same_both h wy i m
      · split
        · show Same (updQ (updQ qa true i []) false i []) (updQ (updQ qb true i []) false i []) t
          exact upd_same_both (upd_same_both h true i (fun _ => rfl)) false i (fun _ => rfl)
        · exact down_same_both h s n
/-- An act for another terminal, that the first one alone gets. -/
theorem op_far {q : Bool → Int → List ByteArray} {t : Int} (n : Nat) (x i : Int) (wy : Bool) (s : ByteArray) (m : List Int) (hx : x = 1 ∨ x = 2 ∨ x = 3 ∨ x = 4) (hi : i ≠ t) : Same (opQ q n x i wy s m) q t := by
  rcases hx with rfl | rfl | rfl | rfl
  · show Same (upQ q n i s) q t
    unfold upQ
    split
    · exact add_far hi false s
    · exact fun _ => rfl
  · show Same (updQ q wy i _) q t
    exact upd_far hi wy _
  · show Same (spoilQ q wy i m) q t
    exact spoil_far hi wy m
  · show Same (updQ (updQ q true i []) false i []) q t
    exact fun d => (upd_far hi false [] d).trans (upd_far hi true [] d)
theorem Same.trans {a b c : Bool → Int → List ByteArray} {t : Int} (h : Same a b t) (k : Same b c t) : Same a c t := fun d => (h d).trans (k d)
/-- The numbers of a slice, as a list. -/
theorem ints_list {w : World} {A : Option Addr} {n c : Nat} (h : Ac.Ints w A n c) (k : Nat) (hk : k ≤ n) : ∃ m : List Int, m.length = k ∧ ∀ w', Below w.heap.size w w' → (Kd.int .i64).C w' A k m := by
  obtain ⟨h1, h2, h3⟩ := h
  by_cases h0 : 0 < k
  · obtain ⟨x, rfl, hx⟩ := h3 (by omega)
    obtain ⟨f, hf⟩ := Go.Deep.choose_lt (n := k) (fun j hj => hx j (by omega))
    refine ⟨(List.range k).map f, by simp, fun w' hb => ⟨by simp, by omega, fun _ => ⟨x, rfl, fun j p hj => ?_⟩⟩⟩
    obtain ⟨hjk, e⟩ := List.getElem?_eq_some_iff.1 hj
    simp at hjk e
    subst e
    refine ⟨[.int .i64 (f j)], rfl, rfl, fun i u hu => ?_⟩
    obtain ⟨_, hc⟩ := hf j hjk
    match i, hu with
    | 0, hu =>
      simp at hu
      subst hu
      have := (hb.cell (World.block_lt_of_cell? w _ hc)).trans hc
      change w'.cell? ((x.add (j * 1)).add 0) = _
      rw [Nat.mul_one]
      exact this
  · obtain rfl : k = 0 := by omega
    exact ⟨[], rfl, fun w' hb => ⟨rfl, by decide, fun h => absurd h (by decide)⟩⟩
end Go.Proofs.Ytfopcnabcmdclaa.Bs
