/- The document's decoder against the program's, in plain lists: the same is met. -/
import Derived.Test.YtolodlnndojaiaaDoorHdlcRefC
namespace Go.Proofs.YtolodlnndojaiaaDoor.Hd
open Go.RowKit Go.Proofs.YtolodlnndojaiaaDoor.Str Go.Proofs.YtolodlnndojaiaaDoor.Bits Go.Proofs.YtolodlnndojaiaaDoor.Oct
structure RSt where
  since : List UInt8
  within : Bool
  ones : Nat
def RSt.new : RSt := ⟨[], false, 0⟩
def stepR (s : RSt) (x : UInt8) : RSt × Option Ev :=
  if x = 49 then
    (if s.ones + 1 = 7 ∧ s.within = true then (⟨[], false, s.ones + 1⟩, some (1, [])) else (⟨if s.within = true then s.since ++ [x] else s.since, s.within, s.ones + 1⟩, none))
  else if s.ones = 6 then (⟨[], true, 0⟩, if s.within = true then endedS (s.since ++ [x]) else none)
  else (⟨if s.within = true then s.since ++ [x] else s.since, s.within, 0⟩, none)
def feedR1 (q : RSt × List Ev) (x : UInt8) : RSt × List Ev := if isDig x = true then ((stepR q.1 x).1, q.2 ++ (stepR q.1 x).2.toList) else q
def feedR (s : RSt) (l : List UInt8) : RSt × List Ev := l.foldl feedR1 (s, [])
theorem feedR_take (s : RSt) (l : List UInt8) (i : Nat) (h : i < l.length) : feedR s (l.take (i + 1)) = feedR1 (feedR s (l.take i)) l[i] := by
  unfold feedR
  rw [List.take_succ_eq_append_getElem h, List.foldl_append]; rfl
def Rel (s : St) (r : RSt) : Prop := s.within = r.within ∧ s.ones = r.ones ∧ (r.within = true → s.c = (ds r.since).1.take 2135 ∧ (ds r.since).2 = r.ones) ∧ (r.within = false → r.since = [] ∧ s.c = [])
theorem flagS_ended (a : List UInt8) : flagS (a.take 2135) true = if a.take (a.length - 6) = [] then none else if (a.take (a.length - 6)).length > 2128 ∨ (a.take (a.length - 6)).length % 8 ≠ 0 then some (2, []) else some (0, (octR (a.take (a.length - 6))).1) := by
  have hl : (a.take (a.length - 6)).length = a.length - 6 := by rw [List.length_take]; omega
  have hl2 : (a.take 2135).length = min 2135 a.length := List.length_take
  have hne : ¬ a.length ≤ 6 → a.take (a.length - 6) ≠ [] := fun h e => by rw [e] at hl; simp at hl; omega
  unfold flagS
  rw [hl, hl2]
  by_cases h : a.length ≤ 6
  · have e1 : (True = True ∧ (true = false ∨ min 2135 a.length ≤ 6)) := ⟨rfl, Or.inr (by omega)⟩
    rw [if_pos e1.2, if_pos (List.eq_nil_of_length_eq_zero (by rw [hl]; omega))]
  · have e1 : ¬ (true = false ∨ min 2135 a.length ≤ 6) := by simp; omega
    have e2 := hne h
    rw [if_neg e1, if_neg e2]
    by_cases hs : a.length ≤ 2135
    · have e : min 2135 a.length = a.length := by omega
      rw [e, List.take_of_length_le hs]
    · have e3 : min 2135 a.length - 6 > 2128 ∨ (min 2135 a.length - 6) % 8 ≠ 0 := Or.inl (by omega)
      have e4 : a.length - 6 > 2128 ∨ (a.length - 6) % 8 ≠ 0 := Or.inl (by omega)
      rw [if_pos e3, if_pos e4]
theorem S48_ge (c : List UInt8) (b : Bool) (on : Nat) (h : on ≥ 5) (h6 : on ≠ 6) : stepS ⟨c, b, on⟩ 48 = (⟨c, b, 0⟩, none) := by
  unfold stepS
  rw [if_neg (by decide), if_pos h, if_neg h6]
theorem S48_lt (c : List UInt8) (b : Bool) (on : Nat) (h : ¬ on ≥ 5) : stepS ⟨c, b, on⟩ 48 = (push ⟨c, b, 0⟩ 48, none) := by
  unfold stepS
  rw [if_neg (by decide), if_neg h]
theorem S49_7 (c : List UInt8) (on : Nat) (h : on + 1 = 7) : stepS ⟨c, true, on⟩ 49 = (⟨[], false, on + 1⟩, some (1, [])) := by
  unfold stepS
  rw [if_pos rfl, if_pos ⟨h, rfl⟩]
theorem S49 (c : List UInt8) (b : Bool) (on : Nat) (h : ¬ (on + 1 = 7 ∧ b = true)) : stepS ⟨c, b, on⟩ 49 = (push ⟨c, b, on + 1⟩ 49, none) := by
  unfold stepS
  rw [if_pos rfl, if_neg h]
theorem R48_6 (c : List UInt8) (b : Bool) : stepR ⟨c, b, 6⟩ 48 = (⟨[], true, 0⟩, if b = true then endedS (c ++ [48]) else none) := by
  unfold stepR
  rw [if_neg (by decide), if_pos rfl]
theorem R48 (c : List UInt8) (b : Bool) (on : Nat) (h : on ≠ 6) : stepR ⟨c, b, on⟩ 48 = (⟨if b = true then c ++ [48] else c, b, 0⟩, none) := by
  unfold stepR
  rw [if_neg (by decide), if_neg h]
theorem R49_7 (c : List UInt8) (on : Nat) (h : on + 1 = 7) : stepR ⟨c, true, on⟩ 49 = (⟨[], false, on + 1⟩, some (1, [])) := by
  unfold stepR
  rw [if_pos rfl, if_pos ⟨h, rfl⟩]
theorem R49 (c : List UInt8) (b : Bool) (on : Nat) (h : ¬ (on + 1 = 7 ∧ b = true)) : stepR ⟨c, b, on⟩ 49 = (⟨if b = true then c ++ [49] else c, b, on + 1⟩, none) := by
  unfold stepR
  rw [if_pos rfl, if_neg h]
theorem rel_step (s : St) (r : RSt) (x : UInt8) (h : Rel s r) (hx : x = 48 ∨ x = 49) : Rel (stepS s x).1 (stepR r x).1 ∧ (stepS s x).2 = (stepR r x).2 := by
  obtain ⟨c, wi, on⟩ := s
  obtain ⟨si, wi', on'⟩ := r
  obtain ⟨h1, h2, h3, h4⟩ := h
  dsimp only at h1 h2 h3 h4
  subst h1
  subst h2
  cases wi with
  | false =>
    obtain ⟨rfl, rfl⟩ := h4 rfl
    have hpu : ∀ m y, push ⟨[], false, m⟩ y = ⟨[], false, m⟩ := fun m y => by unfold push; rw [if_neg (by simp)]
    rcases hx with rfl | rfl
    · by_cases h6 : on = 6
      · subst h6
        rw [step_flag, R48_6]
        exact ⟨⟨rfl, rfl, fun _ => ⟨rfl, rfl⟩, fun h => by cases h⟩, rfl⟩
      · rw [R48 _ _ _ h6]
        by_cases h5 : on ≥ 5
        · rw [S48_ge _ _ _ h5 h6]
          exact ⟨⟨rfl, rfl, (fun h => by cases h), fun _ => ⟨rfl, rfl⟩⟩, rfl⟩
        · rw [S48_lt _ _ _ h5, hpu]
          exact ⟨⟨rfl, rfl, (fun h => by cases h), fun _ => ⟨rfl, rfl⟩⟩, rfl⟩
    · rw [S49 _ _ _ (by simp), R49 _ _ _ (by simp), hpu]
      exact ⟨⟨rfl, rfl, (fun h => by cases h), fun _ => ⟨rfl, rfl⟩⟩, rfl⟩
  | true =>
    obtain ⟨hc, ho⟩ := h3 rfl
    subst hc
    obtain ⟨q, hq⟩ : ∃ q, ds si = q := ⟨_, rfl⟩
    rw [hq] at ho ⊢
    obtain ⟨a, m⟩ := q
    dsimp only at ho ⊢
    subst ho
    rcases hx with rfl | rfl
    · have hd : ds (si ++ [48]) = if m < 5 then (a ++ [48], 0) else (a, 0) := by rw [ds_snoc, hq]; unfold dsS; rw [if_neg (by decide)]
      by_cases h6 : m = 6
      · subst h6
        rw [step_flag, R48_6, if_pos rfl]
        refine ⟨⟨rfl, rfl, fun _ => ⟨rfl, rfl⟩, fun h => by cases h⟩, ?_⟩
        dsimp only
        rw [flagS_ended]
        rw [if_neg (by decide : ¬ (6 : Nat) < 5)] at hd
        unfold endedS contentL
        rw [hd]
      · rw [R48 _ _ _ h6, if_pos rfl]
        by_cases h5 : m ≥ 5
        · rw [S48_ge _ _ _ h5 h6]
          refine ⟨⟨rfl, rfl, fun _ => ?_, fun h => by cases h⟩, rfl⟩
          dsimp only
          rw [hd, if_neg (by omega)]
          exact ⟨rfl, rfl⟩
        · rw [S48_lt _ _ _ h5, push_take _ _ _ (by omega)]
          refine ⟨⟨rfl, rfl, fun _ => ?_, fun h => by cases h⟩, rfl⟩
          dsimp only
          rw [hd, if_pos (by omega)]
          exact ⟨rfl, rfl⟩
    · have hd : ds (si ++ [49]) = if m + 1 ≤ 5 then (a ++ [49], m + 1) else (a, m + 1) := by rw [ds_snoc, hq]; unfold dsS; rw [if_pos rfl]
      by_cases h7 : m + 1 = 7
      · rw [S49_7 _ _ h7, R49_7 _ _ h7]
        exact ⟨⟨rfl, rfl, (fun h => by cases h), fun _ => ⟨rfl, rfl⟩⟩, rfl⟩
      · rw [S49 _ _ _ (fun h => h7 h.1), R49 _ _ _ (fun h => h7 h.1), if_pos rfl]
        by_cases h5 : m + 1 ≤ 5
        · rw [push_take _ _ _ h5]
          refine ⟨⟨rfl, rfl, fun _ => ?_, fun h => by cases h⟩, rfl⟩
          dsimp only
          rw [hd, if_pos h5]
          exact ⟨rfl, rfl⟩
        · have hpu : push ⟨a.take 2135, true, m + 1⟩ 49 = ⟨a.take 2135, true, m + 1⟩ := by
            unfold push
            rw [if_neg (fun h => h5 h.2.1)]
          rw [hpu]
          refine ⟨⟨rfl, rfl, fun _ => ?_, fun h => by cases h⟩, rfl⟩
          dsimp only
          rw [hd, if_neg h5]
          exact ⟨rfl, rfl⟩
theorem rel_new : Rel St.new RSt.new := ⟨rfl, rfl, (fun h => by cases h), fun _ => ⟨rfl, rfl⟩⟩
theorem rel_feed (s : St) (r : RSt) (l : List UInt8) (h : Rel s r) : Rel (feedL s l).1 (feedR r l).1 ∧ (feedL s l).2 = (feedR r l).2 := by
  have : ∀ i, i ≤ l.length → Rel (feedL s (l.take i)).1 (feedR r (l.take i)).1 ∧ (feedL s (l.take i)).2 = (feedR r (l.take i)).2 := by
    intro i
    induction i with
    | zero => intro _; exact ⟨h, rfl⟩
    | succ i ih =>
      intro hi
      obtain ⟨h1, h2⟩ := ih (by omega)
      rw [feedL_take s l i (by omega), feedR_take r l i (by omega)]
      unfold feed1 feedR1
      by_cases hd : isDig l[i] = true
      · rw [if_pos hd, if_pos hd]
        obtain ⟨k1, k2⟩ := rel_step _ _ l[i] h1 (by unfold isDig at hd; simpa using hd)
        exact ⟨k1, by dsimp only; rw [h2, k2]⟩
      · rw [if_neg hd, if_neg hd]
        exact ⟨h1, h2⟩
  have := this l.length (Nat.le_refl _)
  rwa [List.take_of_length_le (Nat.le_refl _)] at this
theorem stepR_bound (r : RSt) (x : UInt8) : (stepR r x).1.since.length ≤ r.since.length + 1 ∧ (stepR r x).1.ones ≤ r.ones + 1 := by
  unfold stepR
  split
  · split
    · simp
    · dsimp only; split <;> simp
  · split
    · simp
    · dsimp only; split <;> simp
theorem feedR_bound (r : RSt) (l : List UInt8) (i : Nat) (h : i ≤ l.length) : (feedR r (l.take i)).1.since.length ≤ r.since.length + i ∧ (feedR r (l.take i)).1.ones ≤ r.ones + i ∧ (feedR r (l.take i)).2.length ≤ i := by
  induction i with
  | zero => exact ⟨Nat.le_refl _, Nat.le_refl _, Nat.zero_le _⟩
  | succ i ih =>
    obtain ⟨h1, h2, h3⟩ := ih (by omega)
    rw [feedR_take r l i (by omega)]
    unfold feedR1
    split
    · have hb := stepR_bound (feedR r (l.take i)).1 l[i]
      dsimp only
      refine ⟨by omega, by omega, ?_⟩
      rw [List.length_append]
      have : ((stepR (feedR r (l.take i)).1 l[i]).2.toList).length ≤ 1 := by cases (stepR (feedR r (l.take i)).1 l[i]).2 <;> simp
      omega
    · exact ⟨by omega, by omega, by omega⟩
end Go.Proofs.YtolodlnndojaiaaDoor.Hd
