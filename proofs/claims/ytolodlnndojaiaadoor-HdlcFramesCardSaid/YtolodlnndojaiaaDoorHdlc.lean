/- Frames between flags, in plain lists of octets: stuffing, and a decoder's state. No program in sight, no condition. -/
import Derived.Test.YtolodlnndojaiaaDoorOct
namespace Go.Proofs.YtolodlnndojaiaaDoor.Hd
open Go.RowKit Go.Proofs.YtolodlnndojaiaaDoor.Str Go.Proofs.YtolodlnndojaiaaDoor.Bits Go.Proofs.YtolodlnndojaiaaDoor.Oct
set_option linter.unusedVariables false

/-! ### stuffing -/
def stS (q : List UInt8 × Nat) (x : UInt8) : List UInt8 × Nat :=
  if x = 49 then (if q.2 + 1 = 5 then (q.1 ++ [49, 48], 0) else (q.1 ++ [49], q.2 + 1)) else (q.1 ++ [48], 0)
def stF (l : List UInt8) : List UInt8 × Nat := l.foldl stS ([], 0)
def stuffL (l : List UInt8) : List UInt8 := (stF l).1
theorem stF_take (l : List UInt8) (i : Nat) (h : i < l.length) : stF (l.take (i + 1)) = stS (stF (l.take i)) l[i] := by
  unfold stF
  rw [List.take_succ_eq_append_getElem h, List.foldl_append]; rfl
theorem stS_bound (q : List UInt8 × Nat) (x : UInt8) (h : q.2 ≤ 4) : (stS q x).2 ≤ 4 ∧ (stS q x).1.length ≤ q.1.length + 2 := by
  unfold stS
  split
  · split
    · simp
    · simp; omega
  · simp
theorem stF_bound (l : List UInt8) (i : Nat) (h : i ≤ l.length) : (stF (l.take i)).2 ≤ 4 ∧ (stF (l.take i)).1.length ≤ 2 * i := by
  induction i with
  | zero => simp [stF]
  | succ i ih =>
    obtain ⟨h1, h2⟩ := ih (by omega)
    rw [stF_take l i (by omega)]
    have := stS_bound (stF (l.take i)) l[i] h1
    omega
/-- What is put, from n ones on. -/
def stuffR : Nat → List UInt8 → List UInt8
  | _, [] => []
  | n, x :: l => if x = 49 then (if n + 1 = 5 then 49 :: 48 :: stuffR 0 l else 49 :: stuffR (n + 1) l) else 48 :: stuffR 0 l
theorem stF_R (l : List UInt8) (a : List UInt8) (n : Nat) : (l.foldl stS (a, n)).1 = a ++ stuffR n l := by
  induction l generalizing a n with
  | nil => simp [stuffR]
  | cons x l ih =>
    rw [List.foldl_cons]
    unfold stuffR
    by_cases h : x = 49
    · by_cases h5 : n + 1 = 5
      · have e : stS (a, n) x = (a ++ [49, 48], 0) := by unfold stS; rw [if_pos h, if_pos h5]
        rw [e, ih, if_pos h, if_pos h5]; simp
      · have e : stS (a, n) x = (a ++ [49], n + 1) := by unfold stS; rw [if_pos h, if_neg h5]
        rw [e, ih, if_pos h, if_neg h5]; simp
    · have e : stS (a, n) x = (a ++ [48], 0) := by unfold stS; rw [if_neg h]
      rw [e, ih, if_neg h]; simp
theorem stuffL_R (l : List UInt8) : stuffL l = stuffR 0 l := by
  unfold stuffL stF
  rw [stF_R]; rfl
theorem stuffL_length (l : List UInt8) : (stuffL l).length ≤ 2 * l.length := by
  have := (stF_bound l l.length (Nat.le_refl _)).2
  rwa [List.take_of_length_le (Nat.le_refl _)] at this
def flagL : List UInt8 := [48, 49, 49, 49, 49, 49, 49, 48]
def encL (l : List UInt8) : List UInt8 := flagL ++ stuffL (ofL l) ++ flagL
theorem encL_length (l : List UInt8) : (encL l).length ≤ 16 * l.length + 16 := by
  have := stuffL_length (ofL l)
  rw [ofL_length] at this
  unfold encL
  rw [List.length_append, List.length_append]
  show 8 + _ + 8 ≤ _
  omega
/-- No more than five ones in a row, n of them ahead. -/
def calm : Nat → List UInt8 → Prop
  | _, [] => True
  | n, x :: l => if x = 49 then n + 1 ≤ 5 ∧ calm (n + 1) l else calm 0 l
theorem calm_stuffR (l : List UInt8) (n : Nat) (h : n ≤ 4) : calm n (stuffR n l) := by
  induction l generalizing n with
  | nil => trivial
  | cons x l ih =>
    unfold stuffR
    split
    · split
      · exact ⟨by omega, ih 0 (by omega)⟩
      · exact ⟨by omega, ih (n + 1) (by omega)⟩
    · exact ih 0 (by omega)
theorem calm_left (a b : List UInt8) (n : Nat) (h : calm n (a ++ b)) : calm n a := by
  induction a generalizing n with
  | nil => trivial
  | cons x a ih =>
    unfold calm
    simp only [List.cons_append] at h
    unfold calm at h
    split
    · rename_i hx
      rw [if_pos hx] at h
      exact ⟨h.1, ih _ h.2⟩
    · rename_i hx
      rw [if_neg hx] at h
      exact ih _ h
/-! ### the decoder -/
structure St where
  c : List UInt8
  within : Bool
  ones : Nat
def St.new : St := ⟨[], false, 0⟩
/-- What is met: its kind, its octets. -/
abbrev Ev := Int × List UInt8
def flagS (c : List UInt8) (was : Bool) : Option Ev :=
  if was = false ∨ c.length ≤ 6 then none else if c.length - 6 > 2128 ∨ (c.length - 6) % 8 ≠ 0 then some (2, []) else some (0, (octR (c.take (c.length - 6))).1)
def push (s : St) (x : UInt8) : St := if s.within = true ∧ s.ones ≤ 5 ∧ s.c.length ≤ 2134 then ⟨s.c ++ [x], s.within, s.ones⟩ else s
def stepS (s : St) (x : UInt8) : St × Option Ev :=
  if x = 49 then
    (if s.ones + 1 = 7 ∧ s.within = true then (⟨[], false, s.ones + 1⟩, some (1, [])) else (push ⟨s.c, s.within, s.ones + 1⟩ x, none))
  else if s.ones ≥ 5 then
    (if s.ones = 6 then (⟨[], true, 0⟩, flagS s.c s.within) else (⟨s.c, s.within, 0⟩, none))
  else (push ⟨s.c, s.within, 0⟩ x, none)
def isDig (x : UInt8) : Bool := x == 48 || x == 49
def feed1 (q : St × List Ev) (x : UInt8) : St × List Ev := if isDig x = true then ((stepS q.1 x).1, q.2 ++ (stepS q.1 x).2.toList) else q
def feedL (s : St) (l : List UInt8) : St × List Ev := l.foldl feed1 (s, [])
theorem feed_acc (l : List UInt8) (s : St) (e : List Ev) : l.foldl feed1 (s, e) = ((feedL s l).1, e ++ (feedL s l).2) := by
  unfold feedL
  induction l generalizing s e with
  | nil => simp
  | cons x l ih =>
    rw [List.foldl_cons, List.foldl_cons, ih (feed1 (s, e) x).1 (feed1 (s, e) x).2, ih (feed1 (s, []) x).1 (feed1 (s, []) x).2]
    unfold feed1
    split <;> simp
theorem feedL_nil (s : St) : feedL s [] = (s, []) := rfl
theorem feedL_append (s : St) (a b : List UInt8) : feedL s (a ++ b) = ((feedL (feedL s a).1 b).1, (feedL s a).2 ++ (feedL (feedL s a).1 b).2) := by
  show (a ++ b).foldl feed1 (s, []) = _
  rw [List.foldl_append]
  have e : a.foldl feed1 (s, []) = ((feedL s a).1, (feedL s a).2) := rfl
  rw [e, feed_acc]
theorem feedL_cons (s : St) (x : UInt8) (l : List UInt8) (h : isDig x = true) : feedL s (x :: l) = ((feedL (stepS s x).1 l).1, (stepS s x).2.toList ++ (feedL (stepS s x).1 l).2) := by
  have := feedL_append s [x] l
  rw [List.singleton_append] at this
  rw [this]
  have e : feedL s [x] = ((stepS s x).1, (stepS s x).2.toList) := by
    show feed1 (s, []) x = _
    unfold feed1
    rw [if_pos h]; rfl
  rw [e]
theorem feedL_take (s : St) (l : List UInt8) (i : Nat) (h : i < l.length) : feedL s (l.take (i + 1)) = feed1 (feedL s (l.take i)) l[i] := by
  unfold feedL
  rw [List.take_succ_eq_append_getElem h, List.foldl_append]; rfl
theorem feedL_len (s : St) (l : List UInt8) (i : Nat) (h : i ≤ l.length) : (feedL s (l.take i)).2.length ≤ i := by
  induction i with
  | zero => simp [feedL]
  | succ i ih =>
    rw [feedL_take s l i (by omega)]
    unfold feed1
    have := ih (by omega)
    split
    · simp only [List.length_append]
      have : ((stepS (feedL s (List.take i l)).1 l[i]).2.toList).length ≤ 1 := by cases (stepS (feedL s (List.take i l)).1 l[i]).2 <;> simp
      omega
    · omega
/-- What the state never passes. -/
def St.ok (s : St) : Prop := s.c.length ≤ 2135
theorem push_ok (s : St) (x : UInt8) (h : s.ok) : (push s x).ok := by
  unfold push St.ok at *
  split
  · rename_i h2
    simp; omega
  · exact h
theorem stepS_ok (s : St) (x : UInt8) (h : s.ok) : (stepS s x).1.ok ∧ (stepS s x).1.ones ≤ s.ones + 1 := by
  have hp : ∀ s x, (push s x).ones = s.ones := fun s x => by unfold push; split <;> rfl
  unfold stepS
  split
  · split
    · exact ⟨Nat.zero_le _, Nat.le_refl _⟩
    · exact ⟨push_ok _ _ h, by rw [hp]; exact Nat.le_refl _⟩
  · split
    · split
      · exact ⟨Nat.zero_le _, Nat.zero_le _⟩
      · exact ⟨h, Nat.zero_le _⟩
    · exact ⟨push_ok _ _ h, by rw [hp]; exact Nat.zero_le _⟩
theorem feedL_ok (s : St) (l : List UInt8) (h : s.ok) : (feedL s l).1.ok ∧ (feedL s l).1.ones ≤ s.ones + l.length := by
  induction l generalizing s with
  | nil => exact ⟨h, Nat.le_refl _⟩
  | cons x l ih =>
    cases hd : isDig x with
    | true =>
      rw [feedL_cons s x l hd]
      have h1 := stepS_ok s x h
      have h2 := ih _ h1.1
      exact ⟨h2.1, by simp only [List.length_cons]; omega⟩
    | false =>
      have e : feedL s (x :: l) = feedL s l := by
        unfold feedL
        rw [List.foldl_cons]
        unfold feed1
        rw [if_neg (by rw [hd]; decide)]
      rw [e]
      have h2 := ih s h
      exact ⟨h2.1, by simp only [List.length_cons]; omega⟩
/-! ### stuffed bits within a frame -/
theorem push_take (c : List UInt8) (n : Nat) (x : UInt8) (h : n ≤ 5) : push ⟨c.take 2135, true, n⟩ x = ⟨(c ++ [x]).take 2135, true, n⟩ := by
  unfold push
  by_cases hl : c.length ≤ 2134
  · rw [if_pos ⟨rfl, h, by rw [List.length_take]; omega⟩]
    rw [List.take_of_length_le (by omega : c.length ≤ 2135), List.take_of_length_le (by simp; omega : (c ++ [x]).length ≤ 2135)]
  · rw [if_neg (by simp; omega)]
    rw [List.take_append_of_le_length (by omega)]
theorem step_one (c : List UInt8) (n : Nat) (h : n ≤ 4) : stepS ⟨c.take 2135, true, n⟩ 49 = (⟨(c ++ [49]).take 2135, true, n + 1⟩, none) := by
  unfold stepS
  rw [if_pos rfl, if_neg (by simp; omega)]
  show (push ⟨c.take 2135, true, n + 1⟩ 49, none) = _
  rw [push_take c (n + 1) 49 (by omega)]
theorem step_zero (c : List UInt8) (n : Nat) (h : n ≤ 4) : stepS ⟨c.take 2135, true, n⟩ 48 = (⟨(c ++ [48]).take 2135, true, 0⟩, none) := by
  unfold stepS
  rw [if_neg (by decide), if_neg (by simp; omega)]
  show (push ⟨c.take 2135, true, 0⟩ 48, none) = _
  rw [push_take c 0 48 (by omega)]
theorem step_drop (c : List UInt8) : stepS ⟨c, true, 5⟩ 48 = (⟨c, true, 0⟩, none) := by
  unfold stepS
  rw [if_neg (by decide), if_pos (by simp), if_neg (by simp)]
theorem feed_stuff (l : List UInt8) (hg : goodL l = true) (c : List UInt8) (n : Nat) (h : n ≤ 4) : ∃ m, m ≤ 4 ∧ feedL ⟨c.take 2135, true, n⟩ (stuffR n l) = (⟨(c ++ l).take 2135, true, m⟩, []) := by
  induction l generalizing c n with
  | nil => exact ⟨n, h, by simp [stuffR, feedL]⟩
  | cons x l ih =>
    have hx : x = 48 ∨ x = 49 := by unfold goodL at hg; simp at hg; exact hg.1
    have hl : goodL l = true := by unfold goodL at hg ⊢; simp at hg ⊢; exact hg.2
    unfold stuffR
    rcases hx with rfl | rfl
    · rw [if_neg (by decide), feedL_cons _ _ _ (by decide), step_zero c n h]
      obtain ⟨m, hm, e⟩ := ih hl (c ++ [48]) 0 (by omega)
      exact ⟨m, hm, by rw [e]; simp⟩
    · rw [if_pos rfl]
      by_cases h5 : n + 1 = 5
      · rw [if_pos h5, feedL_cons _ _ _ (by decide), step_one c n h, h5, feedL_cons _ _ _ (by decide), step_drop]
        obtain ⟨m, hm, e⟩ := ih hl (c ++ [49]) 0 (by omega)
        exact ⟨m, hm, by rw [e]; simp⟩
      · rw [if_neg h5, feedL_cons _ _ _ (by decide), step_one c n h]
        obtain ⟨m, hm, e⟩ := ih hl (c ++ [49]) (n + 1) (by omega)
        exact ⟨m, hm, by rw [e]; simp⟩
/-- What a flag meets behind bits. -/
def met (c : List UInt8) : Option Ev := if c = [] then none else if c.length > 2128 ∨ c.length % 8 ≠ 0 then some (2, []) else some (0, (octR c).1)
theorem flagS_met (c d : List UInt8) (h : d.length = 6) : flagS ((c ++ d).take 2135) true = met c := by
  unfold flagS met
  have hl : ((c ++ d).take 2135).length = min 2135 (c.length + 6) := by rw [List.length_take, List.length_append, h]
  rw [hl]
  cases c with
  | nil => simp
  | cons x c =>
    have hp : 0 < (x :: c).length := by simp
    generalize x :: c = c at hp
    have hne : c ≠ [] := by intro e; subst e; simp at hp
    rw [if_neg (by simp; omega), if_neg hne]
    by_cases hs : c.length ≤ 2128
    · have e : min 2135 (c.length + 6) - 6 = c.length := by omega
      rw [e]
      have e2 : ((c ++ d).take 2135).take c.length = c := by rw [List.take_take, show min c.length 2135 = c.length from by omega, List.take_left]
      rw [e2]
    · rw [if_pos (Or.inl (by omega)), if_pos (Or.inl (by omega))]
theorem step_six (c : List UInt8) : stepS ⟨c, true, 5⟩ 49 = (⟨c, true, 6⟩, none) := by
  unfold stepS
  rw [if_pos rfl, if_neg (by simp)]
  unfold push
  rw [if_neg (by simp)]
theorem step_flag (c : List UInt8) (b : Bool) : stepS ⟨c, b, 6⟩ 48 = (⟨[], true, 0⟩, flagS c b) := by
  unfold stepS
  rw [if_neg (by decide), if_pos (by simp), if_pos rfl]
theorem feed_flag (c : List UInt8) (n : Nat) (h : n ≤ 4) : feedL ⟨c.take 2135, true, n⟩ flagL = (⟨[], true, 0⟩, (met c).toList) := by
  unfold flagL
  rw [feedL_cons _ _ _ (by decide), step_zero c n h, feedL_cons _ _ _ (by decide), step_one _ 0 (by omega), feedL_cons _ _ _ (by decide), step_one _ 1 (by omega), feedL_cons _ _ _ (by decide), step_one _ 2 (by omega), feedL_cons _ _ _ (by decide), step_one _ 3 (by omega), feedL_cons _ _ _ (by decide), step_one _ 4 (by omega), feedL_cons _ _ _ (by decide), step_six, feedL_cons _ _ _ (by decide), step_flag, feedL_nil]
  have e : c ++ [48] ++ [49] ++ [49] ++ [49] ++ [49] ++ [49] = c ++ [48, 49, 49, 49, 49, 49] := by simp
  rw [e, flagS_met c _ rfl]
  simp
/-- A state behind a flag, or one to which nothing came but calm bits. -/
theorem feed_first (n : Nat) (h : n ≤ 5) : feedL ⟨[], false, n⟩ flagL = (⟨[], true, 0⟩, []) := by
  match n, h with
  | 0, _ => rfl
  | 1, _ => rfl
  | 2, _ => rfl
  | 3, _ => rfl
  | 4, _ => rfl
  | 5, _ => rfl
theorem feed_again : feedL ⟨[], true, 0⟩ flagL = (⟨[], true, 0⟩, []) := rfl
theorem feed_shared (b : Bool) : feedL ⟨[], b, 0⟩ (flagL.drop 1) = (⟨[], true, 0⟩, []) := by cases b <;> rfl
/-- A state in which a whole frame is met. -/
def ready (s : St) : Prop := s = ⟨[], true, 0⟩ ∨ ∃ n, n ≤ 5 ∧ s = ⟨[], false, n⟩
theorem feed_ready (s : St) (h : ready s) : feedL s flagL = (⟨[], true, 0⟩, []) := by
  rcases h with rfl | ⟨n, hn, rfl⟩
  · rfl
  · exact feed_first n hn
theorem feed_rest (l : List UInt8) : feedL ⟨[], true, 0⟩ (stuffL (ofL l) ++ flagL) = (⟨[], true, 0⟩, (met (ofL l)).toList) := by
  obtain ⟨m, hm, e⟩ := feed_stuff (ofL l) (good_of l) [] 0 (by omega)
  rw [feedL_append, stuffL_R]
  have e0 : (⟨[], true, 0⟩ : St) = ⟨List.take 2135 [], true, 0⟩ := rfl
  rw [e0, e]
  simp only [List.nil_append]
  rw [feed_flag _ m hm]
  rfl
theorem feed_enc (s : St) (h : ready s) (l : List UInt8) : feedL s (encL l) = (⟨[], true, 0⟩, (met (ofL l)).toList) := by
  unfold encL
  rw [List.append_assoc, feedL_append, feed_ready s h, feed_rest]
  simp
theorem met_of (l : List UInt8) : met (ofL l) = if l = [] then none else if l.length > 266 then some (2, []) else some (0, l) := by
  unfold met
  have e : (ofL l = []) ↔ l = [] := by
    constructor
    · intro h
      have := ofL_length l
      rw [h] at this
      exact List.eq_nil_of_length_eq_zero (by simp at this; omega)
    · rintro rfl; rfl
  by_cases h : l = []
  · rw [if_pos (e.2 h), if_pos h]
  · rw [if_neg (fun z => h (e.1 z)), if_neg h, octR_of, ofL_length]
    by_cases hl : l.length > 266
    · rw [if_pos (Or.inl (by omega)), if_pos hl]
    · rw [if_neg (by omega), if_neg hl]
theorem feed_one (s : St) (h : ready s) (l : List UInt8) (h0 : l ≠ []) (h1 : l.length ≤ 266) : feedL s (encL l) = (⟨[], true, 0⟩, [(0, l)]) := by
  rw [feed_enc s h, met_of, if_neg h0, if_neg (by omega)]; rfl
theorem feed_long (s : St) (h : ready s) (l : List UInt8) (h1 : 266 < l.length) : feedL s (encL l) = (⟨[], true, 0⟩, [(2, [])]) := by
  rw [feed_enc s h, met_of, if_neg (by intro e; subst e; simp at h1), if_pos h1]; rfl
theorem ready_true : ready ⟨[], true, 0⟩ := Or.inl rfl
theorem ready_new : ready St.new := Or.inr ⟨0, by omega, rfl⟩
/-- Flags, one behind the other. -/
def flags : Nat → List UInt8
  | 0 => []
  | n + 1 => flags n ++ flagL
theorem feed_flags (n : Nat) (s : St) (h : ready s) : ∃ s', ready s' ∧ feedL s (flags n) = (s', []) := by
  induction n with
  | zero => exact ⟨s, h, rfl⟩
  | succ n ih =>
    obtain ⟨s', h1, e⟩ := ih
    exact ⟨_, ready_true, by rw [flags, feedL_append, e, feed_ready s' h1]; rfl⟩
theorem flags_length (n : Nat) : (flags n).length = 8 * n := by
  induction n with
  | zero => rfl
  | succ n ih => rw [flags, List.length_append, ih]; show _ + 8 = _; omega
/-! ### calm bits, and what breaks a frame -/
theorem feed_calm (p : List UInt8) (hg : goodL p = true) (c : List UInt8) (b : Bool) (n : Nat) (hn : n ≤ 5) (h : calm n p) : ∃ c' m, m ≤ 5 ∧ feedL ⟨c, b, n⟩ p = (⟨c', b, m⟩, []) ∧ (b = false → c = [] → c' = []) := by
  induction p generalizing c n with
  | nil => exact ⟨c, n, hn, rfl, fun _ h => h⟩
  | cons x p ih =>
    have hx : x = 48 ∨ x = 49 := by unfold goodL at hg; simp at hg; exact hg.1
    have hl : goodL p = true := by unfold goodL at hg ⊢; simp at hg ⊢; exact hg.2
    have hpu : ∀ m y, ∃ c', push ⟨c, b, m⟩ y = ⟨c', b, m⟩ ∧ (b = false → c = [] → c' = []) := by
      intro m y
      unfold push
      split
      · rename_i hh
        exact ⟨_, rfl, fun hb => by simp [hb] at hh⟩
      · exact ⟨_, rfl, fun _ h => h⟩
    unfold calm at h
    rcases hx with rfl | rfl
    · rw [if_neg (by decide)] at h
      rw [feedL_cons _ _ _ (by decide)]
      have hs : ∃ c', stepS ⟨c, b, n⟩ 48 = (⟨c', b, 0⟩, none) ∧ (b = false → c = [] → c' = []) := by
        unfold stepS
        rw [if_neg (by decide)]
        by_cases h5 : n ≥ 5
        · rw [if_pos h5, if_neg (by simp; omega)]
          exact ⟨_, rfl, fun _ h => h⟩
        · rw [if_neg h5]
          obtain ⟨c', e, k⟩ := hpu 0 48
          exact ⟨c', congrArg (fun z => (z, none)) e, k⟩
      obtain ⟨c1, e1, k1⟩ := hs
      rw [e1]
      obtain ⟨c', m, hm, e, k⟩ := ih hl c1 0 (by omega) h
      exact ⟨c', m, hm, by rw [e]; simp, fun hb hc => k hb (k1 hb hc)⟩
    · rw [if_pos rfl] at h
      rw [feedL_cons _ _ _ (by decide)]
      have hs : ∃ c', stepS ⟨c, b, n⟩ 49 = (⟨c', b, n + 1⟩, none) ∧ (b = false → c = [] → c' = []) := by
        unfold stepS
        rw [if_pos rfl, if_neg (by simp; omega)]
        obtain ⟨c', e, k⟩ := hpu (n + 1) 49
        exact ⟨c', congrArg (fun z => (z, none)) e, k⟩
      obtain ⟨c1, e1, k1⟩ := hs
      rw [e1]
      obtain ⟨c', m, hm, e, k⟩ := ih hl c1 (n + 1) h.1 h.2
      exact ⟨c', m, hm, by rw [e]; simp, fun hb hc => k hb (k1 hb hc)⟩
end Go.Proofs.YtolodlnndojaiaaDoor.Hd
