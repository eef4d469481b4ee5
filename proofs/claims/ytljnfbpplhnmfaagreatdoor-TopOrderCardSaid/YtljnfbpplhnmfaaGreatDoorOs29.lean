/- What holds of both ends of a link at all times, in plain words: definitions, and how rows are read. No program in sight; no condition. What holds of payloads between two ends, step by step: what the sending side does. No program in sight; no condition. -/
import Derived.Test.YtljnfbpplhnmfaaGreatDoorOs28
namespace Go.Proofs.YtljnfbpplhnmfaaGreatDoor.Md
set_option linter.unusedVariables false
structure Cs where
  st : Int
  fl : F
  asked : Bool
  way : List Fr
  taken : List Ev
  told : List ByteArray
def core (s : Sd) : Cs := ⟨s.e.state, s.e.fl, s.e.asked, s.way, s.taken, s.told⟩
def numb (f : Fr) : Prop := f.kind ≤ 3
instance (f : Fr) : Decidable (numb f) := by unfold numb; infer_instance
def noI (l : List Fr) : Prop := ∀ f ∈ l, f.kind ≠ 0
def noN (l : List Fr) : Prop := ∀ f ∈ l, ¬ numb f
def isC (f : Fr) : Bool := decide (f.kind = 4 ∨ f.kind = 7)
def isR (f : Fr) : Bool := decide (f.kind = 5 ∨ f.kind = 8)
def isJ (f : Fr) : Bool := decide (f.kind = 3)
def nC (l : List Fr) : Nat := (l.filter isC).length
def nR (l : List Fr) : Nat := (l.filter isR).length
def nJ (l : List Fr) : Nat := (l.filter isJ).length
def after8 : List Fr → Option (List Fr)
  | [] => none
  | f :: l => if f.kind = 8 then some l else after8 l
def tailOk : List Fr → Prop
  | [] => True
  | f :: l => (isC f = true → noN l) ∧ tailOk l
structure okF (f : Fr) : Prop where
  kind : 0 ≤ f.kind ∧ f.kind ≤ 8
  pf : 4 ≤ f.kind → f.kind ≠ 6 → f.pf = true
  i : f.kind = 0 → f.pf = false
  j : f.kind = 3 → f.pf = false ∧ f.cmd = false
  c : f.kind = 1 ∨ f.kind = 2 → f.cmd = true → f.pf = true
def upC (s : Cs) : Prop := s.st = 7 ∨ s.st = 8
instance (s : Cs) : Decidable (upC s) := by unfold upC; infer_instance
def efw (s : Cs) : Option (List Fr) := if upC s then some s.way else if s.st = 5 then after8 s.way else none
def rE (s : Cs) : Int := if s.st = 5 then 0 else s.fl.vr
def refE (s : Cs) : Bool := if s.st = 5 then false else s.fl.ref
structure FG (f : F) : Prop where
  va : 0 ≤ f.va ∧ f.va < 128
  vs : 0 ≤ f.vs ∧ f.vs < 128
  vr : 0 ≤ f.vr ∧ f.vr < 128
  win : (f.vs - f.va) % 128 = f.q.sent
  len : f.q.sent ≤ f.q.list.length
  max : f.q.sent ≤ 127
structure H (a b : Cs) : Prop where
  st : 4 ≤ a.st ∧ a.st ≤ 8
  ok : ∀ f ∈ b.way, okF f
  one : nC b.way + nR a.way ≤ 1
  zero : a.st ≠ 5 → a.st ≠ 6 → nC b.way + nR a.way = 0
  sab : ∀ f ∈ b.way, f.kind = 4 → a.st = 5
  dis : ∀ f ∈ b.way, f.kind = 7 → a.st = 6
  tail : tailOk b.way
  ans : ¬ upC a → nR a.way ≠ 0 → noN b.way
  emp : a.st = 4 ∨ a.st = 6 ∨ a.st = 5 ∧ a.asked = true → a.fl.q.list = []
  fg : FG a.fl
def far (r : Int) (fut : List ByteArray) (W : List Fr) : Prop := ∀ f ∈ W, f.kind = 0 → ∃ d : Nat, 1 ≤ d ∧ d ≤ 126 ∧ f.ns = (r + d) % 128 ∧ fut[d]? = some f.info
def inc (r : Int) (fut : List ByteArray) : List Fr → Nat → Nat → Prop
  | [], lo, hi => lo ≤ hi
  | f :: W, lo, hi => if f.kind = 0 then ∃ d : Nat, lo ≤ d ∧ d < hi ∧ d ≤ 126 ∧ f.ns = (r + d) % 128 ∧ fut[d]? = some f.info ∧ inc r fut W (d + 1) hi else inc r fut W lo hi
def runs (r : Int) (ref : Bool) (fut : List ByteArray) (hi : Nat) (W : List Fr) : Prop := ∃ W1 W2, W = W1 ++ W2 ∧ (ref = false → W1 = []) ∧ far r fut W1 ∧ inc r fut W2 0 hi
def acks (va : Int) (j : Nat) : List Fr → Nat → Prop
  | [], lo => lo ≤ j
  | f :: A, lo => if numb f then ∃ c : Nat, lo ≤ c ∧ c ≤ j ∧ f.nr = (va + c) % 128 ∧ (f.kind = 3 → c = j) ∧ acks va j A c else acks va j A lo
structure Dj (a b : Cs) (tpre : List Ev) (j : Nat) : Prop where
  take : a.taken = tpre ++ evQ a.fl.q.list
  js : j ≤ a.fl.q.sent
  sc : Sc false b.told (tpre ++ evQ (a.fl.q.list.take j))
  ak : upC a → acks a.fl.va j a.way 0 ∧ nJ a.way ≤ 1
  fin : a.st = 8 → nJ a.way = 0 ∧ ∀ f ∈ a.way, f.kind = 1 ∨ f.kind = 2 → final f = true → f.nr = (a.fl.va + j) % 128
  rl : upC a → ∀ W, efw b = some W → rE b = (a.fl.va + j) % 128 ∧ runs (rE b) (refE b) (a.fl.q.list.drop j) (a.fl.q.sent - j) W ∧ (a.st = 8 → noI W) ∧ (nJ a.way ≠ 0 → refE b = true ∧ far (rE b) (a.fl.q.list.drop j) W ∧ j < a.fl.q.sent)
  five : a.st = 5 → ∀ A, after8 a.way = some A → (∀ f ∈ A, numb f → f.nr = 0 ∧ f.kind ≠ 3) ∧ (∀ W, efw b = some W → rE b = 0 ∧ refE b = false)
  old : ¬ upC a → ∀ W, efw b = some W → noI W ∨ (a.fl.q.list = [] ∧ (a.st = 5 → a.asked = true) ∧ ∃ pre fut mk hi, a.taken = pre ++ evQ fut ++ mk ∧ (∀ x ∈ mk, x.taken = false) ∧ mk ≠ [] ∧ Sc false b.told pre ∧ runs (rE b) (refE b) fut hi W)
def D (a b : Cs) : Prop := ∃ tpre j, Dj a b tpre j
structure J (a b : Cs) : Prop where
  h1 : H a b
  h2 : H b a
  d1 : D a b
  d2 : D b a
theorem J.swap {a b : Cs} (h : J a b) : J b a := ⟨h.h2, h.h1, h.d2, h.d1⟩
theorem after8_app (l m : List Fr) : after8 (l ++ m) = match after8 l with | some A => some (A ++ m) | none => after8 m := by
  induction l with
  | nil => rfl
  | cons f l ih =>
    show (if f.kind = 8 then some (l ++ m) else after8 (l ++ m)) = match (if f.kind = 8 then some l else after8 l) with | some A => some (A ++ m) | none => after8 m
    split
    · rfl
    · exact ih
theorem after8_none {l : List Fr} (h : nR l = 0) : after8 l = none := by
  induction l with
  | nil => rfl
  | cons f l ih =>
    have hf : isR f = false := by
      cases hb : isR f with
      | false => rfl
      | true => simp [nR, List.filter, hb] at h
    have h2 : nR l = 0 := by simpa [nR, List.filter, hf] using h
    have : ¬ f.kind = 8 := fun e => by simp [isR, e] at hf
    simp only [after8, this, if_false]
    exact ih h2
theorem after8_sub {l A : List Fr} (h : after8 l = some A) : ∀ f ∈ A, f ∈ l := by
  induction l with
  | nil => cases h
  | cons f l ih =>
    intro g hg
    simp only [after8] at h
    split at h
    · injection h with h; subst h; exact List.mem_cons_of_mem _ hg
    · exact List.mem_cons_of_mem _ (ih h g hg)
theorem nC_app (l m : List Fr) : nC (l ++ m) = nC l + nC m := by simp [nC]
theorem nR_app (l m : List Fr) : nR (l ++ m) = nR l + nR m := by simp [nR]
theorem nJ_app (l m : List Fr) : nJ (l ++ m) = nJ l + nJ m := by simp [nJ]
theorem nC_cons (f : Fr) (l : List Fr) : nC (f :: l) = (if isC f = true then 1 else 0) + nC l := by
  simp only [nC, List.filter]; split <;> rename_i h <;> simp [h, Nat.add_comm]
theorem nR_cons (f : Fr) (l : List Fr) : nR (f :: l) = (if isR f = true then 1 else 0) + nR l := by
  simp only [nR, List.filter]; split <;> rename_i h <;> simp [h, Nat.add_comm]
theorem nJ_cons (f : Fr) (l : List Fr) : nJ (f :: l) = (if isJ f = true then 1 else 0) + nJ l := by
  simp only [nJ, List.filter]; split <;> rename_i h <;> simp [h, Nat.add_comm]
theorem tailOk_app {l m : List Fr} (h : tailOk l) (hm : tailOk m) (h0 : nC l ≠ 0 → noN m) : tailOk (l ++ m) := by
  induction l with
  | nil => exact hm
  | cons f l ih =>
    refine ⟨fun hc => ?_, ih h.2 (fun hn => h0 (by rw [nC_cons]; omega))⟩
    intro g hg
    rcases List.mem_append.1 hg with hg | hg
    · exact h.1 hc g hg
    · exact h0 (by rw [nC_cons, if_pos hc]; omega) g hg
theorem noI_app {l m : List Fr} (h : noI l) (k : noI m) : noI (l ++ m) := fun f hf => by
  rcases List.mem_append.1 hf with hf | hf
  · exact h f hf
  · exact k f hf
theorem noN_noI {l : List Fr} (h : noN l) : noI l := fun f hf e => h f hf (by unfold numb; omega)
theorem inc_mono : ∀ {W : List Fr} {r : Int} {fut : List ByteArray} {lo lo' hi hi' : Nat}, inc r fut W lo hi → lo' ≤ lo → hi ≤ hi' → inc r fut W lo' hi'
  | [], _, _, _, _, _, _, h, h1, h2 => by unfold inc at *; omega
  | f :: W, r, fut, lo, lo', hi, hi', h, h1, h2 => by
    unfold inc at *
    split at h
    · rename_i hk
      obtain ⟨d, a1, a2, a3, a4, a5, a6⟩ := h
      rw [if_pos hk]
      exact ⟨d, by omega, by omega, a3, a4, a5, inc_mono a6 (Nat.le_refl _) h2⟩
    · rename_i hk
      rw [if_neg hk]
      exact inc_mono h h1 h2
theorem inc_noI : ∀ {W : List Fr} {r : Int} {fut : List ByteArray} {lo hi : Nat}, noI W → lo ≤ hi → inc r fut W lo hi
  | [], _, _, _, _, _, h => h
  | f :: W, r, fut, lo, hi, hn, h => by
    unfold inc
    rw [if_neg (hn f (List.mem_cons_self ..))]
    exact inc_noI (fun g hg => hn g (List.mem_cons_of_mem _ hg)) h
theorem inc_app : ∀ {W V : List Fr} {r : Int} {fut : List ByteArray} {lo hi : Nat}, inc r fut W lo hi → noI V → inc r fut (W ++ V) lo hi
  | [], V, _, _, _, _, h, hv => inc_noI hv h
  | f :: W, V, r, fut, lo, hi, h, hv => by
    show inc r fut (f :: (W ++ V)) lo hi
    unfold inc at *
    split at h
    · rename_i hk
      rw [if_pos hk]
      obtain ⟨d, a1, a2, a3, a4, a5, a6⟩ := h
      exact ⟨d, a1, a2, a3, a4, a5, inc_app a6 hv⟩
    · rename_i hk
      rw [if_neg hk]
      exact inc_app h hv
theorem inc_snoc : ∀ {W : List Fr} {r : Int} {fut : List ByteArray} {lo hi : Nat} {f : Fr}, inc r fut W lo hi → hi ≤ 126 → f.ns = (r + hi) % 128 → fut[hi]? = some f.info → inc r fut (W ++ [f]) lo (hi + 1)
  | [], r, fut, lo, hi, f, h, h1, h2, h3 => by
    show inc r fut [f] lo (hi + 1)
    unfold inc at *
    split
    · exact ⟨hi, h, by omega, h1, h2, h3, by unfold inc; omega⟩
    · unfold inc; omega
  | g :: W, r, fut, lo, hi, f, h, h1, h2, h3 => by
    show inc r fut (g :: (W ++ [f])) lo (hi + 1)
    unfold inc at *
    split at h
    · rename_i hk
      rw [if_pos hk]
      obtain ⟨d, a1, a2, a3, a4, a5, a6⟩ := h
      exact ⟨d, a1, by omega, a3, a4, a5, inc_snoc a6 h1 h2 h3⟩
    · rename_i hk
      rw [if_neg hk]
      exact inc_snoc h h1 h2 h3
theorem inc_far : ∀ {W : List Fr} {r : Int} {fut : List ByteArray} {lo hi : Nat}, inc r fut W lo hi → 1 ≤ lo → far r fut W
  | [], _, _, _, _, _, _ => fun f hf => by cases hf
  | g :: W, r, fut, lo, hi, h, h1 => fun f hf hk => by
    unfold inc at h
    split at h
    · rename_i hg
      obtain ⟨d, a1, a2, a3, a4, a5, a6⟩ := h
      rcases List.mem_cons.1 hf with hf | hf
      · subst hf; exact ⟨d, by omega, a3, a4, a5⟩
      · exact inc_far a6 (by omega) f hf hk
    · rename_i hg
      rcases List.mem_cons.1 hf with hf | hf
      · subst hf; exact absurd hk hg
      · exact inc_far h h1 f hf hk
theorem inc_shift : ∀ {W : List Fr} {r : Int} {x : ByteArray} {fut : List ByteArray} {lo hi : Nat}, inc r (x :: fut) W (lo + 1) (hi + 1) → inc ((r + 1) % 128) fut W lo hi
  | [], _, _, _, _, _, h => by unfold inc at *; omega
  | f :: W, r, x, fut, lo, hi, h => by
    unfold inc at *
    split at h
    · rename_i hk
      rw [if_pos hk]
      obtain ⟨d, a1, a2, a3, a4, a5, a6⟩ := h
      obtain ⟨e, rfl⟩ : ∃ e, d = e + 1 := ⟨d - 1, by omega⟩
      exact ⟨e, by omega, by omega, by omega, by omega, by simpa using a5, inc_shift a6⟩
    · rename_i hk
      rw [if_neg hk]
      exact inc_shift h
theorem far_noI {r : Int} {fut : List ByteArray} {W : List Fr} (h : noI W) : far r fut W := fun f hf hk => absurd hk (h f hf)
theorem far_app {r : Int} {fut : List ByteArray} {W V : List Fr} (h : far r fut W) (k : far r fut V) : far r fut (W ++ V) := fun f hf => by
  rcases List.mem_append.1 hf with hf | hf
  · exact h f hf
  · exact k f hf
theorem far_tail {r : Int} {fut : List ByteArray} {f : Fr} {W : List Fr} (h : far r fut (f :: W)) : far r fut W := fun g hg => h g (List.mem_cons_of_mem _ hg)
theorem runs_noI {r : Int} {ref : Bool} {fut : List ByteArray} {hi : Nat} {W : List Fr} (h : noI W) : runs r ref fut hi W := ⟨[], W, rfl, fun _ => rfl, (fun f hf => by cases hf), inc_noI h (Nat.zero_le _)⟩
theorem runs_app {r : Int} {ref : Bool} {fut : List ByteArray} {hi : Nat} {W V : List Fr} (h : runs r ref fut hi W) (hv : noI V) : runs r ref fut hi (W ++ V) := by
  obtain ⟨W1, W2, rfl, h1, h2, h3⟩ := h
  exact ⟨W1, W2 ++ V, List.append_assoc .., h1, h2, inc_app h3 hv⟩
theorem runs_snoc {r : Int} {ref : Bool} {fut : List ByteArray} {hi : Nat} {W : List Fr} {f : Fr} (h : runs r ref fut hi W) (h1 : hi ≤ 126) (h2 : f.ns = (r + hi) % 128) (h3 : fut[hi]? = some f.info) : runs r ref fut (hi + 1) (W ++ [f]) := by
  obtain ⟨W1, W2, rfl, a1, a2, a3⟩ := h
  exact ⟨W1, W2 ++ [f], List.append_assoc .., a1, a2, inc_snoc a3 h1 h2 h3⟩
theorem inc_tail {r : Int} {fut : List ByteArray} {f : Fr} {W : List Fr} {lo hi : Nat} (h : inc r fut (f :: W) lo hi) : inc r fut W lo hi := by
  unfold inc at h
  split at h
  · obtain ⟨d, a1, a2, a3, a4, a5, a6⟩ := h
    exact inc_mono a6 (by omega) (Nat.le_refl _)
  · exact h
theorem runs_tail {r : Int} {ref : Bool} {fut : List ByteArray} {hi : Nat} {f : Fr} {W : List Fr} (h : runs r ref fut hi (f :: W)) : runs r ref fut hi W := by
  obtain ⟨W1, W2, e, h1, h2, h3⟩ := h
  cases W1 with
  | nil =>
    simp only [List.nil_append] at e
    subst e
    exact ⟨[], W, rfl, fun _ => rfl, (fun f hf => by cases hf), inc_tail h3⟩
  | cons g W1 =>
    simp only [List.cons_append, List.cons.injEq] at e
    obtain ⟨rfl, rfl⟩ := e
    exact ⟨W1, W2, rfl, (fun hr => by cases h1 hr), far_tail h2, h3⟩
theorem runs_fut {r : Int} {ref : Bool} {fut : List ByteArray} {hi : Nat} {W : List Fr} (h : runs r ref fut hi W) (x : List ByteArray) : runs r ref (fut ++ x) hi W := by
  have hg : ∀ {d : Nat} {y : ByteArray}, fut[d]? = some y → (fut ++ x)[d]? = some y := fun {d y} hd => by
    rw [List.getElem?_append_left ((List.getElem?_eq_some_iff.1 hd).1)]; exact hd
  have hi_ : ∀ {W : List Fr} {lo : Nat}, inc r fut W lo hi → inc r (fut ++ x) W lo hi := by
    intro W
    induction W with
    | nil => intro lo h; exact h
    | cons f W ih =>
      intro lo h
      unfold inc at h ⊢
      split at h
      · rename_i hk
        rw [if_pos hk]
        obtain ⟨d, a1, a2, a3, a4, a5, a6⟩ := h
        exact ⟨d, a1, a2, a3, a4, hg a5, ih a6⟩
      · rename_i hk
        rw [if_neg hk]
        exact ih h
  obtain ⟨W1, W2, rfl, h1, h2, h3⟩ := h
  refine ⟨W1, W2, rfl, h1, fun f hf hk => ?_, hi_ h3⟩
  obtain ⟨d, a1, a2, a3, a4⟩ := h2 f hf hk
  exact ⟨d, a1, a2, a3, hg a4⟩
theorem acks_mono : ∀ {A : List Fr} {va : Int} {j lo lo' : Nat}, acks va j A lo → lo' ≤ lo → acks va j A lo'
  | [], _, _, _, _, h, h1 => by unfold acks at *; omega
  | f :: A, va, j, lo, lo', h, h1 => by
    unfold acks at *
    split at h
    · rename_i hk
      rw [if_pos hk]
      obtain ⟨c, a1, a2, a3, a4, a5⟩ := h
      exact ⟨c, by omega, a2, a3, a4, a5⟩
    · rename_i hk
      rw [if_neg hk]
      exact acks_mono h h1
theorem acks_noN : ∀ {A : List Fr} {va : Int} {j lo : Nat}, noN A → lo ≤ j → acks va j A lo
  | [], _, _, _, _, h => h
  | f :: A, va, j, lo, hn, h => by
    unfold acks
    rw [if_neg (hn f (List.mem_cons_self ..))]
    exact acks_noN (fun g hg => hn g (List.mem_cons_of_mem _ hg)) h
theorem acks_app : ∀ {A B : List Fr} {va : Int} {j lo : Nat}, acks va j A lo → (∀ f ∈ B, numb f → f.nr = (va + j) % 128) → acks va j (A ++ B) lo
  | [], [], _, _, _, h, _ => h
  | [], f :: B, va, j, lo, h, hb => by
    show acks va j (f :: B) lo
    unfold acks at *
    split
    · rename_i hk
      refine ⟨j, h, Nat.le_refl _, hb f (List.mem_cons_self ..) hk, fun _ => rfl, ?_⟩
      exact acks_app (A := []) (B := B) (by unfold acks; omega) (fun g hg => hb g (List.mem_cons_of_mem _ hg))
    · exact acks_app (A := []) (B := B) (by unfold acks; exact h) (fun g hg => hb g (List.mem_cons_of_mem _ hg))
  | f :: A, B, va, j, lo, h, hb => by
    show acks va j (f :: (A ++ B)) lo
    unfold acks at *
    split at h
    · rename_i hk
      rw [if_pos hk]
      obtain ⟨c, a1, a2, a3, a4, a5⟩ := h
      exact ⟨c, a1, a2, a3, a4, acks_app a5 hb⟩
    · rename_i hk
      rw [if_neg hk]
      exact acks_app h hb
theorem acks_shift : ∀ {A : List Fr} {va : Int} {j lo c : Nat}, acks va j A (lo + c) → acks ((va + c) % 128) (j - c) A lo
  | [], _, _, _, _, h => by unfold acks at *; omega
  | f :: A, va, j, lo, c, h => by
    unfold acks at *
    split at h
    · rename_i hk
      rw [if_pos hk]
      obtain ⟨d, a1, a2, a3, a4, a5⟩ := h
      refine ⟨d - c, by omega, by omega, by rw [a3]; omega, fun h => by rw [a4 h], ?_⟩
      exact acks_shift (by rw [show d - c + c = d by omega]; exact a5)
    · rename_i hk
      rw [if_neg hk]
      exact acks_shift h
theorem acks_more : ∀ {A : List Fr} {va : Int} {j j' lo : Nat}, acks va j A lo → nJ A = 0 → j ≤ j' → acks va j' A lo
  | [], _, _, _, _, h, _, h1 => by unfold acks at *; omega
  | f :: A, va, j, j', lo, h, h0, h1 => by
    rw [nJ_cons] at h0
    have hj : ¬ f.kind = 3 := fun e => by simp [isJ, e] at h0
    unfold acks at *
    split at h
    · rename_i hk
      rw [if_pos hk]
      obtain ⟨d, a1, a2, a3, a4, a5⟩ := h
      exact ⟨d, a1, by omega, a3, fun h => absurd h hj, acks_more a5 (by omega) h1⟩
    · rename_i hk
      rw [if_neg hk]
      exact acks_more h (by omega) h1
end Go.Proofs.YtljnfbpplhnmfaaGreatDoor.Md
namespace Go.Proofs.YtljnfbpplhnmfaaGreatDoor.Md
set_option linter.unusedVariables false
set_option linter.unusedSimpArgs false
theorem not_up5 {x : Cs} (h : x.st = 5) : ¬ upC x := by unfold upC; omega
theorem efw_up {y : Cs} (h : upC y) : efw y = some y.way := if_pos h
theorem efw_five {y : Cs} (h : y.st = 5) : efw y = after8 y.way := by unfold efw; rw [if_neg (not_up5 h), if_pos h]
theorem efw_off {y : Cs} (h : ¬ upC y) (h5 : y.st ≠ 5) : efw y = none := by unfold efw; rw [if_neg h, if_neg h5]
theorem efw_sub {y : Cs} {W : List Fr} (h : efw y = some W) : ∀ f ∈ W, f ∈ y.way := by
  unfold efw at h
  split at h
  · injection h with h; subst h; exact fun f hf => hf
  · split at h
    · exact after8_sub h
    · cases h
theorem efw_app {y : Cs} {B : List Fr} (h8 : y.st = 5 → after8 B = none) {W' : List Fr} (h : efw { y with way := y.way ++ B } = some W') : ∃ W, efw y = some W ∧ W' = W ++ B := by
  unfold efw at *
  by_cases hu : upC y
  · rw [if_pos (show upC { y with way := y.way ++ B } from hu)] at h
    rw [if_pos hu]
    injection h with h
    exact ⟨_, rfl, h.symm⟩
  · rw [if_neg (show ¬ upC { y with way := y.way ++ B } from hu)] at h
    rw [if_neg hu]
    by_cases h5 : y.st = 5
    · rw [if_pos (show ({ y with way := y.way ++ B } : Cs).st = 5 from h5), after8_app] at h
      rw [if_pos h5]
      cases hy : after8 y.way with
      | none =>
        rw [hy] at h
        simp only [h8 h5] at h
        cases h
      | some A =>
        rw [hy] at h
        simp only [Option.some.injEq] at h
        exact ⟨A, rfl, h.symm⟩
    · rw [if_neg (show ¬ ({ y with way := y.way ++ B } : Cs).st = 5 from h5)] at h
      cases h
theorem efw_tail {y : Cs} {f : Fr} {l : List Fr} (hw : y.way = f :: l) (h1 : nR y.way ≤ 1) {W' : List Fr} (h : efw { y with way := l } = some W') : ∃ W, efw y = some W ∧ (W = f :: W' ∨ W = W') := by
  unfold efw at *
  by_cases hu : upC y
  · rw [if_pos (show upC { y with way := l } from hu)] at h
    rw [if_pos hu]
    injection h with h
    subst h
    exact ⟨_, rfl, Or.inl hw⟩
  · rw [if_neg (show ¬ upC { y with way := l } from hu)] at h
    rw [if_neg hu]
    by_cases h5 : y.st = 5
    · rw [if_pos (show ({ y with way := l } : Cs).st = 5 from h5)] at h
      rw [if_pos h5]
      have h' : after8 l = some W' := h
      refine ⟨W', ?_, Or.inr rfl⟩
      rw [hw]
      unfold after8
      split
      · rename_i h8
        rw [hw, nR_cons, if_pos (show isR f = true by simp [isR, h8])] at h1
        rw [after8_none (by omega)] at h'
        cases h'
      · exact h'
    · rw [if_neg (show ¬ ({ y with way := l } : Cs).st = 5 from h5)] at h
      cases h
variable {x y : Cs}
theorem D.pop (h : D x y) {f : Fr} {l : List Fr} (hw : x.way = f :: l) (h1 : nR x.way ≤ 1) : D { x with way := l } y := by
  obtain ⟨tpre, j, h⟩ := h
  have hn : nJ l ≤ nJ x.way := by rw [hw, nJ_cons]; omega
  refine ⟨tpre, j, h.take, h.js, h.sc, fun hu => ?_, fun h8 => ?_, fun hu W hW => ?_, fun h5 A hA => ?_, h.old⟩
  · obtain ⟨a1, a2⟩ := h.ak hu
    refine ⟨?_, Nat.le_trans hn a2⟩
    rw [hw] at a1
    unfold acks at a1
    split at a1
    · obtain ⟨c, _, _, _, _, a⟩ := a1; exact acks_mono a (Nat.zero_le _)
    · exact a1
  · obtain ⟨b1, b2⟩ := h.fin h8
    refine ⟨?_, fun g hg => b2 g (by rw [hw]; exact List.mem_cons_of_mem _ hg)⟩
    show nJ l = 0
    omega
  · obtain ⟨a1, a2, a3, a4⟩ := h.rl hu W hW
    exact ⟨a1, a2, a3, fun hne => a4 (by show nJ x.way ≠ 0; have hne' : nJ l ≠ 0 := hne; omega)⟩
  · refine h.five h5 A ?_
    rw [hw]
    unfold after8
    split
    · rename_i h8
      rw [hw, nR_cons, if_pos (show isR f = true by simp [isR, h8])] at h1
      rw [show ({ x with way := l } : Cs).way = l from rfl, after8_none (by omega)] at hA
      cases hA
    · exact hA
theorem D.ysame {y' : Cs} (h : D x y) (h1 : efw y' = efw y) (h2 : rE y' = rE y) (h3 : refE y' = refE y) (h4 : y'.told = y.told) : D x y' := by
  obtain ⟨tpre, j, h⟩ := h
  refine ⟨tpre, j, h.take, h.js, by rw [h4]; exact h.sc, h.ak, h.fin, ?_, ?_, ?_⟩
  · rw [h1, h2, h3]; exact h.rl
  · rw [h1, h2, h3]; exact h.five
  · rw [h1, h2, h3, h4]; exact h.old
theorem D.ydown {y' : Cs} (h : D x y) (h1 : efw y' = none) (h4 : y'.told = y.told) : D x y' := by
  obtain ⟨tpre, j, h⟩ := h
  refine ⟨tpre, j, h.take, h.js, by rw [h4]; exact h.sc, h.ak, h.fin, fun _ W hW => ?_, fun h5 A hA => ⟨(h.five h5 A hA).1, fun W hW => ?_⟩, fun _ W hW => ?_⟩ <;> (rw [h1] at hW; cases hW)
theorem D.popR (h : D x y) {f : Fr} {l : List Fr} (hw : y.way = f :: l) (h1 : nR y.way ≤ 1) : D x { y with way := l } := by
  obtain ⟨tpre, j, h⟩ := h
  refine ⟨tpre, j, h.take, h.js, h.sc, h.ak, h.fin, fun hu W hW => ?_, fun h5 A hA => ⟨(h.five h5 A hA).1, fun W hW => ?_⟩, fun hu W hW => ?_⟩
  · obtain ⟨W0, hW0, hc⟩ := efw_tail hw h1 hW
    obtain ⟨a1, a2, a3, a4⟩ := h.rl hu W0 hW0
    rcases hc with rfl | rfl
    · exact ⟨a1, runs_tail a2, fun h8 g hg => a3 h8 g (List.mem_cons_of_mem _ hg), fun hn => ⟨(a4 hn).1, far_tail (a4 hn).2.1, (a4 hn).2.2⟩⟩
    · exact ⟨a1, a2, a3, a4⟩
  · obtain ⟨W0, hW0, hc⟩ := efw_tail hw h1 hW
    exact (h.five h5 A hA).2 W0 hW0
  · obtain ⟨W0, hW0, hc⟩ := efw_tail hw h1 hW
    have := h.old hu W0 hW0
    rcases hc with rfl | rfl
    · rcases this with hn | ⟨b1, b2, pre, fut, mk, hi, b3, b4, b5, b6, b7⟩
      · exact Or.inl fun g hg => hn g (List.mem_cons_of_mem _ hg)
      · exact Or.inr ⟨b1, b2, pre, fut, mk, hi, b3, b4, b5, b6, runs_tail b7⟩
    · exact this
theorem D.appX (h : D x y) {B : List Fr} (hB : ∀ f ∈ B, numb f → upC y ∧ f.nr = y.fl.vr ∧ f.kind ≠ 3) (h8 : x.st = 5 → after8 B = none) : D { x with way := x.way ++ B } y := by
  obtain ⟨tpre, j, h⟩ := h
  have hj0 : nJ B = 0 := by
    have : ∀ f ∈ B, isJ f = false := fun f hf => by
      cases hb : isJ f with
      | false => rfl
      | true =>
        have h3 : f.kind = 3 := by simpa [isJ] using hb
        exact absurd h3 (hB f hf (by unfold numb; omega)).2.2
    unfold nJ
    rw [List.length_eq_zero_iff, List.filter_eq_nil_iff]
    intro f hf
    rw [this f hf]
    decide
  have hr : upC y → rE y = y.fl.vr := fun hu => by unfold rE; rw [if_neg (fun e => not_up5 e hu)]
  refine ⟨tpre, j, h.take, h.js, h.sc, fun hu => ?_, fun h8' => ?_, fun hu W hW => ?_, fun h5 A hA => ?_, h.old⟩
  · obtain ⟨a1, a2⟩ := h.ak hu
    refine ⟨acks_app a1 fun f hf hn => ?_, ?_⟩
    · obtain ⟨b1, b2, _⟩ := hB f hf hn
      rw [b2, ← hr b1]
      exact (h.rl hu _ (efw_up b1)).1
    · show nJ (x.way ++ B) ≤ 1
      rw [nJ_app, hj0]; exact a2
  · obtain ⟨b1, b2⟩ := h.fin h8'
    refine ⟨by show nJ (x.way ++ B) = 0; rw [nJ_app, hj0, b1], fun f hf hk hfin => ?_⟩
    rcases List.mem_append.1 hf with hf | hf
    · exact b2 f hf hk hfin
    · obtain ⟨c1, c2, _⟩ := hB f hf (by unfold numb; omega)
      rw [c2, ← hr c1]
      exact (h.rl (Or.inr h8') _ (efw_up c1)).1
  · obtain ⟨a1, a2, a3, a4⟩ := h.rl hu W hW
    refine ⟨a1, a2, a3, fun hn => a4 ?_⟩
    have hn' : nJ (x.way ++ B) ≠ 0 := hn
    rw [nJ_app, hj0] at hn'
    exact hn'
  · rw [show ({ x with way := x.way ++ B } : Cs).way = x.way ++ B from rfl, after8_app] at hA
    cases hx : after8 x.way with
    | none =>
      rw [hx] at hA
      simp only [h8 h5] at hA
      cases hA
    | some A0 =>
      rw [hx] at hA
      simp only [Option.some.injEq] at hA
      subst hA
      obtain ⟨c1, c2⟩ := h.five h5 A0 hx
      refine ⟨fun f hf hn => ?_, c2⟩
      rcases List.mem_append.1 hf with hf | hf
      · exact c1 f hf hn
      · obtain ⟨b1, b2, b3⟩ := hB f hf hn
        exact ⟨by rw [b2, ← hr b1]; exact (c2 _ (efw_up b1)).1, b3⟩
theorem D.appW (h : D x y) {B : List Fr} (hB : noI B) (h8 : y.st = 5 → after8 B = none) : D x { y with way := y.way ++ B } := by
  obtain ⟨tpre, j, h⟩ := h
  refine ⟨tpre, j, h.take, h.js, h.sc, h.ak, h.fin, fun hu W hW => ?_, fun h5 A hA => ⟨(h.five h5 A hA).1, fun W hW => ?_⟩, fun hu W hW => ?_⟩
  · obtain ⟨W0, hW0, rfl⟩ := efw_app h8 hW
    obtain ⟨a1, a2, a3, a4⟩ := h.rl hu W0 hW0
    exact ⟨a1, runs_app a2 hB, fun h => noI_app (a3 h) hB, fun h => ⟨(a4 h).1, far_app (a4 h).2.1 (far_noI hB), (a4 h).2.2⟩⟩
  · obtain ⟨W0, hW0, rfl⟩ := efw_app h8 hW
    exact (h.five h5 A hA).2 W0 hW0
  · obtain ⟨W0, hW0, rfl⟩ := efw_app h8 hW
    rcases h.old hu W0 hW0 with hn | ⟨b1, b2, pre, fut, mk, hi, b3, b4, b5, b6, b7⟩
    · exact Or.inl (noI_app hn hB)
    · exact Or.inr ⟨b1, b2, pre, fut, mk, hi, b3, b4, b5, b6, runs_app b7 hB⟩
theorem D.appW8 (h : D x y) {g : Fr} (hg : g.kind = 8) (hx : ¬ upC x) (h5 : y.st = 5) (h0 : nR y.way = 0) : D x { y with way := y.way ++ [g] } := by
  obtain ⟨tpre, j, h⟩ := h
  have he : efw { y with way := y.way ++ [g] } = some [] := by
    rw [efw_five (y := { y with way := y.way ++ [g] }) h5]
    show after8 (y.way ++ [g]) = _
    rw [after8_app, after8_none h0]
    simp [after8, hg]
  refine ⟨tpre, j, h.take, h.js, h.sc, h.ak, h.fin, fun hu => absurd hu hx, fun h5' A hA => ⟨(h.five h5' A hA).1, fun W hW => ⟨if_pos h5, if_pos h5⟩⟩, fun hu W hW => ?_⟩
  rw [he] at hW
  injection hW with hW
  subst hW
  exact Or.inl fun f hf => by cases hf
theorem drop_take_app (l : List ByteArray) (c j : Nat) (h : c ≤ j) : l.take c ++ (l.drop c).take (j - c) = l.take j := by
  have e : l.take j = l.take (c + (j - c)) := by congr 1; omega
  rw [e, List.take_add]
theorem ackN_eq {f : F} {nr : Int} {c : Nat} (hg : FG f) (hc : c ≤ 127) (h : nr = (f.va + c) % 128) : ackN f nr = c := by
  unfold ackN
  have := hg.va
  omega
theorem FG.ack {f : F} (h : FG f) {nr : Int} {c : Nat} (hc : c ≤ f.q.sent) (hn : nr = (f.va + c) % 128) : FG (ackF f nr) := by
  have h1 := h.va; have h2 := h.vs; have h3 := h.win; have h4 := h.max; have h5 := h.len
  have e := ackN_eq h (by omega) hn
  refine ⟨?_, h.vs, h.vr, ?_, ?_, ?_⟩
  · show 0 ≤ nr % 128 ∧ nr % 128 < 128; omega
  · show (f.vs - nr % 128) % 128 = ((f.q.sent - ackN f nr : Nat) : Int); rw [e]; omega
  · show f.q.sent - ackN f nr ≤ (f.q.list.drop (ackN f nr)).length; rw [e, List.length_drop]; omega
  · show f.q.sent - ackN f nr ≤ 127; omega
theorem Dj.ack {tpre : List Ev} {j : Nat} (h : Dj x y tpre j) (hg : FG x.fl) (hu : upC x) {f : Fr} {l : List Fr} (hw : x.way = f :: l) (hn : numb f) :
    ∃ c : Nat, c ≤ j ∧ f.nr = (x.fl.va + c) % 128 ∧ (f.kind = 3 → c = j) ∧ (x.st = 8 → f.kind = 1 ∨ f.kind = 2 → final f = true → c = j) ∧ ackOk x.fl f.nr ∧ FG (ackF x.fl f.nr) ∧ Dj { x with way := l, fl := ackF x.fl f.nr } y (tpre ++ evQ (x.fl.q.list.take c)) (j - c) := by
  obtain ⟨a1, a2⟩ := h.ak hu
  rw [hw] at a1
  unfold acks at a1
  rw [if_pos hn] at a1
  obtain ⟨c, c1, c2, c3, c4, c5⟩ := a1
  have h1 := hg.va; have h2 := hg.vs; have h3 := hg.win; have h4 := hg.max; have h5 := hg.len; have h6 := h.js
  have e := ackN_eq hg (by omega) c3
  have hva : f.nr % 128 = (x.fl.va + c) % 128 := by omega
  have hnl : nJ l ≤ nJ x.way := by rw [hw, nJ_cons]; omega
  refine ⟨c, c2, c3, c4, ?_, ?_, hg.ack (by omega) c3, ?_⟩
  · intro h8 hk hf
    have := (h.fin h8).2 f (by rw [hw]; exact List.mem_cons_self ..) hk hf
    omega
  · unfold ackOk; omega
  · have hq : (ackF x.fl f.nr).q.list = x.fl.q.list.drop c := by show x.fl.q.list.drop (ackN x.fl f.nr) = _; rw [e]
    have hs : (ackF x.fl f.nr).q.sent = x.fl.q.sent - c := by show x.fl.q.sent - ackN x.fl f.nr = _; rw [e]
    have hv : (ackF x.fl f.nr).va = (x.fl.va + c) % 128 := hva
    have hd : (x.fl.q.list.drop c).drop (j - c) = x.fl.q.list.drop j := by rw [List.drop_drop]; congr 1; omega
    refine ⟨?_, ?_, ?_, fun hu' => ?_, fun h8 => ?_, fun hu' W hW => ?_, fun h5 => absurd hu (not_up5 h5), fun hu' => absurd hu hu'⟩
    · show x.taken = tpre ++ evQ (x.fl.q.list.take c) ++ evQ (ackF x.fl f.nr).q.list
      rw [hq, List.append_assoc, ← evQ_app, List.take_append_drop]
      exact h.take
    · show j - c ≤ (ackF x.fl f.nr).q.sent; rw [hs]; omega
    · show Sc false y.told (tpre ++ evQ (x.fl.q.list.take c) ++ evQ ((ackF x.fl f.nr).q.list.take (j - c)))
      rw [hq, List.append_assoc, ← evQ_app, drop_take_app _ _ _ c2]
      exact h.sc
    · refine ⟨?_, Nat.le_trans hnl a2⟩
      show acks (ackF x.fl f.nr).va (j - c) l 0
      rw [hv]
      exact acks_shift (by rw [Nat.zero_add]; exact c5)
    · obtain ⟨b1, b2⟩ := h.fin h8
      refine ⟨by show nJ l = 0; omega, fun g hg hk hf => ?_⟩
      have := b2 g (by rw [hw]; exact List.mem_cons_of_mem _ hg) hk hf
      show g.nr = ((ackF x.fl f.nr).va + ((j - c : Nat) : Int)) % 128
      rw [hv]; omega
    · obtain ⟨b1, b2, b3, b4⟩ := h.rl hu W hW
      show rE y = ((ackF x.fl f.nr).va + ((j - c : Nat) : Int)) % 128 ∧ runs (rE y) (refE y) ((ackF x.fl f.nr).q.list.drop (j - c)) ((ackF x.fl f.nr).q.sent - (j - c)) W ∧ (x.st = 8 → noI W) ∧ (nJ l ≠ 0 → refE y = true ∧ far (rE y) ((ackF x.fl f.nr).q.list.drop (j - c)) W ∧ j - c < (ackF x.fl f.nr).q.sent)
      rw [hq, hs, hv, hd, show x.fl.q.sent - c - (j - c) = x.fl.q.sent - j by omega]
      refine ⟨by omega, b2, b3, fun hne => ?_⟩
      obtain ⟨d1, d2, d3⟩ := b4 (by omega)
      exact ⟨d1, d2, by omega⟩
theorem D.ack (h : D x y) (hg : FG x.fl) (hu : upC x) {f : Fr} {l : List Fr} (hw : x.way = f :: l) (hn : numb f) : ackOk x.fl f.nr ∧ FG (ackF x.fl f.nr) ∧ D { x with way := l, fl := ackF x.fl f.nr } y := by
  obtain ⟨tpre, j, h⟩ := h
  obtain ⟨c, _, _, _, _, a, b, d⟩ := h.ack hg hu hw hn
  exact ⟨a, b, _, _, d⟩
theorem FG.back {f : F} (h : FG f) : FG (backF f) := ⟨h.va, h.va, h.vr, by show (f.va - f.va) % 128 = ((0 : Nat) : Int); omega, Nat.zero_le _, by show (0 : Nat) ≤ 127; omega⟩
theorem Dj.back {tpre : List Ev} {j : Nat} (h : Dj x y tpre j) (hj : j = 0) (hu : upC x) (hn : nJ x.way = 0) (hW : ∀ W, efw y = some W → noI W ∨ (refE y = true ∧ far (rE y) x.fl.q.list W)) : Dj { x with st := 7, fl := backF x.fl } y tpre j := by
  subst hj
  refine ⟨h.take, Nat.zero_le _, h.sc, fun _ => h.ak hu, fun h8 => ?_, fun _ W hw => ?_, fun h5 => ?_, fun hnu => ?_⟩
  · exact absurd h8 (by show ¬ (7 : Int) = 8; decide)
  · obtain ⟨b1, b2, b3, b4⟩ := h.rl hu W hw
    refine ⟨b1, ?_, fun h8 => absurd h8 (by show ¬ (7 : Int) = 8; decide), fun hne => absurd hn hne⟩
    rcases hW W hw with hc | ⟨hc, hd⟩
    · exact runs_noI hc
    · exact ⟨W, [], by simp, (fun e => by rw [hc] at e; cases e), hd, by show (0 : Nat) ≤ _; omega⟩
  · exact absurd h5 (by show ¬ (7 : Int) = 5; decide)
  · exact absurd (Or.inl rfl) hnu
theorem D.rej (h : D x y) (hg : FG x.fl) (h7 : x.st = 7) {f : Fr} {l : List Fr} (hw : x.way = f :: l) (hk : f.kind = 3) : ackOk x.fl f.nr ∧ FG (ackF x.fl f.nr) ∧ D { x with way := l, fl := backF (ackF x.fl f.nr) } y := by
  obtain ⟨tpre, j, h⟩ := h
  have hu : upC x := Or.inl h7
  have hnx : nJ x.way ≠ 0 := by rw [hw, nJ_cons, if_pos (by simp [isJ, hk])]; omega
  have hnl : nJ l = 0 := by
    have := (h.ak hu).2
    rw [hw, nJ_cons, if_pos (by simp [isJ, hk])] at this
    omega
  obtain ⟨c, c1, c2, c3, _, a, b, d⟩ := h.ack hg hu hw (by unfold numb; omega)
  have hc := c3 hk
  refine ⟨a, b, tpre ++ evQ (x.fl.q.list.take c), j - c, ?_⟩
  have hd := d.back (by omega) hu hnl (fun W hW => by
    obtain ⟨_, _, _, b4⟩ := h.rl hu W hW
    obtain ⟨e1, e2, _⟩ := b4 hnx
    refine Or.inr ⟨e1, ?_⟩
    show far (rE y) (ackF x.fl f.nr).q.list W
    rw [show (ackF x.fl f.nr).q.list = x.fl.q.list.drop (ackN x.fl f.nr) from rfl, ackN_eq hg (by have := hg.max; have := h.js; omega) c2, hc]
    exact e2)
  have he : ({ x with way := l, fl := backF (ackF x.fl f.nr) } : Cs) = { ({ x with way := l, fl := ackF x.fl f.nr } : Cs) with st := 7, fl := backF (ackF x.fl f.nr) } := by rw [← h7]
  rw [he]
  exact hd
theorem D.fin (h : D x y) (hg : FG x.fl) (h8 : x.st = 8) {f : Fr} {l : List Fr} (hw : x.way = f :: l) (hk : f.kind = 1 ∨ f.kind = 2) (hf : final f = true) : ackOk x.fl f.nr ∧ FG (ackF x.fl f.nr) ∧ D { x with st := 7, way := l, fl := backF (ackF x.fl f.nr) } y := by
  obtain ⟨tpre, j, h⟩ := h
  have hu : upC x := Or.inr h8
  have hnl : nJ l = 0 := by
    have := (h.fin h8).1
    rw [hw, nJ_cons] at this
    omega
  obtain ⟨c, c1, c2, _, c3, a, b, d⟩ := h.ack hg hu hw (by unfold numb; omega)
  have hc := c3 h8 hk hf
  refine ⟨a, b, tpre ++ evQ (x.fl.q.list.take c), j - c, ?_⟩
  exact d.back (by omega) hu hnl (fun W hW => Or.inl ((h.rl hu W hW).2.2.1 h8))
theorem FG.take {f : F} (h : FG f) (h1 : f.q.sent < f.q.list.length) (h2 : f.q.sent ≤ 126) : FG (takeF f) := by
  have h3 := h.va; have h4 := h.vs; have h5 := h.win
  refine ⟨h.va, ?_, h.vr, ?_, ?_, ?_⟩
  · show 0 ≤ (f.vs + 1) % 128 ∧ (f.vs + 1) % 128 < 128; omega
  · show ((f.vs + 1) % 128 - f.va) % 128 = ((f.q.sent + 1 : Nat) : Int); omega
  · show f.q.sent + 1 ≤ f.q.list.length; omega
  · show f.q.sent + 1 ≤ 127; omega
theorem D.sendI (h : D x y) (hg : FG x.fl) (h7 : x.st = 7) (h1 : x.fl.q.sent < x.fl.q.list.length) (h2 : x.fl.q.sent ≤ 126) {g : Fr} (hk : g.kind = 0) (hn : g.ns = x.fl.vs) (hi : g.info = takeS x.fl) : D { x with fl := takeF x.fl } { y with way := y.way ++ [g] } := by
  obtain ⟨tpre, j, h⟩ := h
  have hu : upC x := Or.inl h7
  have h3 := hg.va; have h4 := hg.vs; have h5 := hg.win; have h6 := h.js
  have h8' : ∀ {y : Cs}, y.st = 5 → after8 [g] = none := fun _ => by
    show (if g.kind = 8 then some [] else none) = none
    rw [if_neg (by omega)]
  have hget : (x.fl.q.list.drop j)[x.fl.q.sent - j]? = some g.info := by
    rw [List.getElem?_drop, show j + (x.fl.q.sent - j) = x.fl.q.sent by omega, hi]
    unfold takeS
    rw [List.getD_eq_getElem?_getD, List.getElem?_eq_getElem h1]
    rfl
  refine ⟨tpre, j, h.take, by show j ≤ x.fl.q.sent + 1; omega, h.sc, fun _ => h.ak hu, fun h8 => ?_, fun _ W hW => ?_, fun h5 => ?_, fun hnu => absurd (Or.inl h7) hnu⟩
  · have h8b : x.st = 8 := h8
    omega
  · obtain ⟨W0, hW0, rfl⟩ := efw_app h8' hW
    obtain ⟨b1, b2, b3, b4⟩ := h.rl hu W0 hW0
    have hns : g.ns = (rE y + ((x.fl.q.sent - j : Nat) : Int)) % 128 := by rw [hn, b1]; omega
    show rE y = (x.fl.va + j) % 128 ∧ runs (rE y) (refE y) (x.fl.q.list.drop j) (x.fl.q.sent + 1 - j) (W0 ++ [g]) ∧ (x.st = 8 → noI (W0 ++ [g])) ∧ (nJ x.way ≠ 0 → refE y = true ∧ far (rE y) (x.fl.q.list.drop j) (W0 ++ [g]) ∧ j < x.fl.q.sent + 1)
    rw [show x.fl.q.sent + 1 - j = (x.fl.q.sent - j) + 1 by omega]
    refine ⟨b1, runs_snoc b2 (by omega) hns hget, fun h8 => by omega, fun hne => ?_⟩
    obtain ⟨d1, d2, d3⟩ := b4 hne
    refine ⟨d1, far_app d2 ?_, by omega⟩
    intro f hf _
    rw [List.mem_singleton.1 hf]
    exact ⟨x.fl.q.sent - j, by omega, by omega, hns, hget⟩
  · have h5b : x.st = 5 := h5
    omega
theorem FG.push {f : F} (h : FG f) (s : ByteArray) : FG (pushF f s) := ⟨h.va, h.vs, h.vr, h.win, by show f.q.sent ≤ (f.q.list ++ [s]).length; rw [List.length_append]; have := h.len; omega, h.max⟩
theorem D.push (h : D x y) (hg : FG x.fl) (hu : upC x ∨ x.st = 5 ∧ x.asked = false) (s : ByteArray) : D { x with fl := pushF x.fl s, taken := x.taken ++ [⟨s, true⟩] } y := by
  obtain ⟨tpre, j, h⟩ := h
  have hl : j ≤ x.fl.q.list.length := Nat.le_trans h.js hg.len
  refine ⟨tpre, j, ?_, h.js, ?_, h.ak, h.fin, fun hu W hW => ?_, h.five, fun hnu W hW => ?_⟩
  · show x.taken ++ [⟨s, true⟩] = tpre ++ evQ (x.fl.q.list ++ [s])
    rw [evQ_app, ← List.append_assoc, ← h.take]; rfl
  · show Sc false y.told (tpre ++ evQ ((x.fl.q.list ++ [s]).take j))
    rw [List.take_append_of_le_length hl]
    exact h.sc
  · obtain ⟨b1, b2, b3, b4⟩ := h.rl hu W hW
    show rE y = (x.fl.va + j) % 128 ∧ runs (rE y) (refE y) ((x.fl.q.list ++ [s]).drop j) (x.fl.q.sent - j) W ∧ (x.st = 8 → noI W) ∧ (nJ x.way ≠ 0 → refE y = true ∧ far (rE y) ((x.fl.q.list ++ [s]).drop j) W ∧ j < x.fl.q.sent)
    rw [List.drop_append_of_le_length hl]
    refine ⟨b1, runs_fut b2 _, b3, fun hn => ?_⟩
    obtain ⟨d1, d2, d3⟩ := b4 hn
    refine ⟨d1, fun f hf hk => ?_, d3⟩
    obtain ⟨d, e1, e2, e3, e4⟩ := d2 f hf hk
    exact ⟨d, e1, e2, e3, by rw [List.getElem?_append_left ((List.getElem?_eq_some_iff.1 e4).1)]; exact e4⟩
  · rcases hu with hu | ⟨h5, ha⟩
    · exact absurd hu hnu
    · rcases h.old (not_up5 h5) W hW with hn | ⟨_, b2, _⟩
      · exact Or.inl hn
      · rw [b2 h5] at ha; cases ha
theorem FG.clear {f : F} (h : FG f) : FG (clearF f) := ⟨h.va, h.va, h.vr, by show (f.va - f.va) % 128 = ((0 : Nat) : Int); omega, Nat.zero_le _, by show (0 : Nat) ≤ 127; omega⟩
theorem FG.reset {f : F} : FG (resetF f) := ⟨by show (0 : Int) ≤ 0 ∧ (0 : Int) < 128; decide, by show (0 : Int) ≤ 0 ∧ (0 : Int) < 128; decide, by show (0 : Int) ≤ 0 ∧ (0 : Int) < 128; decide, by show ((0 : Int) - 0) % 128 = ((0 : Nat) : Int); decide, Nat.zero_le _, by show (0 : Nat) ≤ 127; omega⟩
theorem D.down (h : D x y) (st : Int) (q : Bool) (mk : List Ev) (hm : ∀ e ∈ mk, e.taken = false) (hm0 : mk ≠ []) (hs : st = 4 ∨ st = 5 ∨ st = 6) (hq : st = 5 → q = true) (h5 : st = 5 → x.st ≠ 5 → after8 x.way = none) : D { x with st := st, asked := q, fl := clearF x.fl, taken := x.taken ++ mk } y := by
  obtain ⟨tpre, j, h⟩ := h
  have hnu : ¬ upC { x with st := st, asked := q, fl := clearF x.fl, taken := x.taken ++ mk } := by unfold upC; show ¬ (st = 7 ∨ st = 8); omega
  have hsc : Sc false y.told (x.taken ++ mk) := by
    have := h.sc.through (x.fl.q.list.drop j) mk hm (fun e => absurd e hm0)
    rw [List.append_assoc tpre, ← evQ_app, List.take_append_drop, ← h.take] at this
    exact this
  refine ⟨x.taken ++ mk, 0, by simp [clearF, evQ], Nat.zero_le _, by simpa [clearF, evQ] using hsc, fun hu => absurd hu hnu, fun h8 => absurd (Or.inr h8) hnu, fun hu => absurd hu hnu, fun h5' A hA => ?_, fun _ W hW => ?_⟩
  · have h5b : st = 5 := h5'
    by_cases hx : x.st = 5
    · exact h.five hx A hA
    · have hA' : after8 x.way = some A := hA
      rw [h5 h5b hx] at hA'
      cases hA'
  · by_cases hu : upC x
    · obtain ⟨b1, b2, b3, b4⟩ := h.rl hu W hW
      refine Or.inr ⟨rfl, hq, tpre ++ evQ (x.fl.q.list.take j), x.fl.q.list.drop j, mk, _, ?_, hm, hm0, h.sc, b2⟩
      show x.taken ++ mk = _
      rw [List.append_assoc tpre, ← evQ_app, List.take_append_drop, ← h.take]
    · rcases h.old hu W hW with hn | ⟨_, _, pre, fut, mk2, hi, b3, b4, b5, b6, b7⟩
      · exact Or.inl hn
      · refine Or.inr ⟨rfl, hq, pre, fut, mk2 ++ mk, hi, ?_, fun e he => ?_, by simp [hm0], b6, b7⟩
        · show x.taken ++ mk = _
          rw [b3]; simp
        · rcases List.mem_append.1 he with he | he
          · exact b4 e he
          · exact hm e he
theorem D.anew (h : D x y) (hu : upC x) (hx : x.way = []) (hy : y.way = []) : D { x with st := 5, asked := false } y := by
  obtain ⟨tpre, j, h⟩ := h
  have hnu : ¬ upC { x with st := 5, asked := false } := not_up5 rfl
  refine ⟨tpre, j, h.take, h.js, h.sc, fun hu => absurd hu hnu, fun h8 => absurd (Or.inr h8) hnu, fun hu => absurd hu hnu, fun _ A hA => ?_, fun _ W hW => Or.inl fun f hf => ?_⟩
  · have hA' : after8 x.way = some A := hA
    rw [hx] at hA'; cases hA'
  · have := efw_sub hW f hf
    rw [hy] at this; cases this
theorem D.to8 (h : D x y) (hu : upC x) (hx : x.way = []) (hy : y.way = []) : D { x with st := 8 } y := by
  obtain ⟨tpre, j, h⟩ := h
  refine ⟨tpre, j, h.take, h.js, h.sc, fun _ => h.ak hu, fun _ => ?_, fun _ W hW => ?_, fun h5 => absurd h5 (by show ¬ (8 : Int) = 5; decide), fun hn => absurd (Or.inr rfl) hn⟩
  · show nJ x.way = 0 ∧ ∀ f ∈ x.way, _
    rw [hx]
    exact ⟨rfl, fun f hf => by cases hf⟩
  · obtain ⟨b1, b2, b3, b4⟩ := h.rl hu W hW
    refine ⟨b1, b2, fun _ f hf => ?_, b4⟩
    have := efw_sub hW f hf
    rw [hy] at this; cases this
theorem D.reopen (h : D x y) (hs : x.fl.q.sent = 0) (h5 : y.st = 5) (h0 : nR y.way = 0) {l : List Fr} (hl : noN l) {g : Fr} (hg : g.kind = 8) (q : Bool) : D { x with st := 7, asked := q, fl := resetF x.fl, way := l } { y with way := y.way ++ [g] } := by
  obtain ⟨tpre, j, h⟩ := h
  have hj : j = 0 := by have := h.js; omega
  subst hj
  have he : efw { y with way := y.way ++ [g] } = some [] := by
    rw [efw_five (y := { y with way := y.way ++ [g] }) h5]
    show after8 (y.way ++ [g]) = _
    rw [after8_app, after8_none h0]
    simp [after8, hg]
  have hnj : nJ l = 0 := by
    unfold nJ
    rw [List.length_eq_zero_iff, List.filter_eq_nil_iff]
    intro f hf
    have := hl f hf
    unfold numb at this
    simp [isJ]; omega
  refine ⟨tpre, 0, h.take, Nat.le_refl _, h.sc, fun _ => ⟨acks_noN hl (Nat.le_refl _), by show nJ l ≤ 1; omega⟩, fun h8 => absurd h8 (by show ¬ (7 : Int) = 8; decide), fun _ W hW => ?_, fun h5 => absurd h5 (by show ¬ (7 : Int) = 5; decide), fun hn => absurd (Or.inl rfl) hn⟩
  rw [he] at hW
  injection hW with hW
  subst hW
  refine ⟨?_, runs_noI (fun f hf => by cases hf), fun _ f hf => (by cases hf), fun hne => absurd hnj hne⟩
  show rE { y with way := y.way ++ [g] } = _
  rw [show rE { y with way := y.way ++ [g] } = 0 from if_pos h5]
  show (0 : Int) = (0 + ((0 : Nat) : Int)) % 128
  decide
theorem D.up8 (h : D x y) (hs : x.fl.q.sent = 0) (h5 : x.st = 5) {f : Fr} {l : List Fr} (hw : x.way = f :: l) (hf : f.kind = 8) (hy : noN y.way) (q : Bool) : D { x with st := 7, asked := q, fl := resetF x.fl, way := l } y := by
  obtain ⟨tpre, j, h⟩ := h
  have hj : j = 0 := by have := h.js; omega
  subst hj
  have hA : after8 x.way = some l := by rw [hw]; simp [after8, hf]
  obtain ⟨c1, c2⟩ := h.five h5 l hA
  have hnj : nJ l = 0 := by
    unfold nJ
    rw [List.length_eq_zero_iff, List.filter_eq_nil_iff]
    intro g hg
    have := c1 g hg
    unfold numb at this
    simp [isJ]
    intro e
    exact (this (by omega)).2 e
  refine ⟨tpre, 0, h.take, Nat.le_refl _, h.sc, fun _ => ⟨?_, by show nJ l ≤ 1; omega⟩, fun h8 => absurd h8 (by show ¬ (7 : Int) = 8; decide), fun _ W hW => ?_, fun h5 => absurd h5 (by show ¬ (7 : Int) = 5; decide), fun hn => absurd (Or.inl rfl) hn⟩
  · have : acks 0 0 ([] ++ l) 0 := acks_app (by unfold acks; exact Nat.le_refl _) (fun g hg hn => by rw [(c1 g hg hn).1]; decide)
    exact this
  · obtain ⟨d1, d2⟩ := c2 W hW
    have hnW : noI W := noN_noI (fun g hg => hy g (efw_sub hW g hg))
    refine ⟨?_, runs_noI hnW, fun _ => hnW, fun hne => absurd hnj hne⟩
    rw [d1]
    show (0 : Int) = (0 + ((0 : Nat) : Int)) % 128
    decide
end Go.Proofs.YtljnfbpplhnmfaaGreatDoor.Md
