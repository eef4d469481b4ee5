/- What comes in order, in plain lists: behind so many sends. No condition. -/
import Derived.Test.YtfopcnabcmdclaaBusH
namespace Go.Proofs.Ytfopcnabcmdclaa.Bs
open Go Go.RowKit Go.Proofs.YtfopcnabcmdclaaW.PrintWords Go.Proofs.YtfopcnabcmdclaaW.PrintLast Go.Proofs.YtfopcnabcmdclaaW.PrintMore Go.Proofs.Ytfopcnabcmdclaa.Str Go.Proofs.Ytfopcnabcmdclaa.Bits Go.Proofs.Ytfopcnabcmdclaa.Mp Go.Proofs.Ytfopcnabcmdclaa.Ra
set_option linter.unusedVariables false
theorem downQ_at (q : Bool → Int → List ByteArray) (s : ByteArray) (k : Nat) (d : Bool) (i : Int) : downQ q s k d i = if d = true ∧ 0 ≤ i ∧ i < (k : Int) ∧ (q true i).length < 256 then q true i ++ [s] else q d i := by
  induction k generalizing d i with
  | zero => rw [if_neg (by omega)]; rfl
  | succ k ih =>
    have hk : downQ q s k true k = q true k := by rw [ih, if_neg (by omega)]
    show addQ (downQ q s k) true k s d i = _
    unfold addQ
    rw [hk]
    by_cases hl : (q true (k : Int)).length < 256
    · rw [if_pos hl]
      by_cases hi : d = true ∧ i = (k : Int)
      · obtain ⟨rfl, rfl⟩ := hi
        rw [updQ_same, if_pos ⟨rfl, by omega, by omega, hl⟩]
      · have : updQ (downQ q s k) true k (q true ↑k ++ [s]) d i = downQ q s k d i := by unfold updQ; rw [if_neg hi]
        rw [this, ih]
        by_cases h : d = true ∧ 0 ≤ i ∧ i < (k : Int) ∧ (q true i).length < 256
        · rw [if_pos h, if_pos ⟨h.1, h.2.1, by omega, h.2.2.2⟩]
        · rw [if_neg h, if_neg (fun h2 => h ⟨h2.1, h2.2.1, by have : ¬ i = (k : Int) := fun e => hi ⟨h2.1, e⟩; omega, h2.2.2.2⟩)]
    · rw [if_neg hl, ih]
      by_cases h : d = true ∧ 0 ≤ i ∧ i < (k : Int) ∧ (q true i).length < 256
      · rw [if_pos h, if_pos ⟨h.1, h.2.1, by omega, h.2.2.2⟩]
      · rw [if_neg h, if_neg (fun h2 => h ⟨h2.1, h2.2.1, by have : ¬ i = (k : Int) := fun e => hl (by rw [← e]; exact h2.2.2.2); omega, h2.2.2.2⟩)]
theorem downN_all (q : Bool → Int → List ByteArray) (s : ByteArray) (n : Nat) (h : ∀ i : Int, 0 ≤ i → i < n → (q true i).length < 256) (k : Nat) (hk : k ≤ n) : downN q s k = k := by
  induction k with
  | zero => rfl
  | succ k ih =>
    have e : downQ q s k true (k : Int) = q true k := by rw [downQ_at, if_neg (by omega)]
    unfold downN
    rw [ih (by omega), e, if_pos (h k (by omega) (by omega))]
/-- What terminal i has sent behind k sends, each one by the terminal whose turn it is. -/
def upL (lb : List ByteArray) (n : Nat) : Nat → Nat → List ByteArray
  | 0, _ => []
  | k + 1, i => upL lb n k i ++ (if k % n = i then [lb.getD k ⟨#[]⟩] else [])
theorem upL_length (lb : List ByteArray) (n k i : Nat) : (upL lb n k i).length ≤ k := by
  induction k with
  | zero => exact Nat.le_refl _
  | succ k ih =>
    unfold upL
    rw [List.length_append]
    split <;> simp <;> omega
theorem upL_head (lb : List ByteArray) (n i : Nat) (hi : i < n) (k : Nat) (hk : i < k) : ∃ r, upL lb n k i = lb.getD i ⟨#[]⟩ :: r := by
  induction k with
  | zero => omega
  | succ k ih =>
    unfold upL
    by_cases h : i < k
    · obtain ⟨r, e⟩ := ih h
      rw [e]
      exact ⟨_, rfl⟩
    · obtain rfl : i = k := by omega
      have e : upL lb n i i = [] := by
        have : ∀ j, j ≤ i → upL lb n j i = [] := by
          intro j
          induction j with
          | zero => intro _; rfl
          | succ j ih2 =>
            intro hj
            unfold upL
            rw [ih2 (by omega), if_neg (by rw [Nat.mod_eq_of_lt (by omega)]; omega)]
            rfl
        exact this i (Nat.le_refl _)
      rw [e, Nat.mod_eq_of_lt hi, if_pos rfl]
      exact ⟨[], rfl⟩
/-- Behind k sends: all have come down; up there are each terminal's own. -/
def Sent (q : Bool → Int → List ByteArray) (n : Nat) (lb : List ByteArray) (k : Nat) : Prop := ∀ i : Nat, i < n → q true (i : Int) = lb.take k ∧ q false (i : Int) = upL lb n k i
theorem sent_zero (n : Nat) (lb : List ByteArray) : Sent (fun _ _ => []) n lb 0 := fun i hi => ⟨by simp, rfl⟩
theorem sent_next (q : Bool → Int → List ByteArray) (n : Nat) (lb : List ByteArray) (k : Nat) (h : Sent q n lb k) (hk : k < lb.length) (hl : lb.length ≤ 200) :
    Sent (upQ (downQ q lb[k] n) n ((k % n : Nat) : Int) lb[k]) n lb (k + 1) := by
  intro i hi
  obtain ⟨h1, h2⟩ := h i hi
  have hd : downQ q lb[k] n true (i : Int) = lb.take (k + 1) := by
    rw [downQ_at, if_pos ⟨rfl, by omega, by omega, by rw [h1, List.length_take]; omega⟩, h1, List.take_succ_eq_append_getElem hk]
  have hu : ∀ j, downQ q lb[k] n false j = q false j := fun j => by rw [downQ_at, if_neg (fun h => by cases h.1)]
  have hm : k % n < n := Nat.mod_lt _ (by omega)
  unfold upQ
  rw [if_pos ⟨by omega, by omega⟩]
  unfold addQ
  rw [hu, (h (k % n) hm).2, if_pos (by have := upL_length lb n k (k % n); omega)]
  constructor
  · rw [updQ_other (by simp), hd]
  · by_cases e : k % n = i
    · rw [e, updQ_same]
      show _ = upL lb n k i ++ (if k % n = i then _ else _)
      rw [if_pos e]
      congr 2
      rw [List.getD_eq_getElem?_getD, List.getElem?_eq_getElem hk]; rfl
    · rw [updQ_other (by simp; omega), hu, h2]
      show _ = upL lb n k i ++ (if k % n = i then _ else _)
      rw [if_neg e, List.append_nil]
theorem sent_up (q : Bool → Int → List ByteArray) (n : Nat) (lb : List ByteArray) (k : Nat) (h : Sent q n lb k) (hk : k < lb.length) (hl : lb.length ≤ 200) (hn : 1 ≤ n) (s : ByteArray) : upE (downQ q s n) n ((k % n : Nat) : Int) = 0 := by
  have hm : k % n < n := Nat.mod_lt _ (by omega)
  have e : downQ q s n false ((k % n : Nat) : Int) = upL lb n k (k % n) := by rw [downQ_at, if_neg (by simp), (h (k % n) hm).2]
  unfold upE
  rw [if_pos ⟨by omega, by omega⟩, e, if_pos (by have := upL_length lb n k (k % n); omega)]
theorem sent_down (q : Bool → Int → List ByteArray) (n : Nat) (lb : List ByteArray) (k : Nat) (h : Sent q n lb k) (hl : lb.length ≤ 200) (s : ByteArray) : downN q s n = n := by
  refine downN_all q s n (fun i h0 h1 => ?_) n (Nat.le_refl _)
  obtain ⟨j, rfl⟩ : ∃ j : Nat, i = j := ⟨i.toNat, by omega⟩
  rw [(h j (by omega)).1, List.length_take]
  omega
end Go.Proofs.Ytfopcnabcmdclaa.Bs
