/- Frames one behind the other, with bits and flags between, in plain lists: what is met. -/
import Derived.Test.YtolodlnndojaiaaDoorUnstR
namespace Go.Proofs.YtolodlnndojaiaaDoor.Hd
open Go.RowKit Go.Proofs.YtolodlnndojaiaaDoor.Str Go.Proofs.YtolodlnndojaiaaDoor.Bits Go.Proofs.YtolodlnndojaiaaDoor.Oct Go.Proofs.YtolodlnndojaiaaDoor.Buil
set_option linter.unusedVariables false
/-- Frames as they are met. -/
def evsOf (ws : List (List UInt8)) : List Ev := ws.map fun l => ((0 : Int), l)
/-- What was fed so far ends with a 0, if it isn't nothing; the frames ws were met in it, no other one has begun. -/
def Inv (b : List UInt8) (ws : List (List UInt8)) : Prop := (∃ wi, feedL St.new b = (⟨[], wi, 0⟩, evsOf ws)) ∧ (b = [] ∨ ∃ c, b = c ++ [48])
theorem inv_start : Inv [] [] := ⟨⟨false, rfl⟩, Or.inl rfl⟩
theorem unst_ok (n : List UInt8) (h : (unstuffS n).2 = 0) : goodL n = true ∧ calm 0 n := by
  constructor
  · cases hg : goodL n with
    | true => rfl
    | false => rw [us_bad n hg] at h; cases h
  · by_cases hc : calm 0 n
    · exact hc
    · rw [us_six n hc] at h; cases h
theorem zero_step (m : Nat) (h : m ≤ 5) : feedL ⟨[], false, m⟩ [48] = (⟨[], false, 0⟩, []) := by
  match m, h with
  | 0, _ => rfl
  | 1, _ => rfl
  | 2, _ => rfl
  | 3, _ => rfl
  | 4, _ => rfl
  | 5, _ => rfl
theorem inv_noise (n : List UInt8) (h : (unstuffS n).2 = 0) : Inv (n ++ [48]) [] := by
  obtain ⟨hg, hc⟩ := unst_ok n h
  obtain ⟨c', m, hm, e, k⟩ := feed_calm n hg [] false 0 (by omega) hc
  obtain rfl : c' = [] := k rfl rfl
  refine ⟨⟨false, ?_⟩, Or.inr ⟨n, rfl⟩⟩
  have e' : feedL St.new n = (⟨[], false, m⟩, []) := e
  rw [feedL_append, e', zero_step m hm]
  rfl
theorem flag_any (wi : Bool) : feedL ⟨[], wi, 0⟩ flagL = (⟨[], true, 0⟩, []) := by cases wi <;> rfl
theorem inv_flag (b : List UInt8) (ws : List (List UInt8)) (h : Inv b ws) : Inv (b ++ flagL) ws := by
  obtain ⟨⟨wi, e⟩, _⟩ := h
  refine ⟨⟨true, ?_⟩, Or.inr ⟨b ++ [48, 49, 49, 49, 49, 49, 49], by rw [List.append_assoc]; rfl⟩⟩
  rw [feedL_append, e, flag_any]
  simp
theorem inv_flags (b : List UInt8) (ws : List (List UInt8)) (h : Inv b ws) (k : Nat) : Inv (b ++ flags k) ws := by
  induction k with
  | zero => rw [show flags 0 = [] from rfl, List.append_nil]; exact h
  | succ k ih => rw [flags, ← List.append_assoc]; exact inv_flag _ _ ih
/-- A frame more. -/
def addW (ws : List (List UInt8)) (l : List UInt8) : List (List UInt8) := if l = [] then ws else ws ++ [l]
theorem rest_evs (l : List UInt8) (hl : l.length ≤ 266) : feedL ⟨[], true, 0⟩ (stuffL (ofL l) ++ flagL) = (⟨[], true, 0⟩, evsOf (addW [] l)) := by
  rw [feed_rest, met_of]
  unfold addW
  by_cases h : l = []
  · rw [if_pos h, if_pos h]; rfl
  · rw [if_neg h, if_neg h, if_neg (by omega)]; rfl
theorem evs_add (ws : List (List UInt8)) (l : List UInt8) : evsOf (addW ws l) = evsOf ws ++ evsOf (addW [] l) := by
  unfold addW evsOf
  by_cases h : l = []
  · rw [if_pos h, if_pos h]; simp
  · rw [if_neg h, if_neg h]; simp
theorem enc_end (l : List UInt8) : ∃ c, encL l = c ++ [48] := ⟨flagL ++ stuffL (ofL l) ++ [48, 49, 49, 49, 49, 49, 49], by unfold encL; rw [List.append_assoc _ [48, 49, 49, 49, 49, 49, 49]]; rfl⟩
theorem enc_drop (l : List UInt8) : (encL l).drop 1 = flagL.drop 1 ++ (stuffL (ofL l) ++ flagL) := by
  unfold encL
  rw [List.append_assoc]; rfl
theorem enc_drop_end (l : List UInt8) : ∃ c, (encL l).drop 1 = c ++ [48] := ⟨flagL.drop 1 ++ (stuffL (ofL l) ++ [48, 49, 49, 49, 49, 49, 49]), by rw [enc_drop, List.append_assoc, List.append_assoc]; rfl⟩
theorem inv_frame (b : List UInt8) (ws : List (List UInt8)) (h : Inv b ws) (l : List UInt8) (hl : l.length ≤ 266) : Inv (b ++ encL l) (addW ws l) := by
  obtain ⟨⟨wi, e⟩, _⟩ := h
  obtain ⟨c, hc⟩ := enc_end l
  refine ⟨⟨true, ?_⟩, Or.inr ⟨b ++ c, by rw [hc, List.append_assoc]⟩⟩
  rw [feedL_append, e, show encL l = flagL ++ (stuffL (ofL l) ++ flagL) from by unfold encL; rw [List.append_assoc], feedL_append, flag_any, rest_evs l hl, evs_add ws l]
  simp
theorem inv_shared (b : List UInt8) (ws : List (List UInt8)) (h : Inv b ws) (l : List UInt8) (hl : l.length ≤ 266) : Inv (b ++ (encL l).drop 1) (addW ws l) := by
  obtain ⟨⟨wi, e⟩, _⟩ := h
  obtain ⟨c, hc⟩ := enc_drop_end l
  refine ⟨⟨true, ?_⟩, Or.inr ⟨b ++ c, by rw [hc, List.append_assoc]⟩⟩
  rw [feedL_append, e, enc_drop, feedL_append, feed_shared, rest_evs l hl, evs_add ws l]
  simp
theorem inv_last (b : List UInt8) (ws : List (List UInt8)) (h : Inv b ws) (hb : b ≠ []) : b.length - 1 < b.length ∧ b[b.length - 1]? = some 48 := by
  rcases h.2 with h | ⟨c, rfl⟩
  · exact absurd h hb
  · simp
/-- What ws come to as a row's cells. -/
def strCells (ws : List (List UInt8)) : List Value := ws.map fun l => .string ⟨l.toArray⟩
theorem addW_length (ws : List (List UInt8)) (l : List UInt8) : (addW ws l).length ≤ ws.length + 1 := by unfold addW; split <;> simp
end Go.Proofs.YtolodlnndojaiaaDoor.Hd
