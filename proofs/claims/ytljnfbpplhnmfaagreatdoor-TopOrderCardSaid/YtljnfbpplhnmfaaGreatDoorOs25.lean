/- bits.Octets by its own text: eight digits make an octet, or its error. The text at most 2^47 octets long. Frames between flags, in plain lists of octets: stuffing, and a decoder's state. No program in sight, no condition. hdlc's decoder by its text: flag. Words on what a call leaves as it was. -/
import Derived.RegionTactic
import Derived.BigRegion
import Derived.Laws.OwnMore
import Derived.Maps.AppendAt
import Derived.Handy
import Derived.Laws.ResultCell
import Derived.Laws.Rows
import Derived.WalkKit
import Derived.BigCall
import Derived.Test.YtljnfbpplhnmfaaGreatDoorOs01
import Derived.Test.YtljnfbpplhnmfaaGreatDoorOs24
namespace Go.Proofs.YtljnfbpplhnmfaaGreatDoor.OctW
open Go.RowKit Go.Proofs.YtljnfbpplhnmfaaGreatDoorW.PrintWords Go.Proofs.YtljnfbpplhnmfaaGreatDoorW.PrintLast Go.Proofs.YtljnfbpplhnmfaaGreatDoorW.PrintMore Go.Proofs.YtljnfbpplhnmfaaGreatDoor.Str Go.Proofs.YtljnfbpplhnmfaaGreatDoor.Bits Go.Proofs.YtljnfbpplhnmfaaGreatDoor.Oct
set_option linter.unusedVariables false
theorem infoByte : (Tryz.prog.info? 5).map (fun i => (i.zero, i.size, i.bytes)) = some (some (.int .u8 0), 1, 1) := by kernel_rfl
def cellsOf (l : List UInt8) : List Value := l.map fun b => Value.int .u8 (b.toNat : Int)
theorem cellsOf_nums (l : List UInt8) : cellsOf l = nums .u8 (l.map fun b => (b.toNat : Int)) := by simp [cellsOf, nums]
theorem cellsOf_length (l : List UInt8) : (cellsOf l).length = l.length := by simp [cellsOf]
set_option maxHeartbeats 4000000 in
set_option maxRecDepth 1000000 in
theorem bad (s : ByteArray) (w : World) (hs : s.size ≤ 140737488351232) (hg : goodL (L s) = false) :
    Calls Tryz.prog 162 #[.string s] w fun e w' => e = .returned (.tuple #[.string ⟨#[]⟩, .int .i64 4]) ∧ Below w.heap.size w w' := by
  go_enter Tryz.func162, Tryz.ntmps162
  go_wp2_with (go_at_call 178; refine (Good.walk s w (by omega)).mono ?_; rintro e w1 ⟨he, hb⟩; rw [hg] at he; subst he)
  go_ret2
  exact ⟨rfl, hb⟩
set_option maxHeartbeats 4000000 in
set_option maxRecDepth 1000000 in
theorem odd (s : ByteArray) (w : World) (hs : s.size ≤ 140737488351232) (hg : goodL (L s) = true) (h8 : s.size % 8 ≠ 0) :
    Calls Tryz.prog 162 #[.string s] w fun e w' => e = .returned (.tuple #[.string ⟨#[]⟩, .int .i64 3]) ∧ Below w.heap.size w w' := by
  have h8' : (((s.size : Int) % 8) != 0) = true := by simpa using (by omega : ¬ (s.size : Int) % 8 = 0)
  go_enter Tryz.func162, Tryz.ntmps162
  go_wp2_with (go_at_call 178; refine (Good.walk s w (by omega)).mono ?_; rintro e w1 ⟨he, hb⟩; rw [hg] at he; subst he)
  go_ret2
  exact ⟨rfl, hb⟩
theorem sum_lt (m : Nat) (hm : m < 8) (x c : Nat) (hx : x < 2 ^ m) : x + c % 2 * 2 ^ m < 2 ^ 8 := by
  have h1 : c % 2 = 0 ∨ c % 2 = 1 := by omega
  have h2 : 2 ^ (m + 1) ≤ 2 ^ 8 := Nat.pow_le_pow_right (by decide) (by omega)
  rw [Nat.pow_succ] at h2
  rcases h1 with h | h <;> rw [h] <;> omega
theorem or_new (m : Nat) (hm : m < 8) (x c : Nat) (hx : x < 2 ^ m) (hc : c < 256) : Go.bits .or .u8 (x : Int) (Go.bits .and .u8 (c : Int) 1 * 2 ^ m % 256) = (x : Int) + (c : Int) % 2 * 2 ^ m := by
  have hs := sum_lt m hm x c hx
  have h0 : c % 2 * 2 ^ m < 2 ^ 8 := by omega
  have e1 : Go.bits .and .u8 (c : Int) 1 * 2 ^ m % 256 = ((c % 2 * 2 ^ m : Nat) : Int) := by
    rw [Field.low_bit _ (by omega) (by omega)]
    have : (c : Int) % 2 * 2 ^ m = ((c % 2 * 2 ^ m : Nat) : Int) := by simp
    rw [this]
    omega
  rw [e1, (bits_nat .u8 8 (by decide) wraps_u8 x _ (by omega) h0).2]
  rw [Nat.or_comm, Nat.mul_comm (c % 2), ← Nat.two_pow_add_eq_or_of_lt hx (c % 2)]
  simp [Int.mul_comm, Int.add_comm]
theorem partL_zero_cells (l : List UInt8) (n : Nat) : cellsOf (partL l n 0) = List.replicate n (.int .u8 0) := by
  rw [partL_zero, cellsOf, List.map_replicate]; rfl
set_option maxHeartbeats 4000000 in
set_option maxRecDepth 1000000 in
theorem good (s : ByteArray) (w : World) (hs : s.size ≤ 140737488351232) (hg : goodL (L s) = true) (h8 : s.size % 8 = 0) :
    Calls Tryz.prog 162 #[.string s] w fun e w' => e = .returned (.tuple #[.string ⟨(octsL (L s)).toArray⟩, .int .i64 0]) ∧ Below w.heap.size w w' := by
  have h8' : (((s.size : Int) % 8) != 0) = false := by simpa using (by omega : (s.size : Int) % 8 = 0)
  obtain ⟨n, hn⟩ : ∃ n, n = s.size / 8 := ⟨_, rfl⟩
  have HN := Aside0.mk hn
  have hq : (s.size : Int) / 8 = (n : Int) := by omega
  have h8n : 8 * n = s.size := by omega
  have H8 := Aside0.mk h8n
  clear h8n hn h8
  obtain ⟨i0, hi, hz0, hz1, hz2⟩ := info_parts infoByte
  go_enter Tryz.func162, Tryz.ntmps162
  go_wp2_with (first | (go_at_call 178; refine (Good.walk s w (by omega)).mono ?_; rintro e w1 ⟨he, hb⟩; rw [hg] at he; subst he) | (at_make; refine wpList_make_full _ rfl _ _ 181 rfl w.heap.size 5 i0 (.int .u8 0) 1 Tryz.underlying181 hi hz0 hz1 .i64 .i64 _ _ n rfl rfl ?m1 ?m2 ?m3 ?m4 ?m5 ?_))
  case m1 => rfl
  case m2 => rfl
  case m3 => have := H8.out; rw [hz2]; omega
  case m4 => have := H8.out; unfold maxLen; omega
  case m5 => exact hb.size
  intro w2 hown hgrow
  rw [toList_madeCells_one, ← partL_zero_cells (L s) n] at hown
  have hB := hb.grown hgrow hb.size (fun k hk => by cases hk)
  clear hgrow hb
  obtain ⟨g, HGE⟩ : ∃ g, Aside0 (g = w1.heap.size) := ⟨_, ⟨rfl⟩⟩
  rw [← HGE.out] at hown ⊢
  go_wp2
  go_loopw [21] (fun v wr => ∃ i : Nat, i ≤ s.size ∧ v = .int .i64 i ∧ wr.ownsRow w.heap.size 5 1 (.slice (some ⟨g, 0, none⟩) n n) n (cellsOf (partL (L s) n i)) ∧ Below w.heap.size w wr) (fun v _ => s.size - (intOf v).toNat)
  case atStart => exact ⟨0, Nat.zero_le _, rfl, hown, hB⟩
  case round =>
    clear hown hB
    obtain ⟨i, hi', rfl, hO, hB⟩ := hrel
    by_cases hlt : i < s.size
    · have hin : i / 8 < n := by have := H8.out; omega
      obtain ⟨x, HX⟩ : ∃ x : Int, Aside0 (x = (val (row ((L s).take i) (i / 8)) : Int)) := ⟨_, ⟨rfl⟩⟩
      have hcl : wr.cell? ⟨g, i / 8, none⟩ = some (.int .u8 x) := by
        rw [hO.cellAt (i / 8) (by omega), cellsOf, List.getElem?_map, List.getElem?_eq_getElem (by rw [partL_length]; exact hin), partL_get _ _ _ _ hin, HX.out, ← oct_num]
        rfl
      have hfr := hO.frozenAt (i / 8)
      have HO := Aside0.mk hO
      have HB := Aside0.mk hB
      have h1 : (i : Int) / 8 < (n : Int) := by omega
      have h0 : 0 ≤ (i : Int) / 8 := by omega
      have h2 : 0 ≤ (i : Int) % 8 := by omega
      have h3 : (i : Int) % 8 < 8 := by omega
      clear hO hB
      go_wp2
      go_region
      all_goals go_wp2
      have hl : i < (L s).length := by rw [← size_L]; exact hlt
      obtain ⟨_, hrl⟩ := row_new (L s) i hl
      have hv := val_lt (row ((L s).take i) (i / 8))
      rw [hrl] at hv
      have ho := or_new (i % 8) (by omega) (val (row ((L s).take i) (i / 8))) (L s)[i].toNat hv (L s)[i].toNat_lt
      rw [← HX.out] at ho
      obtain ⟨c, hc⟩ : ∃ c : UInt8, (c.toNat : Int) = x + ((L s)[i].toNat : Int) % 2 * 2 ^ (i % 8) := by
        refine ⟨UInt8.ofNat (val (row ((L s).take i) (i / 8)) + (L s)[i].toNat % 2 * 2 ^ (i % 8)), ?_⟩
        rw [UInt8.toNat_ofNat', Nat.mod_eq_of_lt (sum_lt _ (by omega) _ _ hv), HX.out]
        simp
      have hst := partL_step (L s) n i hl hin c (by rw [hc, HX.out])
      have hO2 := (HO.out.stored (i / 8) (.int .u8 (c.toNat : Int))).1
      have hB2 := HB.out.setCell (p := ⟨g, i / 8, none⟩) (HO.out.lt g rfl).1 (.int .u8 (c.toNat : Int))
      rw [hc, ← ho] at hO2 hB2
      have hst2 : cellsOf (partL (L s) n (i + 1)) = (cellsOf (partL (L s) n i)).set (i / 8) (.int .u8 (Go.bits .or .u8 x (Go.bits .and .u8 (((L s)[i].toNat : Nat) : Int) 1 * 2 ^ (i % 8) % 256))) := by
        rw [hst, cellsOf, List.map_set, ho, ← hc]; rfl
      rw [← hst2] at hO2
      go_roundw
      case rel => exact ⟨i + 1, by omega, by go_num, hO2.drew, hB2.drew⟩
      case measure => simp [intOf]; omega
    · have hil : i = s.size := by omega
      have hpa : partL (L s) n i = octsL (L s) := by
        rw [hil, HN.out, size_L, partL_all]
      rw [hpa, cellsOf_nums] at hO
      have hcv := own_string (P := Tryz.prog) Tryz.underlying181 Tryz.underlying5 Tryz.underlying9 hO
      rw [nums_of] at hcv
      clear hO hpa
      go_wp2
      go_ret2
      exact ⟨rfl, hB⟩
theorem walk (s : ByteArray) (w : World) (hs : s.size ≤ 140737488351232) :
    Calls Tryz.prog 162 #[.string s] w fun e w' => e = .returned (.tuple #[.string ⟨(octR (L s)).1.toArray⟩, .int .i64 (octR (L s)).2]) ∧ Below w.heap.size w w' := by
  unfold octR
  by_cases hg : goodL (L s) = true
  · rw [if_pos hg]
    by_cases h8 : s.size % 8 = 0
    · rw [if_pos (by rw [← size_L]; exact h8)]
      exact good s w hs hg h8
    · rw [if_neg (by rw [← size_L]; exact h8)]
      exact odd s w hs hg h8
  · rw [if_neg hg]
    exact bad s w hs (by simpa using hg)
end Go.Proofs.YtljnfbpplhnmfaaGreatDoor.OctW
namespace Go.Proofs.YtljnfbpplhnmfaaGreatDoor.Hd
open Go.RowKit Go.Proofs.YtljnfbpplhnmfaaGreatDoor.Str Go.Proofs.YtljnfbpplhnmfaaGreatDoor.Bits Go.Proofs.YtljnfbpplhnmfaaGreatDoor.Oct
set_option linter.unusedVariables false
def stS (q : List UInt8 × Nat) (x : UInt8) : List UInt8 × Nat :=
  if x = 49 then (if q.2 + 1 = 5 then (q.1 ++ [49, 48], 0) else (q.1 ++ [49], q.2 + 1)) else (q.1 ++ [48], 0)
def stF (l : List UInt8) : List UInt8 × Nat := l.foldl stS ([], 0)
def stuffL (l : List UInt8) : List UInt8 := (stF l).1
theorem stF_take (l : List UInt8) (i : Nat) (h : i < l.length) : stF (l.take (i + 1)) = stS (stF (l.take i)) l[i] := by
  unfold stF
  rw [List.take_succ_eq_append_getElem h, List.foldl_append]; rfl
theorem stS_bound (q : List UInt8 × Nat) (x : UInt8) (h : q.2 ≤ 4) : (stS q x).2 ≤ 4 ∧ (stS q x).1.length ≤ q.1.length + 2 := by
  unfold stS
  split
  · split
    · simp
    · simp; omega
  · simp
theorem stF_bound (l : List UInt8) (i : Nat) (h : i ≤ l.length) : (stF (l.take i)).2 ≤ 4 ∧ (stF (l.take i)).1.length ≤ 2 * i := by
  induction i with
  | zero => simp [stF]
  | succ i ih =>
    obtain ⟨h1, h2⟩ := ih (by omega)
    rw [stF_take l i (by omega)]
    have := stS_bound (stF (l.take i)) l[i] h1
    omega
theorem stuffL_length (l : List UInt8) : (stuffL l).length ≤ 2 * l.length := by
  have := (stF_bound l l.length (Nat.le_refl _)).2
  rwa [List.take_of_length_le (Nat.le_refl _)] at this
def flagL : List UInt8 := [48, 49, 49, 49, 49, 49, 49, 48]
def encL (l : List UInt8) : List UInt8 := flagL ++ stuffL (ofL l) ++ flagL
structure St where
  c : List UInt8
  within : Bool
  ones : Nat
def St.new : St := ⟨[], false, 0⟩
abbrev Ev := Int × List UInt8
def flagS (c : List UInt8) (was : Bool) : Option Ev :=
  if was = false ∨ c.length ≤ 6 then none else if c.length - 6 > 2128 ∨ (c.length - 6) % 8 ≠ 0 then some (2, []) else some (0, (octR (c.take (c.length - 6))).1)
def push (s : St) (x : UInt8) : St := if s.within = true ∧ s.ones ≤ 5 ∧ s.c.length ≤ 2134 then ⟨s.c ++ [x], s.within, s.ones⟩ else s
def stepS (s : St) (x : UInt8) : St × Option Ev :=
  if x = 49 then
    (if s.ones + 1 = 7 ∧ s.within = true then (⟨[], false, s.ones + 1⟩, some (1, [])) else (push ⟨s.c, s.within, s.ones + 1⟩ x, none))
  else if s.ones ≥ 5 then
    (if s.ones = 6 then (⟨[], true, 0⟩, flagS s.c s.within) else (⟨s.c, s.within, 0⟩, none))
  else (push ⟨s.c, s.within, 0⟩ x, none)
def isDig (x : UInt8) : Bool := x == 48 || x == 49
def feed1 (q : St × List Ev) (x : UInt8) : St × List Ev := if isDig x = true then ((stepS q.1 x).1, q.2 ++ (stepS q.1 x).2.toList) else q
def feedL (s : St) (l : List UInt8) : St × List Ev := l.foldl feed1 (s, [])
theorem feed_acc (l : List UInt8) (s : St) (e : List Ev) : l.foldl feed1 (s, e) = ((feedL s l).1, e ++ (feedL s l).2) := by
  unfold feedL
  induction l generalizing s e with
  | nil => simp
  | cons x l ih =>
    rw [List.foldl_cons, List.foldl_cons, ih (feed1 (s, e) x).1 (feed1 (s, e) x).2, ih (feed1 (s, []) x).1 (feed1 (s, []) x).2]
    unfold feed1
    split <;> simp
theorem feedL_append (s : St) (a b : List UInt8) : feedL s (a ++ b) = ((feedL (feedL s a).1 b).1, (feedL s a).2 ++ (feedL (feedL s a).1 b).2) := by
  show (a ++ b).foldl feed1 (s, []) = _
  rw [List.foldl_append]
  have e : a.foldl feed1 (s, []) = ((feedL s a).1, (feedL s a).2) := rfl
  rw [e, feed_acc]
theorem feedL_cons (s : St) (x : UInt8) (l : List UInt8) (h : isDig x = true) : feedL s (x :: l) = ((feedL (stepS s x).1 l).1, (stepS s x).2.toList ++ (feedL (stepS s x).1 l).2) := by
  have := feedL_append s [x] l
  rw [List.singleton_append] at this
  rw [this]
  have e : feedL s [x] = ((stepS s x).1, (stepS s x).2.toList) := by
    show feed1 (s, []) x = _
    unfold feed1
    rw [if_pos h]; rfl
  rw [e]
theorem feedL_take (s : St) (l : List UInt8) (i : Nat) (h : i < l.length) : feedL s (l.take (i + 1)) = feed1 (feedL s (l.take i)) l[i] := by
  unfold feedL
  rw [List.take_succ_eq_append_getElem h, List.foldl_append]; rfl
theorem feedL_len (s : St) (l : List UInt8) (i : Nat) (h : i ≤ l.length) : (feedL s (l.take i)).2.length ≤ i := by
  induction i with
  | zero => simp [feedL]
  | succ i ih =>
    rw [feedL_take s l i (by omega)]
    unfold feed1
    have := ih (by omega)
    split
    · simp only [List.length_append]
      have : ((stepS (feedL s (List.take i l)).1 l[i]).2.toList).length ≤ 1 := by cases (stepS (feedL s (List.take i l)).1 l[i]).2 <;> simp
      omega
    · omega
def St.ok (s : St) : Prop := s.c.length ≤ 2135
theorem push_ok (s : St) (x : UInt8) (h : s.ok) : (push s x).ok := by
  unfold push St.ok at *
  split
  · rename_i h2
    simp; omega
  · exact h
theorem stepS_ok (s : St) (x : UInt8) (h : s.ok) : (stepS s x).1.ok ∧ (stepS s x).1.ones ≤ s.ones + 1 := by
  have hp : ∀ s x, (push s x).ones = s.ones := fun s x => by unfold push; split <;> rfl
  unfold stepS
  split
  · split
    · exact ⟨Nat.zero_le _, Nat.le_refl _⟩
    · exact ⟨push_ok _ _ h, by rw [hp]; exact Nat.le_refl _⟩
  · split
    · split
      · exact ⟨Nat.zero_le _, Nat.zero_le _⟩
      · exact ⟨h, Nat.zero_le _⟩
    · exact ⟨push_ok _ _ h, by rw [hp]; exact Nat.zero_le _⟩
theorem feedL_ok (s : St) (l : List UInt8) (h : s.ok) : (feedL s l).1.ok ∧ (feedL s l).1.ones ≤ s.ones + l.length := by
  induction l generalizing s with
  | nil => exact ⟨h, Nat.le_refl _⟩
  | cons x l ih =>
    cases hd : isDig x with
    | true =>
      rw [feedL_cons s x l hd]
      have h1 := stepS_ok s x h
      have h2 := ih _ h1.1
      exact ⟨h2.1, by simp only [List.length_cons]; omega⟩
    | false =>
      have e : feedL s (x :: l) = feedL s l := by
        unfold feedL
        rw [List.foldl_cons]
        unfold feed1
        rw [if_neg (by rw [hd]; decide)]
      rw [e]
      have h2 := ih s h
      exact ⟨h2.1, by simp only [List.length_cons]; omega⟩
end Go.Proofs.YtljnfbpplhnmfaaGreatDoor.Hd
namespace Go.Proofs.YtljnfbpplhnmfaaGreatDoor.Hd
open Go.RowKit Go.Proofs.YtljnfbpplhnmfaaGreatDoorW.PrintWords Go.Proofs.YtljnfbpplhnmfaaGreatDoorW.PrintLast Go.Proofs.YtljnfbpplhnmfaaGreatDoorW.PrintMore Go.Proofs.YtljnfbpplhnmfaaGreatDoor.Str Go.Proofs.YtljnfbpplhnmfaaGreatDoor.Bits Go.Proofs.YtljnfbpplhnmfaaGreatDoor.Oct Go.Proofs.YtljnfbpplhnmfaaGreatDoor.OctW
set_option linter.unusedVariables false
structure Kb (T : Nat → Prop) (w w' : World) : Prop where
  os : w'.os = w.os
  tape : w'.tape = w.tape
  output : w'.output = w.output
  size : w.heap.size ≤ w'.heap.size
  block : ∀ k, k < w.heap.size → ¬ T k → w'.heap[k]? = w.heap[k]?
theorem Kb.refl (T : Nat → Prop) (w : World) : Kb T w w := ⟨rfl, rfl, rfl, Nat.le_refl _, fun _ _ _ => rfl⟩
theorem Kb.trans {T T' : Nat → Prop} {a b c : World} (h : Kb T a b) (k : Kb T' b c) (hT : ∀ j, j < a.heap.size → T' j → T j) : Kb T a c :=
  ⟨k.os.trans h.os, k.tape.trans h.tape, k.output.trans h.output, Nat.le_trans h.size k.size, fun i hi hn => (k.block i (Nat.lt_of_lt_of_le hi h.size) (fun t => hn (hT i hi t))).trans (h.block i hi hn)⟩
theorem Kb.mono {T T' : Nat → Prop} {w w' : World} (h : Kb T w w') (hT : ∀ k, T k → T' k) : Kb T' w w' := ⟨h.os, h.tape, h.output, h.size, fun k hk hn => h.block k hk (fun t => hn (hT k t))⟩
theorem Kb.alloc {T : Nat → Prop} {a w : World} (h : Kb T a w) (o : Obj) : Kb T a (w.alloc o) :=
  h.trans (T' := fun _ => False) ⟨rfl, rfl, rfl, by simp, fun k hk _ => Below.heap_alloc _ _ _ hk⟩ (fun _ _ h => h.elim)
theorem Kb.setCell {T : Nat → Prop} {a w : World} (h : Kb T a w) {p : Addr} (hp : p.block < a.heap.size → T p.block) (u : Value) : Kb T a (w.setCell p u) :=
  h.trans (T' := fun j => j = p.block) ⟨rfl, rfl, rfl, by simp [World.setCell], fun k _ hk => Below.heap_setCell _ _ _ _ hk⟩ (fun j hj e => by subst e; exact hp hj)
theorem Kb.grown {T : Nat → Prop} {a w w' : World} {row : Option Nat} (h : Kb T a w) (hg : w.grownBy w' row) (hr : ∀ k, row = some k → k < a.heap.size → T k) : Kb T a w' :=
  h.trans (T' := fun j => row = some j) ⟨hg.os, hg.tape, hg.output, hg.size, fun k hk hn => hg.block k hk (fun e => hn e.symm)⟩ (fun j hj e => hr j e hj)
theorem Kb.ofBelow {T : Nat → Prop} {a w w' : World} (h : Kb T a w) (hb : Below w.heap.size w w') : Kb T a w' :=
  h.trans (T' := fun _ => False) ⟨hb.os, hb.tape, hb.output, hb.size, fun k hk _ => hb.block k hk⟩ (fun _ _ h => h.elim)
theorem Kb.below {T : Nat → Prop} {w w' : World} {B : Nat} (h : Kb T w w') (hB : B ≤ w.heap.size) (hT : ∀ k, T k → B ≤ k) : Below B w w' :=
  ⟨h.os, h.tape, h.output, h.size, fun k hk => h.block k (by omega) (fun t => by have := hT k t; omega)⟩
theorem Kb.row {T : Nat → Prop} {w w' : World} (h : Kb T w w') {B : Nat} {e : TypeId} {z n : Nat} {v : Value} {xs : List Value} (ho : w.ownsRow B e z v n xs) (hn : ∀ j, v.ownBlock = some j → ¬ T j) : w'.ownsRow B e z v n xs := by
  obtain ⟨h1, h2⟩ := ho
  refine ⟨h1, ?_⟩
  rcases h2 with h2 | ⟨g, cap, cur, rfl, hg, hh, r⟩
  · exact Or.inl h2
  · exact Or.inr ⟨g, cap, cur, rfl, hg, by rw [h.block g (Array.getElem?_eq_some_iff.1 hh).1 (hn g rfl)]; exact hh, r⟩
theorem own_ne {w : World} {B d z n : Nat} {e T : TypeId} {v : Value} {xs : List Value} {cs : Array Value} {m : Nat × Nat} (ho : w.ownsRow B e z v n xs) (h : w.heap[d]? = some (.cells cs T m)) (hne : T ≠ e) (j : Nat) (hj : v.ownBlock = some j) : j ≠ d := by
  rcases ho.2 with ⟨rfl, _⟩ | ⟨g, cap, cur, rfl, _, hh, _⟩
  · cases hj
  · rintro rfl
    obtain rfl : g = j := by simpa [Value.ownBlock] using hj
    rw [hh] at h
    injection h with h
    injection h with _ h2 _
    exact hne h2.symm
def DecAt (B : Nat) (w : World) (d : Nat) (v : Value) (s : St) : Prop :=
  w.heap[d]? = some (.cells #[v, .bool s.within, .int .i64 (s.ones : Int)] 199 (0, 0)) ∧ w.ownsRow B 5 1 v s.c.length (cellsOf s.c)
theorem DecAt.lt {B : Nat} {w : World} {d : Nat} {v : Value} {s : St} (h : DecAt B w d v s) : d < w.heap.size := (Array.getElem?_eq_some_iff.1 h.1).1
def evV (e : Ev) : Value := .agg #[.int .i64 e.1, .string ⟨e.2.toArray⟩]
theorem own_shape8 {w : World} {base : Nat} {e : TypeId} {v : Value} {l : List UInt8} (h : w.ownsRow base e 1 v l.length (cellsOf l)) : ∃ A c, v = .slice A l.length c ∧ l.length ≤ c := by
  rcases h.2 with ⟨rfl, h1⟩ | ⟨g, cap, cur, rfl, _, _, h2, _⟩
  · have : l = [] := List.eq_nil_of_length_eq_zero h1
    subst this
    exact ⟨none, 0, rfl, Nat.le_refl _⟩
  · exact ⟨_, _, rfl, h2⟩
theorem own_take8 {w : World} {base : Nat} {e : TypeId} {A : Option Addr} {n c : Nat} {l : List UInt8} (h : w.ownsRow base e 1 (.slice A n c) n (cellsOf l)) (k : Nat) (hk : k ≤ n) : w.ownsRow base e 1 (.slice A k c) (l.take k).length (cellsOf (l.take k)) := by
  obtain ⟨h1, h2⟩ := h
  rw [cellsOf_length] at h1
  have hl : (l.take k).length = k := by rw [List.length_take]; omega
  rw [hl]
  refine ⟨by rw [cellsOf_length, hl]; omega, ?_⟩
  rcases h2 with ⟨e1, e2⟩ | ⟨g, cap, cur, e1, hg, hh, h3, h4, h5, h6⟩
  · injection e1 with e3 e4 e5
    subst e3; subst e5
    exact Or.inl ⟨by congr 1; omega, by omega⟩
  · injection e1 with e3 e4 e5
    subst e3; subst e5
    refine Or.inr ⟨g, c, cur, rfl, hg, hh, by omega, h4, h5, ?_⟩
    have e : cellsOf (l.take k) = (cellsOf l).take k := by simp [cellsOf, List.map_take]
    rw [e, ← h6, List.take_take]
    congr 1
    omega
theorem heap_set {w : World} {d : Nat} {a b c : Value} {T : TypeId} {m : Nat × Nat} (h : w.heap[d]? = some (.cells #[a, b, c] T m)) (v : Value) :
    (w.setCell ⟨d, 0, none⟩ v).heap[d]? = some (.cells #[v, b, c] T m) ∧ (w.setCell ⟨d, 1, none⟩ v).heap[d]? = some (.cells #[a, v, c] T m) ∧ (w.setCell ⟨d, 2, none⟩ v).heap[d]? = some (.cells #[a, b, v] T m) := by
  simp [World.setCell, Array.getElem?_modify, h]
theorem heap_al {w : World} {d : Nat} {o : Obj} (h : w.heap[d]? = some o) (o' : Obj) : (w.alloc o').heap[d]? = some o := (Below.heap_alloc _ _ _ (Array.getElem?_eq_some_iff.1 h).1).trans h
theorem heap_set2 {w : World} {d : Nat} {a b : Value} {T : TypeId} {m : Nat × Nat} (h : w.heap[d]? = some (.cells #[a, b] T m)) (v u : Value) :
    ((w.setCell ⟨d, 0, none⟩ v).setCell ⟨d, 1, none⟩ u).heap[d]? = some (.cells #[v, u] T m) := by
  simp [World.setCell, Array.getElem?_modify, h]
theorem ret_cell_tmp {P : Program} {fn : Func} {p u : Tmp} {ty : TypeId} (h : fn.results = #[.cell p ty, .tmp u]) (tmps : Array Value) (w : World) (g : Nat) (t : TypeId) (cs : Array Value) (fr : Nat × Nat) (d : TypeDesc)
    (hp : tmps.getD p undef = .pointer (some ⟨g, 0, none⟩)) (hg : w.heap[g]? = some (.cells cs t fr))
    (hu : P.underlying ty = some d) (hd : (match d with | .struct _ | .array _ _ => true | _ => false) = true) (hi : (P.info? ty).map (·.size) = some cs.size) :
    (results fn tmps).run P w = .ok (.tuple #[.agg cs, tmps.getD u undef]) w := by
  rw [results_cell_tmp h, hp]
  simp [asAddr, Result.andThen, run_loadVar_row w g t ty cs fr d hg hu hd hi]
set_option maxHeartbeats 4000000 in
set_option maxRecDepth 1000000 in
theorem flag (B d : Nat) (v : Value) (s : St) (w : World) (h : DecAt B w d v s) (hok : s.ok) :
    Calls Tryz.prog 136 #[.pointer (some ⟨d, 0, none⟩)] w fun e w' => e = .returned (.tuple #[evV ((flagS s.c s.within).getD (0, [])), .bool (flagS s.c s.within).isSome]) ∧ (w'.heap[d]? = some (.cells #[.slice none 0 0, .bool true, .int .i64 (s.ones : Int)] 199 (0, 0)) ∧ Kb (fun j => j = d) w w') := by
  have hd := h.lt
  obtain ⟨cl, wi, on⟩ := s
  obtain ⟨hh, ho⟩ := h
  replace hh : w.heap[d]? = some (.cells #[v, .bool wi, .int .i64 (on : Int)] 199 (0, 0)) := hh
  replace ho : w.ownsRow B 5 1 v cl.length (cellsOf cl) := ho
  replace hok : cl.length ≤ 2135 := hok
  obtain ⟨A, c, rfl, hc⟩ := own_shape8 ho
  show Calls _ _ _ _ fun e w' => e = .returned (.tuple #[evV ((flagS cl wi).getD (0, [])), .bool (flagS cl wi).isSome]) ∧ (w'.heap[d]? = some (.cells #[.slice none 0 0, .bool true, .int .i64 (on : Int)] 199 (0, 0)) ∧ Kb (fun j => j = d) w w')
  have c0 : w.cell? ⟨d, 0, none⟩ = some (.slice A cl.length c) := by rw [Lib.cell_of_heap hh]; rfl
  have c1 : w.cell? ⟨d, 1, none⟩ = some (.bool wi) := by rw [Lib.cell_of_heap hh]; rfl
  have f0 := Lib.frozen_of_heap hh 0
  have f1 := Lib.frozen_of_heap hh 1
  have HH := Aside0.mk hh
  have HO := Aside0.mk ho
  clear hh ho
  obtain ⟨wf, hwf⟩ : ∃ wf, wf = (w.setCell ⟨d, 0, none⟩ (.slice none 0 0)).setCell ⟨d, 1, none⟩ (.bool true) := ⟨_, rfl⟩
  have hfin : wf.heap[d]? = some (.cells #[.slice none 0 0, .bool true, .int .i64 (on : Int)] 199 (0, 0)) ∧ Kb (fun j => j = d) w wf := by
    subst hwf
    exact ⟨(heap_set (heap_set HH.out _).1 _).2.1, ((Kb.refl (fun j => j = d) w).setCell (p := ⟨d, 0, none⟩) (fun _ => rfl) _).setCell (p := ⟨d, 1, none⟩) (fun _ => rfl) _⟩
  have HF := Aside0.mk hfin
  have HW := Aside0.mk hwf.symm
  clear hfin hwf
  by_cases hno : wi = false ∨ cl.length ≤ 6
  · have hfl : flagS cl wi = none := by unfold flagS; rw [if_pos hno]
    rw [hfl]
    cases wi with
    | false =>
      go_enter Tryz.func136, Tryz.ntmps136
      go_wp2
      go_returns
      rw [HW.out]
      exact ⟨rfl, heap_al HF.out.1 _, HF.out.2.alloc _⟩
    | true =>
      have h6 : cl.length ≤ 6 := by simpa using hno
      go_enter Tryz.func136, Tryz.ntmps136
      go_wp2
      go_returns
      rw [HW.out]
      exact ⟨rfl, heap_al HF.out.1 _, HF.out.2.alloc _⟩
  · obtain rfl : wi = true := by cases wi <;> simp at hno ⊢
    have h6 : 6 < cl.length := by simpa using hno
    clear hno
    have hs0 : ¬ ((cl.length : Int) - 5 - 1 ≤ 0) := by omega
    have hs1 : (cl.length : Int) - 5 - 1 ≤ (c : Int) := by omega
    by_cases hbad : cl.length - 6 > 2128 ∨ (cl.length - 6) % 8 ≠ 0
    · have hfl : flagS cl true = some (2, []) := by unfold flagS; rw [if_neg (by simp; omega), if_pos hbad]
      rw [hfl]
      by_cases hb1 : 2128 < (cl.length : Int) - 5 - 1
      · clear hbad
        go_enter Tryz.func136, Tryz.ntmps136
        go_wp2
        go_returns
        rw [HW.out]
        exact ⟨rfl, heap_al HF.out.1 _, HF.out.2.alloc _⟩
      · have hb2 : ¬ (((cl.length : Int) - 5 - 1) % 8 = 0) := by omega
        clear hbad
        go_enter Tryz.func136, Tryz.ntmps136
        go_wp2
        go_returns
        rw [HW.out]
        exact ⟨rfl, heap_al HF.out.1 _, HF.out.2.alloc _⟩
    · have hfl : flagS cl true = some (0, (octR (cl.take (cl.length - 5 - 1))).1) := by unfold flagS; rw [if_neg (by simp; omega), if_neg hbad]; rfl
      have HFL := Aside0.mk hfl
      have hb1 : ¬ 2128 < (cl.length : Int) - 5 - 1 := by omega
      have hb2 : ((cl.length : Int) - 5 - 1) % 8 = 0 := by omega
      have hO2 := own_take8 HO.out (cl.length - 5 - 1) (by omega)
      rw [cellsOf_nums] at hO2
      have hcv := own_string (P := Tryz.prog) Tryz.underlying181 Tryz.underlying5 Tryz.underlying9 ((HF.out.2.alloc (.cells #[.int .i64 0, .string ⟨#[]⟩] 160)).row hO2 (own_ne hO2 HH.out (by decide)))
      rw [nums_of] at hcv
      have hsz : (⟨(cl.take (cl.length - 5 - 1)).toArray⟩ : ByteArray).size ≤ 140737488351232 := by rw [size_L, L_mk, List.length_take]; omega
      have HSZ := Aside0.mk hsz
      clear hbad hfl hO2 hsz
      rw [← HW.out] at hcv
      go_enter Tryz.func136, Tryz.ntmps136
      go_wp2_with fail
      rw [HW.out]
      have hws : wf.heap.size = w.heap.size := by rw [← HW.out]; simp [World.setCell]
      have hnew := Go.heap_alloc_new wf (.cells #[.int .i64 0, .string ⟨#[]⟩] 160)
      rw [hws] at hnew
      refine (OctW.walk _ _ HSZ.out).mono ?_
      rintro e w1 ⟨rfl, hb⟩
      have hk1 := (HF.out.2.alloc (.cells #[.int .i64 0, .string ⟨#[]⟩] 160)).ofBelow hb
      have hd1 := heap_al HF.out.1 (.cells #[.int .i64 0, .string ⟨#[]⟩] 160)
      rw [← hb.block d (Array.getElem?_eq_some_iff.1 hd1).1] at hd1
      rw [← hb.block _ (Array.getElem?_eq_some_iff.1 hnew).1] at hnew
      clear hb hcv
      have e0 : w1.cell? ⟨w.heap.size, 0, none⟩ = some (.int .i64 0) := by rw [Lib.cell_of_heap hnew]; rfl
      have e1 : w1.cell? ⟨w.heap.size, 1, none⟩ = some (.string ⟨#[]⟩) := by rw [Lib.cell_of_heap hnew]; rfl
      have f2 := Lib.frozen_of_heap hnew 0
      have f3 := Lib.frozen_of_heap hnew 1
      have HD1 := Aside0.mk hd1
      have HK1 := Aside0.mk hk1
      clear hd1 hk1
      rw [L_mk]
      go_wp2
      have hEV := Aside0.mk (heap_set2 hnew (.int .i64 0) (.string ⟨(octR (List.take (cl.length - 5 - 1) cl)).1.toArray⟩))
      clear hnew
      try simp only [Exit.inBlock, Exit.then]
      refine bodyPost_ret (ret_cell_tmp rfl _ _ _ _ _ _ _ rfl hEV.out Tryz.underlying160 rfl (by kernel_rfl)) rfl ?_
      rw [HFL.out]
      have hne : w.heap.size ≠ d := by omega
      refine ⟨rfl, ?_, (HK1.out.setCell (p := ⟨w.heap.size, 0, none⟩) (fun h => absurd h (Nat.lt_irrefl _)) _).setCell (p := ⟨w.heap.size, 1, none⟩) (fun h => absurd h (Nat.lt_irrefl _)) _⟩
      rw [Below.heap_setCell _ _ _ _ (fun e => hne e.symm), Below.heap_setCell _ _ _ _ (fun e => hne e.symm)]
      exact HD1.out
end Go.Proofs.YtljnfbpplhnmfaaGreatDoor.Hd
