/- The units that one side is told, against those that the other one sent, in plain words. No program in sight; no condition. From the laws' rows' premise (the tables of packages ctrl and utf8 read as laid) to what the walks take; a world for a card's witness. The law TopUnits by its own text: it answers true. Condition: the tables of package ctrl stand as they were laid. The row TopUnits: its arguments opened, the walk, the answer. No condition. -/
import Derived.Test.YtljnfbpplhnmfaaGreatDoorRows
import Derived.Lib.LaidTab
import Derived.ProofKit
import Derived.Deep.DeepHandedRow
import Derived.SizedLaws
import Derived.ChangeSlices
import Derived.Test.YtljnfbpplhnmfaaGreatDoorCards
import Derived.Test.YtljnfbpplhnmfaaGreatDoorTie
import Derived.WalkKit
import Derived.OpenShut
import Derived.ShutString
import Derived.ChangeOld
import Derived.Below
import Derived.Lib.SmallJoins
import Derived.ChangeArms
import Derived.Test.YtljnfbpplhnmfaaGreatDoorUs13
import Derived.Test.YtljnfbpplhnmfaaGreatDoorUs23
import Derived.Test.YtljnfbpplhnmfaaGreatDoorUs27
namespace Go.Proofs.YtljnfbpplhnmfaaGreatDoor.Md
set_option linter.unusedVariables false
set_option linter.unusedSimpArgs false
def ui (l : List Fr) : List ByteArray := (l.filter (fun f => decide (f.kind = 6))).map (·.info)
theorem ui_app (l m : List Fr) : ui (l ++ m) = ui l ++ ui m := by simp [ui]
theorem ui_cons (f : Fr) (l : List Fr) : ui (f :: l) = (if f.kind = 6 then [f.info] else []) ++ ui l := by
  unfold ui
  by_cases h : f.kind = 6 <;> simp [List.filter, h]
def uv (e : E) : List ByteArray × List ByteArray := (ui (frsO e.out), utsO e.out)
theorem utsO_app (l m : List Ef) : utsO (l ++ m) = utsO l ++ utsO m := by simp [utsO]
theorem frsO_app' (l m : List Ef) : frsO (l ++ m) = frsO l ++ frsO m := by simp [frsO]
theorem uv_tell (e : E) (x : Ef) (h6 : x.kind ≠ 6) (h : x.kind = 0 → x.fr.kind ≠ 6) : uv (tell e x) = uv e := by
  have h1 : utsO [x] = [] := by simp [utsO, List.filter, h6]
  have h2 : ui (frsO [x]) = [] := by
    by_cases h0 : x.kind = 0
    · simp [ui, frsO, List.filter, h0, h h0]
    · simp [ui, frsO, List.filter, h0]
  simp only [uv, tell, utsO_app, frsO_app', ui_app, h1, h2, List.append_nil]
theorem uv_told (e : E) (k : Int) (d : ByteArray) (h0 : k ≠ 0) (h6 : k ≠ 6) : uv (told e k d) = uv e := uv_tell e _ h6 (fun h => absurd h h0)
theorem uv_sendData (e : E) (k : Int) (c p : Bool) (ns : Int) (s : ByteArray) (hk : k ≠ 6) : uv (sendData e k c p ns s) = uv e := uv_tell e _ (by show (0 : Int) ≠ 6; decide) (fun _ => hk)
theorem uv_send (e : E) (k : Int) (c p : Bool) (hk : k ≠ 6) : uv (send e k c p) = uv e := uv_sendData e k c p 0 nil8 hk
theorem uv_start200 (e : E) : uv (start200 e) = uv e := uv_tell { e with r200 := true } _ (by show (9 : Int) ≠ 6; decide) (fun h => absurd h (by decide))
theorem uv_start203 (e : E) : uv (start203 e) = uv e := uv_tell { e with r203 := true } _ (by show (9 : Int) ≠ 6; decide) (fun h => absurd h (by decide))
theorem uv_stop200 (e : E) : uv (stop200 e) = uv e := by
  unfold stop200; split
  · exact uv_tell { e with r200 := false } _ (by show (10 : Int) ≠ 6; decide) (fun h => absurd h (by decide))
  · rfl
theorem uv_stop203 (e : E) : uv (stop203 e) = uv e := by
  unfold stop203; split
  · exact uv_tell { e with r203 := false } _ (by show (10 : Int) ≠ 6; decide) (fun h => absurd h (by decide))
  · rfl
theorem uv_call (e : E) : uv (call e) = uv e := by
  show uv (start200 (stop203 (send { e with tries := 0 } 4 true true))) = _
  rw [uv_start200, uv_stop203, uv_send _ _ _ _ (by decide)]; rfl
theorem uv_anew (e : E) (l : ByteArray) : uv (anew e l) = uv e := by
  unfold anew
  rw [uv_call]
  exact uv_told e 7 l (by decide) (by decide)
theorem uv_goOne (e : E) : uv (goOne e) = uv e := by
  have h1 : uv (goOne1 e) = uv e := uv_sendData _ 0 true false _ _ (by decide)
  unfold goOne; split
  · exact h1
  · rw [uv_start200, uv_stop203, h1]
theorem uv_goOnN : ∀ (n : Nat) (e : E), uv (goOnN n e) = uv e
  | 0, e => rfl
  | n + 1, e => by
    unfold goOnN; split
    · rw [uv_goOnN n, uv_goOne]
    · rfl
theorem uv_goOn (e : E) : uv (goOn e) = uv e := by
  unfold goOn; split
  · exact uv_goOnN _ e
  · rfl
theorem uv_open (e : E) : uv (open_ e) = uv e := by
  unfold open_
  rw [uv_goOn]
  show uv (start203 (stop200 { e with fl := resetF e.fl })) = _
  rw [uv_start203, uv_stop200]; rfl
theorem uv_supervise (e : E) (c p : Bool) : uv (supervise e c p) = uv e := by
  unfold supervise
  exact uv_send _ _ _ _ (by split <;> decide)
theorem uv_inquire (e : E) : uv (inquire e) = uv e := by unfold inquire; rw [uv_start200, uv_supervise]
theorem uv_end (e : E) : uv (end_ e) = uv e := by
  show uv (stop203 (stop200 { e with fl := clearF e.fl })) = _
  rw [uv_stop203, uv_stop200]; rfl
theorem uv_count (e : E) (n : Nat) : uv (count e n) = uv e := by
  unfold count; split
  · rw [uv_start203, uv_stop200]
  · split
    · exact uv_start200 e
    · rfl
theorem uv_unsure (e : E) : uv (unsure e) = uv e := by
  unfold unsure; split
  · exact uv_told _ 1 nil8 (by decide) (by decide)
  · rfl
theorem uv_strange (e : E) (f : Fr) : uv (strange e f) = uv e := by
  unfold strange; split <;> exact uv_told _ 7 _ (by decide) (by decide)
theorem uv_sup2 (e : E) (f : Fr) : uv (supervised2 e f) = uv e := by
  unfold supervised2; split
  · rw [uv_start203, uv_stop200]
  · rw [uv_start200]; split
    · exact uv_stop203 e
    · rfl
theorem uv_sup1 (e : E) (f : Fr) : uv (supervised1 e f) = uv e := by
  unfold supervised1; split
  · exact uv_supervise ..
  · split
    · exact uv_told _ 7 _ (by decide) (by decide)
    · rfl
theorem uv_supervised (e : E) (f : Fr) : uv (supervised e f) = uv e := by
  have h1 : uv ({ supervised1 e f with fl := { e.fl with peer := decide (f.kind = 2) } } : E) = uv e := uv_sup1 e f
  unfold supervised
  generalize ({ supervised1 e f with fl := { e.fl with peer := decide (f.kind = 2) } } : E) = E0 at h1 ⊢
  rw [← h1]
  unfold supervised3
  split
  · split
    · rfl
    · split
      · rw [uv_goOn, uv_count]; rfl
      · split
        · rw [uv_goOn]
          exact uv_sup2 _ f
        · rw [uv_goOn]
          exact uv_sup2 _ f
  · exact uv_anew ..
theorem uv_info (e : E) (f : Fr) : uv (info e f) = uv e := by
  have h1 : uv (info1 e f) = uv e := by
    unfold info1; split
    · rw [uv_supervise]; exact uv_told _ 5 _ (by decide) (by decide)
    split
    · exact uv_send _ _ _ _ (by decide)
    split
    · exact uv_supervise ..
    · rfl
  unfold info
  rw [← h1]
  generalize info1 e f = E0
  unfold info2
  split
  · split
    · split
      · rw [uv_goOn]; rfl
      · rw [uv_goOn, uv_count]; rfl
    · rfl
  · exact uv_anew ..
theorem uv_frame (e : E) (f : Fr) (h6 : f.kind ≠ 6) : uv (frame1 e f) = uv e := by
  unfold frame1
  rw [if_neg h6]
  split
  · unfold inAssigned
    split
    · rw [uv_open, uv_told _ 1 _ (by decide) (by decide), uv_send _ _ _ _ (by decide)]
    split
    · exact uv_send _ _ _ _ (by decide)
    split
    · exact uv_strange ..
    split
    · exact uv_call ..
    · rfl
  split
  · unfold inConnecting
    split
    · exact uv_send _ _ _ _ (by decide)
    split
    · exact uv_send _ _ _ _ (by decide)
    split
    · split
      · exact uv_told _ 7 _ (by decide) (by decide)
      · rw [uv_open]
        split
        · exact uv_told _ 2 _ (by decide) (by decide)
        · exact uv_unsure e
    split
    · rw [uv_end]; exact uv_told _ 3 _ (by decide) (by decide)
    · rfl
  split
  · unfold inReleasing
    split
    · exact uv_send _ _ _ _ (by decide)
    split
    · exact uv_send _ _ _ _ (by decide)
    split
    · exact uv_told _ 7 _ (by decide) (by decide)
    split
    · rw [uv_end]; exact uv_told _ 4 _ (by decide) (by decide)
    · rfl
  · unfold inOpen
    split
    · rw [uv_open, uv_unsure, uv_told _ 7 _ (by decide) (by decide), uv_send _ _ _ _ (by decide)]
    split
    · rw [uv_end, uv_told _ 3 _ (by decide) (by decide), uv_send _ _ _ _ (by decide)]
    split
    · exact uv_strange ..
    split
    · split <;> exact uv_anew ..
    split
    · exact uv_anew ..
    split
    · exact uv_info ..
    · exact uv_supervised ..
theorem uv_unit_frame (e : E) (f : Fr) (h6 : f.kind = 6) (ho : e.out = []) : uv (frame1 e f) = ([], [f.info]) := by
  unfold frame1
  rw [if_pos h6]
  unfold uv told tell
  simp only [ho]
  rfl
theorem uv_again (e : E) (k : Int) (l : ByteArray) (g : Int) (hk : k ≠ 6) (hg : g ≠ 0 ∧ g ≠ 6) : uv (again e k l g) = uv e := by
  unfold again; split
  · rw [uv_end, uv_told _ g _ hg.1 hg.2, uv_told _ 7 _ (by decide) (by decide)]
  · rw [uv_start200, uv_send _ _ _ _ hk]; rfl
theorem uv_timeout (e : E) : uv (timeout1 e) = uv e := by
  unfold timeout1; split
  · exact uv_again _ _ _ _ (by decide) (by decide)
  split
  · exact uv_again _ _ _ _ (by decide) (by decide)
  split
  · exact uv_inquire { e with tries := 0 }
  split
  · split
    · exact uv_anew ..
    · exact uv_inquire { e with tries := e.tries + 1 }
  · rfl
theorem uv_ask (e : E) (a : Int) (s : ByteArray) (ha : a ≠ 3) : uv (ask1 e a s).2 = uv e := by
  unfold ask1
  split
  · unfold establish
    split
    · rfl
    split
    · rfl
    split
    · exact uv_call ..
    · exact uv_call ..
  split
  · unfold release
    split
    · exact uv_told _ 4 _ (by decide) (by decide)
    split
    · show uv (start200 (stop203 (send { e with fl := clearF e.fl, tries := 0 } 7 true true))) = _
      rw [uv_start200, uv_stop203, uv_send _ _ _ _ (by decide)]; rfl
    · rfl
  split
  · unfold data
    split
    · rfl
    split
    · exact uv_goOn ..
    · rfl
  unfold own
  split
  · rfl
  split
  · rfl
  · exact uv_supervise ..
theorem uv_unit (e : E) (s : ByteArray) (ho : e.out = []) : uv (ask1 e 3 s).2 = ([s], []) := by
  show uv (sendData e 6 true false 0 s) = _
  unfold uv sendData tell
  simp only [ho]
  rfl
theorem uv_nil {e : E} (h : e.out = []) : uv e = ([], []) := by unfold uv; rw [h]; rfl
structure US (s t : Sd) : Prop where
  ab : (t.units ++ ui t.way).Sublist s.unit
  ba : (s.units ++ ui s.way).Sublist t.unit
structure UP (p : Pr) : Prop where
  u : US p.a p.b
  oa : p.a.e.out = []
  ob : p.b.e.out = []
theorem UP.swap {p : Pr} (h : UP p) : UP (Md.swap p) := ⟨⟨h.u.ba, h.u.ab⟩, h.ob, h.oa⟩
theorem UP.become {p : Pr} {e : E} (h : UP p) (hv : uv e = ([], [])) : UP (become false p e) := by
  rw [become_a]
  have h1 : ui (frsO e.out) = [] := congrArg Prod.fst hv
  have h2 : utsO e.out = [] := congrArg Prod.snd hv
  refine ⟨⟨?_, ?_⟩, rfl, h.ob⟩
  · show (p.b.units ++ ui (p.b.way ++ frsO e.out)).Sublist p.a.unit
    rw [ui_app, h1, List.append_nil]; exact h.u.ab
  · show (p.a.units ++ utsO e.out ++ ui p.a.way).Sublist p.b.unit
    rw [h2, List.append_nil]; exact h.u.ba
theorem UP.taken {p : Pr} (h : UP p) (l : List Ev) : UP (p.upd false fun s => { s with taken := s.taken ++ l }) := ⟨⟨h.u.ab, h.u.ba⟩, h.oa, h.ob⟩
theorem UP.ask {p : Pr} (h : UP p) (a : Int) (ha : a ≠ 3) : UP (askP false p a) := by
  have hv : uv (ask1 p.a.e a nil8).2 = ([], []) := (uv_ask _ a _ ha).trans (uv_nil h.oa)
  unfold askP
  simp only
  split
  · exact (h.taken _).become hv
  · exact h.become hv
theorem UP.send {p : Pr} (h : UP p) (a : Int) (ha : a = 2 ∨ a = 3) : UP (sendP false p a) := by
  have h0 : UP { p with next := p.next + 1 } := ⟨⟨h.u.ab, h.u.ba⟩, h.oa, h.ob⟩
  unfold sendP
  simp only
  rcases ha with rfl | rfl
  · have hv : uv (ask1 p.a.e 2 (payload p.next)).2 = ([], []) := (uv_ask _ 2 _ (by decide)).trans (uv_nil h.oa)
    rw [if_neg (c := _ ∧ (2 : Int) = 3) (fun h => absurd h.2 (by decide))]
    split
    · exact (h0.taken _).become hv
    · exact h0.become hv
  · have hv : uv (ask1 p.a.e 3 (payload p.next)).2 = ([payload p.next], []) := uv_unit _ _ h.oa
    rw [if_pos (c := (ask1 (p.at false).e 3 (payload p.next)).1 = 0 ∧ (3 : Int) = 3) ⟨rfl, rfl⟩, if_neg (c := (ask1 (p.at false).e 3 (payload p.next)).1 = 0 ∧ (3 : Int) = 2) (fun h => absurd h.2 (by decide))]
    rw [become_a]
    have hv' : uv (ask1 (p.at false).e 3 (payload p.next)).2 = ([payload p.next], []) := hv
    generalize (ask1 (p.at false).e 3 (payload p.next)).2 = e at hv'
    have h1 : ui (frsO e.out) = [payload p.next] := congrArg Prod.fst hv'
    have h2 : utsO e.out = [] := congrArg Prod.snd hv'
    refine ⟨⟨?_, ?_⟩, rfl, h.ob⟩
    · show (p.b.units ++ ui (p.b.way ++ frsO e.out)).Sublist (p.a.unit ++ [payload p.next])
      rw [ui_app, h1, ← List.append_assoc]
      exact h.u.ab.append (List.Sublist.refl _)
    · show (p.a.units ++ utsO e.out ++ ui p.a.way).Sublist p.b.unit
      rw [h2, List.append_nil]; exact h.u.ba
theorem UP.come {p : Pr} (h : UP p) (lost : Bool) : UP (comeP false p lost) := by
  unfold comeP
  rw [show p.at false = p.a from rfl]
  cases hw : p.a.way with
  | nil => exact h
  | cons f l =>
    have hba := h.u.ba
    rw [hw, ui_cons] at hba
    simp only
    have hp : (p.a.units ++ ui l).Sublist p.b.unit := by
      refine List.Sublist.trans ?_ hba
      exact (List.Sublist.refl _).append (List.sublist_append_right ..)
    have h0 : UP (p.upd false fun s => { s with way := l }) := ⟨⟨h.u.ab, hp⟩, h.oa, h.ob⟩
    split
    · exact h0
    · by_cases h6 : f.kind = 6
      · have hv := uv_unit_frame p.a.e f h6 h.oa
        rw [become_a]
        have h1 : ui (frsO (frame1 p.a.e f).out) = [] := congrArg Prod.fst hv
        have h2 : utsO (frame1 p.a.e f).out = [f.info] := congrArg Prod.snd hv
        refine ⟨⟨?_, ?_⟩, rfl, h.ob⟩
        · show (p.b.units ++ ui (p.b.way ++ frsO (frame1 p.a.e f).out)).Sublist p.a.unit
          rw [ui_app, h1, List.append_nil]; exact h.u.ab
        · show (p.a.units ++ utsO (frame1 p.a.e f).out ++ ui l).Sublist p.b.unit
          rw [h2, List.append_assoc]
          rw [if_pos h6] at hba
          exact hba
      · exact h0.become ((uv_frame _ f h6).trans (uv_nil h.oa))
theorem UP.over {p : Pr} (h : UP p) : UP (overP false p) := by
  unfold overP
  split
  · split
    · exact h.become ((uv_timeout { p.a.e with r200 := false }).trans (uv_nil h.oa))
    · split
      · exact h.become ((uv_timeout { p.a.e with r203 := false }).trans (uv_nil h.oa))
      · exact h
  · exact h
theorem UP.askI {p : Pr} (h : UP p) (i : Bool) (a : Int) (ha : a ≠ 3) : UP (askP i p a) := by
  cases i with
  | false => exact h.ask a ha
  | true => rw [askP_swap]; exact (h.swap.ask a ha).swap
theorem UP.sendI {p : Pr} (h : UP p) (i : Bool) (a : Int) (ha : a = 2 ∨ a = 3) : UP (sendP i p a) := by
  cases i with
  | false => exact h.send a ha
  | true => rw [sendP_swap]; exact (h.swap.send a ha).swap
theorem UP.comeI {p : Pr} (h : UP p) (i l : Bool) : UP (comeP i p l) := by
  cases i with
  | false => exact h.come l
  | true => rw [comeP_swap]; exact (h.swap.come l).swap
theorem UP.overI {p : Pr} (h : UP p) (i : Bool) : UP (overP i p) := by
  cases i with
  | false => exact h.over
  | true => rw [overP_swap]; exact h.swap.over.swap
theorem UP.drainN : ∀ (k : Nat) {p : Pr}, UP p → UP (drainN k p)
  | 0, p, h => h
  | k + 1, p, h => by
    unfold Md.drainN; split
    · exact h
    · exact UP.drainN k ((h.comeI false false).comeI true false)
theorem UP.drain {p : Pr} (h : UP p) : UP (drain p) := UP.drainN _ h
theorem UP.do_ {p : Pr} (h : UP p) (a : Ac) (clean : Bool) : UP (doP p a clean) := by
  have hc : ∀ (i lost : Bool), UP (comeOr i p lost) := fun i lost => by
    unfold comeOr; split
    · exact h.overI i
    · exact h.comeI i lost
  unfold doP
  simp only
  split
  · exact h.sendI _ 3 (Or.inr rfl)
  split
  · split
    · exact h
    · exact h.askI _ 0 (by decide)
  split
  · split
    · exact h
    · exact h.askI _ 1 (by decide)
  split
  · exact h.askI _ 4 (by decide)
  split
  · exact h.askI _ 5 (by decide)
  split
  · exact hc _ _
  split
  · exact hc _ _
  · exact h.sendI _ 2 (Or.inl rfl)
theorem UP.acts {clean : Bool} : ∀ (l : List Ac) {p : Pr}, UP p → UP (l.foldl (fun p a => doP p a clean) p)
  | [], _, h => h
  | a :: l, _, h => UP.acts (clean := clean) l (h.do_ a clean)
theorem UP.run (k n : Int) (script : List Ac) (clean : Bool) : UP (runP k n script clean) := by
  have h0 : UP (begin0 k n) := ⟨⟨List.Sublist.refl _, List.Sublist.refl _⟩, rfl, rfl⟩
  unfold runP
  refine UP.acts (clean := clean) _ ?_
  split
  · exact (h0.askI false 0 (by decide)).drain
  · exact h0.askI false 0 (by decide)
theorem US.left {s t : Sd} (h : US s t) : inL t.units s.unit = [] := inL_sub ((List.sublist_append_left ..).trans h.ab)
theorem US.right {s t : Sd} (h : US s t) : inL s.units t.unit = [] := inL_sub ((List.sublist_append_left ..).trans h.ba)
theorem units_law (k n : Int) (script : List Ac) : inL (drain (runP k n script false)).a.units (drain (runP k n script false)).b.unit = [] ∧ inL (drain (runP k n script false)).b.units (drain (runP k n script false)).a.unit = [] := by
  have h := (UP.run k n script false).drain
  exact ⟨h.u.right, h.u.left⟩
end Go.Proofs.YtljnfbpplhnmfaaGreatDoor.Md
namespace Go.Proofs.YtljnfbpplhnmfaaGreatDoorX
open Go.RowKit
theorem strs_of_tab {H : Type} {enc : TypeId × Value → H} {P : Program} {w : World} {base : Nat} {sp : Nat → Bool} {held : Bool} {fuel : Nat} {t e : TypeId} {n : Nat} {cs : List Value} {zs : List (List UInt8)} {p : List MemPlace}
    (ht : P.underlying t = some (.array n e)) (he : P.underlying e = some .string) (hce : P.cellsOf e = 1) (hct : P.cellsOf t = n)
    (h : DataW.trod enc P w base sp held fuel t cs = some (.agg (zs.map fun z => .lit (.string z)), p)) : cs = zs.map fun z => Value.string ⟨z.toArray⟩ := by
  cases fuel with
  | zero => simp [DataW.trod] at h
  | succ fuel =>
    simp only [DataW.trod, ht, hce, hct, Nat.mul_one] at h
    split at h
    · rename_i hl
      obtain ⟨xs, hm, hx⟩ := Option.map_eq_some_iff.1 h
      have hxs : xs.map (·.1) = zs.map fun z => (DataW.lit (.string z) : DataW H) := by
        have := congrArg Prod.fst hx
        simpa using this
      have hxl : xs.length = n := by simpa using Lib.mapM_length hm
      have hzl : zs.length = n := by
        have := congrArg List.length hxs
        simp at this
        omega
      apply List.ext_getElem?
      intro i
      by_cases hi : i < n
      · obtain ⟨b, hb, hf⟩ := Lib.mapM_at hm i i (by simp [hi])
        obtain ⟨s, hc, rfl, _⟩ := DataW.trod_string he hf
        have h1 : cs[i]? = some (.string s) := by
          have := congrArg (·[0]?) hc
          simpa [List.getElem?_take, List.getElem?_drop] using this
        have h2 : (xs.map (·.1))[i]? = some (DataW.lit (.string s.data.toList) : DataW H) := by simp [hb]
        rw [hxs] at h2
        simp only [List.getElem?_map, Option.map_eq_some_iff, DataW.lit.injEq, Lit.string.injEq] at h2
        obtain ⟨z', hz', rfl⟩ := h2
        rw [h1, List.getElem?_map, hz']
        rfl
      · rw [List.getElem?_eq_none (by omega), List.getElem?_eq_none (by simp; omega)]
    · cases h
def namesData : List (List UInt8) := [[73], [82, 82], [82, 78, 82], [82, 69, 74], [83, 65, 66, 77, 69], [68, 77], [85, 73], [68, 73, 83, 67], [85, 65], [70, 82, 77, 82]]
theorem gFirst : Tryz.prog.globalNamed "lapwing/ctrl.first" = some 0 := by kernel_rfl
theorem gNames : Tryz.prog.globalNamed "lapwing/ctrl.names" = some 1 := by kernel_rfl
theorem tFirst : (Tryz.prog.globals[0]?).map (·.type) = some 224 := by kernel_rfl
theorem tNames : (Tryz.prog.globals[1]?).map (·.type) = some 251 := by kernel_rfl
theorem c10a : Tryz.prog.cellsOf 224 = 10 := by kernel_rfl
theorem c10b : Tryz.prog.cellsOf 251 = 10 := by kernel_rfl
theorem c1x : Tryz.prog.cellsOf 5 = 1 := by kernel_rfl
theorem c1y : Tryz.prog.cellsOf 9 = 1 := by kernel_rfl
def LaidT (W : World) : Prop := Go.Proofs.YtljnfbpplhnmfaaGreatDoor.Fw.LaidC W ∧ 1 < W.heap.size
theorem laid_ofT {W : World} (h : laidMet Tryz.prog [("unicode/utf8.acceptRanges", Go.Proofs.YtljnfbpplhnmfaaGreatDoor.Rows.laid_unicode_utf8_acceptRanges), ("lapwing/ctrl.first", Go.Proofs.YtljnfbpplhnmfaaGreatDoor.Rows.laid_lapwing_ctrl_first), ("lapwing/ctrl.names", Go.Proofs.YtljnfbpplhnmfaaGreatDoor.Rows.laid_lapwing_ctrl_names), ("unicode/utf8.first", Go.Proofs.YtljnfbpplhnmfaaGreatDoor.Rows.laid_unicode_utf8_first)] W) : LaidT W := by
  obtain ⟨ps, ⟨_, _, _, _, _, _, _, _, _, _, hr00, _⟩, _⟩ := h
  obtain ⟨g1, t1, cs1, f1, p1, q1, hg1, ht1, hv1, hd1, hr0, _⟩ := hr00
  obtain ⟨g2, t2, cs2, f2, p2, q2, hg2, ht2, hv2, hd2, hr, _⟩ := hr0
  obtain rfl := Option.some.inj (gFirst.symm.trans hg1)
  obtain rfl := Option.some.inj (tFirst.symm.trans ht1)
  obtain rfl := Option.some.inj (gNames.symm.trans hg2)
  obtain rfl := Option.some.inj (tNames.symm.trans ht2)
  have e1 := Lib.cells_of_tab (zs := Go.Proofs.YtljnfbpplhnmfaaGreatDoor.Fw.tFirst) Tryz.underlying224 Tryz.underlying5 c1x c10a hd1
  have e2 := strs_of_tab (zs := namesData) Tryz.underlying251 Tryz.underlying9 c1y c10b hd2
  have hv1' : W.var? Tryz.prog "lapwing/ctrl.first" = some (Go.Proofs.YtljnfbpplhnmfaaGreatDoor.Fw.tFirst.map (Value.int .u8)).toArray := by rw [hv1, ← Array.toArray_toList (xs := cs1), e1]
  have hv2' : W.var? Tryz.prog "lapwing/ctrl.names" = some (Go.Proofs.YtljnfbpplhnmfaaGreatDoor.Fw.tNames.map Value.string).toArray := by rw [hv2, ← Array.toArray_toList (xs := cs2), e2]; rfl
  have hc : Go.Proofs.YtljnfbpplhnmfaaGreatDoor.Fw.LaidC W := by
    refine ⟨fun i x hx => ?_, fun i x hx => ?_⟩
    · have := World.var?_cell gFirst hv1' i
      rw [this]
      simp [hx]
    · have := World.var?_cell gNames hv2' i
      rw [this]
      simp [hx]
  exact ⟨hc, World.block_lt_of_cell? W _ (hc.2 0 _ rfl)⟩
noncomputable def laidU1 (os : Os) : World :=
  { World.holding Tryz.prog os ⟨#[], #[], []⟩ with heap := (World.holding Tryz.prog os ⟨#[], #[], []⟩).heap.modify 2 fun
      | .cells _ t frozen => .cells (Go.Pinned.utf8FirstZ.map fun (n : Nat) => Value.int .u8 (n : Int)).toArray t frozen
      | o => o }
noncomputable def laidU2 (os : Os) : World :=
  { laidU1 os with heap := (laidU1 os).heap.modify 3 fun
      | .cells _ t frozen => .cells #[.int .u8 128, .int .u8 191, .int .u8 160, .int .u8 191, .int .u8 128, .int .u8 159, .int .u8 144, .int .u8 191, .int .u8 128, .int .u8 143, .int .u8 0, .int .u8 0, .int .u8 0, .int .u8 0, .int .u8 0, .int .u8 0, .int .u8 0, .int .u8 0, .int .u8 0, .int .u8 0, .int .u8 0, .int .u8 0, .int .u8 0, .int .u8 0, .int .u8 0, .int .u8 0, .int .u8 0, .int .u8 0, .int .u8 0, .int .u8 0, .int .u8 0, .int .u8 0] t frozen
      | o => o }
noncomputable def laidU3 (os : Os) : World :=
  { laidU2 os with heap := (laidU2 os).heap.modify 0 fun
      | .cells _ t frozen => .cells #[.int .u8 0, .int .u8 1, .int .u8 5, .int .u8 9, .int .u8 111, .int .u8 15, .int .u8 3, .int .u8 67, .int .u8 99, .int .u8 135] t frozen
      | o => o }
noncomputable def laidWorldT (os : Os) : World :=
  { laidU3 os with heap := (laidU3 os).heap.modify 1 fun
      | .cells _ t frozen => .cells #[.string ⟨#[73]⟩, .string ⟨#[82, 82]⟩, .string ⟨#[82, 78, 82]⟩, .string ⟨#[82, 69, 74]⟩, .string ⟨#[83, 65, 66, 77, 69]⟩, .string ⟨#[68, 77]⟩, .string ⟨#[85, 73]⟩, .string ⟨#[68, 73, 83, 67]⟩, .string ⟨#[85, 65]⟩, .string ⟨#[70, 82, 77, 82]⟩] t frozen
      | o => o }
end Go.Proofs.YtljnfbpplhnmfaaGreatDoorX
namespace Go.Proofs.YtljnfbpplhnmfaaGreatDoor.Pa
open Go Go.RowKit Go.Proofs.YtljnfbpplhnmfaaGreatDoorW.PrintWords Go.Proofs.YtljnfbpplhnmfaaGreatDoorW.PrintLast Go.Proofs.YtljnfbpplhnmfaaGreatDoorW.PrintMore Go.Proofs.YtljnfbpplhnmfaaGreatDoor.Str Go.Proofs.YtljnfbpplhnmfaaGreatDoor.Mp Go.Proofs.YtljnfbpplhnmfaaGreatDoor.Ra Go.Proofs.YtljnfbpplhnmfaaGreatDoor.Sl Go.Proofs.YtljnfbpplhnmfaaGreatDoor.Qu Go.Proofs.YtljnfbpplhnmfaaGreatDoor.Ru Go.Proofs.YtljnfbpplhnmfaaGreatDoor.Md Go.Proofs.YtljnfbpplhnmfaaGreatDoor.Ta
set_option linter.unusedVariables false
set_option linter.unusedSimpArgs false
set_option maxRecDepth 1000000
set_option maxHeartbeats 8000000
theorem topUnitsW (k : Int) (A : Option Addr) (len cap : Nat) (l : List Ac) (w : World) (hL : Fw.LaidC w) (h0 : 1 < w.heap.size) (hA : Acts w A len cap l) :
    Calls Tryz.prog 6 #[.int .i64 k, .slice A len cap] w fun r w' => r = .returned (.bool true) ∧ Below w.heap.size w w' := by
  have HN := Aside0.mk (ln0 hL h0)
  have HRN := Aside0.mk (runC k 3 A len cap l false w hL h0 hA)
  have HLK : Aside0 (∀ w', Below w.heap.size w w' → Calls Tryz.prog 9 #[] w' fun r w'' => r = .returned (.bool true) ∧ Below w'.heap.size w' w'') := ⟨fun w' hb => linksC w' (hL.below hb) (Nat.lt_of_lt_of_le h0 hb.size)⟩
  obtain ⟨p0, HP0⟩ : ∃ q, Aside0 (runP k 3 l false = q) := ⟨_, ⟨rfl⟩⟩
  obtain ⟨d, HD⟩ : ∃ q, Aside0 (Md.drain p0 = q) := ⟨_, ⟨rfl⟩⟩
  have hlaw := units_law k 3 l
  rw [HP0.out, HD.out] at hlaw
  have HLAW := Aside0.mk hlaw
  clear hlaw hL h0 hA
  rw [HP0.out] at HRN
  go_enter Tryz.func6, Tryz.ntmps6
  go_wp2_with fail
  refine HRN.out.mono ?_
  rintro r w1 ⟨I, rfl, hw1⟩
  have HW1 := Aside0.mk hw1
  have HB1 : Aside0 (Below w.heap.size w w1) := ⟨hw1.keeps.below (Nat.le_refl _) (fun k hk => hk.elim)⟩
  clear hw1 HRN
  go_wp2_with fail
  refine (HLK.out w1 HB1.out).mono ?_
  rintro r w2 ⟨rfl, hb2⟩
  have HW2 := Aside0.mk (HW1.out.below hb2)
  clear hb2 HLK HW1 HB1
  go_wp2_with fail
  refine (drainC I 20000000 p0 (by decide) _ w w2 HN.out HW2.out).mono ?_
  rintro r w3 ⟨rfl, hw3⟩
  rw [HD.out] at hw3
  have HW3 : Aside0 (Went (pairAt I 700000000 d) (fun _ => False) w w3) := ⟨growP hw3 (by decide) (by decide)⟩
  clear hw3 HW2
  obtain ⟨A0, c0, A1, c1, A2, c2, A3, c3, A4, c4, A5, c5, A6, c6, A7, c7, A8, c8, A9, c9, HO1, hok⟩ := pairAt.opened HW3.out
  have HO := Aside0.mk HO1
  have HI1 : Aside0 (∀ m, Calls Tryz.prog 11 #[.slice A6 d.a.units.length c6, .slice A9 d.b.unit.length c9] (w3.drewN m) fun r w' => r = .returned (.bool true) ∧ w' = w3.drewN m) := ⟨fun m => by
    obtain ⟨T1, h1⟩ := HO.out.get 10 rfl
    obtain ⟨T2, h2⟩ := HO.out.get 13 rfl
    have hb := pw_below_drewN (Below.refl w3.heap.size w3) m
    have h3 := inC _ _ d.a.units d.b.unit T1 T2 (w3.drewN m) (owns_below h1.2 hb) (owns_below h2.2 hb) (Nat.le_trans hok.a.units hok.cap) (Nat.le_trans hok.b.unit hok.cap)
    rw [decide_eq_true HLAW.out.1] at h3
    exact h3.mono fun r w' ⟨x, y⟩ => ⟨x, y.symm⟩⟩
  have HI2 : Aside0 (∀ m, Calls Tryz.prog 11 #[.slice A7 d.b.units.length c7, .slice A8 d.a.unit.length c8] (w3.drewN m) fun r w' => r = .returned (.bool true) ∧ w' = w3.drewN m) := ⟨fun m => by
    obtain ⟨T1, h1⟩ := HO.out.get 11 rfl
    obtain ⟨T2, h2⟩ := HO.out.get 12 rfl
    have hb := pw_below_drewN (Below.refl w3.heap.size w3) m
    have h3 := inC _ _ d.b.units d.a.unit T1 T2 (w3.drewN m) (owns_below h1.2 hb) (owns_below h2.2 hb) (Nat.le_trans hok.b.units hok.cap) (Nat.le_trans hok.a.unit hok.cap)
    rw [decide_eq_true HLAW.out.2] at h3
    exact h3.mono fun r w' ⟨x, y⟩ => ⟨x, y.symm⟩⟩
  obtain ⟨k6, _⟩ := cellAt (HO1.heap 1 rfl) 8 (.slice A6 d.a.units.length c6) rfl
  obtain ⟨k7, _⟩ := cellAt (HO1.heap 1 rfl) 9 (.slice A7 d.b.units.length c7) rfl
  obtain ⟨k8, _⟩ := cellAt (HO1.heap 1 rfl) 10 (.slice A8 d.a.unit.length c8) rfl
  obtain ⟨k9, _⟩ := cellAt (HO1.heap 1 rfl) 11 (.slice A9 d.b.unit.length c9) rfl
  clear HO1 hok HO
  go_wp2_with fail
  go_quiet (first | (go_at_call 11; with_reducible refine Calls.quiet_of_same (HI1.out _)) | (go_at_call 11; with_reducible refine Calls.quiet_of_same (HI2.out _)))
  have HF := Aside0.mk (HW3.out.drewN nq)
  go_wp2
  go_ret
  exact ⟨rfl, HF.out.keeps.below (Nat.le_refl _) (fun k hk => hk.elim)⟩
end Go.Proofs.YtljnfbpplhnmfaaGreatDoor.Pa
namespace Go.Proofs.YtljnfbpplhnmfaaGreatDoor.Wk
open Go.RowKit
set_option linter.unusedVariables false
theorem TopUnits (a0 : Int) (a1 : Option Addr) (len1 cap1 : Nat) (l : List Go.Proofs.YtljnfbpplhnmfaaGreatDoor.Md.Ac) (w : World) (hL : Go.Proofs.YtljnfbpplhnmfaaGreatDoorX.LaidT w) (h0 : (Lit.int .i64 a0).wf = true) (h1 : Go.Proofs.YtljnfbpplhnmfaaGreatDoor.Ta.Acts w a1 len1 cap1 l) :
    Calls Tryz.prog 6 #[.int .i64 a0, .slice a1 len1 cap1] w fun e w' => e = .returned (.bool true) ∧ Below w.heap.size w w' :=
  Go.Proofs.YtljnfbpplhnmfaaGreatDoor.Pa.topUnitsW a0 a1 len1 cap1 l w hL.1 hL.2 h1
end Go.Proofs.YtljnfbpplhnmfaaGreatDoor.Wk
namespace Go.Proofs.YtljnfbpplhnmfaaGreatDoorW.PrintWords
end Go.Proofs.YtljnfbpplhnmfaaGreatDoorW.PrintWords
namespace Go.Proofs.YtljnfbpplhnmfaaGreatDoor.topUnits
open Go.ChangeShapes Go.WideShapes Go.ChangeAt Go.RowKit
open Go.ChangeMaps (open_string shut_string)
set_option linter.unusedVariables false
theorem own : ownKnob Tryz.prog.godebug = none := by kernel_rfl
theorem laidOut : laidOutB Tryz.prog = true := by kernel_rfl
set_option maxRecDepth 100000 in
theorem contract (H : Type) (enc : TypeId × Value → H) (W : World) (base : Nat) (args : Array Value) (ds gs : List (DataW H)) (before : List MemPlace)
    (hval0 : ∀ (j : Nat) t v, Tryz.f6.params[j]? = some t → args[j]? = some v → Value.okWide Tryz.prog W .any base t v)
    (hW : DataW.Whole enc Tryz.prog Tryz.f6.params.toList Rows.topUnitsSpec.vars false W args.toList ds gs before)
    (hsz0 : (DataW.weightsEach Tryz.prog (Tryz.f6.params.toList ++ Rows.topUnitsSpec.plain.varTypes Tryz.prog) (ds ++ gs)).all (· ≤ reachBytes) = true)
    (hL : laidMet Tryz.prog Rows.topUnitsRow.laid W) :
    Calls Tryz.prog 6 args W fun e W' => ∃ v, e = .returned v ∧ Rows.topUnitsSpec.post enc Tryz.prog Tryz.f6 false true false false W args v W' := by
  have hsz : (DataW.weightsEach Tryz.prog (Tryz.f6.params.toList ++ Rows.topUnitsSpec.plain.varTypes Tryz.prog) (ds ++ gs)).all (· ≤ reachBytes) = true := hsz0
  have hval : ∀ (j : Nat) t v, Tryz.f6.params[j]? = some t → args[j]? = some v → Value.okWide Tryz.prog W .any base t v := hval0
  have hW' := hW
  obtain ⟨p, q, hA0, hV, rfl, hfz, hnd⟩ := hW
  have hA : DataW.TrodAll enc Tryz.prog W 0 (fun _ => true) true Tryz.f6.params.toList args.toList ds p := hA0
  rw [Tryz.params6] at hA hval hsz
  obtain ⟨v0, vs0, d0, ds0, p0, q0, hargs, rfl, rfl, h0, r0⟩ := trodAll_cons hA
  obtain ⟨v1, vs1, d1, ds1, p1, q1, rfl, rfl, rfl, h1, r1⟩ := trodAll_cons r0
  obtain ⟨rfl, rfl, rfl⟩ := trodAll_nil r1
  obtain rfl : args = #[v0, v1] := by cases args; simp_all
  obtain ⟨rfl, rfl⟩ := trodVars_none hV
  obtain ⟨a0, rfl, rfl, rfl, w0⟩ := open_int Tryz.underlying3 (hval 0 3 v0 rfl rfl) h0
  have k1 := h1
  have lt1 : ∀ x ∈ p1, x.block < W.heap.size := by obtain ⟨m, hm⟩ := k1; exact DataW.trod_lt m _ _ _ hm
  obtain ⟨a1, len1, cap1, rfl⟩ := okWide_slice Tryz.underlying22 (hval 1 22 v1 rfl rfl)
  obtain ⟨z1, w1⟩ := Go.Proofs.YtljnfbpplhnmfaaGreatDoor.Ta.acts_of h1
  clear hA0 hval0 hsz0 hsz
  refine (Wk.TopUnits a0 a1 len1 cap1 z1 W (Go.Proofs.YtljnfbpplhnmfaaGreatDoorX.laid_ofT hL) w0 w1).mono fun e W' ⟨he, bel⟩ => ?_
  subst he
  exact ⟨_, rfl, _, _, _, [], _, [], hW', trodAll_mk1 (shut_bool Tryz.underlying4 _), (trodAll_cons_mk (shut_int Tryz.underlying3 w0) (trodAll_cons_mk (Below.trod laidOut (by kernel_rfl) (of_decide_eq_true (by kernel_rfl)) k1 bel lt1) trodAll_mk0)), rfl, bel.frame _, fun h => by cases h⟩
theorem laid_met (os : Os) : laidMet Tryz.prog Rows.topUnitsRow.laid ((Go.Proofs.YtljnfbpplhnmfaaGreatDoorX.laidWorldT os).forCall (fun _ _ => 0) ⟨#[], #[.int .i64 0, .slice none 0 0], []⟩).memory :=
  laidMet_of_run' 8 (by kernel_rfl) (by kernel_rfl)
theorem reads (os : Os) {H : Type} (enc : TypeId × Value → H) : ∃ places, DataW.whole enc Tryz.prog ((Go.Proofs.YtljnfbpplhnmfaaGreatDoorX.laidWorldT os).forCall (fun _ _ => 0) ⟨#[], #[.int .i64 0, .slice none 0 0], []⟩).memory Tryz.f6.params.toList Rows.topUnitsSpec.vars false ((#[.int .i64 0, .slice none 0 0] : Array Value)).toList 8 = some ([.lit (.int .i64 0), .nil], [], places) :=
  ⟨[], by kernel_rfl⟩
set_option maxRecDepth 100000 in
theorem lifted (os : Os) (started : os.Started) (H : Type) (enc : TypeId × Value → H) (F : Stop.Interp) :
    ReturnsInHanded {} Tryz.checked os 6 .any ((OpenSpec.ofChange Rows.topUnitsSpec).preRow enc Tryz.prog Tryz.f6 Rows.topUnitsRow.domain false Rows.topUnitsRow.laid) (((OpenSpec.ofChange Rows.topUnitsSpec).at F).post enc Tryz.prog Tryz.f6 false true false false) := by
  obtain ⟨places, hx⟩ := reads os enc
  refine returnsInHanded_of_row (C := Tryz.checked) (s := OpenSpec.ofChange Rows.topUnitsSpec) own started (by kernel_rfl) Tryz.func6
    (witness_row_at (enc := enc) (C := Tryz.checked) false (Go.Proofs.YtljnfbpplhnmfaaGreatDoorX.laidWorldT os) #[.int .i64 0, .slice none 0 0] rfl (by kernel_rfl) (by kernel_rfl) (by kernel_rfl)
      (OpenSpec.preRow_of_cond 8 hx (by kernel_rfl) (fun k hk => by cases hk) (by kernel_rfl) (laid_met os))) ?_
  intro W base args ds gs before hval hW _ _ hsz hL hSh _
  exact contract H enc W base args ds gs before hval hW hsz hL
theorem said : Rows.TopUnitsSaid :=
  OpenClaim.holds_of_cond 6 Tryz.f6 rfl rfl rfl rfl rfl rfl rfl ⟨rfl, rfl, rfl, rfl, rfl⟩ rfl rfl rfl rfl rfl (by kernel_rfl) Tryz.func6 (by kernel_rfl)
    (of_decide_eq_true (by kernel_rfl)) (by unfold Func.isWrapper; first | (rw [if_pos (by decide +kernel)]; kernel_rfl) | (rw [if_neg (by decide +kernel)]; exact ⟨rfl, rfl⟩))
    (fun os started H enc _ F => by rw [OpenClaim.pre_eq_preRow]; exact lifted os started H enc F)
theorem stands : (Tryz.f6.params.toList.all fun t => !Tryz.prog.wantsStandIn t) = true := by kernel_rfl
theorem plain (f : FuncId) (fn : Func) (hf : Tryz.pinned.checked.prog.funcNamed Rows.topUnitsRow.func = some f) (hfn : Tryz.pinned.checked.prog.funcs[f]? = some fn) :
    false = Tryz.pinned.checked.prog.looks [] ∧ ∀ (j : Nat) t, fn.params[j]? = some t → Tryz.pinned.checked.prog.wantsStandIn t = false := by
  obtain rfl : f = 6 := Option.some.inj ((show Tryz.prog.funcNamed Rows.topUnitsRow.func = some 6 by kernel_rfl).symm.trans hf) |>.symm
  obtain rfl : fn = Tryz.f6 := (Option.some.inj (Tryz.func6.symm.trans hfn)).symm
  refine ⟨by kernel_rfl, fun j t ht => ?_⟩
  have hm : t ∈ Tryz.f6.params.toList := Array.mem_toList_iff.2 (Array.mem_of_getElem? ht)
  have h1 := List.all_eq_true.1 stands t hm
  have h2 : (!Tryz.prog.wantsStandIn t) = true := h1
  have h3 : Tryz.prog.wantsStandIn t = false := by simpa using h2
  exact h3
theorem card : Rows.TopUnitsCardSaid :=
  Claim7.holds_tied_plain_at .later [] _ _ _ _ said (fun _ h => by cases h) (by kernel_rfl) (fun _ h => by cases h) topUnits_row_tie rfl ⟨rfl, rfl⟩ (by kernel_rfl) rfl plain (by kernel_rfl)
end Go.Proofs.YtljnfbpplhnmfaaGreatDoor.topUnits
namespace Go.Proofs.YtljnfbpplhnmfaaGreatDoor
theorem topUnits_holds : Rows.TopUnitsCardSaid := topUnits.card
end Go.Proofs.YtljnfbpplhnmfaaGreatDoor
