/- What holds of both ends of a link: what an end does, so far as it matters, and a frame that comes. No program in sight; no condition. What holds of both ends of a link: a frame comes to a side that is up; all frames. No program in sight; no condition. What holds of both ends of a link at all times: what users ask, and all that happens. No program in sight; no condition. -/
import Derived.Test.YtljnfbpplhnmfaaGreatDoorOs30
namespace Go.Proofs.YtljnfbpplhnmfaaGreatDoor.Md
set_option linter.unusedVariables false
set_option linter.unusedSimpArgs false
structure V where
  st : Int
  fl : F
  q : Bool
  fr : List Fr
  ms : List Ev
  dt : List ByteArray
def view (e : E) : V := ⟨e.state, e.fl, e.asked, frsO e.out, mksO e.out, dtsO e.out⟩
abbrev mark : Ev := ⟨nil8, false⟩
theorem frsO_app (l m : List Ef) : frsO (l ++ m) = frsO l ++ frsO m := by simp [frsO]
theorem mksO_app (l m : List Ef) : mksO (l ++ m) = mksO l ++ mksO m := by simp [mksO]
theorem dtsO_app (l m : List Ef) : dtsO (l ++ m) = dtsO l ++ dtsO m := by simp [dtsO]
theorem view_tell (e : E) (x : Ef) : view (tell e x) = { view e with fr := (view e).fr ++ frsO [x], ms := (view e).ms ++ mksO [x], dt := (view e).dt ++ dtsO [x] } := by
  simp only [view, tell, frsO_app, mksO_app, dtsO_app]
theorem view_none (e : E) (x : Ef) (h : x.kind = 6 ∨ x.kind = 7 ∨ 9 ≤ x.kind) : view (tell e x) = view e := by
  rw [view_tell]
  have h0 : ¬ x.kind = 0 := by omega
  have h5 : ¬ x.kind = 5 := by omega
  have h1 : ¬ (1 ≤ x.kind ∧ x.kind ≤ 4) := by omega
  simp [frsO, mksO, dtsO, List.filter, h0, h5, h1]
theorem view_told7 (e : E) (d : ByteArray) : view (told e 7 d) = view e := view_none e _ (Or.inr (Or.inl rfl))
theorem view_told6 (e : E) (d : ByteArray) : view (told e 6 d) = view e := view_none e _ (Or.inl rfl)
theorem view_told5 (e : E) (d : ByteArray) : view (told e 5 d) = { view e with dt := (view e).dt ++ [d] } := by
  show view (tell e _) = _
  rw [view_tell]; simp [frsO, mksO, dtsO, List.filter]
theorem view_mark (e : E) (k : Int) (d : ByteArray) (h : 1 ≤ k ∧ k ≤ 4) : view (told e k d) = { view e with ms := (view e).ms ++ [mark] } := by
  show view (tell e _) = _
  rw [view_tell]
  have h0 : ¬ k = 0 := by omega
  have h5 : ¬ k = 5 := by omega
  simp [frsO, mksO, dtsO, List.filter, h0, h5, h]
theorem view_sendData (e : E) (k : Int) (c p : Bool) (ns : Int) (s : ByteArray) : view (sendData e k c p ns s) = { view e with fr := (view e).fr ++ [mkFr e k c p ns s] } := by
  show view (tell e _) = _
  rw [view_tell]; simp [frsO, mksO, dtsO, List.filter]
theorem view_send (e : E) (k : Int) (c p : Bool) : view (send e k c p) = { view e with fr := (view e).fr ++ [mkFr e k c p 0 nil8] } := view_sendData ..
theorem view_start200 (e : E) : view (start200 e) = view e := view_none { e with r200 := true } _ (Or.inr (Or.inr (by decide)))
theorem view_start203 (e : E) : view (start203 e) = view e := view_none { e with r203 := true } _ (Or.inr (Or.inr (by decide)))
theorem view_stop200 (e : E) : view (stop200 e) = view e := by
  unfold stop200; split
  · exact view_none { e with r200 := false } _ (Or.inr (Or.inr (by decide)))
  · rfl
theorem view_stop203 (e : E) : view (stop203 e) = view e := by
  unfold stop203; split
  · exact view_none { e with r203 := false } _ (Or.inr (Or.inr (by decide)))
  · rfl
theorem view_st (e : E) (s : Int) : view { e with state := s } = { view e with st := s } := rfl
theorem view_fl (e : E) (f : F) : view { e with fl := f } = { view e with fl := f } := rfl
theorem view_call (e : E) : view (call e) = { view e with st := 5, fr := (view e).fr ++ [mkFr e 4 true true 0 nil8] } := by
  unfold call
  rw [view_st, view_start200, view_stop203, view_send]
  rfl
theorem view_anew (e : E) (l : ByteArray) : view (anew e l) = { view e with st := 5, q := false, fr := (view e).fr ++ [mkFr e 4 true true 0 nil8] } := by
  unfold anew
  rw [view_call]
  have : view { told e 7 l with asked := false } = { view (told e 7 l) with q := false } := rfl
  rw [this, view_told7]
  rfl
theorem view_goOne (e : E) : view (goOne e) = { view e with fl := takeF e.fl, fr := (view e).fr ++ [mkFr { e with fl := takeF e.fl } 0 true false e.fl.vs (takeS e.fl)] } := by
  have h1 : view (goOne1 e) = { view e with fl := takeF e.fl, fr := (view e).fr ++ [mkFr { e with fl := takeF e.fl } 0 true false e.fl.vs (takeS e.fl)] } := by
    unfold goOne1
    rw [view_sendData]
    rfl
  unfold goOne; split
  · exact h1
  · rw [view_start200, view_stop203]; exact h1
theorem view_end (e : E) : view (end_ e) = { view e with st := 4, fl := clearF e.fl } := by
  unfold end_
  rw [view_st, view_stop203, view_stop200, view_fl]
theorem view_count (e : E) (n : Nat) : view (count e n) = view e := by
  unfold count; split
  · rw [view_start203, view_stop200]
  · split
    · exact view_start200 e
    · rfl
theorem view_sup2 (e : E) (f : Fr) : view (supervised2 e f) = view e := by
  unfold supervised2; split
  · rw [view_start203, view_stop200]
  · rw [view_start200]; split
    · exact view_stop203 e
    · rfl
theorem view_strange (e : E) (f : Fr) : view (strange e f) = view e := by
  unfold strange; split <;> exact view_told7 ..
theorem view_supervise (e : E) (c p : Bool) : view (supervise e c p) = { view e with fr := (view e).fr ++ [mkFr e (if e.fl.own = true then 2 else 1) c p 0 nil8] } := view_send ..
theorem view_inquire (e : E) : view (inquire e) = { view e with fr := (view e).fr ++ [mkFr e (if e.fl.own = true then 2 else 1) true true 0 nil8] } := by
  unfold inquire; rw [view_start200, view_supervise]
def JV (l : List Fr) (tk : List Ev) (td : List ByteArray) (b : Cs) (v : V) : Prop := J ⟨v.st, v.fl, v.q, l, tk ++ v.ms, td ++ v.dt⟩ { b with way := b.way ++ v.fr }
section
variable {l : List Fr} {tk : List Ev} {td : List ByteArray} {b : Cs}
theorem okI (e : E) (ns : Int) (s : ByteArray) : okF (mkFr e 0 true false ns s) := ⟨by show (0 : Int) ≤ 0 ∧ (0 : Int) ≤ 8; decide, (fun h => absurd h (by show ¬ (4 : Int) ≤ 0; decide)), fun _ => rfl, (fun h => absurd h (by show ¬ (0 : Int) = 3; decide)), (fun h => absurd h (by show ¬ ((0 : Int) = 1 ∨ (0 : Int) = 2); decide))⟩
theorem okS (e : E) (k : Int) (c p : Bool) (hk : k = 1 ∨ k = 2) (hp : c = true → p = true) : okF (mkFr e k c p 0 nil8) := ⟨by show 0 ≤ k ∧ k ≤ 8; omega, (fun h => absurd h (by show ¬ 4 ≤ k; omega)), (fun h => absurd h (by show ¬ k = 0; omega)), (fun h => absurd h (by show ¬ k = 3; omega)), fun _ h => hp h⟩
theorem okJ (e : E) : okF (mkFr e 3 false false 0 nil8) := ⟨by show (0 : Int) ≤ 3 ∧ (3 : Int) ≤ 8; decide, (fun h => absurd h (by show ¬ (4 : Int) ≤ 3; decide)), (fun h => absurd h (by show ¬ (3 : Int) = 0; decide)), fun _ => ⟨rfl, rfl⟩, (fun h => absurd h (by show ¬ ((3 : Int) = 1 ∨ (3 : Int) = 2); decide))⟩
theorem okU (e : E) (k : Int) (c p : Bool) (ns : Int) (s : ByteArray) (hk : 4 ≤ k ∧ k ≤ 8) (hp : k ≠ 6 → p = true) : okF (mkFr e k c p ns s) := ⟨by show 0 ≤ k ∧ k ≤ 8; omega, fun _ h => hp h, (fun h => absurd h (by show ¬ k = 0; omega)), (fun h => absurd h (by show ¬ k = 3; omega)), (fun h => absurd h (by show ¬ (k = 1 ∨ k = 2); omega))⟩
theorem mk_nr (e : E) (k : Int) (c p : Bool) (ns : Int) (s : ByteArray) (hk : 0 ≤ k ∧ k ≤ 3) : (mkFr e k c p ns s).nr = e.fl.vr := by
  show (if numbered k = true then e.fl.vr else 0) = _
  rw [if_pos (by simp [numbered, hk])]
theorem JV.goOne {e : E} (h : JV l tk td b (view e)) (h7 : e.state = 7) (ht : takeOk e.fl) : JV l tk td b (view (goOne e)) := by
  rw [view_goOne]
  unfold JV
  obtain ⟨_, t2, t3⟩ := ht
  have hfg := h.h1.fg
  have hw : (e.fl.vs - e.fl.va) % 128 = (e.fl.q.sent : Int) := hfg.win
  have h126 : e.fl.q.sent ≤ 126 := by unfold room at t3; omega
  have := h.sendI (g := mkFr { e with fl := takeF e.fl } 0 true false e.fl.vs (takeS e.fl)) h7 t2 h126 (okI _ _ _) rfl rfl rfl (mk_nr _ _ _ _ _ _ (by decide))
  rw [List.append_assoc] at this
  exact this
theorem JV.goOnN : ∀ (n : Nat) {e : E}, e.state = 7 → JV l tk td b (view e) → JV l tk td b (view (goOnN n e))
  | 0, e, _, h => h
  | n + 1, e, h7, h => by
    unfold Md.goOnN; split
    · rename_i ht
      exact JV.goOnN n (by rw [goOne_state]; exact h7) (h.goOne h7 ht)
    · exact h
theorem JV.goOn {e : E} (h : JV l tk td b (view e)) : JV l tk td b (view (goOn e)) := by
  unfold Md.goOn; split
  · rename_i h7; exact JV.goOnN _ h7 h
  · exact h
theorem JV.goOn' {e : E} {v : V} (h : JV l tk td b v) (hv : view e = v) : JV l tk td b (view (Md.goOn e)) := JV.goOn (by rw [hv]; exact h)
variable {e : E} {f : Fr}
theorem JV.of (h : J ⟨e.state, e.fl, e.asked, l, tk, td⟩ b) (ho : e.out = []) : JV l tk td b (view e) := by
  unfold JV view
  rw [ho]
  simpa [frsO, mksO, dtsO] using h
theorem view0 (ho : e.out = []) : view e = ⟨e.state, e.fl, e.asked, [], [], []⟩ := by unfold view; rw [ho]; rfl
theorem JV.mk' {v : V} {x y : Cs} (h : J x y) (hx : x = ⟨v.st, v.fl, v.q, l, tk ++ v.ms, td ++ v.dt⟩) (hy : y = { b with way := b.way ++ v.fr }) : JV l tk td b v := by
  unfold JV; rw [← hx, ← hy]; exact h
theorem marks1 : ∀ x ∈ [mark], x.taken = false := fun x hx => by rw [List.mem_singleton.1 hx]
theorem JV.opened (h : J ⟨e.state, e.fl, e.asked, f :: l, tk, td⟩ b) (hk : f.kind = 4) (hs : e.state = 4 ∨ e.state = 7 ∨ e.state = 8) {e0 : E} {fl : F} {mk : List Ev} (hc : cleared ⟨e.state, e.fl, e.asked, f :: l, tk, td⟩ fl (tk ++ mk)) (hv : view e0 = ⟨e.state, fl, e.asked, [mkFr e 8 false f.pf 0 nil8], mk, []⟩) : JV l tk td b (view (open_ e0)) := by
  have hok := h.h2.ok f (List.mem_cons_self ..)
  have hg := okU e 8 false f.pf 0 nil8 (by decide) (fun _ => hok.pf (by omega) (by omega))
  have hj := h.reopen rfl hk hs (g := mkFr e 8 false f.pf 0 nil8) rfl hg fl (tk ++ mk) hc e.asked
  unfold open_
  refine JV.goOn' (v := ⟨7, resetF fl, e.asked, [mkFr e 8 false f.pf 0 nil8], mk, []⟩) (JV.mk' hj (by simp) rfl) ?_
  rw [view_st, view_start203, view_stop200, view_fl, hv]
  have : e0.fl = fl := congrArg V.fl hv
  rw [this]
theorem JV.frame4 (h : J ⟨e.state, e.fl, e.asked, f :: l, tk, td⟩ b) (ho : e.out = []) (h4 : e.state = 4) : JV l tk td b (view (inAssigned e f)) := by
  have hok := h.h2.ok f (List.mem_cons_self ..)
  have hp := JV.of (h.pop rfl) ho
  unfold inAssigned
  split
  · rename_i hk
    refine JV.opened h hk (Or.inl h4) (fl := e.fl) (mk := [mark]) (Or.inr ⟨(h.h1.fg.clear_eq (h.h1.emp (Or.inl h4))).symm, [mark], rfl, by simp, marks1⟩) ?_
    rw [view_mark _ _ _ (by decide), view_send, view0 ho]; rfl
  split
  · rename_i hk
    have hg := okU e 5 false f.pf 0 nil8 (by decide) (fun _ => hok.pf (by omega) (by omega))
    refine JV.mk' (h.reply rfl (by simp [isC, hk]) (g := mkFr e 5 false f.pf 0 nil8) rfl hg (fun _ => rfl)) ?_ ?_ <;> (rw [view_send, view0 ho]; simp)
  split
  · rw [view_strange]; exact hp
  split
  · rename_i hk
    have := hok.pf (by omega) (by omega)
    rw [hk.2] at this; cases this
  · exact hp
theorem JV.frame5 (h : J ⟨e.state, e.fl, e.asked, f :: l, tk, td⟩ b) (ho : e.out = []) (h5 : e.state = 5) : JV l tk td b (view (inConnecting e f)) := by
  have hok := h.h2.ok f (List.mem_cons_self ..)
  have hp := JV.of (h.pop rfl) ho
  unfold inConnecting
  split
  · rename_i hk
    have hg := okU e 8 false f.pf 0 nil8 (by decide) (fun _ => hok.pf (by omega) (by omega))
    refine JV.mk' (h.ua5 rfl hk h5 (g := mkFr e 8 false f.pf 0 nil8) rfl hg) ?_ ?_ <;> (rw [view_send, view0 ho]; simp)
  split
  · rename_i hk
    have hg := okU e 5 false f.pf 0 nil8 (by decide) (fun _ => hok.pf (by omega) (by omega))
    refine JV.mk' (h.reply rfl (by simp [isC, hk]) (g := mkFr e 5 false f.pf 0 nil8) rfl hg (fun _ => rfl)) ?_ ?_ <;> (rw [view_send, view0 ho]; simp)
  split
  · rename_i hk
    split
    · rw [view_told7]; exact hp
    · have key : ∀ (fl : F) (mk : List Ev) (e0 : E), cleared ⟨e.state, e.fl, e.asked, f :: l, tk, td⟩ fl (tk ++ mk) → view e0 = ⟨5, fl, false, [], mk, []⟩ → JV l tk td b (view (open_ e0)) := by
        intro fl mk e0 hc hv
        have hj := h.up8 h5 rfl hk fl (tk ++ mk) hc false
        unfold open_
        refine JV.goOn' (v := ⟨7, resetF fl, false, [], mk, []⟩) (JV.mk' hj (by simp) (by simp)) ?_
        rw [view_st, view_start203, view_stop200, view_fl, hv]
        have : e0.fl = fl := congrArg V.fl hv
        rw [this]
      split
      · rename_i ha
        refine key e.fl [mark] _ (Or.inr ⟨(h.h1.fg.clear_eq (h.h1.emp (Or.inr (Or.inr ⟨h5, ha⟩)))).symm, [mark], rfl, by simp, marks1⟩) ?_
        show { view (told e 2 nil8) with q := false } = _
        rw [view_mark _ _ _ (by decide), view0 ho, h5]; rfl
      · unfold unsure
        split
        · refine key (clearF e.fl) [mark] _ (Or.inr ⟨rfl, [mark], rfl, by simp, marks1⟩) ?_
          show { view (told { e with fl := clearF e.fl } 1 nil8) with q := false } = _
          rw [view_mark _ _ _ (by decide), view_fl, view0 ho, h5]; rfl
        · rename_i hs
          refine key e.fl [] _ (Or.inl ⟨rfl, by simp, (by show e.fl.q.sent = 0; omega)⟩) ?_
          show { view e with q := false } = _
          rw [view0 ho, h5]
  split
  · rename_i hk
    refine JV.mk' (h.close1 rfl (by simp [isR, hk.1]) [mark] marks1 (by simp)) ?_ ?_ <;> (rw [view_end, view_mark _ _ _ (by decide), view0 ho]; simp; try rfl)
  · exact hp
theorem JV.frame6 (h : J ⟨e.state, e.fl, e.asked, f :: l, tk, td⟩ b) (ho : e.out = []) (h6 : e.state = 6) : JV l tk td b (view (inReleasing e f)) := by
  have hok := h.h2.ok f (List.mem_cons_self ..)
  have hp := JV.of (h.pop rfl) ho
  unfold inReleasing
  split
  · rename_i hk
    have hg := okU e 5 false f.pf 0 nil8 (by decide) (fun _ => hok.pf (by omega) (by omega))
    refine JV.mk' (h.reply rfl (by simp [isC, hk]) (g := mkFr e 5 false f.pf 0 nil8) rfl hg (fun _ => rfl)) ?_ ?_ <;> (rw [view_send, view0 ho]; simp)
  split
  · rename_i hk
    have hg := okU e 8 false f.pf 0 nil8 (by decide) (fun _ => hok.pf (by omega) (by omega))
    refine JV.mk' (h.reply rfl (by simp [isC, hk]) (g := mkFr e 8 false f.pf 0 nil8) rfl hg (fun e => by omega)) ?_ ?_ <;> (rw [view_send, view0 ho]; simp)
  split
  · rw [view_told7]; exact hp
  split
  · rename_i hk
    refine JV.mk' (h.close1 rfl (by simp [isR]; omega) [mark] marks1 (by simp)) ?_ ?_ <;> (rw [view_end, view_mark _ _ _ (by decide), view0 ho]; simp; try rfl)
  · exact hp
end
end Go.Proofs.YtljnfbpplhnmfaaGreatDoor.Md
namespace Go.Proofs.YtljnfbpplhnmfaaGreatDoor.Md
set_option linter.unusedVariables false
set_option linter.unusedSimpArgs false
section
variable {l : List Fr} {tk : List Ev} {td : List ByteArray} {b : Cs} {e : E} {f : Fr}
theorem JV.supervise {v : V} (h : JV l tk td b v) (hu : v.st = 7 ∨ v.st = 8) (e : E) (he : e.fl.vr = v.fl.vr) (c p : Bool) (hp : c = true → p = true) : JV l tk td b { v with fr := v.fr ++ [mkFr e (if e.fl.own = true then 2 else 1) c p 0 nil8] } := by
  have hk : (if e.fl.own = true then (2 : Int) else 1) = 1 ∨ (if e.fl.own = true then (2 : Int) else 1) = 2 := by split <;> omega
  have hkk : (mkFr e (if e.fl.own = true then 2 else 1) c p 0 nil8).kind = (if e.fl.own = true then 2 else 1) := rfl
  have := J.send h (B := [mkFr e (if e.fl.own = true then 2 else 1) c p 0 nil8]) (fun z hz => by rw [List.mem_singleton.1 hz]; exact okS e _ c p hk hp) (nC_no (by omega)) (nR_no (by omega)) (fun z hz => by rw [List.mem_singleton.1 hz]; omega) (fun z hz _ => by
    rw [List.mem_singleton.1 hz]
    exact ⟨hu, by rw [mk_nr _ _ _ _ _ _ (by omega)]; exact he, by omega⟩)
  unfold JV
  rw [List.append_assoc] at this
  exact this
theorem view_state {e : E} {v : V} (h : view e = v) : e.state = v.st := congrArg V.st h
theorem view_flow {e : E} {v : V} (h : view e = v) : e.fl = v.fl := congrArg V.fl h
theorem JV.info2 {e : E} (hf : ackOk e.fl f.nr) (h : JV l tk td b { view e with fl := ackF e.fl f.nr }) : JV l tk td b (view (info2 e f)) := by
  unfold Md.info2
  rw [if_pos hf]
  split
  · split
    · exact JV.goOn' h (by rw [view_fl])
    · exact JV.goOn' h (by rw [view_count, view_fl])
  · exact h
theorem JV.info (h : J ⟨e.state, e.fl, e.asked, f :: l, tk, td⟩ b) (ho : e.out = []) (hu : e.state = 7 ∨ e.state = 8) (hk : f.kind = 0) : JV l tk td b (view (info e f)) := by
  have hok := h.h2.ok f (List.mem_cons_self ..)
  have hpf := hok.i hk
  have huC : upC ⟨e.state, e.fl, e.asked, f :: l, tk, td⟩ := hu
  unfold Md.info
  by_cases c0 : come e.fl f.ns = 0
  · have hc : e.fl.own = false ∧ f.ns % 128 = e.fl.vr := by
      unfold come at c0
      split at c0
      · cases c0
      · rename_i h1
        split at c0
        · rename_i h2; exact ⟨by simpa using h1, h2⟩
        · split at c0 <;> cases c0
    have hi : info1 e f = Md.supervise (told { e with fl := comeF e.fl f.ns } 5 f.info) false f.pf := if_pos c0
    obtain ⟨a, j⟩ := h.accept huC rfl hk hc.1 hc.2
    have hv : view (info1 e f) = ⟨e.state, comeF e.fl f.ns, e.asked, [mkFr (told { e with fl := comeF e.fl f.ns } 5 f.info) (if (comeF e.fl f.ns).own = true then 2 else 1) false f.pf 0 nil8], [], [f.info]⟩ := by
      rw [hi, view_supervise, view_told5, view_fl, view0 ho]; rfl
    refine JV.info2 (by rw [view_flow hv]; exact a) ?_
    rw [view_flow hv, hv]
    have j0 : JV l tk td b ⟨e.state, ackF (comeF e.fl f.ns) f.nr, e.asked, [], [], [f.info]⟩ := JV.mk' j (by simp) (by simp)
    have := j0.supervise hu (told { e with fl := comeF e.fl f.ns } 5 f.info) rfl false f.pf (fun e => by cases e)
    exact this
  · by_cases c1 : come e.fl f.ns = 1
    · have hc : e.fl.own = false ∧ ¬ f.ns % 128 = e.fl.vr ∧ e.fl.ref = false := by
        unfold come at c1
        split at c1
        · cases c1
        · rename_i h1
          split at c1
          · cases c1
          · rename_i h2
            split at c1
            · cases c1
            · rename_i h3; exact ⟨by simpa using h1, h2, by simpa using h3⟩
      have hi : info1 e f = send { e with fl := comeF e.fl f.ns } 3 false f.pf := by
        unfold info1; rw [if_neg c0, if_pos c1]
      have he : (comeF e.fl f.ns).vr = e.fl.vr := by unfold comeF; rw [if_neg (by rw [hc.1]; decide), if_neg hc.2.1]
      obtain ⟨a, j⟩ := h.refuse huC rfl hk hc.1 hc.2.1 hc.2.2 (g := mkFr { e with fl := comeF e.fl f.ns } 3 false f.pf 0 nil8) rfl (by rw [hpf]; exact okJ _) (by rw [mk_nr _ _ _ _ _ _ (by decide)]; exact he)
      have hv : view (info1 e f) = ⟨e.state, comeF e.fl f.ns, e.asked, [mkFr { e with fl := comeF e.fl f.ns } 3 false f.pf 0 nil8], [], []⟩ := by
        rw [hi, view_send, view_fl, view0 ho]; rfl
      refine JV.info2 (by rw [view_flow hv]; exact a) ?_
      rw [view_flow hv, hv]
      exact JV.mk' j (by simp) rfl
    · have hc : e.fl.own = true ∨ e.fl.ref = true ∧ ¬ f.ns % 128 = e.fl.vr := by
        unfold come at c0 c1
        by_cases h1 : e.fl.own = true
        · exact Or.inl h1
        · rw [if_neg h1] at c0 c1
          by_cases h2 : f.ns % 128 = e.fl.vr
          · rw [if_pos h2] at c0; exact absurd rfl c0
          · rw [if_neg h2] at c1
            by_cases h3 : e.fl.ref = true
            · exact Or.inr ⟨h3, h2⟩
            · rw [if_neg h3] at c1; exact absurd rfl c1
      have hi : info1 e f = { e with fl := comeF e.fl f.ns } := by
        unfold info1; rw [if_neg c0, if_neg c1, if_neg (by rw [hpf]; decide)]
      obtain ⟨a, j⟩ := h.again huC rfl hk hc
      have hv : view (info1 e f) = ⟨e.state, comeF e.fl f.ns, e.asked, [], [], []⟩ := by
        rw [hi, view_fl, view0 ho]
      refine JV.info2 (by rw [view_flow hv]; exact a) ?_
      rw [view_flow hv, hv]
      exact JV.mk' j (by simp) (by simp)
theorem view_sup1 (e : E) (f : Fr) (ho : e.out = []) (p : Bool) : ∃ B : List Fr, view { supervised1 e f with fl := { e.fl with peer := p } } = ⟨e.state, { e.fl with peer := p }, e.asked, B, [], []⟩ ∧ (B = [] ∨ f.cmd = true ∧ f.pf = true ∧ B = [mkFr e (if e.fl.own = true then 2 else 1) false true 0 nil8]) := by
  unfold supervised1
  split
  · rename_i h
    refine ⟨[mkFr e (if e.fl.own = true then 2 else 1) false true 0 nil8], ?_, Or.inr ⟨h.1, h.2, rfl⟩⟩
    rw [view_fl, view_supervise, view0 ho]; rfl
  · split
    · refine ⟨[], ?_, Or.inl rfl⟩
      rw [view_fl, view_told7, view0 ho]
    · refine ⟨[], ?_, Or.inl rfl⟩
      rw [view_fl, view0 ho]
theorem JV.sup1 {st : Int} {fl : F} {B : List Fr} {e : E} {q : Bool} (h : JV l tk td b ⟨st, fl, q, [], [], []⟩) (hu : st = 7 ∨ st = 8) (he : e.fl.vr = fl.vr) (hB : B = [] ∨ B = [mkFr e (if e.fl.own = true then 2 else 1) false true 0 nil8]) : JV l tk td b ⟨st, fl, q, B, [], []⟩ := by
  rcases hB with rfl | rfl
  · exact h
  · exact h.supervise hu e he false true (fun e => by cases e)
theorem JV.supervised (h : J ⟨e.state, e.fl, e.asked, f :: l, tk, td⟩ b) (ho : e.out = []) (hu : e.state = 7 ∨ e.state = 8) (hk : f.kind = 1 ∨ f.kind = 2 ∨ f.kind = 3) : JV l tk td b (view (supervised e f)) := by
  have hok := h.h2.ok f (List.mem_cons_self ..)
  have huC : upC ⟨e.state, e.fl, e.asked, f :: l, tk, td⟩ := hu
  have hn : numb f := by unfold numb; omega
  obtain ⟨p, hp⟩ : ∃ p, decide (f.kind = 2) = p := ⟨_, rfl⟩
  obtain ⟨B, hv, hB⟩ := view_sup1 e f ho p
  have hB' : B = [] ∨ B = [mkFr e (if e.fl.own = true then 2 else 1) false true 0 nil8] := by
    rcases hB with h | h
    · exact Or.inl h
    · exact Or.inr h.2.2
  unfold Md.supervised
  rw [hp]
  obtain ⟨E0, hE0⟩ : ∃ E0, { supervised1 e f with fl := { e.fl with peer := p } } = E0 := ⟨_, rfl⟩
  rw [hE0] at hv ⊢
  have hst : E0.state = e.state := view_state hv
  obtain ⟨a, j⟩ := h.sup huC rfl hn p
  have hvr : e.fl.vr = ({ e.fl with peer := p } : F).vr := rfl
  have hback : e.state = 7 ∧ f.kind = 3 ∨ e.state = 8 ∧ (f.kind = 1 ∨ f.kind = 2) ∧ final f = true → J ⟨7, backF (ackF { e.fl with peer := p } f.nr), e.asked, l, tk, td⟩ b := fun hb => (h.back rfl hb p).2
  have j' : J ⟨e.state, ackF { e.fl with peer := p } f.nr, e.asked, l, tk, td⟩ b := j
  have a' : ackOk { e.fl with peer := p } f.nr := a
  have hfl : E0.fl = { e.fl with peer := p } := view_flow hv
  clear hE0 hp j a
  obtain ⟨G, hG⟩ : ∃ G, ({ e.fl with peer := p } : F) = G := ⟨_, rfl⟩
  rw [hG] at hv hvr hback j' a' hfl
  subst hfl
  have js : JV l tk td b ⟨e.state, ackF E0.fl f.nr, e.asked, B, [], []⟩ := JV.sup1 (JV.mk' j' (by simp) (by simp)) hu hvr hB'
  unfold supervised3
  rw [if_pos a']
  split
  · rw [view_fl, hv]; exact js
  · rename_i c1
    split
    · exact JV.goOn' js (by rw [view_count, view_fl, hv])
    · rename_i c2
      split
      · rename_i c3
        have hb : e.state = 7 ∧ f.kind = 3 ∨ e.state = 8 ∧ (f.kind = 1 ∨ f.kind = 2) ∧ final f = true := by
          rcases hu with h7 | h8
          · exact Or.inl ⟨h7, by omega⟩
          · right
            have hfin : final f = true := by
              cases hf : final f with
              | true => rfl
              | false => exact absurd ⟨hst.trans h8, hf⟩ c1
            refine ⟨h8, ?_, hfin⟩
            rcases hk with h | h | h
            · exact Or.inl h
            · exact Or.inr h
            · have := (hok.j h).1
              simp [final, this] at hfin
        have js2 : JV l tk td b ⟨7, backF (ackF E0.fl f.nr), e.asked, B, [], []⟩ := JV.sup1 (JV.mk' (hback hb) (by simp) (by simp)) (Or.inl rfl) hvr hB'
        refine JV.goOn' js2 ?_
        rw [show view { supervised2 { E0 with fl := ackF E0.fl f.nr } f with fl := backF (ackF E0.fl f.nr), state := 7 } = { view (supervised2 { E0 with fl := ackF E0.fl f.nr } f) with fl := backF (ackF E0.fl f.nr), st := 7 } from rfl, view_sup2, view_fl, hv]
      · rename_i c3
        have h7 : e.state = 7 := by omega
        rw [h7] at js
        refine JV.goOn' js ?_
        show { view (supervised2 _ f) with st := 7 } = _
        rw [view_sup2, view_fl, hv]
theorem JV.frame7 (h : J ⟨e.state, e.fl, e.asked, f :: l, tk, td⟩ b) (ho : e.out = []) (hu : e.state = 7 ∨ e.state = 8) (h6 : f.kind ≠ 6) : JV l tk td b (view (inOpen e f)) := by
  have hok := h.h2.ok f (List.mem_cons_self ..)
  have hp := JV.of (h.pop rfl) ho
  have huC : upC ⟨e.state, e.fl, e.asked, f :: l, tk, td⟩ := hu
  unfold inOpen
  split
  · rename_i hk
    unfold unsure
    have hv0 : view (told (send e 8 false f.pf) 7 ⟨#[70]⟩) = ⟨e.state, e.fl, e.asked, [mkFr e 8 false f.pf 0 nil8], [], []⟩ := by
      rw [view_told7, view_send, view0 ho]; rfl
    obtain ⟨E0, hE0⟩ : ∃ E0, told (send e 8 false f.pf) 7 ⟨#[70]⟩ = E0 := ⟨_, rfl⟩
    rw [hE0] at hv0 ⊢
    have hfl : E0.fl = e.fl := view_flow hv0
    rw [hfl]
    split
    · refine JV.opened h hk (Or.inr hu) (fl := clearF e.fl) (mk := [mark]) (Or.inr ⟨rfl, [mark], rfl, by simp, marks1⟩) ?_
      rw [view_mark _ _ _ (by decide), view_fl, hv0]; rfl
    · rename_i hs
      refine JV.opened h hk (Or.inr hu) (fl := e.fl) (mk := []) (Or.inl ⟨rfl, by simp, (by show e.fl.q.sent = 0; omega)⟩) ?_
      rw [hv0]
  split
  · rename_i hk
    have hg := okU e 8 false f.pf 0 nil8 (by decide) (fun _ => hok.pf (by omega) (by omega))
    refine JV.mk' (h.disc huC rfl hk (g := mkFr e 8 false f.pf 0 nil8) rfl hg [mark] marks1 (by simp)) ?_ ?_ <;> (rw [view_end, view_mark _ _ _ (by decide), view_send, view0 ho]; simp; try rfl)
  split
  · rw [view_strange]; exact hp
  have hz := h.h1.zero (show e.state ≠ 5 by omega) (show e.state ≠ 6 by omega)
  split
  · rename_i hk
    rw [nR_cons, if_pos (show isR f = true by simp [isR, hk])] at hz
    omega
  split
  · rename_i hk
    have := hok.kind
    omega
  split
  · rename_i hk
    exact JV.info h ho hu hk
  · refine JV.supervised h ho hu ?_
    have := hok.kind
    omega
theorem JV.frame (h : J ⟨e.state, e.fl, e.asked, f :: l, tk, td⟩ b) (ho : e.out = []) : JV l tk td b (view (frame1 e f)) := by
  have hs : 4 ≤ e.state ∧ e.state ≤ 8 := h.h1.st
  unfold frame1
  split
  · rw [view_told6]
    exact JV.of (h.pop rfl) ho
  · rename_i h6
    split
    · rename_i h4; exact JV.frame4 h ho h4
    split
    · rename_i h5; exact JV.frame5 h ho h5
    split
    · rename_i h6; exact JV.frame6 h ho h6
    · exact JV.frame7 h ho (by omega) h6
theorem JV.over (h : J ⟨e.state, e.fl, e.asked, [], tk, td⟩ b) (ho : e.out = []) (hb : b.way = []) : JV [] tk td b (view (timeout1 e)) := by
  have h0 : nC b.way + nR ([] : List Fr) = 0 := by rw [hb]; rfl
  have hp := JV.of h ho
  unfold timeout1
  split
  · rename_i h5
    unfold again
    split
    · refine JV.mk' (h.close h0 [mark] marks1 (by simp)) ?_ ?_ <;> (rw [view_end, view_mark _ _ _ (by decide), view_told7, view0 ho]; simp; try rfl)
    · have hg := okU e 4 true true 0 nil8 (by decide) (fun _ => rfl)
      refine JV.mk' (h.recall rfl hb (g := mkFr e 4 true true 0 nil8) (Or.inl ⟨rfl, h5⟩) hg) ?_ ?_ <;> (rw [view_start200, view_send]; rw [show view { e with tries := e.tries + 1 } = view e from rfl, view0 ho]; simp; try rfl)
  split
  · rename_i h6
    unfold again
    split
    · refine JV.mk' (h.close h0 [mark] marks1 (by simp)) ?_ ?_ <;> (rw [view_end, view_mark _ _ _ (by decide), view_told7, view0 ho]; simp; try rfl)
    · have hg := okU e 7 true true 0 nil8 (by decide) (fun _ => rfl)
      refine JV.mk' (h.recall rfl hb (g := mkFr e 7 true true 0 nil8) (Or.inr ⟨rfl, h6⟩) hg) ?_ ?_ <;> (rw [view_start200, view_send]; rw [show view { e with tries := e.tries + 1 } = view e from rfl, view0 ho]; simp; try rfl)
  split
  · rename_i h7
    have j := h.to8 (Or.inl h7) rfl hb
    have j0 : JV [] tk td b ⟨8, e.fl, e.asked, [], [], []⟩ := JV.mk' j (by simp) (by simp)
    have j1 := j0.supervise (Or.inr rfl) { e with tries := 0 } rfl true true (fun _ => rfl)
    refine JV.mk' j1 ?_ ?_ <;> (rw [view_st, view_inquire, show view { e with tries := 0 } = view e from rfl, view0 ho])
  split
  · rename_i h8
    split
    · have hg := okU e 4 true true 0 nil8 (by decide) (fun _ => rfl)
      refine JV.mk' (h.anew (Or.inr h8) rfl hb (g := mkFr e 4 true true 0 nil8) rfl hg) ?_ ?_ <;> (rw [view_anew, view0 ho]; simp)
    · have j0 : JV [] tk td b ⟨e.state, e.fl, e.asked, [], [], []⟩ := JV.mk' h (by simp) (by simp)
      have j1 := j0.supervise (Or.inr h8) { e with tries := e.tries + 1 } rfl true true (fun _ => rfl)
      refine JV.mk' j1 ?_ ?_ <;> (rw [view_inquire, show view { e with tries := e.tries + 1 } = view e from rfl, view0 ho])
  · exact hp
end
end Go.Proofs.YtljnfbpplhnmfaaGreatDoor.Md
namespace Go.Proofs.YtljnfbpplhnmfaaGreatDoor.Md
set_option linter.unusedVariables false
set_option linter.unusedSimpArgs false
section
variable {l : List Fr} {tk : List Ev} {td : List ByteArray} {b : Cs} {e : E}
theorem JV.establish (h : J ⟨e.state, e.fl, e.asked, l, tk, td⟩ b) (ho : e.out = []) : JV l (if (Md.establish e).1 = 0 then tk ++ [mark] else tk) td b (view (Md.establish e).2) := by
  have hs : 4 ≤ e.state ∧ e.state ≤ 8 := h.h1.st
  have key : ∀ fl : F, clearF e.fl = fl → (e.state = 4 ∨ e.state = 7 ∨ e.state = 8) → JV l (tk ++ [mark]) td b (view (call { e with fl := fl, asked := true })) := by
    rintro fl rfl hs
    have hg := okU { e with fl := clearF e.fl, asked := true } 4 true true 0 nil8 (by decide) (fun _ => rfl)
    have hj := h.ask hs (g := mkFr { e with fl := clearF e.fl, asked := true } 4 true true 0 nil8) (Or.inl rfl) hg [mark] marks1 (by simp) true (fun _ => rfl)
    have hv : view (call { e with fl := clearF e.fl, asked := true }) = ⟨5, clearF e.fl, true, [mkFr { e with fl := clearF e.fl, asked := true } 4 true true 0 nil8], [], []⟩ := by
      rw [view_call, show view { e with fl := clearF e.fl, asked := true } = { view e with fl := clearF e.fl, q := true } from rfl, view0 ho]; rfl
    rw [hv]
    exact JV.mk' hj (by simp [mkFr]) rfl
  unfold Md.establish
  split
  · exact JV.of h ho
  split
  · rename_i h5
    have hj := h.ask5 h5 [mark] marks1 (by simp)
    have hv : view { e with fl := clearF e.fl, asked := true } = ⟨e.state, clearF e.fl, true, [], [], []⟩ := by
      rw [show view { e with fl := clearF e.fl, asked := true } = { view e with fl := clearF e.fl, q := true } from rfl, view0 ho]
    show JV l (tk ++ [mark]) td b _
    rw [hv]
    exact JV.mk' hj (by simp) (by simp)
  split
  · rename_i h4
    exact key e.fl (h.h1.fg.clear_eq (h.h1.emp (Or.inl h4))) (Or.inl h4)
  · exact key _ rfl (by omega)
theorem JV.release (h : J ⟨e.state, e.fl, e.asked, l, tk, td⟩ b) (ho : e.out = []) : JV l (if (Md.release e).1 = 0 then tk ++ [mark] else tk) td b (view (Md.release e).2) := by
  unfold Md.release
  split
  · rename_i h4
    have hj := h.word4 h4 [mark, mark] (by intro x hx; simp at hx; subst hx; rfl) (by simp)
    show JV l (tk ++ [mark]) td b _
    rw [view_mark _ _ _ (by decide), view0 ho]
    exact JV.mk' hj (by simp) (by simp)
  split
  · rename_i h4 hu
    have hu' : e.state = 7 ∨ e.state = 8 := by simpa [up] using hu
    have hg := okU { e with fl := clearF e.fl, tries := 0 } 7 true true 0 nil8 (by decide) (fun _ => rfl)
    have hj := h.ask (Or.inr hu') (g := mkFr { e with fl := clearF e.fl, tries := 0 } 7 true true 0 nil8) (Or.inr rfl) hg [mark] marks1 (by simp) e.asked (fun e => absurd e (by show ¬ (7 : Int) = 4; decide))
    show JV l (tk ++ [mark]) td b _
    rw [view_st, view_start200, view_stop203, view_send, show view { e with fl := clearF e.fl, tries := 0 } = { view e with fl := clearF e.fl } from rfl, view0 ho]
    exact JV.mk' hj (by simp [mkFr]) rfl
  · exact JV.of h ho
theorem JV.data (h : J ⟨e.state, e.fl, e.asked, l, tk, td⟩ b) (ho : e.out = []) (s : ByteArray) : JV l (if (Md.data e s).1 = 0 then tk ++ [⟨s, true⟩] else tk) td b (view (Md.data e s).2) := by
  unfold Md.data
  split
  · exact JV.of h ho
  · rename_i hu
    split
    · have hu' : (e.state = 7 ∨ e.state = 8) ∨ e.state = 5 ∧ e.asked = false := by
        by_cases h1 : up e = true
        · exact Or.inl (by simpa [up] using h1)
        · right
          have h1' : up e = false := by simpa using h1
          have h2 : ¬ (e.state ≠ 5 ∨ e.asked = true) := fun h => hu ⟨h1', h⟩
          constructor
          · exact Classical.byContradiction fun h => h2 (Or.inl h)
          · cases ha : e.asked with
            | false => rfl
            | true => exact absurd (Or.inr ha) h2
      have hj := h.push hu' s
      show JV l (tk ++ [⟨s, true⟩]) td b _
      refine JV.goOn' (v := ⟨e.state, pushF e.fl s, e.asked, [], [], []⟩) (JV.mk' hj (by simp) (by simp)) ?_
      rw [view_fl, view0 ho]
    · exact JV.of h ho
theorem JV.unit (h : J ⟨e.state, e.fl, e.asked, l, tk, td⟩ b) (ho : e.out = []) (s : ByteArray) : JV l tk td b (view (Md.unit e s).2) := by
  show JV l tk td b (view (sendData e 6 true false 0 s))
  rw [view_sendData, view0 ho]
  have hj := h.send (B := [mkFr e 6 true false 0 s]) (fun z hz => by rw [List.mem_singleton.1 hz]; exact okU e 6 true false 0 s (by decide) (fun h => absurd rfl h)) rfl rfl (fun z hz => by rw [List.mem_singleton.1 hz]; show ¬ (6 : Int) = 0; decide) (fun z hz hn => by
    rw [List.mem_singleton.1 hz] at hn
    exact absurd hn (by show ¬ (6 : Int) ≤ 3; decide))
  exact JV.mk' hj (by simp) rfl
theorem JV.own (h : J ⟨e.state, e.fl, e.asked, l, tk, td⟩ b) (ho : e.out = []) (o : Bool) : JV l tk td b (view (Md.own e o).2) := by
  unfold Md.own
  split
  · exact JV.of h ho
  · rename_i hu
    have hu' : e.state = 7 ∨ e.state = 8 := by
      have : up e = true := by simpa using hu
      simpa [up] using this
    split
    · exact JV.of h ho
    · have hj := h.flags { e.fl with own := o } rfl rfl rfl rfl rfl
      have j0 : JV l tk td b ⟨e.state, { e.fl with own := o }, e.asked, [], [], []⟩ := JV.mk' hj (by simp) (by simp)
      have j1 := j0.supervise hu' { e with fl := { e.fl with own := o } } rfl false false (fun e => by cases e)
      have hv : view (Md.supervise { e with fl := { e.fl with own := o } } false false) = ⟨e.state, { e.fl with own := o }, e.asked, [mkFr { e with fl := { e.fl with own := o } } (if ({ e.fl with own := o } : F).own = true then 2 else 1) false false 0 nil8], [], []⟩ := by
        rw [view_supervise, view_fl, view0 ho]; rfl
      show JV l tk td b (view (Md.supervise { e with fl := { e.fl with own := o } } false false))
      rw [hv]
      exact j1
end
structure Inv (p : Pr) : Prop where
  j : J (core p.a) (core p.b)
  oa : p.a.e.out = []
  ob : p.b.e.out = []
theorem Inv.swap {p : Pr} (h : Inv p) : Inv (Md.swap p) := ⟨h.j.swap, h.ob, h.oa⟩
theorem Inv.become {p : Pr} {e : E} (h : JV p.a.way p.a.taken p.a.told (core p.b) (view e)) (hb : p.b.e.out = []) : Inv (become false p e) := by
  rw [become_a]
  exact ⟨h, rfl, hb⟩
theorem pr_at_a (p : Pr) : p.at false = p.a := rfl
theorem Inv.ask {p : Pr} (h : Inv p) (a : Int) (ha : a = 0 ∨ a = 1 ∨ a = 4 ∨ a = 5) : Inv (askP false p a) := by
  have hj : J ⟨p.a.e.state, p.a.e.fl, p.a.e.asked, p.a.way, p.a.taken, p.a.told⟩ (core p.b) := h.j
  unfold askP
  rw [pr_at_a]
  simp only
  rcases ha with rfl | rfl | rfl | rfl
  · have := JV.establish hj h.oa
    rw [show ask1 p.a.e 0 nil8 = establish p.a.e from rfl]
    by_cases h0 : (establish p.a.e).1 = 0
    · rw [if_pos h0] at this
      rw [if_pos ⟨h0, Or.inl rfl⟩]
      exact Inv.become (p := p.upd false _) this h.ob
    · rw [if_neg h0] at this
      rw [if_neg (fun h => h0 h.1)]
      exact Inv.become this h.ob
  · have := JV.release hj h.oa
    rw [show ask1 p.a.e 1 nil8 = release p.a.e from rfl]
    by_cases h0 : (release p.a.e).1 = 0
    · rw [if_pos h0] at this
      rw [if_pos ⟨h0, Or.inr rfl⟩]
      exact Inv.become (p := p.upd false _) this h.ob
    · rw [if_neg h0] at this
      rw [if_neg (fun h => h0 h.1)]
      exact Inv.become this h.ob
  · rw [if_neg (fun h => by rcases h.2 with h | h <;> cases h)]
    exact Inv.become (JV.own hj h.oa true) h.ob
  · rw [if_neg (fun h => by rcases h.2 with h | h <;> cases h)]
    exact Inv.become (JV.own hj h.oa false) h.ob
theorem Inv.send {p : Pr} (h : Inv p) (a : Int) (ha : a = 2 ∨ a = 3) : Inv (sendP false p a) := by
  have hj : J ⟨p.a.e.state, p.a.e.fl, p.a.e.asked, p.a.way, p.a.taken, p.a.told⟩ (core p.b) := h.j
  unfold sendP
  rw [pr_at_a]
  simp only
  rcases ha with rfl | rfl
  · have := JV.data hj h.oa (payload p.next)
    rw [show ask1 p.a.e 2 (payload p.next) = data p.a.e (payload p.next) from rfl, if_neg (fun h => by cases h.2)]
    by_cases h0 : (data p.a.e (payload p.next)).1 = 0
    · rw [if_pos h0] at this
      rw [if_pos ⟨h0, rfl⟩]
      exact Inv.become (p := ({ p with next := p.next + 1 } : Pr).upd false _) this h.ob
    · rw [if_neg h0] at this
      rw [if_neg (fun h => h0 h.1)]
      exact Inv.become (p := ({ p with next := p.next + 1 } : Pr)) this h.ob
  · have := JV.unit hj h.oa (payload p.next)
    rw [show ask1 p.a.e 3 (payload p.next) = Md.unit p.a.e (payload p.next) from rfl, if_pos (c := (Md.unit p.a.e (payload p.next)).1 = 0 ∧ (3 : Int) = 3) ⟨rfl, rfl⟩, if_neg (c := (Md.unit p.a.e (payload p.next)).1 = 0 ∧ (3 : Int) = 2) (fun h => absurd h.2 (by decide))]
    exact Inv.become (p := ({ p with next := p.next + 1 } : Pr).upd false _) this h.ob
theorem Inv.come {p : Pr} (h : Inv p) (lost : Bool) : Inv (comeP false p lost) := by
  unfold comeP
  rw [pr_at_a]
  cases hw : p.a.way with
  | nil => exact h
  | cons f l =>
    have hj : J ⟨p.a.e.state, p.a.e.fl, p.a.e.asked, f :: l, p.a.taken, p.a.told⟩ (core p.b) := by rw [← hw]; exact h.j
    simp only
    split
    · exact ⟨hj.pop rfl, h.oa, h.ob⟩
    · exact Inv.become (p := p.upd false _) (JV.frame hj h.oa) h.ob
theorem Inv.over {p : Pr} (h : Inv p) : Inv (overP false p) := by
  unfold overP
  rw [pr_at_a]
  split
  · rename_i hq
    have hj : J ⟨p.a.e.state, p.a.e.fl, p.a.e.asked, [], p.a.taken, p.a.told⟩ (core p.b) := by rw [← hq.1]; exact h.j
    split
    · refine Inv.become ?_ h.ob
      rw [hq.1]
      exact JV.over (e := { p.a.e with r200 := false }) hj h.oa hq.2
    · split
      · refine Inv.become ?_ h.ob
        rw [hq.1]
        exact JV.over (e := { p.a.e with r203 := false }) hj h.oa hq.2
      · exact h
  · exact h
theorem Inv.askI {p : Pr} (h : Inv p) (i : Bool) (a : Int) (ha : a = 0 ∨ a = 1 ∨ a = 4 ∨ a = 5) : Inv (askP i p a) := by
  cases i with
  | false => exact h.ask a ha
  | true => rw [askP_swap]; exact (h.swap.ask a ha).swap
theorem Inv.sendI {p : Pr} (h : Inv p) (i : Bool) (a : Int) (ha : a = 2 ∨ a = 3) : Inv (sendP i p a) := by
  cases i with
  | false => exact h.send a ha
  | true => rw [sendP_swap]; exact (h.swap.send a ha).swap
theorem Inv.comeI {p : Pr} (h : Inv p) (i : Bool) (lost : Bool) : Inv (comeP i p lost) := by
  cases i with
  | false => exact h.come lost
  | true => rw [comeP_swap]; exact (h.swap.come lost).swap
theorem Inv.overI {p : Pr} (h : Inv p) (i : Bool) : Inv (overP i p) := by
  cases i with
  | false => exact h.over
  | true => rw [overP_swap]; exact h.swap.over.swap
theorem Inv.drainN : ∀ (n : Nat) {p : Pr}, Inv p → Inv (drainN n p)
  | 0, p, h => h
  | n + 1, p, h => by
    unfold Md.drainN; split
    · exact h
    · exact Inv.drainN n ((h.comeI false false).comeI true false)
theorem Inv.drain {p : Pr} (h : Inv p) : Inv (drain p) := Inv.drainN _ h
theorem Inv.settle1 {p : Pr} (h : Inv p) (i : Bool) : Inv (settle1 i p) := by
  unfold Md.settle1; split
  · exact (h.overI i).drain
  · exact h
theorem Inv.settleN : ∀ (n : Nat) {p : Pr}, Inv p → Inv (settleN n p)
  | 0, p, h => h
  | n + 1, p, h => Inv.settleN n ((h.drain.settle1 false).settle1 true)
theorem Inv.settle {p : Pr} (h : Inv p) (n : Nat) : Inv (settle n p) := Inv.settleN n ((h.askI false 5 (by decide)).askI true 5 (by decide))
theorem Inv.do_ {p : Pr} (h : Inv p) (a : Ac) (clean : Bool) : Inv (doP p a clean) := by
  have hc : ∀ (i lost : Bool), Inv (comeOr i p lost) := fun i lost => by
    unfold comeOr; split
    · exact h.overI i
    · exact h.comeI i lost
  unfold doP
  simp only
  split
  · exact h.sendI _ 3 (by decide)
  split
  · split
    · exact h
    · exact h.askI _ 0 (by decide)
  split
  · split
    · exact h
    · exact h.askI _ 1 (by decide)
  split
  · exact h.askI _ 4 (by decide)
  split
  · exact h.askI _ 5 (by decide)
  split
  · exact hc _ _
  split
  · exact hc _ _
  · exact h.sendI _ 2 (by decide)
theorem fg0 (k : Int) : FG (flowN k) := FG.reset (f := flowN k)
theorem Inv.begin (k n : Int) : Inv (begin0 k n) := by
  have hH : H (core (side0 k n)) (core (side0 k n)) := ⟨(by show (4 : Int) ≤ 4 ∧ (4 : Int) ≤ 8; decide), (fun f hf => by cases hf), Nat.zero_le _, fun _ _ => rfl, (fun f hf => by cases hf), (fun f hf => by cases hf), trivial, fun _ h => absurd rfl h, fun _ => rfl, fg0 k⟩
  have hnu : ¬ upC (core (side0 k n)) := not_up (Or.inl rfl)
  have hD : D (core (side0 k n)) (core (side0 k n)) := ⟨[], 0, rfl, Nat.le_refl _, Sc.nil, fun hu => absurd hu hnu, fun h8 => absurd (Or.inr h8) hnu, fun hu => absurd hu hnu, fun h5 => absurd h5 (by show ¬ (4 : Int) = 5; decide), fun _ W hW => by
    rw [efw_off hnu (by show ¬ (4 : Int) = 5; decide)] at hW; cases hW⟩
  exact ⟨⟨hH, hH, hD, hD⟩, rfl, rfl⟩
theorem Inv.acts {clean : Bool} : ∀ (l : List Ac) {p : Pr}, Inv p → Inv (l.foldl (fun p a => doP p a clean) p)
  | [], _, h => h
  | a :: l, _, h => Inv.acts l (h.do_ a clean)
theorem Inv.run (k n : Int) (script : List Ac) (clean : Bool) : Inv (runP k n script clean) := by
  unfold runP
  refine Inv.acts _ ?_
  have h := (Inv.begin k n).askI false 0 (by decide)
  split
  · exact h.drain
  · exact h
end Go.Proofs.YtljnfbpplhnmfaaGreatDoor.Md
