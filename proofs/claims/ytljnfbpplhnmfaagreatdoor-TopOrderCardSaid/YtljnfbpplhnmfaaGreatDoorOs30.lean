/- What holds of payloads between two ends, step by step: what the receiving side does. No program in sight; no condition. What holds of both ends of a link, step by step: calls and answers, and all together. No program in sight; no condition. What holds of both ends of a link, step by step: how a link is made, and ended. No program in sight; no condition. -/
import Derived.Test.YtljnfbpplhnmfaaGreatDoorOs29
namespace Go.Proofs.YtljnfbpplhnmfaaGreatDoor.Md
set_option linter.unusedVariables false
set_option linter.unusedSimpArgs false
variable {x y : Cs}
theorem rE_up (h : upC y) : rE y = y.fl.vr := if_neg (fun e => not_up5 e h)
theorem refE_up (h : upC y) : refE y = y.fl.ref := if_neg (fun e => not_up5 e h)
theorem runs_head {r : Int} {ref : Bool} {fut : List ByteArray} {hi : Nat} {f : Fr} {l : List Fr} (hr : 0 ≤ r ∧ r < 128) (h : runs r ref fut hi (f :: l)) (hk : f.kind = 0) (hn : f.ns % 128 = r) :
    ∃ fut', fut = f.info :: fut' ∧ 0 < hi ∧ runs ((r + 1) % 128) false fut' (hi - 1) l := by
  obtain ⟨W1, W2, e, h1, h2, h3⟩ := h
  cases W1 with
  | cons g W1 =>
    simp only [List.cons_append, List.cons.injEq] at e
    obtain ⟨rfl, rfl⟩ := e
    obtain ⟨d, a1, a2, a3, a4⟩ := h2 f (List.mem_cons_self ..) hk
    omega
  | nil =>
    simp only [List.nil_append] at e
    subst e
    unfold inc at h3
    rw [if_pos hk] at h3
    obtain ⟨d, a1, a2, a3, a4, a5, a6⟩ := h3
    obtain rfl : d = 0 := by omega
    cases fut with
    | nil => simp at a5
    | cons z fut =>
      simp at a5
      subst a5
      refine ⟨fut, rfl, a2, [], l, rfl, fun _ => rfl, (fun f hf => by cases hf), ?_⟩
      have : hi = (hi - 1) + 1 := by omega
      rw [this] at a6
      exact inc_shift a6
theorem D.accept (h : D x y) (hy : upC y) (hvr : 0 ≤ y.fl.vr ∧ y.fl.vr < 128) (hans : ¬ upC x → nR x.way ≠ 0 → noN y.way) {f : Fr} {l : List Fr} (hw : y.way = f :: l) (hk : f.kind = 0) (hn : f.ns % 128 = y.fl.vr) (fl : F) (hf1 : fl.vr = (f.ns + 1) % 128) (hf2 : fl.ref = false) :
    D x { y with way := l, fl := fl, told := y.told ++ [f.info] } := by
  obtain ⟨tpre, j, h⟩ := h
  have hE := efw_up hy
  have hu' : upC { y with way := l, fl := fl, told := y.told ++ [f.info] } := hy
  have hE' : efw { y with way := l, fl := fl, told := y.told ++ [f.info] } = some l := efw_up hu'
  have hr1 : rE { y with way := l, fl := fl, told := y.told ++ [f.info] } = (rE y + 1) % 128 := by
    rw [rE_up hu', rE_up hy]
    show fl.vr = _
    rw [hf1]; omega
  have hr2 : refE { y with way := l, fl := fl, told := y.told ++ [f.info] } = false := by rw [refE_up hu']; exact hf2
  have hry : 0 ≤ rE y ∧ rE y < 128 := by rw [rE_up hy]; exact hvr
  have hn' : f.ns % 128 = rE y := by rw [rE_up hy]; exact hn
  by_cases hu : upC x
  · obtain ⟨b1, b2, b3, b4⟩ := h.rl hu _ hE
    rw [hw] at b2 b3 b4
    obtain ⟨fut', hfut, hhi, hruns⟩ := runs_head hry b2 hk hn'
    have h7 : x.st ≠ 8 := fun h8 => b3 h8 f (List.mem_cons_self ..) hk
    have hJ : nJ x.way = 0 := by
      by_cases hJ : nJ x.way = 0
      · exact hJ
      · obtain ⟨_, c2, _⟩ := b4 hJ
        obtain ⟨d, a1, a2, a3, a4⟩ := c2 f (List.mem_cons_self ..) hk
        omega
    have hlen : j < x.fl.q.list.length := by
      rcases Nat.lt_or_ge j x.fl.q.list.length with hc | hc
      · exact hc
      · rw [List.drop_eq_nil_of_le hc] at hfut; cases hfut
    rw [List.drop_eq_getElem_cons hlen] at hfut
    injection hfut with hf3 hf4
    refine ⟨tpre, j + 1, h.take, by omega, ?_, fun _ => ⟨acks_more (h.ak hu).1 hJ (by omega), (h.ak hu).2⟩, fun h8 => absurd h8 h7, fun _ W hW => ?_, fun h5 => absurd hu (not_up5 h5), fun hnu => absurd hu hnu⟩
    · show Sc false (y.told ++ [f.info]) _
      rw [List.take_succ_eq_append_getElem hlen, evQ_app, ← List.append_assoc, hf3]
      exact Sc.hit _ h.sc
    · rw [hE'] at hW
      injection hW with hW
      subst hW
      rw [hr1, hr2]
      refine ⟨by rw [b1]; omega, ?_, fun h8 => absurd h8 h7, fun hne => absurd hJ hne⟩
      rw [hf4, show x.fl.q.sent - (j + 1) = x.fl.q.sent - j - 1 by omega]
      exact hruns
  · rcases h.old hu _ hE with hc | ⟨b1, b2, pre, fut, mk, hi, b3, b4, b5, b6, b7⟩
    · exact absurd hk (hc f (by rw [hw]; exact List.mem_cons_self ..))
    · rw [hw] at b7
      obtain ⟨fut', hfut, hhi, hruns⟩ := runs_head hry b7 hk hn'
      have hsc : Sc false (y.told ++ [f.info]) (pre ++ [⟨f.info, true⟩]) := Sc.hit _ b6
      have hT : x.taken = pre ++ [⟨f.info, true⟩] ++ evQ fut' ++ mk := by rw [b3, hfut]; simp [evQ]
      refine ⟨tpre, j, h.take, h.js, ?_, fun hu2 => absurd hu2 hu, fun h8 => absurd (Or.inr h8) hu, fun hu2 => absurd hu2 hu, fun h5 A hA => ?_, fun _ W hW => ?_⟩
      · have h9 := hsc.through fut' mk b4 (fun e => absurd e b5)
        rw [← hT, h.take] at h9
        show Sc false (y.told ++ [f.info]) (tpre ++ evQ (x.fl.q.list.take j))
        rw [b1] at h9 ⊢
        simpa [evQ] using h9
      · have hne : nR x.way ≠ 0 := fun h0 => by
          have hA' : after8 x.way = some A := hA
          rw [after8_none h0] at hA'; cases hA'
        exact absurd (by unfold numb; omega) (hans hu hne f (by rw [hw]; exact List.mem_cons_self ..))
      · rw [hE'] at hW
        injection hW with hW
        subst hW
        rw [hr1, hr2]
        exact Or.inr ⟨b1, b2, pre ++ [⟨f.info, true⟩], fut', mk, hi - 1, hT, b4, b5, hsc, hruns⟩
theorem D.refuse (h : D x y) (hy : upC y) (hvr : 0 ≤ y.fl.vr ∧ y.fl.vr < 128) (hans : ¬ upC x → nR x.way ≠ 0 → noN y.way) {f : Fr} {l : List Fr} (hw : y.way = f :: l) (hk : f.kind = 0) (hn : ¬ f.ns % 128 = y.fl.vr) (hr : y.fl.ref = false) (fl : F) (hf1 : fl.vr = y.fl.vr) (hf2 : fl.ref = true) {g : Fr} (hg : g.kind = 3) (hgn : g.nr = y.fl.vr) :
    D { x with way := x.way ++ [g] } { y with way := l, fl := fl } := by
  obtain ⟨tpre, j, h⟩ := h
  have hE := efw_up hy
  have hu' : upC { y with way := l, fl := fl } := hy
  have hE' : efw { y with way := l, fl := fl } = some l := efw_up hu'
  have hr1 : rE { y with way := l, fl := fl } = rE y := by rw [rE_up hu', rE_up hy]; exact hf1
  have hr2 : refE { y with way := l, fl := fl } = true := by rw [refE_up hu']; exact hf2
  have hr0 : refE y = false := by rw [refE_up hy]; exact hr
  have hn' : ¬ f.ns % 128 = rE y := by rw [rE_up hy]; exact hn
  have hry : 0 ≤ rE y ∧ rE y < 128 := by rw [rE_up hy]; exact hvr
  have key : ∀ {fut : List ByteArray} {hi : Nat}, runs (rE y) (refE y) fut hi y.way → far (rE y) fut l ∧ 1 < hi := by
    rintro fut hi ⟨W1, W2, e, h1, h2, h3⟩
    have := h1 hr0
    subst this
    simp only [List.nil_append] at e
    subst e
    rw [hw] at h3
    unfold inc at h3
    rw [if_pos hk] at h3
    obtain ⟨d, a1, a2, a3, a4, a5, a6⟩ := h3
    have hd : 1 ≤ d := by
      rcases Nat.eq_zero_or_pos d with h0 | h0
      · subst h0; omega
      · exact h0
    exact ⟨inc_far a6 (by omega), by omega⟩
  have hgJ : nJ [g] = 1 := by simp [nJ, isJ, hg]
  have hg8 : after8 [g] = none := by simp [after8, hg]
  by_cases hu : upC x
  · obtain ⟨b1, b2, b3, b4⟩ := h.rl hu _ hE
    obtain ⟨k1, k2⟩ := key b2
    have h8 : x.st ≠ 8 := fun h8 => b3 h8 f (by rw [hw]; exact List.mem_cons_self ..) hk
    have hJ : nJ x.way = 0 := by
      by_cases hJ : nJ x.way = 0
      · exact hJ
      · have := (b4 hJ).1
        rw [hr0] at this; cases this
    refine ⟨tpre, j, h.take, h.js, h.sc, fun _ => ⟨acks_app (h.ak hu).1 fun g' hg' _ => ?_, ?_⟩, fun h8' => absurd h8' h8, fun _ W hW => ?_, fun h5 => absurd hu (not_up5 h5), fun hnu => absurd hu hnu⟩
    · rw [List.mem_singleton.1 hg', hgn, ← rE_up hy]; exact b1
    · show nJ (x.way ++ [g]) ≤ 1
      rw [nJ_app, hJ, hgJ]; exact Nat.le_refl _
    · rw [hE'] at hW
      injection hW with hW
      subst hW
      rw [hr1, hr2]
      exact ⟨b1, ⟨l, [], by simp, (fun e => by cases e), k1, by unfold inc; omega⟩, fun h8' => absurd h8' h8, fun _ => ⟨rfl, k1, by show j < x.fl.q.sent; omega⟩⟩
  · refine ⟨tpre, j, h.take, h.js, h.sc, fun hu2 => absurd hu2 hu, fun h8 => absurd (Or.inr h8) hu, fun hu2 => absurd hu2 hu, fun h5 A hA => ?_, fun _ W hW => ?_⟩
    · have hne : nR x.way ≠ 0 := fun h0 => by
        have hA' : after8 (x.way ++ [g]) = some A := hA
        rw [after8_app, after8_none h0] at hA'
        simp [hg8] at hA'
      exact absurd (by unfold numb; omega) (hans hu hne f (by rw [hw]; exact List.mem_cons_self ..))
    · rw [hE'] at hW
      injection hW with hW
      subst hW
      rw [hr1, hr2]
      rcases h.old hu _ hE with hc | ⟨b1, b2, pre, fut, mk, hi, b3, b4, b5, b6, b7⟩
      · exact Or.inl fun z hz => hc z (by rw [hw]; exact List.mem_cons_of_mem _ hz)
      · exact Or.inr ⟨b1, b2, pre, fut, mk, 0, b3, b4, b5, b6, l, [], by simp, (fun e => by cases e), (key b7).1, by unfold inc; omega⟩
theorem D.yreset (h : D x y) (h5 : x.st = 5) (h0 : nR x.way = 0) {l : List Fr} (hl : noN l) {g : Fr} (hg : g.kind = 8) (fl : F) (hf1 : fl.vr = 0) (hf2 : fl.ref = false) (q : Bool) (tk : List Ev) :
    D { x with way := x.way ++ [g] } { y with st := 7, asked := q, way := l, fl := fl, taken := tk } := by
  obtain ⟨tpre, j, h⟩ := h
  have hu : ¬ upC x := not_up5 h5
  have hu' : upC { y with st := 7, asked := q, way := l, fl := fl, taken := tk } := Or.inl rfl
  refine ⟨tpre, j, h.take, h.js, h.sc, fun hu2 => absurd hu2 hu, fun h8 => absurd (Or.inr h8) hu, fun hu2 => absurd hu2 hu, fun _ A hA => ?_, fun _ W hW => ?_⟩
  · have hA' : after8 (x.way ++ [g]) = some A := hA
    rw [after8_app, after8_none h0] at hA'
    simp [after8, hg] at hA'
    subst hA'
    exact ⟨(fun f hf => by cases hf), fun W hW => ⟨by rw [rE_up hu']; exact hf1, by rw [refE_up hu']; exact hf2⟩⟩
  · rw [efw_up hu'] at hW
    injection hW with hW
    subst hW
    exact Or.inl (noN_noI hl)
theorem D.y5 (h : D x y) (h5 : x.st = 5) (hy : y.st = 5) (h0 : nR x.way = 0) {g : Fr} (hg : g.kind = 8) : D { x with way := x.way ++ [g] } y := by
  obtain ⟨tpre, j, h⟩ := h
  have hu : ¬ upC x := not_up5 h5
  refine ⟨tpre, j, h.take, h.js, h.sc, fun hu2 => absurd hu2 hu, fun h8 => absurd (Or.inr h8) hu, fun hu2 => absurd hu2 hu, fun _ A hA => ?_, h.old⟩
  have hA' : after8 (x.way ++ [g]) = some A := hA
  rw [after8_app, after8_none h0] at hA'
  simp [after8, hg] at hA'
  subst hA'
  exact ⟨(fun f hf => by cases hf), fun W hW => ⟨if_pos hy, if_pos hy⟩⟩
theorem D.y8 (h : D x y) (hy : y.st = 5) {f : Fr} {l : List Fr} (hw : y.way = f :: l) (hf : f.kind = 8) (fl : F) (hf1 : fl.vr = 0) (hf2 : fl.ref = false) (q : Bool) (tk : List Ev) : D x { y with st := 7, asked := q, way := l, fl := fl, taken := tk } := by
  have hu' : upC { y with st := 7, asked := q, way := l, fl := fl, taken := tk } := Or.inl rfl
  refine h.ysame ?_ ?_ ?_ rfl
  · rw [efw_up hu', efw_five hy, hw]
    simp [after8, hf]
  · rw [rE_up hu', show rE y = 0 from if_pos hy]; exact hf1
  · rw [refE_up hu', show refE y = false from if_pos hy]; exact hf2
end Go.Proofs.YtljnfbpplhnmfaaGreatDoor.Md
namespace Go.Proofs.YtljnfbpplhnmfaaGreatDoor.Md
set_option linter.unusedVariables false
set_option linter.unusedSimpArgs false
variable {x y : Cs}
theorem not_up {x : Cs} (h : x.st = 4 ∨ x.st = 5 ∨ x.st = 6) : ¬ upC x := by unfold upC; omega
theorem H.pop (h : H x y) {f : Fr} {l : List Fr} (hw : x.way = f :: l) : H { x with way := l } y := by
  have hn : nR l ≤ nR x.way := by rw [hw, nR_cons]; omega
  refine ⟨h.st, h.ok, ?_, fun h5 h6 => ?_, h.sab, h.dis, h.tail, fun hu hne => h.ans hu ?_, h.emp, h.fg⟩
  · have := h.one; show nC y.way + nR l ≤ 1; omega
  · have := h.zero h5 h6; show nC y.way + nR l = 0; omega
  · have : nR l ≠ 0 := hne; omega
theorem H.popR (h : H x y) {f : Fr} {l : List Fr} (hw : y.way = f :: l) : H x { y with way := l } := by
  have hn : nC l ≤ nC y.way := by rw [hw, nC_cons]; omega
  have hm : ∀ g ∈ l, g ∈ y.way := fun g hg => by rw [hw]; exact List.mem_cons_of_mem _ hg
  refine ⟨h.st, fun g hg => h.ok g (hm g hg), ?_, fun h5 h6 => ?_, fun g hg => h.sab g (hm g hg), fun g hg => h.dis g (hm g hg), ?_, fun hu hne g hg => h.ans hu hne g (hm g hg), h.emp, h.fg⟩
  · have := h.one; show nC l + nR x.way ≤ 1; omega
  · have := h.zero h5 h6; show nC l + nR x.way = 0; omega
  · have := h.tail; rw [hw] at this; exact this.2
theorem H.appW (h : H x y) {B : List Fr} (hok : ∀ f ∈ B, okF f) (hc : nC B = 0) (hn : (∃ f ∈ B, numb f) → upC x) : H x { y with way := y.way ++ B } := by
  have hBC : ∀ f ∈ B, isC f = false := fun f hf => by
    unfold nC at hc
    rw [List.length_eq_zero_iff, List.filter_eq_nil_iff] at hc
    simpa using hc f hf
  have hbn : ¬ upC x → noN B := fun hu f hf hnf => hu (hn ⟨f, hf, hnf⟩)
  have hBt : tailOk B := by
    have : ∀ {l : List Fr}, (∀ f ∈ l, isC f = false) → tailOk l := by
      intro l
      induction l with
      | nil => intro _; trivial
      | cons f l ih => exact fun hl => ⟨(fun hc => by rw [hl f (List.mem_cons_self ..)] at hc; cases hc), ih (fun g hg => hl g (List.mem_cons_of_mem _ hg))⟩
    exact this hBC
  refine ⟨h.st, fun f hf => ?_, ?_, fun h5 h6 => ?_, fun f hf hk => ?_, fun f hf hk => ?_, tailOk_app h.tail hBt (fun hne => hbn ?_), fun hu hne f hf => ?_, h.emp, h.fg⟩
  · rcases List.mem_append.1 hf with hf | hf
    · exact h.ok f hf
    · exact hok f hf
  · have := h.one; show nC (y.way ++ B) + nR x.way ≤ 1; rw [nC_app]; omega
  · have := h.zero h5 h6; show nC (y.way ++ B) + nR x.way = 0; rw [nC_app]; omega
  · rcases List.mem_append.1 hf with hf | hf
    · exact h.sab f hf hk
    · have := hBC f hf; simp [isC, hk] at this
  · rcases List.mem_append.1 hf with hf | hf
    · exact h.dis f hf hk
    · have := hBC f hf; simp [isC, hk] at this
  · intro hu
    have : nC y.way + nR x.way = 0 := h.zero (by unfold upC at hu; omega) (by unfold upC at hu; omega)
    omega
  · rcases List.mem_append.1 hf with hf | hf
    · exact h.ans hu hne f hf
    · exact hbn hu f hf
theorem H.appX (h : H x y) {B : List Fr} (hr : nR B = 0) : H { x with way := x.way ++ B } y := by
  have e : nR (x.way ++ B) = nR x.way := by rw [nR_app]; omega
  refine ⟨h.st, h.ok, ?_, fun h5 h6 => ?_, h.sab, h.dis, h.tail, fun hu hne => h.ans hu ?_, h.emp, h.fg⟩
  · have := h.one; show nC y.way + nR (x.way ++ B) ≤ 1; omega
  · have := h.zero h5 h6; show nC y.way + nR (x.way ++ B) = 0; omega
  · have : nR (x.way ++ B) ≠ 0 := hne; omega
theorem H.reply (h : H x y) {f : Fr} {l : List Fr} (hw : y.way = f :: l) (hf : isC f = true) {g : Fr} (hg : isR g = true) : H { x with way := x.way ++ [g] } { y with way := l } := by
  have h1 := h.one
  have e1 : nC y.way = 1 + nC l := by rw [hw, nC_cons, if_pos hf]
  have e2 : nR (x.way ++ [g]) = nR x.way + 1 := by rw [nR_app]; simp [nR, List.filter, hg]
  have h2 := h.popR hw
  have h3 := h.tail
  rw [hw] at h3
  refine ⟨h.st, h2.ok, ?_, fun h5 h6 => ?_, h2.sab, h2.dis, h2.tail, fun _ _ => h3.1 hf, h.emp, h.fg⟩
  · show nC l + nR (x.way ++ [g]) ≤ 1; omega
  · have := h.zero h5 h6; omega
theorem H.newcall (h : H x y) (h0 : nC y.way + nR x.way = 0) {g : Fr} (hg : g.kind = 4 ∨ g.kind = 7) (hok : okF g) (st : Int) (q : Bool) (fl : F) (tk : List Ev) (hst : st = if g.kind = 4 then 5 else 6) (hfg : FG fl) (he : st = 6 ∨ q = true → fl.q.list = []) : H { x with st := st, asked := q, fl := fl, taken := tk } { y with way := y.way ++ [g] } := by
  have hnc : ∀ f ∈ y.way, isC f = false := fun f hf => by
    have : nC y.way = 0 := by omega
    unfold nC at this
    rw [List.length_eq_zero_iff, List.filter_eq_nil_iff] at this
    simpa using this f hf
  have e1 : nC (y.way ++ [g]) = nC y.way + 1 := by rw [nC_app]; rcases hg with hg | hg <;> simp [nC, List.filter, isC, hg]
  refine ⟨?_, fun f hf => ?_, ?_, fun h5 h6 => ?_, fun f hf hk => ?_, fun f hf hk => ?_, tailOk_app h.tail ⟨fun _ => (fun f hf => by cases hf), trivial⟩ (fun hne => by omega), fun _ hne => ?_, fun hc => ?_, hfg⟩
  · show 4 ≤ st ∧ st ≤ 8
    rw [hst]; split <;> omega
  · rcases List.mem_append.1 hf with hf | hf
    · exact h.ok f hf
    · rw [List.mem_singleton.1 hf]; exact hok
  · show nC (y.way ++ [g]) + nR x.way ≤ 1; omega
  · have h5' : st ≠ 5 := h5
    have h6' : st ≠ 6 := h6
    rw [hst] at h5' h6'
    split at h5'
    · omega
    · rename_i hk
      rw [if_neg hk] at h6'
      omega
  · show st = 5
    rcases List.mem_append.1 hf with hf | hf
    · have := hnc f hf; simp [isC, hk] at this
    · rw [List.mem_singleton.1 hf] at hk; rw [hst, if_pos hk]
  · show st = 6
    rcases List.mem_append.1 hf with hf | hf
    · have := hnc f hf; simp [isC, hk] at this
    · rw [List.mem_singleton.1 hf] at hk; rw [hst, if_neg (by omega)]
  · have hne' : nR x.way ≠ 0 := hne
    omega
  · refine he ?_
    have hc' : st = 4 ∨ st = 6 ∨ st = 5 ∧ q = true := hc
    by_cases hk : g.kind = 4
    · rw [if_pos hk] at hst
      rcases hc' with h | h | h
      · omega
      · omega
      · exact Or.inr h.2
    · rw [if_neg hk] at hst
      exact Or.inl hst
theorem H.calm (h : H x y) {l : List Fr} (hl : ∀ g ∈ l, g ∈ x.way) (h0 : nC y.way + nR l = 0) (st : Int) (q : Bool) (fl : F) (tk : List Ev) (hst : st = 4 ∨ st = 7 ∨ st = 8) (hfg : FG fl) (he : st = 4 → fl.q.list = []) : H { x with st := st, asked := q, fl := fl, taken := tk, way := l } y := by
  have hnc : ∀ f ∈ y.way, isC f = false := fun f hf => by
    have : nC y.way = 0 := by omega
    unfold nC at this
    rw [List.length_eq_zero_iff, List.filter_eq_nil_iff] at this
    simpa using this f hf
  refine ⟨by show 4 ≤ st ∧ st ≤ 8; omega, h.ok, by show nC y.way + nR l ≤ 1; omega, fun _ _ => h0, fun f hf hk => ?_, fun f hf hk => ?_, h.tail, fun _ hne => ?_, fun hc => ?_, hfg⟩
  · have := hnc f hf; simp [isC, hk] at this
  · have := hnc f hf; simp [isC, hk] at this
  · have : nR l ≠ 0 := hne
    omega
  · refine he ?_
    have hc' : st = 4 ∨ st = 6 ∨ st = 5 ∧ q = true := hc
    omega
theorem H.flow (h : H x y) (fl : F) (q : Bool) (tk : List Ev) (td : List ByteArray) (hfg : FG fl) (he : x.st = 4 ∨ x.st = 6 ∨ x.st = 5 ∧ q = true → fl.q.list = []) : H { x with fl := fl, asked := q, taken := tk, told := td } y :=
  ⟨h.st, h.ok, h.one, h.zero, h.sab, h.dis, h.tail, h.ans, he, hfg⟩
theorem H.other (h : H x y) (y' : Cs) (hw : y'.way = y.way) : H x y' := by
  refine ⟨h.st, ?_, ?_, ?_, ?_, ?_, ?_, ?_, h.emp, h.fg⟩
  · rw [hw]; exact h.ok
  · rw [hw]; exact h.one
  · rw [hw]; exact h.zero
  · rw [hw]; exact h.sab
  · rw [hw]; exact h.dis
  · rw [hw]; exact h.tail
  · rw [hw]; exact h.ans
theorem D.other (h : D x y) (x' : Cs) (h1 : x'.st = x.st) (h2 : x'.fl.va = x.fl.va) (h3 : x'.fl.q.list = x.fl.q.list) (h4 : x'.fl.q.sent = x.fl.q.sent) (h5 : x'.asked = x.asked) (h6 : x'.way = x.way) (h7 : x'.taken = x.taken) : D x' y := by
  obtain ⟨tpre, j, h⟩ := h
  have hu : upC x' ↔ upC x := by unfold upC; rw [h1]
  refine ⟨tpre, j, ?_, ?_, ?_, ?_, ?_, ?_, ?_, ?_⟩
  · rw [h7, h3]; exact h.take
  · rw [h4]; exact h.js
  · rw [h3]; exact h.sc
  · rw [hu, h2, h6]; exact h.ak
  · rw [h1, h2, h6]; exact h.fin
  · rw [hu, h2, h3, h4, h1, h6]; exact h.rl
  · rw [h1, h6]; exact h.five
  · rw [hu, h3, h1, h5, h7]; exact h.old
theorem J.pop (h : J x y) {f : Fr} {l : List Fr} (hw : x.way = f :: l) : J { x with way := l } y := by
  have h1 : nR x.way ≤ 1 := by have := h.h1.one; omega
  exact ⟨h.h1.pop hw, h.h2.popR hw, h.d1.pop hw h1, h.d2.popR hw h1⟩
theorem J.send (h : J x y) {B : List Fr} (hok : ∀ f ∈ B, okF f) (hc : nC B = 0) (hr : nR B = 0) (hi : noI B) (hn : ∀ f ∈ B, numb f → upC x ∧ f.nr = x.fl.vr ∧ f.kind ≠ 3) : J x { y with way := y.way ++ B } :=
  ⟨h.h1.appW hok hc (fun ⟨f, hf, hk⟩ => (hn f hf hk).1), h.h2.appX hr, h.d1.appW hi (fun _ => after8_none hr), h.d2.appX hn (fun _ => after8_none hr)⟩
theorem J.sendI (h : J x y) (h7 : x.st = 7) (h1 : x.fl.q.sent < x.fl.q.list.length) (h2 : x.fl.q.sent ≤ 126) {g : Fr} (hok : okF g) (hk : g.kind = 0) (hn : g.ns = x.fl.vs) (hi : g.info = takeS x.fl) (hr : g.nr = x.fl.vr) : J { x with fl := takeF x.fl } { y with way := y.way ++ [g] } := by
  have hc : nC [g] = 0 := by simp [nC, List.filter, isC, hk]
  have hr0 : nR [g] = 0 := by simp [nR, List.filter, isR, hk]
  have hu : upC x := Or.inl h7
  refine ⟨?_, ?_, h.d1.sendI h.h1.fg h7 h1 h2 hk hn hi, ?_⟩
  · have := (h.h1.appW (B := [g]) (fun f hf => by rw [List.mem_singleton.1 hf]; exact hok) hc (fun _ => hu)).flow (takeF x.fl) x.asked x.taken x.told (h.h1.fg.take h1 h2) (fun e => by omega)
    exact this
  · exact (h.h2.appX hr0).other _ rfl
  · refine ((h.d2.appX (B := [g]) (fun f hf _ => ?_) (fun _ => after8_none hr0)).ysame (y' := { x with fl := takeF x.fl }) rfl rfl rfl rfl)
    rw [List.mem_singleton.1 hf]
    exact ⟨hu, hr, by omega⟩
theorem FG.come {f : F} (h : FG f) (ns : Int) : FG (comeF f ns) := by
  unfold comeF
  split
  · exact h
  · split
    · exact ⟨h.va, h.vs, by show 0 ≤ (ns + 1) % 128 ∧ (ns + 1) % 128 < 128; omega, h.win, h.len, h.max⟩
    · exact ⟨h.va, h.vs, h.vr, h.win, h.len, h.max⟩
theorem comeF_va (f : F) (ns : Int) : (comeF f ns).va = f.va ∧ (comeF f ns).vs = f.vs ∧ (comeF f ns).q = f.q := by
  unfold comeF
  split
  · exact ⟨rfl, rfl, rfl⟩
  · split <;> exact ⟨rfl, rfl, rfl⟩
theorem D.ack' (h : D x y) (hg : FG x.fl) (hu : upC x) {f : Fr} {l : List Fr} (hw : x.way = f :: l) (hn : numb f) (fl : F) (hf : fl.va = x.fl.va ∧ fl.vs = x.fl.vs ∧ fl.q = x.fl.q) (td : List ByteArray) : ackOk fl f.nr ∧ D { x with way := l, fl := ackF fl f.nr, told := td } y := by
  obtain ⟨a, b, d⟩ := h.ack hg hu hw hn
  obtain ⟨f1, f2, f3⟩ := hf
  refine ⟨by unfold ackOk at a ⊢; rw [f1, f2]; exact a, d.other _ rfl rfl ?_ ?_ rfl rfl rfl⟩
  · show fl.q.list.drop (ackN fl f.nr) = x.fl.q.list.drop (ackN x.fl f.nr)
    unfold ackN; rw [f1, f3]
  · show fl.q.sent - ackN fl f.nr = x.fl.q.sent - ackN x.fl f.nr
    unfold ackN; rw [f1, f3]
theorem FG.ack' {f : F} (h : FG f) {nr : Int} (ha : ackOk f nr) : FG (ackF f nr) := by
  unfold ackOk at ha
  have h1 := h.va; have h2 := h.vs; have h3 := h.win; have h4 := h.max
  have hc : ((((nr - f.va) % 128).toNat : Nat) : Int) = (nr - f.va) % 128 := by omega
  have hva : (ackF f nr).va = nr % 128 := rfl
  refine ⟨by rw [hva]; omega, h.vs, h.vr, ?_, ?_, ?_⟩
  · show (f.vs - nr % 128) % 128 = ((f.q.sent - ackN f nr : Nat) : Int)
    unfold ackN; omega
  · show f.q.sent - ackN f nr ≤ (f.q.list.drop (ackN f nr)).length
    rw [List.length_drop]; have := h.len; omega
  · show f.q.sent - ackN f nr ≤ 127; omega
theorem J.accept (h : J x y) (hu : upC x) {f : Fr} {l : List Fr} (hw : x.way = f :: l) (hk : f.kind = 0) (ho : x.fl.own = false) (hn : f.ns % 128 = x.fl.vr) :
    ackOk (comeF x.fl f.ns) f.nr ∧ J { x with way := l, fl := ackF (comeF x.fl f.ns) f.nr, told := x.told ++ [f.info] } y := by
  have h1 : nR x.way ≤ 1 := by have := h.h1.one; omega
  have hvr := h.h1.fg.vr
  have he : comeF x.fl f.ns = { x.fl with vr := (f.ns + 1) % 128, ref := false } := by unfold comeF; rw [if_neg (by rw [ho]; decide), if_pos hn]
  obtain ⟨a, d⟩ := h.d1.ack' h.h1.fg hu hw (by unfold numb; omega) (comeF x.fl f.ns) (comeF_va _ _) (x.told ++ [f.info])
  refine ⟨a, ?_, (h.h2.popR hw).other _ rfl, d, ?_⟩
  · exact (h.h1.pop hw).flow _ x.asked x.taken _ ((h.h1.fg.come f.ns).ack' a) (fun e => by unfold upC at hu; show _ = []; have e' : x.st = 4 ∨ x.st = 6 ∨ x.st = 5 ∧ x.asked = true := e; omega)
  · exact h.d2.accept hu hvr h.h2.ans hw hk hn _ (by show (comeF x.fl f.ns).vr = _; rw [he]) (by show (comeF x.fl f.ns).ref = _; rw [he])
theorem J.refuse (h : J x y) (hu : upC x) {f : Fr} {l : List Fr} (hw : x.way = f :: l) (hk : f.kind = 0) (ho : x.fl.own = false) (hn : ¬ f.ns % 128 = x.fl.vr) (hr : x.fl.ref = false) {g : Fr} (hg : g.kind = 3) (hok : okF g) (hgn : g.nr = x.fl.vr) :
    ackOk (comeF x.fl f.ns) f.nr ∧ J { x with way := l, fl := ackF (comeF x.fl f.ns) f.nr } { y with way := y.way ++ [g] } := by
  have h1 : nR x.way ≤ 1 := by have := h.h1.one; omega
  have hvr := h.h1.fg.vr
  have he : comeF x.fl f.ns = { x.fl with ref := true } := by unfold comeF; rw [if_neg (by rw [ho]; decide), if_neg hn]
  have hc0 : nC [g] = 0 := by simp [nC, List.filter, isC, hg]
  have hr0 : nR [g] = 0 := by simp [nR, List.filter, isR, hg]
  obtain ⟨a, d⟩ := h.d1.ack' h.h1.fg hu hw (by unfold numb; omega) (comeF x.fl f.ns) (comeF_va _ _) x.told
  refine ⟨a, ?_, ((h.h2.popR hw).appX hr0).other _ rfl, ?_, ?_⟩
  · exact (((h.h1.pop hw).appW (B := [g]) (fun z hz => by rw [List.mem_singleton.1 hz]; exact hok) hc0 (fun _ => hu)).flow _ x.asked x.taken x.told ((h.h1.fg.come f.ns).ack' a) (fun e => by unfold upC at hu; show _ = []; have e' : x.st = 4 ∨ x.st = 6 ∨ x.st = 5 ∧ x.asked = true := e; omega))
  · exact d.appW (B := [g]) (fun z hz => by rw [List.mem_singleton.1 hz]; omega) (fun _ => after8_none hr0)
  · exact h.d2.refuse hu hvr h.h2.ans hw hk hn hr _ (by show (comeF x.fl f.ns).vr = _; rw [he]) (by show (comeF x.fl f.ns).ref = _; rw [he]) hg hgn
theorem J.again (h : J x y) (hu : upC x) {f : Fr} {l : List Fr} (hw : x.way = f :: l) (hk : f.kind = 0) (hn : x.fl.own = true ∨ x.fl.ref = true ∧ ¬ f.ns % 128 = x.fl.vr) :
    ackOk (comeF x.fl f.ns) f.nr ∧ J { x with way := l, fl := ackF (comeF x.fl f.ns) f.nr } y := by
  have h1 : nR x.way ≤ 1 := by have := h.h1.one; omega
  have he : (comeF x.fl f.ns).vr = x.fl.vr ∧ (comeF x.fl f.ns).ref = x.fl.ref := by
    unfold comeF
    rcases hn with hn | ⟨hn, h2⟩
    · rw [if_pos hn]; exact ⟨rfl, rfl⟩
    · split
      · exact ⟨rfl, rfl⟩
      · exact ⟨rfl, hn.symm⟩
  obtain ⟨a, d⟩ := h.d1.ack' h.h1.fg hu hw (by unfold numb; omega) (comeF x.fl f.ns) (comeF_va _ _) x.told
  refine ⟨a, ?_, (h.h2.popR hw).other _ rfl, d, ?_⟩
  · exact (h.h1.pop hw).flow _ x.asked x.taken x.told ((h.h1.fg.come f.ns).ack' a) (fun e => by unfold upC at hu; show _ = []; have e' : x.st = 4 ∨ x.st = 6 ∨ x.st = 5 ∧ x.asked = true := e; omega)
  · refine (h.d2.popR hw h1).ysame ?_ ?_ ?_ rfl
    · rfl
    · show rE _ = rE { x with way := l }
      unfold rE; show (if x.st = 5 then 0 else (comeF x.fl f.ns).vr) = _; rw [he.1]
    · show refE _ = refE { x with way := l }
      unfold refE; show (if x.st = 5 then false else (comeF x.fl f.ns).ref) = _; rw [he.2]
theorem J.sup (h : J x y) (hu : upC x) {f : Fr} {l : List Fr} (hw : x.way = f :: l) (hn : numb f) (p : Bool) :
    ackOk { x.fl with peer := p } f.nr ∧ J { x with way := l, fl := ackF { x.fl with peer := p } f.nr } y := by
  have h1 : nR x.way ≤ 1 := by have := h.h1.one; omega
  have hfg : FG { x.fl with peer := p } := ⟨h.h1.fg.va, h.h1.fg.vs, h.h1.fg.vr, h.h1.fg.win, h.h1.fg.len, h.h1.fg.max⟩
  obtain ⟨a, d⟩ := h.d1.ack' h.h1.fg hu hw hn { x.fl with peer := p } ⟨rfl, rfl, rfl⟩ x.told
  refine ⟨a, ?_, (h.h2.popR hw).other _ rfl, d, (h.d2.popR hw h1).ysame rfl rfl rfl rfl⟩
  exact (h.h1.pop hw).flow _ x.asked x.taken x.told (hfg.ack' a) (fun e => by unfold upC at hu; show _ = []; have e' : x.st = 4 ∨ x.st = 6 ∨ x.st = 5 ∧ x.asked = true := e; omega)
theorem J.back (h : J x y) {f : Fr} {l : List Fr} (hw : x.way = f :: l) (hk : x.st = 7 ∧ f.kind = 3 ∨ x.st = 8 ∧ (f.kind = 1 ∨ f.kind = 2) ∧ final f = true) (p : Bool) :
    ackOk { x.fl with peer := p } f.nr ∧ J { x with st := 7, way := l, fl := backF (ackF { x.fl with peer := p } f.nr) } y := by
  have hu : upC x := by unfold upC; omega
  have hn : numb f := by unfold numb; omega
  obtain ⟨a, j1⟩ := h.sup hu hw hn p
  have h1 : nR x.way ≤ 1 := by have := h.h1.one; omega
  have hd : ackOk x.fl f.nr ∧ D { x with st := 7, way := l, fl := backF (ackF x.fl f.nr) } y := by
    rcases hk with ⟨h7, hk⟩ | ⟨h8, hk, hf⟩
    · obtain ⟨a, _, d⟩ := h.d1.rej h.h1.fg h7 hw hk
      have he : ({ x with st := 7, way := l, fl := backF (ackF x.fl f.nr) } : Cs) = { x with way := l, fl := backF (ackF x.fl f.nr) } := by rw [← h7]
      rw [he]; exact ⟨a, d⟩
    · obtain ⟨a, _, d⟩ := h.d1.fin h.h1.fg h8 hw hk hf
      exact ⟨a, d⟩
  have h0 := h.h1.zero (by unfold upC at hu; omega) (by unfold upC at hu; omega)
  have hnl : nR l ≤ nR x.way := by rw [hw, nR_cons]; omega
  refine ⟨a, ?_, j1.h2.other _ rfl, hd.2.other _ rfl rfl rfl rfl rfl rfl rfl, j1.d2.ysame ?_ ?_ ?_ rfl⟩
  · exact h.h1.calm (l := l) (fun g hg => by rw [hw]; exact List.mem_cons_of_mem _ hg) (by omega) 7 x.asked _ x.taken (Or.inr (Or.inl rfl)) j1.h1.fg.back (fun e => by omega)
  · rw [efw_up (y := { x with st := 7, way := l, fl := backF (ackF { x.fl with peer := p } f.nr) }) (Or.inl rfl), efw_up (y := { x with way := l, fl := ackF { x.fl with peer := p } f.nr }) hu]
  · rw [rE_up (y := { x with st := 7, way := l, fl := backF (ackF { x.fl with peer := p } f.nr) }) (Or.inl rfl), rE_up (y := { x with way := l, fl := ackF { x.fl with peer := p } f.nr }) hu]; rfl
  · rw [refE_up (y := { x with st := 7, way := l, fl := backF (ackF { x.fl with peer := p } f.nr) }) (Or.inl rfl), refE_up (y := { x with way := l, fl := ackF { x.fl with peer := p } f.nr }) hu]; rfl
end Go.Proofs.YtljnfbpplhnmfaaGreatDoor.Md
namespace Go.Proofs.YtljnfbpplhnmfaaGreatDoor.Md
set_option linter.unusedVariables false
set_option linter.unusedSimpArgs false
variable {x y : Cs}
theorem nR_no {g : Fr} (h : ¬ (g.kind = 5 ∨ g.kind = 8)) : nR [g] = 0 := by simp [nR, List.filter, isR, h]
theorem nC_no {g : Fr} (h : ¬ (g.kind = 4 ∨ g.kind = 7)) : nC [g] = 0 := by simp [nC, List.filter, isC, h]
theorem FG.clear_eq {f : F} (h : FG f) (hl : f.q.list = []) : clearF f = f := by
  have h1 := h.va; have h2 := h.vs; have h3 := h.win; have h4 := h.len
  have hs : f.q.sent = 0 := by rw [hl] at h4; simpa using h4
  have hv : f.va = f.vs := by rw [hs] at h3; omega
  obtain ⟨vs, va, vr, p, o, r, k, ⟨m, l, s⟩⟩ := f
  simp only at hl hs hv
  subst hl hs hv
  rfl
def cleared (x : Cs) (fl : F) (tk : List Ev) : Prop := fl = x.fl ∧ tk = x.taken ∧ x.fl.q.sent = 0 ∨ fl = clearF x.fl ∧ ∃ mk, tk = x.taken ++ mk ∧ mk ≠ [] ∧ ∀ e ∈ mk, e.taken = false
theorem mem_cons_head {f : Fr} {l w : List Fr} (h : w = f :: l) : f ∈ w := by rw [h]; exact List.mem_cons_self ..
theorem J.reopen (h : J x y) {f : Fr} {l : List Fr} (hw : x.way = f :: l) (hk : f.kind = 4) (hs : x.st = 4 ∨ x.st = 7 ∨ x.st = 8) {g : Fr} (hg : g.kind = 8) (hok : okF g) (fl : F) (tk : List Ev) (hc : cleared x fl tk) (q : Bool) :
    J { x with st := 7, asked := q, fl := resetF fl, way := l, taken := tk } { y with way := y.way ++ [g] } := by
  have hf : isC f = true := by simp [isC, hk]
  have hgR : isR g = true := by simp [isR, hg]
  have h5 : y.st = 5 := h.h2.sab f (mem_cons_head hw) hk
  have h0 : nR y.way = 0 := by have := h.h2.one; rw [hw, nC_cons, if_pos hf] at this; omega
  have hl : noN l := by have := h.h2.tail; rw [hw] at this; exact this.1 hf
  have hz := h.h1.zero (by omega) (by omega)
  have hnl : nR l ≤ nR x.way := by rw [hw, nR_cons]; omega
  refine ⟨?_, (h.h2.reply hw hf hgR).other _ rfl, ?_, ?_⟩
  · exact (h.h1.calm (l := l) (fun z hz => by rw [hw]; exact List.mem_cons_of_mem _ hz) (by omega) 7 q (resetF fl) tk (Or.inr (Or.inl rfl)) FG.reset (fun e => by omega)).appW (B := [g]) (fun z hz => by rw [List.mem_singleton.1 hz]; exact hok) (nC_no (by omega)) (fun _ => Or.inl rfl)
  · rcases hc with ⟨rfl, rfl, hs0⟩ | ⟨rfl, mk, rfl, hm0, hm⟩
    · exact h.d1.reopen hs0 h5 h0 hl hg q
    · exact (h.d1.down 4 x.asked mk hm hm0 (Or.inl rfl) (fun e => by omega) (fun e => by omega)).reopen rfl h5 h0 hl hg q
  · have := h.d2.yreset h5 h0 hl hg (resetF fl) rfl rfl q tk
    exact this
theorem J.ua5 (h : J x y) {f : Fr} {l : List Fr} (hw : x.way = f :: l) (hk : f.kind = 4) (hs : x.st = 5) {g : Fr} (hg : g.kind = 8) (hok : okF g) : J { x with way := l } { y with way := y.way ++ [g] } := by
  have hf : isC f = true := by simp [isC, hk]
  have hgR : isR g = true := by simp [isR, hg]
  have h5 : y.st = 5 := h.h2.sab f (mem_cons_head hw) hk
  have h0 : nR y.way = 0 := by have := h.h2.one; rw [hw, nC_cons, if_pos hf] at this; omega
  have h1 : nR x.way ≤ 1 := by have := h.h1.one; omega
  refine ⟨(h.h1.pop hw).appW (B := [g]) (fun z hz => by rw [List.mem_singleton.1 hz]; exact hok) (nC_no (by omega)) ?_, h.h2.reply hw hf hgR, ?_, ?_⟩
  · rintro ⟨z, hz, hn⟩
    rw [List.mem_singleton.1 hz] at hn
    unfold numb at hn; omega
  · exact (h.d1.pop hw h1).appW8 hg (not_up5 hs) h5 h0
  · exact (h.d2.y5 h5 hs h0 hg).popR (y := x) hw h1
theorem J.reply (h : J x y) {f : Fr} {l : List Fr} (hw : x.way = f :: l) (hf : isC f = true) {g : Fr} (hgR : isR g = true) (hok : okF g) (hg5 : f.kind = 4 → g.kind = 5) : J { x with way := l } { y with way := y.way ++ [g] } := by
  have h1 : nR x.way ≤ 1 := by have := h.h1.one; omega
  have hgk : g.kind = 5 ∨ g.kind = 8 := by simpa [isR] using hgR
  have hfk : f.kind = 4 ∨ f.kind = 7 := by simpa [isC] using hf
  have h8 : y.st = 5 → after8 [g] = none := fun h5 => by
    have hk : f.kind = 4 := by
      rcases hfk with h | h
      · exact h
      · rename_i hJ; have := hJ.h2.dis f (mem_cons_head hw) h; omega
    have := hg5 hk
    simp [after8, this]
  refine ⟨(h.h1.pop hw).appW (B := [g]) (fun z hz => by rw [List.mem_singleton.1 hz]; exact hok) (nC_no (by omega)) ?_, h.h2.reply hw hf hgR, ?_, ?_⟩
  · rintro ⟨z, hz, hn⟩
    rw [List.mem_singleton.1 hz] at hn
    unfold numb at hn; omega
  · exact (h.d1.pop hw h1).appW (B := [g]) (fun z hz => by rw [List.mem_singleton.1 hz]; omega) h8
  · refine (h.d2.popR hw h1).appX (B := [g]) (fun z hz hn => ?_) h8
    rw [List.mem_singleton.1 hz] at hn
    unfold numb at hn; omega
theorem J.close (h : J x y) (h0 : nC y.way + nR x.way = 0) (mk : List Ev) (hm : ∀ e ∈ mk, e.taken = false) (hm0 : mk ≠ []) : J { x with st := 4, fl := clearF x.fl, taken := x.taken ++ mk } y := by
  refine ⟨h.h1.calm (l := x.way) (fun g hg => hg) h0 4 x.asked _ _ (Or.inl rfl) h.h1.fg.clear (fun _ => rfl), h.h2.other _ rfl, h.d1.down 4 x.asked mk hm hm0 (Or.inl rfl) (fun e => by omega) (fun e => by omega), h.d2.ydown ?_ rfl⟩
  exact efw_off (not_up (Or.inl rfl)) (by show ¬ (4 : Int) = 5; decide)
theorem J.close1 (h : J x y) {f : Fr} {l : List Fr} (hw : x.way = f :: l) (hf : isR f = true) (mk : List Ev) (hm : ∀ e ∈ mk, e.taken = false) (hm0 : mk ≠ []) : J { x with st := 4, fl := clearF x.fl, way := l, taken := x.taken ++ mk } y := by
  have := h.h1.one
  rw [hw, nR_cons, if_pos hf] at this
  exact (h.pop hw).close (by show nC y.way + nR l = 0; omega) mk hm hm0
theorem J.disc (h : J x y) (hu : upC x) {f : Fr} {l : List Fr} (hw : x.way = f :: l) (hk : f.kind = 7) {g : Fr} (hg : g.kind = 8) (hok : okF g) (mk : List Ev) (hm : ∀ e ∈ mk, e.taken = false) (hm0 : mk ≠ []) :
    J { x with st := 4, fl := clearF x.fl, way := l, taken := x.taken ++ mk } { y with way := y.way ++ [g] } := by
  have h0 := h.h1.zero (by unfold upC at hu; omega) (by unfold upC at hu; omega)
  have hr := h.reply hw (by simp [isC, hk]) (g := g) (by simp [isR, hg]) hok (fun e => by omega)
  have hnl : nR l ≤ nR x.way := by rw [hw, nR_cons]; omega
  refine hr.close ?_ mk hm hm0
  show nC (y.way ++ [g]) + nR l = 0
  rw [nC_app, nC_no (g := g) (by omega)]; omega
theorem J.up8 (h : J x y) (h5 : x.st = 5) {f : Fr} {l : List Fr} (hw : x.way = f :: l) (hk : f.kind = 8) (fl : F) (tk : List Ev) (hc : cleared x fl tk) (q : Bool) : J { x with st := 7, asked := q, fl := resetF fl, way := l, taken := tk } y := by
  have hf : isR f = true := by simp [isR, hk]
  have h1 := h.h1.one
  rw [hw, nR_cons, if_pos hf] at h1
  have hne : nR x.way ≠ 0 := by rw [hw, nR_cons, if_pos hf]; omega
  have hy : noN y.way := h.h1.ans (not_up5 h5) hne
  refine ⟨h.h1.calm (l := l) (fun z hz => by rw [hw]; exact List.mem_cons_of_mem _ hz) (by omega) 7 q _ tk (Or.inr (Or.inl rfl)) FG.reset (fun e => by omega), (h.h2.popR hw).other _ rfl, ?_, ?_⟩
  · rcases hc with ⟨rfl, rfl, hs0⟩ | ⟨rfl, mk, rfl, hm0, hm⟩
    · exact h.d1.up8 hs0 h5 hw hk hy q
    · exact (h.d1.down 5 true mk hm hm0 (Or.inr (Or.inl rfl)) (fun _ => rfl) (fun _ e => absurd h5 e)).up8 rfl rfl hw hk hy q
  · have := h.d2.y8 h5 hw hk (resetF fl) rfl rfl q tk
    exact this
theorem J.ask (h : J x y) (hs : x.st = 4 ∨ x.st = 7 ∨ x.st = 8) {g : Fr} (hg : g.kind = 4 ∨ g.kind = 7) (hok : okF g) (mk : List Ev) (hm : ∀ e ∈ mk, e.taken = false) (hm0 : mk ≠ []) (q : Bool) (hq : g.kind = 4 → q = true) :
    J { x with st := if g.kind = 4 then 5 else 6, asked := q, fl := clearF x.fl, taken := x.taken ++ mk } { y with way := y.way ++ [g] } := by
  have h0 := h.h1.zero (by omega) (by omega)
  have ha : after8 x.way = none := after8_none (by omega)
  have hgR : nR [g] = 0 := nR_no (by omega)
  have hst : (if g.kind = 4 then (5 : Int) else 6) = 4 ∨ (if g.kind = 4 then (5 : Int) else 6) = 5 ∨ (if g.kind = 4 then (5 : Int) else 6) = 6 := by split <;> omega
  refine ⟨h.h1.newcall h0 hg hok _ q _ _ rfl h.h1.fg.clear (fun _ => rfl), (h.h2.appX hgR).other _ rfl, ?_, ?_⟩
  · refine (h.d1.down (if g.kind = 4 then 5 else 6) q mk hm hm0 hst (fun e => hq ?_) (fun _ _ => ha)).appW (B := [g]) (fun z hz => by rw [List.mem_singleton.1 hz]; omega) (fun _ => after8_none hgR)
    by_cases hk : g.kind = 4
    · exact hk
    · rw [if_neg hk] at e; omega
  · refine (h.d2.appX (B := [g]) (fun z hz hn => ?_) (fun _ => after8_none hgR)).ydown ?_ rfl
    · rw [List.mem_singleton.1 hz] at hn
      unfold numb at hn; omega
    · by_cases hk : g.kind = 4
      · rw [efw_five (y := { x with st := if g.kind = 4 then 5 else 6, asked := q, fl := clearF x.fl, taken := x.taken ++ mk }) (if_pos hk)]
        exact ha
      · exact efw_off (not_up (Or.inr (Or.inr (if_neg hk)))) (by show ¬ (if g.kind = 4 then (5 : Int) else 6) = 5; rw [if_neg hk]; decide)
theorem J.ask5 (h : J x y) (h5 : x.st = 5) (mk : List Ev) (hm : ∀ e ∈ mk, e.taken = false) (hm0 : mk ≠ []) : J { x with asked := true, fl := clearF x.fl, taken := x.taken ++ mk } y := by
  have hd := h.d1.down 5 true mk hm hm0 (Or.inr (Or.inl rfl)) (fun _ => rfl) (fun _ e => absurd h5 e)
  rw [show ({ x with st := 5, asked := true, fl := clearF x.fl, taken := x.taken ++ mk } : Cs) = { x with asked := true, fl := clearF x.fl, taken := x.taken ++ mk } by rw [← h5]] at hd
  refine ⟨h.h1.flow _ true _ x.told h.h1.fg.clear (fun _ => rfl), h.h2.other _ rfl, hd, h.d2.ysame rfl ?_ ?_ rfl⟩
  · unfold rE; show (if x.st = 5 then 0 else (clearF x.fl).vr) = _; rfl
  · unfold refE; rfl
theorem J.word4 (h : J x y) (h4 : x.st = 4) (mk : List Ev) (hm : ∀ e ∈ mk, e.taken = false) (hm0 : mk ≠ []) : J { x with taken := x.taken ++ mk } y := by
  have he := h.h1.fg.clear_eq (h.h1.emp (Or.inl h4))
  have := h.close (h.h1.zero (by omega) (by omega)) mk hm hm0
  rw [he, show ({ x with st := 4, taken := x.taken ++ mk } : Cs) = { x with taken := x.taken ++ mk } by rw [← h4]] at this
  exact this
theorem J.recall (h : J x y) (hx : x.way = []) (hy : y.way = []) {g : Fr} (hg : g.kind = 4 ∧ x.st = 5 ∨ g.kind = 7 ∧ x.st = 6) (hok : okF g) : J x { y with way := y.way ++ [g] } := by
  have h0 : nC y.way + nR x.way = 0 := by rw [hx, hy]; rfl
  have hgR : nR [g] = 0 := nR_no (by omega)
  have hn : ¬ numb g := by unfold numb; omega
  refine ⟨?_, h.h2.appX hgR, h.d1.appW (B := [g]) (fun z hz => by rw [List.mem_singleton.1 hz]; omega) (fun _ => after8_none hgR), h.d2.appX (B := [g]) (fun z hz hn' => ?_) (fun _ => after8_none hgR)⟩
  · have := h.h1.newcall h0 (g := g) (by omega) hok x.st x.asked x.fl x.taken (by rcases hg with ⟨a, b⟩ | ⟨a, b⟩ <;> rw [b, a] <;> rfl) h.h1.fg (fun e => h.h1.emp (by
      rcases hg with ⟨a, b⟩ | ⟨a, b⟩
      · rcases e with e | e
        · omega
        · exact Or.inr (Or.inr ⟨b, e⟩)
      · exact Or.inr (Or.inl b)))
    exact this
  · rw [List.mem_singleton.1 hz] at hn'
    exact absurd hn' hn
theorem J.anew (h : J x y) (hu : upC x) (hx : x.way = []) (hy : y.way = []) {g : Fr} (hg : g.kind = 4) (hok : okF g) : J { x with st := 5, asked := false } { y with way := y.way ++ [g] } := by
  have h0 : nC y.way + nR x.way = 0 := by rw [hx, hy]; rfl
  have hgR : nR [g] = 0 := nR_no (by omega)
  refine ⟨?_, (h.h2.appX hgR).other _ rfl, (h.d1.anew hu hx hy).appW (B := [g]) (fun z hz => by rw [List.mem_singleton.1 hz]; omega) (fun _ => after8_none hgR), ?_⟩
  · exact h.h1.newcall h0 (Or.inl hg) hok 5 false x.fl x.taken (by rw [if_pos hg]) h.h1.fg (fun e => absurd e (by simp))
  · refine (h.d2.appX (B := [g]) (fun z hz hn => ?_) (fun _ => after8_none hgR)).ydown ?_ rfl
    · rw [List.mem_singleton.1 hz] at hn
      unfold numb at hn; omega
    · rw [efw_five (y := { x with st := 5, asked := false }) rfl]
      show after8 x.way = none
      rw [hx]; rfl
theorem J.to8 (h : J x y) (hu : upC x) (hx : x.way = []) (hy : y.way = []) : J { x with st := 8 } y := by
  have h0 : nC y.way + nR x.way = 0 := by rw [hx, hy]; rfl
  refine ⟨h.h1.calm (l := x.way) (fun g hg => hg) h0 8 x.asked x.fl x.taken (Or.inr (Or.inr rfl)) h.h1.fg (fun e => by omega), h.h2.other _ rfl, h.d1.to8 hu hx hy, h.d2.ysame ?_ ?_ ?_ rfl⟩
  · rw [efw_up (y := { x with st := 8 }) (Or.inr rfl), efw_up hu]
  · rw [rE_up (y := { x with st := 8 }) (Or.inr rfl), rE_up hu]
  · rw [refE_up (y := { x with st := 8 }) (Or.inr rfl), refE_up hu]
theorem J.push (h : J x y) (hu : upC x ∨ x.st = 5 ∧ x.asked = false) (s : ByteArray) : J { x with fl := pushF x.fl s, taken := x.taken ++ [⟨s, true⟩] } y := by
  refine ⟨h.h1.flow _ x.asked _ x.told (h.h1.fg.push s) (fun e => ?_), h.h2.other _ rfl, h.d1.push h.h1.fg hu s, h.d2.ysame rfl rfl rfl rfl⟩
  rcases hu with hu | ⟨h5, ha⟩
  · unfold upC at hu; omega
  · rcases e with e | e | ⟨_, e⟩
    · omega
    · omega
    · rw [ha] at e; cases e
theorem J.flags (h : J x y) (fl : F) (h1 : fl.va = x.fl.va) (h2 : fl.vs = x.fl.vs) (h3 : fl.vr = x.fl.vr) (h4 : fl.ref = x.fl.ref) (h5 : fl.q = x.fl.q) : J { x with fl := fl } y := by
  refine ⟨h.h1.flow fl x.asked x.taken x.told ⟨by rw [h1]; exact h.h1.fg.va, by rw [h2]; exact h.h1.fg.vs, by rw [h3]; exact h.h1.fg.vr, by rw [h1, h2, h5]; exact h.h1.fg.win, by rw [h5]; exact h.h1.fg.len, by rw [h5]; exact h.h1.fg.max⟩ (fun e => by rw [h5]; exact h.h1.emp e), h.h2.other _ rfl, h.d1.other _ rfl h1 (by show fl.q.list = _; rw [h5]) (by show fl.q.sent = _; rw [h5]) rfl rfl rfl, h.d2.ysame rfl ?_ ?_ rfl⟩
  · unfold rE; show (if x.st = 5 then 0 else fl.vr) = _; rw [h3]
  · unfold refE; show (if x.st = 5 then false else fl.ref) = _; rw [h4]
end Go.Proofs.YtljnfbpplhnmfaaGreatDoor.Md
