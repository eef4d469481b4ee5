/- The model's functions: all frames that they send may come over the link, and how many there are. No program in sight; no condition. Both ends of a link, in memory: a call on an end. Conditions: sizes. -/
import Derived.Test.YtljnfbpplhnmfaaGreatDoorUs04
import Derived.Test.YtljnfbpplhnmfaaGreatDoorUs15
namespace Go.Proofs.YtljnfbpplhnmfaaGreatDoor.Md
set_option linter.unusedVariables false
structure GO (n : Nat) (e : E) : Prop where
  len : e.out.length ≤ n
  fr : ∀ x ∈ e.out, x.kind = 0 → FrOk x.fr
  ql : e.fl.q.list.length ≤ 256
  qs : ∀ s ∈ e.fl.q.list, s.size ≤ 260
section
variable {n : Nat} {e : E}
theorem GO.mono {m : Nat} (h : GO n e) (hm : n ≤ m) : GO m e := ⟨Nat.le_trans h.len hm, h.fr, h.ql, h.qs⟩
theorem go_tell {x : Ef} (h : GO n e) (hx : x.kind = 0 → FrOk x.fr) : GO (n + 1) (tell e x) :=
  ⟨len_tell h.len, fun y hy h0 => by
    rcases List.mem_append.1 hy with hy | hy
    · exact h.fr y hy h0
    · rw [List.mem_singleton.1 hy] at h0 ⊢; exact hx h0, h.ql, h.qs⟩
theorem go_told {k : Int} {d : ByteArray} (hk : k ≠ 0) (h : GO n e) : GO (n + 1) (told e k d) := go_tell h (fun h0 => absurd h0 hk)
theorem go_sendData {k : Int} {c p : Bool} {ns : Int} {s : ByteArray} (h : GO n e) (hf : FrOk (mkFr e k c p ns s)) : GO (n + 1) (sendData e k c p ns s) := go_tell h (fun _ => hf)
def may0 (k : Int) (c : Bool) : Prop := k = 1 ∨ k = 2 ∨ k = 3 ∨ k = 4 ∧ c = true ∨ k = 5 ∧ c = false ∨ k = 7 ∧ c = true ∨ k = 8 ∧ c = false
theorem go_send {k : Int} {c p : Bool} (hk : may0 k c) (h : GO n e) : GO (n + 1) (send e k c p) :=
  go_sendData h ⟨by
    show k = 0 ∧ c = true ∨ k = 1 ∨ k = 2 ∨ k = 3 ∨ k = 4 ∧ c = true ∨ k = 5 ∧ c = false ∨ k = 6 ∧ c = true ∨ k = 7 ∧ c = true ∨ k = 8 ∧ c = false
    rcases hk with h | h | h | h | h | h | h <;> simp [h], Or.inr (Or.inr rfl), by show (nil8 : ByteArray).size ≤ 260; decide⟩
theorem go_start200 (h : GO n e) : GO (n + 1) (start200 e) := go_tell (e := { e with r200 := true }) ⟨h.len, h.fr, h.ql, h.qs⟩ (fun h0 => absurd h0 (by decide))
theorem go_start203 (h : GO n e) : GO (n + 1) (start203 e) := go_tell (e := { e with r203 := true }) ⟨h.len, h.fr, h.ql, h.qs⟩ (fun h0 => absurd h0 (by decide))
theorem go_stop200 (h : GO n e) : GO (n + 1) (stop200 e) := by
  unfold stop200; split
  · exact go_tell (e := { e with r200 := false }) ⟨h.len, h.fr, h.ql, h.qs⟩ (fun h0 => absurd h0 (by decide))
  · exact h.mono (Nat.le_succ _)
theorem go_stop203 (h : GO n e) : GO (n + 1) (stop203 e) := by
  unfold stop203; split
  · exact go_tell (e := { e with r203 := false }) ⟨h.len, h.fr, h.ql, h.qs⟩ (fun h0 => absurd h0 (by decide))
  · exact h.mono (Nat.le_succ _)
theorem GO.fl (h : GO n e) {f : F} (h1 : f.q.list.length ≤ 256) (h2 : ∀ s ∈ f.q.list, s.size ≤ 260) : GO n { e with fl := f } := ⟨h.len, h.fr, h1, h2⟩
theorem GO.clear (h : GO n e) : GO n { e with fl := clearF e.fl } := h.fl (Nat.zero_le _) (fun s hs => by cases hs)
theorem GO.same (h : GO n e) {e' : E} (ho : e'.out = e.out) (hf : e'.fl.q.list = e.fl.q.list) : GO n e' := ⟨by rw [ho]; exact h.len, by rw [ho]; exact h.fr, by rw [hf]; exact h.ql, by rw [hf]; exact h.qs⟩
theorem go_call (h : GO n e) : GO (n + 3) (call e) := (go_start200 (go_stop203 (go_send (k := 4) (c := true) (p := true) (Or.inr (Or.inr (Or.inr (Or.inl ⟨rfl, rfl⟩)))) (h.same (e' := { e with tries := 0 }) rfl rfl)))).same rfl rfl
theorem go_anew {l : ByteArray} (h : GO n e) : GO (n + 4) (anew e l) := go_call ((go_told (k := 7) (d := l) (by decide) h).same (e' := { told e 7 l with asked := false }) rfl rfl)
theorem go_goOne (h : GO n e) (ht : takeOk e.fl) : GO (n + 3) (goOne e) := by
  have hm : takeS e.fl ∈ e.fl.q.list := by
    unfold takeS
    rw [List.getD_eq_getElem?_getD, List.getElem?_eq_getElem ht.2.1]
    exact List.getElem_mem ht.2.1
  have h1 : GO (n + 1) (goOne1 e) := go_sendData (e := { e with fl := takeF e.fl }) (h.fl (f := takeF e.fl) h.ql h.qs) ⟨Or.inl ⟨rfl, rfl⟩, Or.inl rfl, h.qs _ hm⟩
  unfold goOne; split
  · exact h1.mono (by omega)
  · exact go_start200 (go_stop203 h1)
theorem go_goOnN : ∀ (k : Nat) {n : Nat} {e : E}, GO n e → GO (n + 3 * k) (goOnN k e)
  | 0, n, e, h => h
  | k + 1, n, e, h => by
    unfold goOnN; split
    · rename_i ht; exact (go_goOnN k (go_goOne h ht)).mono (by omega)
    · exact h.mono (by omega)
theorem go_goOn (h : GO n e) : GO (n + 768) (goOn e) := by
  unfold goOn; split
  · exact (go_goOnN _ h).mono (by have := h.ql; omega)
  · exact h.mono (by omega)
theorem go_open (h : GO n e) : GO (n + 770) (open_ e) :=
  (go_goOn ((go_start203 (go_stop200 (h.fl (f := resetF e.fl) h.ql h.qs))).same (e' := { start203 (stop200 { e with fl := resetF e.fl }) with state := 7 }) rfl rfl)).mono (by omega)
theorem go_supervise {c p : Bool} (h : GO n e) : GO (n + 1) (supervise e c p) := by
  unfold supervise; split
  · exact go_send (Or.inr (Or.inl rfl)) h
  · exact go_send (Or.inl rfl) h
theorem go_inquire (h : GO n e) : GO (n + 2) (inquire e) := go_start200 (go_supervise h)
theorem go_end (h : GO n e) : GO (n + 2) (end_ e) := (go_stop203 (go_stop200 h.clear)).same rfl rfl
theorem go_unsure (h : GO n e) : GO (n + 1) (unsure e) := by
  unfold unsure; split
  · exact go_told (by decide) h.clear
  · exact h.mono (Nat.le_succ _)
theorem go_count {k : Nat} (h : GO n e) : GO (n + 2) (count e k) := by
  unfold count; split
  · exact go_start203 (go_stop200 h)
  · split
    · exact (go_start200 h).mono (by omega)
    · exact h.mono (by omega)
theorem go_strange {f : Fr} (h : GO n e) : GO (n + 1) (strange e f) := by
  unfold strange; split <;> exact go_told (by decide) h
theorem GO.ack (h : GO n e) (nr : Int) : GO n { e with fl := ackF e.fl nr } :=
  h.fl (by show (e.fl.q.list.drop _).length ≤ 256; rw [List.length_drop]; have := h.ql; omega) (fun s hs => h.qs s (List.mem_of_mem_drop hs))
theorem go_ask1 (h : GO n e) (a : Int) (s : ByteArray) (hs : s.size ≤ 260) (hc : e.fl.q.most ≤ 256) : GO (n + 800) (ask1 e a s).2 := by
  have h0 := h.mono (Nat.le_add_right n 800)
  unfold ask1
  split
  · unfold establish
    split
    · exact h0
    · split
      · exact (h.clear.same (e' := { e with fl := clearF e.fl, asked := true }) rfl rfl).mono (by omega)
      · split
        · exact (go_call (h.same (e' := { e with asked := true }) rfl rfl)).mono (by omega)
        · exact (go_call (h.clear.same (e' := { e with fl := clearF e.fl, asked := true }) rfl rfl)).mono (by omega)
  · split
    · unfold release
      split
      · exact (go_told (by decide) h).mono (by omega)
      · split
        · have h9 := go_start200 (go_stop203 (go_send (k := 7) (c := true) (p := true) (Or.inr (Or.inr (Or.inr (Or.inr (Or.inr (Or.inl ⟨rfl, rfl⟩)))))) (h.clear.same (e' := { e with fl := clearF e.fl, tries := 0 }) rfl rfl)))
          exact GO.mono (GO.same h9 rfl rfl) (by omega)
        · exact h0
    · split
      · unfold data
        split
        · exact h0
        · split
          · rename_i hp
            refine (go_goOn (e := { e with fl := pushF e.fl s }) (h.fl (f := pushF e.fl s) ?_ ?_)).mono (by omega)
            · show (e.fl.q.list ++ [s]).length ≤ 256
              unfold canPush at hp
              rw [List.length_append, List.length_singleton]
              omega
            · intro x hx
              rcases List.mem_append.1 hx with hx | hx
              · exact h.qs x hx
              · rw [List.mem_singleton.1 hx]; exact hs
          · exact h0
      · split
        · exact (go_sendData (k := 6) (c := true) (p := false) (ns := 0) (s := s) h ⟨by show (6 : Int) = 0 ∧ true = true ∨ (6 : Int) = 1 ∨ (6 : Int) = 2 ∨ (6 : Int) = 3 ∨ (6 : Int) = 4 ∧ true = true ∨ (6 : Int) = 5 ∧ true = false ∨ (6 : Int) = 6 ∧ true = true ∨ _; simp, Or.inr (Or.inl rfl), hs⟩).mono (by omega)
        · unfold own
          split
          · exact h0
          · split
            · exact h0
            · exact (go_supervise (e := { e with fl := { e.fl with own := decide (a = 4) } }) (h.fl h.ql h.qs)).mono (by omega)
theorem go_supervised1 {f : Fr} (h : GO n e) : GO (n + 1) (supervised1 e f) := by
  unfold supervised1
  split
  · exact go_supervise h
  · split
    · exact go_told (by decide) h
    · exact h.mono (by omega)
theorem go_supervised2 {f : Fr} (h : GO n e) : GO (n + 2) (supervised2 e f) := by
  unfold supervised2
  split
  · exact go_start203 (go_stop200 h)
  · split
    · exact go_start200 (go_stop203 h)
    · exact (go_start200 h).mono (by omega)
theorem supervised2_fl (e : E) (f : Fr) : (supervised2 e f).fl = e.fl := by
  unfold supervised2
  split
  · exact ((same_stop200 e).trans (same_start203 _)).fl
  · split
    · exact ((same_stop203 e).trans (same_start200 _)).fl
    · exact (same_start200 e).fl
theorem go_supervised3 {f : Fr} (h : GO n e) : GO (n + 775) (supervised3 e f) := by
  unfold supervised3
  have ha := h.ack f.nr
  split
  · split
    · exact ha.mono (by omega)
    · split
      · exact (go_goOn (go_count ha)).mono (by omega)
      · split
        · refine (go_goOn ((go_supervised2 ha).same (e' := { supervised2 { e with fl := ackF e.fl f.nr } f with fl := backF (ackF e.fl f.nr), state := 7 }) rfl ?_)).mono (by omega)
          show (ackF e.fl f.nr).q.list = _
          rw [supervised2_fl]
        · exact (go_goOn ((go_supervised2 ha).same (e' := { supervised2 { e with fl := ackF e.fl f.nr } f with state := 7 }) rfl rfl)).mono (by omega)
  · exact (go_anew h).mono (by omega)
theorem go_supervised {f : Fr} (h : GO n e) : GO (n + 776) (supervised e f) := by
  unfold supervised
  exact go_supervised3 ((go_supervised1 h).fl (f := { e.fl with peer := decide (f.kind = 2) }) h.ql h.qs)
theorem comeF_q (f : F) (ns : Int) : (comeF f ns).q = f.q := by
  unfold comeF
  split
  · rfl
  · split <;> rfl
theorem go_info {f : Fr} (h : GO n e) : GO (n + 780) (info e f) := by
  have hc : GO n { e with fl := comeF e.fl f.ns } := h.fl (by rw [comeF_q]; exact h.ql) (by rw [comeF_q]; exact h.qs)
  have h1 : GO (n + 2) (info1 e f) := by
    unfold info1
    split
    · exact go_supervise (go_told (by decide) hc)
    · split
      · exact (go_send (k := 3) (c := false) (Or.inr (Or.inr (Or.inl rfl))) hc).mono (by omega)
      · split
        · exact (go_supervise hc).mono (by omega)
        · exact hc.mono (by omega)
  unfold info info2
  have ha := h1.ack f.nr
  split
  · split
    · split
      · exact (go_goOn ha).mono (by omega)
      · exact (go_goOn (go_count ha)).mono (by omega)
    · exact ha.mono (by omega)
  · exact (go_anew h1).mono (by omega)
theorem go_frame1 (h : GO n e) (f : Fr) : GO (n + 800) (frame1 e f) := by
  have h0 := h.mono (Nat.le_add_right n 800)
  have ua : may0 8 false := Or.inr (Or.inr (Or.inr (Or.inr (Or.inr (Or.inr ⟨rfl, rfl⟩)))))
  have dm : may0 5 false := Or.inr (Or.inr (Or.inr (Or.inr (Or.inl ⟨rfl, rfl⟩))))
  unfold frame1
  split
  · exact (go_told (by decide) h).mono (by omega)
  split
  · unfold inAssigned
    split
    · exact (go_open (go_told (by decide) (go_send ua h))).mono (by omega)
    split
    · exact (go_send dm h).mono (by omega)
    split
    · exact (go_strange h).mono (by omega)
    split
    · exact (go_call (h.same (e' := { e with asked := true }) rfl rfl)).mono (by omega)
    · exact h0
  split
  · unfold inConnecting
    split
    · exact (go_send ua h).mono (by omega)
    split
    · exact (go_send dm h).mono (by omega)
    split
    · split
      · exact (go_told (by decide) h).mono (by omega)
      · refine (go_open (n := n + 1) ?_).mono (by omega)
        split
        · exact (go_told (by decide) h).same rfl rfl
        · exact (go_unsure h).same rfl rfl
    split
    · exact (go_end (go_told (by decide) h)).mono (by omega)
    · exact h0
  split
  · unfold inReleasing
    split
    · exact (go_send dm h).mono (by omega)
    split
    · exact (go_send ua h).mono (by omega)
    split
    · exact (go_told (by decide) h).mono (by omega)
    split
    · exact (go_end (go_told (by decide) h)).mono (by omega)
    · exact h0
  · unfold inOpen
    split
    · exact (go_open (go_unsure (go_told (by decide) (go_send ua h)))).mono (by omega)
    split
    · exact (go_end (go_told (by decide) (go_send ua h))).mono (by omega)
    split
    · exact (go_strange h).mono (by omega)
    split
    · split <;> exact (go_anew h).mono (by omega)
    split
    · exact (go_anew h).mono (by omega)
    split
    · exact (go_info h).mono (by omega)
    · exact (go_supervised h).mono (by omega)
theorem go_again {k : Int} {l : ByteArray} {g : Int} (hk : may0 k true) (hg : g ≠ 0) (h : GO n e) : GO (n + 4) (again e k l g) := by
  unfold again
  split
  · exact (go_end (go_told hg (go_told (by decide) h))).mono (by omega)
  · exact (go_start200 (go_send hk (h.same (e' := { e with tries := e.tries + 1 }) rfl rfl))).mono (by omega)
theorem go_timeout1 (h : GO n e) : GO (n + 4) (timeout1 e) := by
  unfold timeout1
  split
  · exact go_again (Or.inr (Or.inr (Or.inr (Or.inl ⟨rfl, rfl⟩)))) (by decide) h
  split
  · exact go_again (Or.inr (Or.inr (Or.inr (Or.inr (Or.inr (Or.inl ⟨rfl, rfl⟩)))))) (by decide) h
  split
  · have h9 := go_inquire (h.same (e' := { e with tries := 0 }) rfl rfl)
    exact GO.mono (GO.same h9 rfl rfl) (by omega)
  split
  · split
    · exact go_anew h
    · exact (go_inquire (h.same (e' := { e with tries := e.tries + 1 }) rfl rfl)).mono (by omega)
  · exact h.mono (by omega)
theorem go_over200 (h : GO n e) : GO (n + 4) (over200 e) := go_timeout1 (h.same rfl rfl)
theorem go_over203 (h : GO n e) : GO (n + 4) (over203 e) := go_timeout1 (h.same rfl rfl)
end
end Go.Proofs.YtljnfbpplhnmfaaGreatDoor.Md
namespace Go.Proofs.YtljnfbpplhnmfaaGreatDoor.Pa
open Go Go.RowKit Go.Proofs.YtljnfbpplhnmfaaGreatDoorW.PrintWords Go.Proofs.YtljnfbpplhnmfaaGreatDoorW.PrintLast Go.Proofs.YtljnfbpplhnmfaaGreatDoorW.PrintMore Go.Proofs.YtljnfbpplhnmfaaGreatDoor.Str Go.Proofs.YtljnfbpplhnmfaaGreatDoor.Mp Go.Proofs.YtljnfbpplhnmfaaGreatDoor.Ra Go.Proofs.YtljnfbpplhnmfaaGreatDoor.Sl Go.Proofs.YtljnfbpplhnmfaaGreatDoor.Qu Go.Proofs.YtljnfbpplhnmfaaGreatDoor.Ru Go.Proofs.YtljnfbpplhnmfaaGreatDoor.Md
open Go.Proofs.YtljnfbpplhnmfaaGreatDoor.En (frCells efCells efs efs_app efs_one orow entAt)
set_option linter.unusedVariables false
set_option linter.unusedSimpArgs false
set_option maxRecDepth 1000000
set_option maxHeartbeats 8000000
theorem _root_.Go.Proofs.YtljnfbpplhnmfaaGreatDoor.Sl.Went.call_ex {α : Type} {P : Program} {f : FuncId} {args : Array Value} {r : α → Value} {A : SP} {B : α → SP} {L : List SP} {T : Nat → Prop} {w w1 : World} (h : Went (all L) T w w1) (i : Nat) (hi : L[i]? = some A) (m : ∀ T1, A.h T1 w1 → Calls P f args w1 fun e w2 => ∃ x, e = .returned (r x) ∧ Went (B x) T1 w1 w2) :
    Calls P f args w1 fun e w2 => ∃ x, e = .returned (r x) ∧ Went (all (L.set i (B x))) T w w2 := by
  obtain ⟨T1, h1, k1, t1⟩ := h
  obtain ⟨T2, h2, g⟩ := focus h1 hi
  exact (m T2 h2).mono fun e w2 ⟨x, he, hw⟩ => ⟨x, he, Went.trans k1 t1 (g _ w2 hw)⟩
theorem front3 {α : Type} (a b x : α) (l : List α) : (a :: b :: x :: l).Perm (x :: a :: b :: l) := (List.Perm.cons a (List.Perm.swap x b l)).trans (List.Perm.swap x a (b :: l))
theorem front4 {α : Type} (a b c x : α) (l : List α) : (a :: b :: c :: x :: l).Perm (x :: a :: b :: c :: l) := (List.Perm.cons a (front3 b c x l)).trans (List.Perm.swap x a (b :: c :: l))
theorem flat2 {A B : SP} {L : List SP} {T : Nat → Prop} {w0 w : World} (h : Went (all (all [A, B] :: L)) T w0 w) : Went (all (B :: A :: L)) T w0 w := by
  refine h.imp fun T1 h1 => ?_
  obtain ⟨Ta, Tb, ⟨Tc, Td, hA, ⟨Te, Tf, hB, hf, d3, e3⟩, d2, e2⟩, hL, d, e⟩ := h1
  refine ⟨Te, fun k => Tc k ∨ Tb k, hB, ⟨Tc, Tb, hA, hL, fun k a b => d k ((e2 k).2 (Or.inl a)) b, fun k => Iff.rfl⟩, fun k a b => ?_, fun k => ?_⟩
  · rcases b with b | b
    · exact d2 k b ((e3 k).2 (Or.inl a))
    · exact d k ((e2 k).2 (Or.inr ((e3 k).2 (Or.inl a)))) b
  · rw [e, e2, e3]
    constructor
    · rintro ((a | a | a) | a)
      · exact Or.inr (Or.inl a)
      · exact Or.inl a
      · exact (hf.1 k a).elim
      · exact Or.inr (Or.inr a)
    · rintro (a | a | a)
      · exact Or.inl (Or.inr (Or.inl a))
      · exact Or.inl (Or.inl a)
      · exact Or.inr a
theorem SB.ent {c : Nat} {s : Sd} (h : SB c s) {e : E} (ho : e.out = []) : SB c { s with e := e } := ⟨h.way, h.taken, h.told, h.units, h.unit, h.ups, h.downs, h.frames, ho⟩
theorem taken0 {I : PI} {c : Nat} {p : Pr} {V : PV} {v : Value} {l : List Ef} {e2 : E} {T : Nat → Prop} {w0 w : World} (h : Went (all ((pparts I c p V).set 2 (all [entAt I.b0 I.m0 I.f0 e2, orow v l]))) T w0 w) (hok : PB c p) (ho : e2.out = []) :
    Went (all [orow v l, pairAt I c { p with a := { p.a with e := e2 } }]) T w0 w := by
  have h1 := flat2 (h.perm (front3 _ _ _ _))
  have h2 := h1.perm (List.Perm.cons _ (front3 _ _ _ _).symm)
  refine h2.imp fun T1 h3 => ?_
  obtain ⟨Ta, Tb, ha, ⟨Tf, Tr, hf, hr, d2, e3⟩, d, e⟩ := h3
  exact ⟨Ta, Tb, ha, ⟨Tb, fun _ => False, ⟨V, Tf, Tr, ⟨hf.1, hok.cap, hok.a.ent ho, hok.b, hok.errors, hok.next⟩, hr, d2, e3⟩, ⟨fun _ h => h, trivial⟩, fun _ _ h => h, fun k => by simp⟩, d, e⟩
theorem taken1 {I : PI} {c : Nat} {p : Pr} {V : PV} {v : Value} {l : List Ef} {e2 : E} {T : Nat → Prop} {w0 w : World} (h : Went (all ((pparts I c p V).set 3 (all [entAt I.b1 I.m1 I.f1 e2, orow v l]))) T w0 w) (hok : PB c p) (ho : e2.out = []) :
    Went (all [orow v l, pairAt I c { p with b := { p.b with e := e2 } }]) T w0 w := by
  have h1 := flat2 (h.perm (front4 _ _ _ _ _))
  have h2 := h1.perm (List.Perm.cons _ (front4 _ _ _ _ _).symm)
  refine h2.imp fun T1 h3 => ?_
  obtain ⟨Ta, Tb, ha, ⟨Tf, Tr, hf, hr, d2, e3⟩, d, e⟩ := h3
  exact ⟨Ta, Tb, ha, ⟨Tb, fun _ => False, ⟨V, Tf, Tr, ⟨hf.1, hok.cap, hok.a, hok.b.ent ho, hok.errors, hok.next⟩, hr, d2, e3⟩, ⟨fun _ h => h, trivial⟩, fun _ _ h => h, fun k => by simp⟩, d, e⟩
theorem go_of {b mb fb : Nat} {e : E} {T : Nat → Prop} {w : World} (h : (entAt b mb fb e).h T w) (ho : e.out = []) : GO 0 e ∧ e.fl.q.most ≤ 256 := by
  obtain ⟨_, _, hq⟩ := En.entAt.ok (Went.refl h)
  exact ⟨⟨(by rw [ho]; exact Nat.le_refl 0), (fun x hx => by rw [ho] at hx; cases hx), hq.len, hq.sizes⟩, hq.most.2⟩
end Go.Proofs.YtljnfbpplhnmfaaGreatDoor.Pa
