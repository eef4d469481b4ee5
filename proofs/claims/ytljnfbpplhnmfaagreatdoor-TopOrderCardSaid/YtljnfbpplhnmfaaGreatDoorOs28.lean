/- Both ends of a link in plain words: what effects come to, side by side. No program in sight; no condition. What is told, against what was taken and the words between, in plain words. No program in sight; no condition. Both ends of a link, in memory: the payloads that a side took. Conditions: sizes. A beginning of one row that another row has, in order: function in. Conditions: sizes. A link that is made, in memory: function links. Condition: the tables of package ctrl stand as they were laid. What the laws read of both ends. Condition: the tables of package ctrl stand as they were laid. -/
import Derived.OpenShut
import Derived.Test.YtljnfbpplhnmfaaGreatDoorOs15
import Derived.Test.YtljnfbpplhnmfaaGreatDoorOs27
namespace Go.Proofs.YtljnfbpplhnmfaaGreatDoor.Md
set_option linter.unusedVariables false
set_option linter.unusedSimpArgs false
def swap (p : Pr) : Pr := ⟨p.b, p.a, p.errors, p.next⟩
def frsO (l : List Ef) : List Fr := (l.filter (fun x => decide (x.kind = 0))).map (·.fr)
def dtsO (l : List Ef) : List ByteArray := (l.filter (fun x => decide (x.kind = 5))).map (·.data)
def utsO (l : List Ef) : List ByteArray := (l.filter (fun x => decide (x.kind = 6))).map (·.data)
def mksO (l : List Ef) : List Ev := (l.filter (fun x => decide (1 ≤ x.kind ∧ x.kind ≤ 4))).map (fun _ => ⟨nil8, false⟩)
def upsO (l : List Ef) : Nat := (l.filter (fun x => decide (x.kind = 1 ∨ x.kind = 2))).length
def downsO (l : List Ef) : Nat := (l.filter (fun x => decide (x.kind = 3 ∨ x.kind = 4))).length
def errsO (l : List Ef) : Nat := (l.filter (fun x => decide (x.kind = 7))).length
def bec (s : Sd) (l : List Ef) : Sd := { s with taken := s.taken ++ mksO l, told := s.told ++ dtsO l, units := s.units ++ utsO l, ups := s.ups + upsO l, downs := s.downs + downsO l }
def getF (s : Sd) (l : List Fr) : Sd := { s with way := s.way ++ l }
theorem eff_a (p : Pr) (x : Ef) : eff false p x = ⟨bec p.a [x], getF p.b (frsO [x]), p.errors + errsO [x], p.next⟩ := by
  have hc : x.kind = 0 ∨ x.kind = 5 ∨ x.kind = 6 ∨ x.kind = 7 ∨ x.kind = 1 ∨ x.kind = 2 ∨ x.kind = 3 ∨ x.kind = 4 ∨ (x.kind ≠ 0 ∧ x.kind ≠ 5 ∧ x.kind ≠ 6 ∧ x.kind ≠ 7 ∧ ¬ (x.kind = 1 ∨ x.kind = 2) ∧ ¬ (x.kind = 3 ∨ x.kind = 4) ∧ ¬ (1 ≤ x.kind ∧ x.kind ≤ 4)) := by omega
  rcases hc with h | h | h | h | h | h | h | h | ⟨h0, h1, h2, h3, h4, h5, h6⟩
  all_goals first
    | (simp [eff, bec, getF, frsO, dtsO, utsO, mksO, upsO, downsO, errsO, List.filter, h, Pr.upd]; done)
    | (simp [eff, bec, getF, frsO, dtsO, utsO, mksO, upsO, downsO, errsO, List.filter, h0, h1, h2, h3, h4, h5, h6, Pr.upd])
theorem fsplit (x : Ef) (l : List Ef) : frsO (x :: l) = frsO [x] ++ frsO l ∧ dtsO (x :: l) = dtsO [x] ++ dtsO l ∧ utsO (x :: l) = utsO [x] ++ utsO l ∧ mksO (x :: l) = mksO [x] ++ mksO l ∧ upsO (x :: l) = upsO [x] + upsO l ∧ downsO (x :: l) = downsO [x] + downsO l ∧ errsO (x :: l) = errsO [x] + errsO l := by
  have hf : ∀ (q : Ef → Bool), (x :: l).filter q = [x].filter q ++ l.filter q := fun q => by rw [← List.filter_append]; rfl
  refine ⟨?_, ?_, ?_, ?_, ?_, ?_, ?_⟩ <;> simp only [frsO, dtsO, utsO, mksO, upsO, downsO, errsO, hf, List.map_append, List.length_append]
theorem effs_a (l : List Ef) : ∀ p : Pr, effs false p l = ⟨bec p.a l, getF p.b (frsO l), p.errors + errsO l, p.next⟩ := by
  induction l with
  | nil => intro p; simp [effs, bec, getF, frsO, dtsO, utsO, mksO, upsO, downsO, errsO]
  | cons x l ih =>
    intro p
    show effs false (eff false p x) l = _
    rw [ih, eff_a]
    obtain ⟨h1, h2, h3, h4, h5, h6, h7⟩ := fsplit x l
    simp only [bec, getF, h1, h2, h3, h4, h5, h6, h7, List.append_assoc, Int.natCast_add, Int.add_assoc]
theorem eff_swap (p : Pr) (x : Ef) : eff true p x = swap (eff false (swap p) x) := by
  unfold eff
  simp only [Pr.upd, Bool.not_true, Bool.not_false, Bool.false_eq_true, if_false, if_true]
  split
  · rfl
  split
  · rfl
  split
  · rfl
  split
  · rfl
  split
  · rfl
  split
  · rfl
  · rfl
theorem swap_swap (p : Pr) : swap (swap p) = p := rfl
theorem effs_swap (l : List Ef) : ∀ p : Pr, effs true p l = swap (effs false (swap p) l) := by
  induction l with
  | nil => intro p; rfl
  | cons x l ih =>
    intro p
    show effs true (eff true p x) l = swap (effs false (eff false (swap p) x) l)
    rw [ih, eff_swap, swap_swap]
def becE (s : Sd) (e : E) : Sd := bec { s with e := emptied e } e.out
theorem become_a (p : Pr) (e : E) : become false p e = ⟨becE p.a e, getF p.b (frsO e.out), p.errors + errsO e.out, p.next⟩ := by
  unfold become
  rw [effs_a]
  rfl
theorem become_swap (p : Pr) (e : E) : become true p e = swap (become false (swap p) e) := by
  unfold become
  rw [effs_swap]
  rfl
theorem askP_swap (p : Pr) (a : Int) : askP true p a = swap (askP false (swap p) a) := by
  unfold askP
  simp only [become_swap]
  rw [show (p.at true) = (swap p).at false from rfl]
  split <;> rfl
theorem sendP_swap (p : Pr) (a : Int) : sendP true p a = swap (sendP false (swap p) a) := by
  unfold sendP
  simp only [become_swap]
  rw [show (p.at true) = (swap p).at false from rfl, show (swap p).next = p.next from rfl]
  split <;> split <;> rfl
theorem comeP_swap (p : Pr) (l : Bool) : comeP true p l = swap (comeP false (swap p) l) := by
  unfold comeP
  simp only [become_swap]
  rw [show (p.at true) = (swap p).at false from rfl]
  cases h : ((swap p).at false).way with
  | nil => rfl
  | cons f t => cases l <;> rfl
theorem quiet_swap (p : Pr) : quiet (swap p) ↔ quiet p := ⟨fun h => ⟨h.2, h.1⟩, fun h => ⟨h.2, h.1⟩⟩
theorem overP_swap (p : Pr) : overP true p = swap (overP false (swap p)) := by
  unfold overP
  simp only [become_swap]
  rw [show (p.at true) = (swap p).at false from rfl]
  by_cases h : quiet p
  · rw [if_pos h, if_pos ((quiet_swap p).2 h)]
    split
    · rfl
    · split <;> rfl
  · rw [if_neg h, if_neg (fun g => h ((quiet_swap p).1 g))]
    rfl
end Go.Proofs.YtljnfbpplhnmfaaGreatDoor.Md
namespace Go.Proofs.YtljnfbpplhnmfaaGreatDoor.Md
set_option linter.unusedVariables false
inductive Sc : Bool → List ByteArray → List Ev → Prop where
  | nil : Sc false [] []
  | hit {L T} (x : ByteArray) : Sc false L T → Sc false (L ++ [x]) (T ++ [⟨x, true⟩])
  | pass {c L T} (x : ByteArray) : Sc c L T → Sc true L (T ++ [⟨x, true⟩])
  | mark {c L T} (x : ByteArray) : Sc c L T → Sc false L (T ++ [⟨x, false⟩])
def evQ (l : List ByteArray) : List Ev := l.map (fun x => ⟨x, true⟩)
theorem evQ_app (l m : List ByteArray) : evQ (l ++ m) = evQ l ++ evQ m := by simp [evQ]
theorem Sc.some {c : Bool} {L : List ByteArray} {T : List Ev} (h : Sc c L T) (l : List ByteArray) : ∃ c', Sc c' L (T ++ evQ l) := by
  induction l generalizing c T with
  | nil => exact ⟨c, by simpa [evQ] using h⟩
  | cons x l ih =>
    obtain ⟨c', h'⟩ := ih (Sc.pass x h)
    exact ⟨c', by simpa [evQ] using h'⟩
theorem Sc.marks {c : Bool} {L : List ByteArray} {T : List Ev} (h : Sc c L T) (l : List Ev) (hl : ∀ x ∈ l, x.taken = false) : (l = [] → c = false) → Sc false L (T ++ l) := by
  induction l generalizing c T with
  | nil => intro hc; have := hc rfl; subst this; simpa using h
  | cons x l ih =>
    intro _
    obtain ⟨d, t⟩ := x
    have : t = false := hl ⟨d, t⟩ (List.mem_cons_self ..)
    subst this
    have := ih (Sc.mark d h) (fun y hy => hl y (List.mem_cons_of_mem _ hy)) (fun _ => rfl)
    simpa using this
theorem Sc.through {c : Bool} {L : List ByteArray} {T : List Ev} (h : Sc c L T) (l : List ByteArray) (m : List Ev) (hm : ∀ x ∈ m, x.taken = false) (h0 : m = [] → l = [] ∧ c = false) : Sc false L (T ++ evQ l ++ m) := by
  by_cases hn : m = []
  · subst hn
    obtain ⟨rfl, rfl⟩ := h0 rfl
    simpa [evQ] using h
  · obtain ⟨c', h'⟩ := h.some l
    exact h'.marks m hm (fun e => absurd e hn)
def pays (T : List Ev) : List ByteArray := (T.filter (·.taken)).map (·.data)
theorem pays_app (T U : List Ev) : pays (T ++ U) = pays T ++ pays U := by simp [pays]
theorem Sc.sub {c : Bool} {L : List ByteArray} {T : List Ev} (h : Sc c L T) : L.Sublist (pays T) := by
  induction h with
  | nil => exact List.Sublist.refl _
  | hit x h ih => rw [pays_app]; exact ih.append (List.Sublist.refl _)
  | pass x h ih => rw [pays_app]; exact ih.trans (List.sublist_append_left ..)
  | mark x h ih => rw [pays_app]; simpa [pays] using ih
theorem inL_sub : ∀ {l m : List ByteArray}, l.Sublist m → inL l m = []
  | _, _, .slnil => rfl
  | [], _ :: _, _ => rfl
  | x :: l, s :: m, h => by
    unfold inL
    split
    · rename_i e
      cases h with
      | cons _ h2 => exact inL_sub ((List.sublist_cons_self _ _).trans h2)
      | cons_cons _ h2 => exact inL_sub h2
    · rename_i e
      cases h with
      | cons _ h2 => exact inL_sub h2
      | cons_cons _ h2 => exact absurd rfl e
def scan1 (s : List ByteArray × Bool × Bool) (x : Ev) : List ByteArray × Bool × Bool :=
  if x.taken = false then (s.1, false, s.2.2)
  else match s.1 with
    | y :: l => if y = x.data then (l, s.2.1, s.2.2 && !s.2.1) else (y :: l, true, s.2.2)
    | [] => ([], true, s.2.2)
theorem Sc.scan {c : Bool} {L : List ByteArray} {T : List Ev} (h : Sc c L T) (hd : (pays T).Nodup) : ∀ R : List ByteArray, (∀ x ∈ R, x ∉ pays T) → T.foldl scan1 (L ++ R, false, true) = (R, c, true) := by
  induction h with
  | nil => intro R _; rfl
  | hit x h ih =>
    intro R hR
    rw [pays_app] at hd hR
    have hx : x ∉ pays _ := fun hm => by
      have := List.nodup_append.1 hd
      exact this.2.2 x hm x (by simp [pays]) rfl
    rw [List.foldl_append, List.append_assoc, ih (List.nodup_append.1 hd).1 ([x] ++ R) (fun y hy => by
      rcases List.mem_append.1 hy with hy | hy
      · rw [List.mem_singleton.1 hy]; exact hx
      · exact fun hm => hR y hy (List.mem_append_left _ hm))]
    simp [scan1]
  | pass x h ih =>
    intro R hR
    rw [pays_app] at hd hR
    rw [List.foldl_append, ih (List.nodup_append.1 hd).1 R (fun y hy hm => hR y hy (List.mem_append_left _ hm))]
    cases R with
    | nil => simp [scan1]
    | cons y l =>
      have : ¬ y = x := fun e => hR y (List.mem_cons_self ..) (List.mem_append_right _ (by simp [pays, e]))
      simp [scan1, this]
  | mark x h ih =>
    intro R hR
    rw [pays_app] at hd hR
    rw [List.foldl_append, ih (List.nodup_append.1 hd).1 R (fun y hy hm => hR y hy (List.mem_append_left _ hm))]
    simp [scan1]
theorem Sc.ok {c : Bool} {L : List ByteArray} {T : List Ev} (h : Sc c L T) (hd : (pays T).Nodup) : T.foldl scan1 (L, false, true) = ([], c, true) := by
  have := h.scan hd [] (fun x hx => by cases hx)
  simpa using this
end Go.Proofs.YtljnfbpplhnmfaaGreatDoor.Md
namespace Go.Proofs.YtljnfbpplhnmfaaGreatDoor.Pa
open Go Go.RowKit Go.Proofs.YtljnfbpplhnmfaaGreatDoorW.PrintWords Go.Proofs.YtljnfbpplhnmfaaGreatDoorW.PrintLast Go.Proofs.YtljnfbpplhnmfaaGreatDoorW.PrintMore Go.Proofs.YtljnfbpplhnmfaaGreatDoor.Str Go.Proofs.YtljnfbpplhnmfaaGreatDoor.Mp Go.Proofs.YtljnfbpplhnmfaaGreatDoor.Ra Go.Proofs.YtljnfbpplhnmfaaGreatDoor.Sl Go.Proofs.YtljnfbpplhnmfaaGreatDoor.Qu Go.Proofs.YtljnfbpplhnmfaaGreatDoor.Ru Go.Proofs.YtljnfbpplhnmfaaGreatDoor.Md
open Go.Proofs.YtljnfbpplhnmfaaGreatDoor.En (frCells efCells efs efs_app efs_one orow entAt)
set_option linter.unusedVariables false
set_option linter.unusedSimpArgs false
set_option maxRecDepth 1000000
set_option maxHeartbeats 8000000
theorem evs_get : ∀ (l : List Ev) (k : Nat) (x : Ev) (j : Nat), l[k]? = some x → j < 2 → (evs l)[k * 2 + j]? = ([.string x.data, .bool x.taken] : List Value)[j]?
  | [], k, x, j, h, _ => by simp at h
  | y :: l, 0, x, j, h, hj => by
    simp at h
    subst h
    show (([.string y.data, .bool y.taken] : List Value) ++ evs l)[0 * 2 + j]? = _
    rw [List.getElem?_append_left (by simp; omega), Nat.zero_mul, Nat.zero_add]
  | y :: l, k + 1, x, j, h, hj => by
    show (([.string y.data, .bool y.taken] : List Value) ++ evs l)[(k + 1) * 2 + j]? = _
    rw [List.getElem?_append_right (by simp; omega)]
    have e : (k + 1) * 2 + j - ([.string y.data, .bool y.taken] : List Value).length = k * 2 + j := by simp; omega
    rw [e]
    exact evs_get l k x j (by simpa using h) hj
theorem ev_row {A : Option Addr} {c : Nat} {l : List Ev} {T : Nat → Prop} {w : World} (h : (erow (.slice A l.length c) l).h T w) (k : Nat) (x : Ev) (hx : l[k]? = some x) : ∃ g o, A = some ⟨g, o, none⟩ ∧ w.cell? ⟨g, o + k * 2, none⟩ = some (.string x.data) ∧ w.cell? ⟨g, o + k * 2 + 1, none⟩ = some (.bool x.taken) := by
  obtain ⟨g, o, hA, h0, _⟩ := h.2.cell (k * 2 + 0) (.string x.data) (evs_get l k x 0 hx (by decide))
  obtain ⟨g2, o2, hq, h2, _⟩ := h.2.cell (k * 2 + 1) (.bool x.taken) (evs_get l k x 1 hx (by decide))
  rw [hA] at hq
  injection hq with hq
  injection hq with h3 h4
  subst h3
  refine ⟨g, o * 2, hA, by rw [← h0]; rfl, ?_⟩
  rw [← h4, ← Nat.add_assoc] at h2
  exact h2
theorem pays_take (l : List Ev) (k : Nat) (x : Ev) (h : l[k]? = some x) : pays (l.take (k + 1)) = if x.taken = true then pays (l.take k) ++ [x.data] else pays (l.take k) := by
  have hlt := (List.getElem?_eq_some_iff.1 h).1
  have hx := (List.getElem?_eq_some_iff.1 h).2
  rw [List.take_succ_eq_append_getElem hlt, pays_app, hx]
  obtain ⟨d, t⟩ := x
  cases t <;> simp [pays]
theorem pays_len (l : List Ev) (k : Nat) : (pays (l.take k)).length ≤ l.length := by
  unfold pays
  rw [List.length_map]
  exact Nat.le_trans (List.length_filter_le _ _) (by rw [List.length_take]; omega)
theorem payloads0C {I : PI} {c : Nat} {p : Pr} {A0 : Option Addr} {c0 : Nat} {A1 : Option Addr} {c1 : Nat} {A2 : Option Addr} {c2 : Nat} {A3 : Option Addr} {c3 : Nat} {A4 : Option Addr} {c4 : Nat} {A5 : Option Addr} {c5 : Nat} {A6 : Option Addr} {c6 : Nat} {A7 : Option Addr} {c7 : Nat} {A8 : Option Addr} {c8 : Nat} {A9 : Option Addr} {c9 : Nat} {T : Nat → Prop} {w0 w : World} (HO1 : Went (all (pparts I c p ⟨.slice A0 p.a.way.length c0, .slice A1 p.b.way.length c1, .slice A2 p.a.taken.length c2, .slice A3 p.b.taken.length c3, .slice A4 p.a.told.length c4, .slice A5 p.b.told.length c5, .slice A6 p.a.units.length c6, .slice A7 p.b.units.length c7, .slice A8 p.a.unit.length c8, .slice A9 p.b.unit.length c9⟩)) T w0 w) (hok : PB c p) :
    Calls Tryz.prog 12 #[.pointer (some ⟨I.g, 0, none⟩), .int .i64 0] w fun r w' => ∃ v, r = .returned v ∧ Went (all (srow v (payloads p.a) :: pparts I c p ⟨.slice A0 p.a.way.length c0, .slice A1 p.b.way.length c1, .slice A2 p.a.taken.length c2, .slice A3 p.b.taken.length c3, .slice A4 p.a.told.length c4, .slice A5 p.b.told.length c5, .slice A6 p.a.units.length c6, .slice A7 p.b.units.length c7, .slice A8 p.a.unit.length c8, .slice A9 p.b.unit.length c9⟩)) T w0 w' := by
  obtain ⟨cr, cf⟩ := cellAt (HO1.heap 1 rfl) 4 (.slice A2 p.a.taken.length c2) rfl
  have hlen : p.a.taken.length ≤ 100000000000 := Nat.le_trans hok.a.taken hok.cap
  have HLEN := Aside0.mk hlen
  have HW0 : Aside0 (Went (all (srow (.slice none 0 0) (pays (p.a.taken.take 0)) :: pparts I c p ⟨.slice A0 p.a.way.length c0, .slice A1 p.b.way.length c1, .slice A2 p.a.taken.length c2, .slice A3 p.b.taken.length c3, .slice A4 p.a.told.length c4, .slice A5 p.b.told.length c5, .slice A6 p.a.units.length c6, .slice A7 p.b.units.length c7, .slice A8 p.a.unit.length c8, .slice A9 p.b.unit.length c9⟩)) T w0 w) := ⟨HO1.norow 9 1⟩
  obtain ⟨tk, HTK⟩ : ∃ tk, Aside0 (p.a.taken = tk) := ⟨_, ⟨rfl⟩⟩
  have HPY : Aside0 (pays tk = payloads p.a) := ⟨by rw [← HTK.out]; rfl⟩
  obtain ⟨PP, HPP⟩ : ∃ PP, Aside0 (pparts I c p ⟨.slice A0 p.a.way.length c0, .slice A1 p.b.way.length c1, .slice A2 p.a.taken.length c2, .slice A3 p.b.taken.length c3, .slice A4 p.a.told.length c4, .slice A5 p.b.told.length c5, .slice A6 p.a.units.length c6, .slice A7 p.b.units.length c7, .slice A8 p.a.unit.length c8, .slice A9 p.b.unit.length c9⟩ = PP) := ⟨_, ⟨rfl⟩⟩
  have HEV : Aside0 (∀ {B : SP} {T : Nat → Prop} {w0 w : World} (k : Nat) (x : Ev), Went (all (B :: PP)) T w0 w → tk[k]? = some x → ∃ g o, A2 = some ⟨g, o, none⟩ ∧ w.cell? ⟨g, o + k * 2, none⟩ = some (.string x.data) ∧ w.cell? ⟨g, o + k * 2 + 1, none⟩ = some (.bool x.taken)) := ⟨by
    rw [← HPP.out, ← HTK.out]
    intro B T w0 w k x h hx
    obtain ⟨_, hr⟩ := h.get 7 rfl
    exact ev_row hr k x hx⟩
  rw [HPP.out, HTK.out] at HW0
  rw [HTK.out] at cr hlen
  rw [HPP.out]
  clear HO1 hok
  go_enter Tryz.func12, Tryz.ntmps12
  go_wp2_with fail
  clear cr cf
  go_loopw [5, 15] (fun u x wr => ∃ (k : Nat) (A : Option Addr) (cc : Nat), k ≤ tk.length ∧ x = .int .i64 k ∧ u = .slice A (pays (tk.take k)).length cc ∧ Aside0 (Went (all (srow (.slice A (pays (tk.take k)).length cc) (pays (tk.take k)) :: PP)) T w0 wr)) (fun _ x _ => tk.length - (intOf x).toNat)
  case atStart => exact ⟨0, none, 0, Nat.zero_le _, rfl, rfl, HW0⟩
  case round =>
    clear HW0
    obtain ⟨k, A, cc, hk, rfl, rfl, HW⟩ := hrel
    by_cases hlt : k < tk.length
    · obtain ⟨ev, hev⟩ : ∃ ev, tk[k]? = some ev := ⟨_, List.getElem?_eq_getElem hlt⟩
      obtain ⟨ge, oe, rfl, e0, e1⟩ := HEV.out k ev HW.out hev
      have hpt := pays_take tk k ev hev
      obtain ⟨xd, xt⟩ := ev
      have hpl := pays_len tk k
      have HBX := Aside0.mk (HW.out.alloc (.cells #[.string xd, .bool xt] 42 (0, 0)))
      have hbx := heap_alloc_new wr (.cells #[.string xd, .bool xt] 42 (0, 0))
      obtain ⟨y0, _⟩ := cellAt hbx 0 (.string xd) rfl
      obtain ⟨y1, _⟩ := cellAt hbx 1 (.bool xt) rfl
      obtain ⟨out, HOUT⟩ : ∃ out, Aside0 (pays (tk.take k) = out) := ⟨_, ⟨rfl⟩⟩
      rw [HOUT.out] at HW HBX hpt hpl ⊢
      have HPT := Aside0.mk hpt
      clear hpt hev
      cases xt with
      | false =>
        have HN : Aside0 (pays (tk.take (k + 1)) = out) := ⟨HPT.out⟩
        clear HPT
        go_wp2_with fail
        exact ⟨⟨k + 1, A, cc, by omega, by go_num, by rw [HN.out], ⟨by rw [HN.out]; exact HBX.out⟩⟩, by simp [intOf]; omega⟩
      | true =>
        have HN : Aside0 (pays (tk.take (k + 1)) = out ++ [xd]) := ⟨HPT.out⟩
        clear HPT
        have HB2 := Aside0.mk (HBX.out.alloc (.cells #[.string xd] 9 (0, 0)))
        obtain ⟨T3, hr⟩ := HB2.out.get 0 rfl
        have hnew := heap_alloc_new (wr.alloc (.cells #[.string xd, .bool true] 42 (0, 0))) (.cells #[.string xd] 9 (0, 0))
        have hz1 : (wr.alloc (.cells #[.string xd, .bool true] 42 (0, 0))).heap.size = wr.heap.size + 1 := by show (wr.heap.push _).size = _; simp
        rw [hz1] at hnew
        obtain ⟨i0, hi0, hz0, hz1, hz2⟩ := info_parts infoStr
        have hin : ∀ j u, [Value.string xd][j]? = some u → ((wr.alloc (.cells #[.string xd, .bool true] 42 (0, 0))).alloc (.cells #[.string xd] 9 (0, 0))).cell? ((⟨wr.heap.size + 1, 0, none⟩ : Addr).add j) = some u := by
          intro j u hu
          match j with
          | 0 => simp at hu; subst hu; rw [add_plain, Lib.cell_of_heap hnew]; rfl
          | j + 1 => simp at hu
        clear hnew hbx
        have HR := Aside0.mk hr.2
        have HIN := Aside0.mk hin
        have HI0 := Aside0.mk hi0
        have HZ0 := Aside0.mk hz0
        have HZ1 := Aside0.mk hz1
        have HZ2 := Aside0.mk hz2
        clear hr hin hi0 hz0 hz1 hz2
        go_wp2_with (at_builtin; refine wpList_append_at _ rfl _ _ 30 rfl T3 9 i0 (.string ByteArray.empty) 1 16 Tryz.underlying30 HI0.out HZ0.out HZ1.out HZ2.out rfl (by decide) _ _ _ rfl HR.out ⟨wr.heap.size + 1, 0, none⟩ 1 1 [.string xd] rfl rfl HIN.out (by intro u hu; simp at hu; subst hu; rfl) (by decide) (by unfold maxLen; omega) (by omega) ?_; intro v' w2 hown2 hg2 hloc; obtain ⟨A2, k2, rfl, _, _⟩ := hown2.shape; have hw3 := Aside0.mk (HB2.out.at_ 0 rfl (fun T1 h1 => row_grown (n := out.length) (v := .slice A out.length cc) h1 hown2 hg2 hloc)); clear hown2 hg2 hloc HB2 HR HIN)
        exact ⟨⟨k + 1, A2, k2, by omega, by go_num, by rw [HN.out]; simp, ⟨by rw [HN.out]; simpa [srow, strs] using hw3.out⟩⟩, by simp [intOf]; omega⟩
    · obtain rfl : k = tk.length := by omega
      have HF : Aside0 (Went (all (srow (.slice A (pays (tk.take tk.length)).length cc) (payloads p.a) :: PP)) T w0 wr) := ⟨by
        have h1 := HW.out
        rw [show pays (tk.take tk.length) = payloads p.a from by rw [List.take_length]; exact HPY.out] at h1 ⊢
        exact h1⟩
      clear HW
      go_wp2
      go_ret
      exact ⟨_, rfl, HF.out⟩
theorem payloads1C {I : PI} {c : Nat} {p : Pr} {A0 : Option Addr} {c0 : Nat} {A1 : Option Addr} {c1 : Nat} {A2 : Option Addr} {c2 : Nat} {A3 : Option Addr} {c3 : Nat} {A4 : Option Addr} {c4 : Nat} {A5 : Option Addr} {c5 : Nat} {A6 : Option Addr} {c6 : Nat} {A7 : Option Addr} {c7 : Nat} {A8 : Option Addr} {c8 : Nat} {A9 : Option Addr} {c9 : Nat} {T : Nat → Prop} {w0 w : World} (HO1 : Went (all (pparts I c p ⟨.slice A0 p.a.way.length c0, .slice A1 p.b.way.length c1, .slice A2 p.a.taken.length c2, .slice A3 p.b.taken.length c3, .slice A4 p.a.told.length c4, .slice A5 p.b.told.length c5, .slice A6 p.a.units.length c6, .slice A7 p.b.units.length c7, .slice A8 p.a.unit.length c8, .slice A9 p.b.unit.length c9⟩)) T w0 w) (hok : PB c p) :
    Calls Tryz.prog 12 #[.pointer (some ⟨I.g, 0, none⟩), .int .i64 1] w fun r w' => ∃ v, r = .returned v ∧ Went (all (srow v (payloads p.b) :: pparts I c p ⟨.slice A0 p.a.way.length c0, .slice A1 p.b.way.length c1, .slice A2 p.a.taken.length c2, .slice A3 p.b.taken.length c3, .slice A4 p.a.told.length c4, .slice A5 p.b.told.length c5, .slice A6 p.a.units.length c6, .slice A7 p.b.units.length c7, .slice A8 p.a.unit.length c8, .slice A9 p.b.unit.length c9⟩)) T w0 w' := by
  obtain ⟨cr, cf⟩ := cellAt (HO1.heap 1 rfl) 5 (.slice A3 p.b.taken.length c3) rfl
  have hlen : p.b.taken.length ≤ 100000000000 := Nat.le_trans hok.b.taken hok.cap
  have HLEN := Aside0.mk hlen
  have HW0 : Aside0 (Went (all (srow (.slice none 0 0) (pays (p.b.taken.take 0)) :: pparts I c p ⟨.slice A0 p.a.way.length c0, .slice A1 p.b.way.length c1, .slice A2 p.a.taken.length c2, .slice A3 p.b.taken.length c3, .slice A4 p.a.told.length c4, .slice A5 p.b.told.length c5, .slice A6 p.a.units.length c6, .slice A7 p.b.units.length c7, .slice A8 p.a.unit.length c8, .slice A9 p.b.unit.length c9⟩)) T w0 w) := ⟨HO1.norow 9 1⟩
  obtain ⟨tk, HTK⟩ : ∃ tk, Aside0 (p.b.taken = tk) := ⟨_, ⟨rfl⟩⟩
  have HPY : Aside0 (pays tk = payloads p.b) := ⟨by rw [← HTK.out]; rfl⟩
  obtain ⟨PP, HPP⟩ : ∃ PP, Aside0 (pparts I c p ⟨.slice A0 p.a.way.length c0, .slice A1 p.b.way.length c1, .slice A2 p.a.taken.length c2, .slice A3 p.b.taken.length c3, .slice A4 p.a.told.length c4, .slice A5 p.b.told.length c5, .slice A6 p.a.units.length c6, .slice A7 p.b.units.length c7, .slice A8 p.a.unit.length c8, .slice A9 p.b.unit.length c9⟩ = PP) := ⟨_, ⟨rfl⟩⟩
  have HEV : Aside0 (∀ {B : SP} {T : Nat → Prop} {w0 w : World} (k : Nat) (x : Ev), Went (all (B :: PP)) T w0 w → tk[k]? = some x → ∃ g o, A3 = some ⟨g, o, none⟩ ∧ w.cell? ⟨g, o + k * 2, none⟩ = some (.string x.data) ∧ w.cell? ⟨g, o + k * 2 + 1, none⟩ = some (.bool x.taken)) := ⟨by
    rw [← HPP.out, ← HTK.out]
    intro B T w0 w k x h hx
    obtain ⟨_, hr⟩ := h.get 8 rfl
    exact ev_row hr k x hx⟩
  rw [HPP.out, HTK.out] at HW0
  rw [HTK.out] at cr hlen
  rw [HPP.out]
  clear HO1 hok
  go_enter Tryz.func12, Tryz.ntmps12
  go_wp2_with fail
  clear cr cf
  go_loopw [5, 15] (fun u x wr => ∃ (k : Nat) (A : Option Addr) (cc : Nat), k ≤ tk.length ∧ x = .int .i64 k ∧ u = .slice A (pays (tk.take k)).length cc ∧ Aside0 (Went (all (srow (.slice A (pays (tk.take k)).length cc) (pays (tk.take k)) :: PP)) T w0 wr)) (fun _ x _ => tk.length - (intOf x).toNat)
  case atStart => exact ⟨0, none, 0, Nat.zero_le _, rfl, rfl, HW0⟩
  case round =>
    clear HW0
    obtain ⟨k, A, cc, hk, rfl, rfl, HW⟩ := hrel
    by_cases hlt : k < tk.length
    · obtain ⟨ev, hev⟩ : ∃ ev, tk[k]? = some ev := ⟨_, List.getElem?_eq_getElem hlt⟩
      obtain ⟨ge, oe, rfl, e0, e1⟩ := HEV.out k ev HW.out hev
      have hpt := pays_take tk k ev hev
      obtain ⟨xd, xt⟩ := ev
      have hpl := pays_len tk k
      have HBX := Aside0.mk (HW.out.alloc (.cells #[.string xd, .bool xt] 42 (0, 0)))
      have hbx := heap_alloc_new wr (.cells #[.string xd, .bool xt] 42 (0, 0))
      obtain ⟨y0, _⟩ := cellAt hbx 0 (.string xd) rfl
      obtain ⟨y1, _⟩ := cellAt hbx 1 (.bool xt) rfl
      obtain ⟨out, HOUT⟩ : ∃ out, Aside0 (pays (tk.take k) = out) := ⟨_, ⟨rfl⟩⟩
      rw [HOUT.out] at HW HBX hpt hpl ⊢
      have HPT := Aside0.mk hpt
      clear hpt hev
      cases xt with
      | false =>
        have HN : Aside0 (pays (tk.take (k + 1)) = out) := ⟨HPT.out⟩
        clear HPT
        go_wp2_with fail
        exact ⟨⟨k + 1, A, cc, by omega, by go_num, by rw [HN.out], ⟨by rw [HN.out]; exact HBX.out⟩⟩, by simp [intOf]; omega⟩
      | true =>
        have HN : Aside0 (pays (tk.take (k + 1)) = out ++ [xd]) := ⟨HPT.out⟩
        clear HPT
        have HB2 := Aside0.mk (HBX.out.alloc (.cells #[.string xd] 9 (0, 0)))
        obtain ⟨T3, hr⟩ := HB2.out.get 0 rfl
        have hnew := heap_alloc_new (wr.alloc (.cells #[.string xd, .bool true] 42 (0, 0))) (.cells #[.string xd] 9 (0, 0))
        have hz1 : (wr.alloc (.cells #[.string xd, .bool true] 42 (0, 0))).heap.size = wr.heap.size + 1 := by show (wr.heap.push _).size = _; simp
        rw [hz1] at hnew
        obtain ⟨i0, hi0, hz0, hz1, hz2⟩ := info_parts infoStr
        have hin : ∀ j u, [Value.string xd][j]? = some u → ((wr.alloc (.cells #[.string xd, .bool true] 42 (0, 0))).alloc (.cells #[.string xd] 9 (0, 0))).cell? ((⟨wr.heap.size + 1, 0, none⟩ : Addr).add j) = some u := by
          intro j u hu
          match j with
          | 0 => simp at hu; subst hu; rw [add_plain, Lib.cell_of_heap hnew]; rfl
          | j + 1 => simp at hu
        clear hnew hbx
        have HR := Aside0.mk hr.2
        have HIN := Aside0.mk hin
        have HI0 := Aside0.mk hi0
        have HZ0 := Aside0.mk hz0
        have HZ1 := Aside0.mk hz1
        have HZ2 := Aside0.mk hz2
        clear hr hin hi0 hz0 hz1 hz2
        go_wp2_with (at_builtin; refine wpList_append_at _ rfl _ _ 30 rfl T3 9 i0 (.string ByteArray.empty) 1 16 Tryz.underlying30 HI0.out HZ0.out HZ1.out HZ2.out rfl (by decide) _ _ _ rfl HR.out ⟨wr.heap.size + 1, 0, none⟩ 1 1 [.string xd] rfl rfl HIN.out (by intro u hu; simp at hu; subst hu; rfl) (by decide) (by unfold maxLen; omega) (by omega) ?_; intro v' w2 hown2 hg2 hloc; obtain ⟨A2, k2, rfl, _, _⟩ := hown2.shape; have hw3 := Aside0.mk (HB2.out.at_ 0 rfl (fun T1 h1 => row_grown (n := out.length) (v := .slice A out.length cc) h1 hown2 hg2 hloc)); clear hown2 hg2 hloc HB2 HR HIN)
        exact ⟨⟨k + 1, A2, k2, by omega, by go_num, by rw [HN.out]; simp, ⟨by rw [HN.out]; simpa [srow, strs] using hw3.out⟩⟩, by simp [intOf]; omega⟩
    · obtain rfl : k = tk.length := by omega
      have HF : Aside0 (Went (all (srow (.slice A (pays (tk.take tk.length)).length cc) (payloads p.b) :: PP)) T w0 wr) := ⟨by
        have h1 := HW.out
        rw [show pays (tk.take tk.length) = payloads p.b from by rw [List.take_length]; exact HPY.out] at h1 ⊢
        exact h1⟩
      clear HW
      go_wp2
      go_ret
      exact ⟨_, rfl, HF.out⟩
end Go.Proofs.YtljnfbpplhnmfaaGreatDoor.Pa
namespace Go.Proofs.YtljnfbpplhnmfaaGreatDoor.Pa
open Go Go.RowKit Go.Proofs.YtljnfbpplhnmfaaGreatDoorW.PrintWords Go.Proofs.YtljnfbpplhnmfaaGreatDoorW.PrintLast Go.Proofs.YtljnfbpplhnmfaaGreatDoorW.PrintMore Go.Proofs.YtljnfbpplhnmfaaGreatDoor.Str Go.Proofs.YtljnfbpplhnmfaaGreatDoor.Mp Go.Proofs.YtljnfbpplhnmfaaGreatDoor.Ra Go.Proofs.YtljnfbpplhnmfaaGreatDoor.Sl Go.Proofs.YtljnfbpplhnmfaaGreatDoor.Qu Go.Proofs.YtljnfbpplhnmfaaGreatDoor.Ru Go.Proofs.YtljnfbpplhnmfaaGreatDoor.Md
set_option linter.unusedVariables false
set_option linter.unusedSimpArgs false
set_option maxRecDepth 1000000
set_option maxHeartbeats 8000000
theorem strs_get (l : List ByteArray) (k : Nat) (x : ByteArray) (h : l[k]? = some x) : (strs l)[k]? = some (.string x) := by unfold strs; rw [List.getElem?_map, h]; rfl
theorem str_at {w : World} {T : Nat → Prop} {A : Option Addr} {c : Nat} {l : List ByteArray} (h : OwnsAt w T 9 1 (.slice A l.length c) l.length (strs l)) (k : Nat) (x : ByteArray) (hx : l[k]? = some x) : ∃ g o, A = some ⟨g, o, none⟩ ∧ w.cell? ⟨g, o + k, none⟩ = some (.string x) := by
  obtain ⟨g, o, hA, h0, _⟩ := h.cell k (.string x) (strs_get l k x hx)
  exact ⟨g, o * 1, hA, h0⟩
theorem str_zero {w : World} {T : Nat → Prop} {A : Option Addr} {c n : Nat} {x : ByteArray} {l : List ByteArray} (h : OwnsAt w T 9 1 (.slice A n c) n (strs (x :: l))) (hn : n = l.length + 1) : ∃ g o, A = some ⟨g, o, none⟩ ∧ w.cell? ⟨g, o, none⟩ = some (.string x) := by
  subst hn
  exact str_at (l := x :: l) h 0 x rfl
theorem inC (v u : Value) (l m : List ByteArray) (T1 T2 : Nat → Prop) (w : World) (h1 : OwnsAt w T1 9 1 v l.length (strs l)) (h2 : OwnsAt w T2 9 1 u m.length (strs m)) (hl : l.length ≤ 100000000000) (hm : m.length ≤ 100000000000) :
    Calls Tryz.prog 11 #[v, u] w fun r w' => r = .returned (.bool (decide (inL l m = []))) ∧ w = w' := by
  obtain ⟨B, cb, rfl, _, _⟩ := h2.shape
  obtain ⟨i0, hi0, hz0, hz1, hz2⟩ := info_parts infoStr
  obtain ⟨d, HD⟩ : ∃ d, Aside0 (inL l m = d) := ⟨_, ⟨rfl⟩⟩
  rw [HD.out]
  have HA : Aside0 (OwnsAt w T1 9 1 v l.length (strs l)) := ⟨h1⟩
  have HB := Aside0.mk h2
  have HI0 := Aside0.mk hi0
  have HZ1 := Aside0.mk hz1
  obtain ⟨A, ca, rfl, _, _⟩ := h1.shape
  clear h1 h2 hi0 hz0 hz1 hz2
  go_enter Tryz.func11, Tryz.ntmps11
  go_wp2_with fail
  go_loopw [0, 9] (fun z x wr => ∃ (k : Nat) (t : List ByteArray) (A : Option Addr) (ca : Nat), k ≤ m.length ∧ t.length ≤ 100000000000 ∧ x = .int .i64 k ∧ z = .slice A t.length ca ∧ Aside0 (OwnsAt w T1 9 1 (.slice A t.length ca) t.length (strs t)) ∧ Aside0 (inL t (m.drop k) = d) ∧ w = wr) (fun _ x _ => m.length - (intOf x).toNat)
  case atStart => exact ⟨0, l, A, ca, Nat.zero_le _, hl, rfl, rfl, HA, HD, rfl⟩
  case round =>
    clear HA HD
    obtain ⟨k, t, A, ca, hk, ht, rfl, rfl, HA, HD, rfl⟩ := hrel
    by_cases hlt : k < m.length
    · obtain ⟨s, hs⟩ : ∃ s, m[k]? = some s := ⟨_, List.getElem?_eq_getElem hlt⟩
      obtain ⟨g, o, rfl, k0⟩ := str_at HB.out k s hs
      have hdr : m.drop k = s :: m.drop (k + 1) := by
        rw [List.drop_eq_getElem_cons hlt, (List.getElem?_eq_some_iff.1 hs).2]
      have HDD : Aside0 (inL t (s :: m.drop (k + 1)) = d) := ⟨by rw [← hdr]; exact HD.out⟩
      clear hdr HD hs
      cases t with
      | nil =>
        have HN : Aside0 (inL [] (m.drop (k + 1)) = d) := ⟨by
          rw [← HDD.out]
          cases m.drop (k + 1) <;> rfl⟩
        simp only [List.length_nil] at HA ⊢
        go_wp2_with fail
        exact ⟨⟨k + 1, [], A, ca, by omega, by simp, by go_num, rfl, HA, HN, trivial⟩, by simp [intOf]; omega⟩
      | cons y t =>
        obtain ⟨g2, o2, rfl, k1⟩ := str_zero HA.out rfl
        by_cases he : y = s
        · subst he
          have HN : Aside0 (inL t (m.drop (k + 1)) = d) := ⟨by rw [← HDD.out]; exact (if_pos rfl).symm⟩
          obtain ⟨v2, hrun, hown, _⟩ := run_tails (P := Tryz.prog) w T1 30 9 i0 1 Tryz.underlying30 HI0.out HZ1.out _ t.length _ HA.out
          obtain ⟨A2, c2, rfl, _, _⟩ := hown.shape
          have HO : Aside0 (OwnsAt w T1 9 1 (.slice A2 t.length c2) t.length (strs t)) := ⟨hown⟩
          simp only [List.length_cons] at ht hrun ⊢
          clear hown HDD
          go_wp2_with fail
          exact ⟨⟨k + 1, t, A2, c2, by omega, by omega, by go_num, rfl, HO, HN, trivial⟩, by simp [intOf]; omega⟩
        · have HN : Aside0 (inL (y :: t) (m.drop (k + 1)) = d) := ⟨by rw [← HDD.out]; exact (if_neg he).symm⟩
          simp only [List.length_cons] at ht HA ⊢
          have hne : (y.toList == s.toList) = false := by
            rw [beq_eq_false_iff_ne]
            intro h
            exact he (inj (by rw [← toList_L, ← toList_L, h]))
          clear HDD
          go_wp2_with fail
          exact ⟨⟨k + 1, y :: t, _, ca, by omega, by simp; omega, by go_num, rfl, HA, HN, trivial⟩, by simp [intOf]; omega⟩
    · obtain rfl : k = m.length := by omega
      have HN : Aside0 (t = d) := ⟨by
        have := HD.out
        rw [List.drop_length] at this
        rw [← this]
        cases t <;> rfl⟩
      have hd : (d.length == 0) = decide (d = []) := by cases d <;> simp
      have HF : Aside0 (((t.length : Int) == 0) = decide (d = [])) := ⟨by
        rw [HN.out]
        cases d with
        | nil => simp
        | cons y d => rw [beq_eq_false_iff_ne.2 (by simp; omega)]; simp⟩
      clear HD hd
      go_wp2
      rw [HF.out]
      go_ret
      exact ⟨rfl, rfl⟩
end Go.Proofs.YtljnfbpplhnmfaaGreatDoor.Pa
namespace Go.Proofs.YtljnfbpplhnmfaaGreatDoor.Pa
open Go Go.RowKit Go.Proofs.YtljnfbpplhnmfaaGreatDoorW.PrintWords Go.Proofs.YtljnfbpplhnmfaaGreatDoorW.PrintLast Go.Proofs.YtljnfbpplhnmfaaGreatDoorW.PrintMore Go.Proofs.YtljnfbpplhnmfaaGreatDoor.Str Go.Proofs.YtljnfbpplhnmfaaGreatDoor.Mp Go.Proofs.YtljnfbpplhnmfaaGreatDoor.Ra Go.Proofs.YtljnfbpplhnmfaaGreatDoor.Sl Go.Proofs.YtljnfbpplhnmfaaGreatDoor.Qu Go.Proofs.YtljnfbpplhnmfaaGreatDoor.Ru Go.Proofs.YtljnfbpplhnmfaaGreatDoor.Md
set_option linter.unusedVariables false
set_option linter.unusedSimpArgs false
set_option maxRecDepth 1000000
set_option maxHeartbeats 8000000
def linked : Pr := Md.drain (askP false (begin0 7 3) 0)
theorem linked_facts : linked.a.e.state = 7 ∧ linked.b.e.state = 7 ∧ linked.a.ups = 1 ∧ linked.b.ups = 1 := by decide +kernel
theorem viewFld0 (a0 a1 a2 a6 a7 a8 a9 a13 a14 : Int) (a3 a4 a5 a10 a11 a12 : Bool) (w : World) : Sem.run Tryz.prog (Instr.field 49 (Value.agg #[.int .i64 a0, .int .i64 a1, .int .i64 a2, .bool a3, .bool a4, .bool a5, .int .i64 a6, .int .i64 a7, .int .i64 a8, .int .i64 a9, .bool a10, .bool a11, .bool a12, .int .i64 a13, .int .i64 a14]) 0) w = Result.ok (.int .i64 a0) w := by kernel_rfl
attribute [local go_sem high] viewFld0
theorem ups_at {I : PI} {c : Nat} {p : Pr} {T : Nat → Prop} {w0 w : World} (h : Went (pairAt I c p) T w0 w) : w.cell? ⟨I.g, 13, none⟩ = some (.int .i64 p.a.ups) ∧ w.cell? ⟨I.g, 14, none⟩ = some (.int .i64 p.b.ups) := by
  obtain ⟨A0, c0, A1, c1, A2, c2, A3, c3, A4, c4, A5, c5, A6, c6, A7, c7, A8, c8, A9, c9, HO1, hok⟩ := pairAt.opened h
  exact ⟨(cellAt (HO1.heap 1 rfl) 13 _ rfl).1, (cellAt (HO1.heap 1 rfl) 14 _ rfl).1⟩
theorem linksC (w : World) (hL : Fw.LaidC w) (h0 : 1 < w.heap.size) :
    Calls Tryz.prog 9 #[] w fun r w' => r = .returned (.bool true) ∧ Below w.heap.size w w' := by
  have HN := Aside0.mk (ln0 hL h0)
  have HB := Aside0.mk (beginC 7 3 w hL)
  clear hL h0
  obtain ⟨d, HD⟩ : ∃ d, Aside0 (linked = d) := ⟨_, ⟨rfl⟩⟩
  obtain ⟨p0, HP0⟩ : ∃ q, Aside0 (askP false (begin0 7 3) 0 = q) := ⟨_, ⟨rfl⟩⟩
  have HDD : Aside0 (Md.drain p0 = d) := ⟨by rw [← HP0.out, ← HD.out]; rfl⟩
  have HF : Aside0 (d.a.e.state = 7 ∧ d.b.e.state = 7 ∧ d.a.ups = 1 ∧ d.b.ups = 1) := ⟨by rw [← HD.out]; exact linked_facts⟩
  clear HD
  go_enter Tryz.func9, Tryz.ntmps9
  go_wp2_with fail
  refine HB.out.mono ?_
  rintro r w1 ⟨I, rfl, hw1⟩
  have HW1 := Aside0.mk hw1
  clear hw1 HB
  go_wp2_with fail
  refine (ask00C I 0 (begin0 7 3) (by decide) _ w w1 HW1.out).mono ?_
  rintro r w2 ⟨rfl, hw2⟩
  rw [HP0.out] at hw2
  have HW2 := Aside0.mk hw2
  clear hw2 HW1 HP0
  go_wp2_with fail
  refine (drainC I (0 + 1000) p0 (by decide) _ w w2 HN.out HW2.out).mono ?_
  rintro r w3 ⟨rfl, hw3⟩
  rw [HDD.out] at hw3
  have HW3 : Aside0 (Went (pairAt I 11000000 d) (fun _ => False) w w3) := ⟨growP hw3 (by decide) (by decide)⟩
  clear hw3 HW2 HDD HN
  obtain ⟨e0, e1, _⟩ := ends_at HW3.out
  have HV0 : Aside0 (Calls Tryz.prog 13 #[.pointer (some ⟨I.b0, 0, none⟩)] w3 fun r w' => r = .returned (.agg (En.viewOf d.a.e)) ∧ Went (pairAt I 11000000 d) (fun _ => False) w w') := ⟨view0C HW3.out⟩
  generalize hva : d.a.e = ea at HV0 HF
  obtain ⟨f0, f1, f2, f3⟩ := HF.out
  unfold En.viewOf at HV0
  rw [f0] at HV0
  clear hva
  go_wp2_with fail
  refine HV0.out.mono ?_
  rintro r w4 ⟨rfl, hw4⟩
  have HW4 := Aside0.mk hw4
  clear hw4 HV0 HW3 e0 e1
  obtain ⟨e0, e1, _⟩ := ends_at HW4.out
  have HV1 : Aside0 (Calls Tryz.prog 13 #[.pointer (some ⟨I.b1, 0, none⟩)] w4 fun r w' => r = .returned (.agg (En.viewOf d.b.e)) ∧ Went (pairAt I 11000000 d) (fun _ => False) w w') := ⟨view1C HW4.out⟩
  generalize hvb : d.b.e = eb at HV1 f1
  unfold En.viewOf at HV1
  rw [f1] at HV1
  clear hvb
  go_wp2_with fail
  refine HV1.out.mono ?_
  rintro r w5 ⟨rfl, hw5⟩
  have HW5 := Aside0.mk hw5
  clear hw5 HV1 HW4 e0 e1
  obtain ⟨u0, u1⟩ := ups_at HW5.out
  rw [f2] at u0
  rw [f3] at u1
  go_wp2
  go_ret
  exact ⟨rfl, HW5.out.keeps.below (Nat.le_refl _) (fun k hk => hk.elim)⟩
end Go.Proofs.YtljnfbpplhnmfaaGreatDoor.Pa
namespace Go.Proofs.YtljnfbpplhnmfaaGreatDoor.Pa
open Go Go.RowKit Go.Proofs.YtljnfbpplhnmfaaGreatDoorW.PrintWords Go.Proofs.YtljnfbpplhnmfaaGreatDoorW.PrintLast Go.Proofs.YtljnfbpplhnmfaaGreatDoorW.PrintMore Go.Proofs.YtljnfbpplhnmfaaGreatDoor.Str Go.Proofs.YtljnfbpplhnmfaaGreatDoor.Mp Go.Proofs.YtljnfbpplhnmfaaGreatDoor.Ra Go.Proofs.YtljnfbpplhnmfaaGreatDoor.Sl Go.Proofs.YtljnfbpplhnmfaaGreatDoor.Qu Go.Proofs.YtljnfbpplhnmfaaGreatDoor.Ru Go.Proofs.YtljnfbpplhnmfaaGreatDoor.Md Go.Proofs.YtljnfbpplhnmfaaGreatDoor.Ta
set_option linter.unusedVariables false
set_option linter.unusedSimpArgs false
set_option maxRecDepth 1000000
set_option maxHeartbeats 8000000
theorem owns_below {w w' : World} {T : Nat → Prop} {e : TypeId} {z n : Nat} {v : Value} {xs : List Value} (h : OwnsAt w T e z v n xs) (hb : Below w.heap.size w w') : OwnsAt w' T e z v n xs :=
  h.same (fun k hk => hb.block k (h.lt k hk).2)
theorem told_at {I : PI} {c : Nat} {p : Pr} {V : PV} {T : Nat → Prop} {w0 w : World} (h : Went (all (pparts I c p V)) T w0 w) : (∃ T1, OwnsAt w T1 9 1 V.v4 p.a.told.length (strs p.a.told)) ∧ (∃ T1, OwnsAt w T1 9 1 V.v5 p.b.told.length (strs p.b.told)) := by
  obtain ⟨T1, h1⟩ := h.get 8 rfl
  obtain ⟨T2, h2⟩ := h.get 9 rfl
  exact ⟨⟨T1, h1.2⟩, ⟨T2, h2.2⟩⟩
theorem pack {I : PI} {c : Nat} {p : Pr} {V : PV} {T : Nat → Prop} {w0 w : World} (h : Went (all (pparts I c p V)) T w0 w) : Went (pairAt I c p) T w0 w := h.imp (fun T1 h1 => ⟨V, h1⟩)
end Go.Proofs.YtljnfbpplhnmfaaGreatDoor.Pa
