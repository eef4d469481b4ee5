/- What is told is in order: the laws over both ends, in plain words: payloads. No program in sight; no condition. From the laws' rows' premise (the tables of packages ctrl and utf8 read as laid) to what the walks take; a world for a card's witness. The law TopOrder by its own text: it answers true. Condition: the tables of package ctrl stand as they were laid. -/
import Derived.Test.YtljnfbpplhnmfaaGreatDoorRows
import Derived.Lib.LaidTab
import Derived.ProofKit
import Derived.Deep.DeepHandedRow
import Derived.SizedLaws
import Derived.ChangeSlices
import Derived.Test.YtljnfbpplhnmfaaGreatDoorOs23
import Derived.Test.YtljnfbpplhnmfaaGreatDoorOs28
import Derived.Test.YtljnfbpplhnmfaaGreatDoorOs31
namespace Go.Proofs.YtljnfbpplhnmfaaGreatDoor.Md
set_option linter.unusedVariables false
set_option linter.unusedSimpArgs false
theorem pays_marks (l : List Ef) : pays (mksO l) = [] := by
  unfold pays mksO
  rw [List.map_eq_nil_iff, List.filter_eq_nil_iff]
  intro x hx
  obtain ⟨_, _, rfl⟩ := List.mem_map.1 hx
  simp
theorem u8_inj {a b : Nat} (ha : a < 256) (hb : b < 256) (h : UInt8.ofNat a = UInt8.ofNat b) : a = b := by
  have := congrArg UInt8.toNat h
  simp only [UInt8.toNat_ofNat'] at this
  omega
theorem payload_inj {m n : Int} (hm : 0 ≤ m ∧ m < 65536) (hn : 0 ≤ n ∧ n < 65536) (h : payload m = payload n) : m = n := by
  unfold payload at h
  injection h with h
  have h1 := congrArg Array.toList h
  simp only [List.cons.injEq, and_true] at h1
  have a := u8_inj (by omega) (by omega) h1.1
  have b := u8_inj (by omega) (by omega) h1.2
  omega
structure Un (s : Sd) (n : Int) : Prop where
  nd : (pays s.taken).Nodup
  of : ∀ x ∈ pays s.taken, ∃ m, 0 ≤ m ∧ m < n ∧ x = payload m
structure Uns (p : Pr) : Prop where
  n0 : 0 ≤ p.next
  a : Un p.a p.next
  b : Un p.b p.next
theorem Uns.swap {p : Pr} (h : Uns p) : Uns (Md.swap p) := ⟨h.n0, h.b, h.a⟩
theorem Un.more {s : Sd} {n m : Int} (h : Un s n) (hm : n ≤ m) : Un s m := ⟨h.nd, fun x hx => by obtain ⟨k, a, b, c⟩ := h.of x hx; exact ⟨k, a, by omega, c⟩⟩
theorem Un.same {s t : Sd} {n : Int} (h : Un s n) (e : pays t.taken = pays s.taken) : Un t n := ⟨by rw [e]; exact h.nd, by rw [e]; exact h.of⟩
theorem Uns.become {p : Pr} (h : Uns p) (e : E) : Uns (become false p e) := by
  rw [become_a]
  refine ⟨h.n0, h.a.same ?_, h.b.same (t := getF p.b (frsO e.out)) rfl⟩
  show pays (p.a.taken ++ mksO e.out) = _
  rw [pays_app, pays_marks, List.append_nil]
theorem Uns.mark {p : Pr} (h : Uns p) : Uns (p.upd false fun s => { s with taken := s.taken ++ [⟨nil8, false⟩] }) := by
  refine ⟨h.n0, h.a.same ?_, h.b⟩
  show pays (p.a.taken ++ [⟨nil8, false⟩]) = _
  rw [pays_app]; simp [pays]
theorem Uns.ask {p : Pr} (h : Uns p) (a : Int) : Uns (askP false p a) := by
  unfold askP
  simp only
  split
  · exact h.mark.become _
  · exact h.become _
theorem Uns.send {p : Pr} (h : Uns p) (hn : p.next < 65536) (a : Int) : Uns (sendP false p a) ∧ (sendP false p a).next = p.next + 1 := by
  have h0 : Uns { p with next := p.next + 1 } := ⟨by have := h.n0; show 0 ≤ p.next + 1; omega, h.a.more (by show p.next ≤ p.next + 1; omega), h.b.more (by show p.next ≤ p.next + 1; omega)⟩
  have h1 : Uns (({ p with next := p.next + 1 } : Pr).upd false fun s => { s with taken := s.taken ++ [⟨payload p.next, true⟩] }) := by
    refine ⟨h0.n0, ⟨?_, ?_⟩, h0.b⟩
    · show (pays (p.a.taken ++ [⟨payload p.next, true⟩])).Nodup
      rw [pays_app, List.nodup_append]
      refine ⟨h.a.nd, by simp [pays], fun x hx y hy => ?_⟩
      obtain ⟨m, m0, m1, rfl⟩ := h.a.of x hx
      have : y = payload p.next := by simpa [pays] using hy
      subst this
      exact fun e => by have := payload_inj ⟨m0, by omega⟩ ⟨h.n0, hn⟩ e; omega
    · intro x hx
      have hx' : x ∈ pays (p.a.taken ++ [⟨payload p.next, true⟩]) := hx
      rw [pays_app] at hx'
      rcases List.mem_append.1 hx' with hx' | hx'
      · exact h0.a.of x hx'
      · exact ⟨p.next, h.n0, by show p.next < p.next + 1; omega, by simpa [pays] using hx'⟩
  have hu : ∀ {q : Pr} (d : ByteArray), Uns q → Uns (q.upd false fun s => { s with unit := s.unit ++ [d] }) := fun d hq => ⟨hq.n0, hq.a.same rfl, hq.b⟩
  unfold sendP
  simp only
  constructor
  · split
    · split
      · exact (hu _ h1).become _
      · exact (hu _ h0).become _
    · split
      · exact h1.become _
      · exact h0.become _
  · rw [become_a]
    simp only
    split
    · split <;> rfl
    · split <;> rfl
theorem Uns.come {p : Pr} (h : Uns p) (l : Bool) : Uns (comeP false p l) ∧ (comeP false p l).next = p.next := by
  unfold comeP
  split
  · exact ⟨h, rfl⟩
  · simp only
    rename_i f l _
    have h1 : Uns (p.upd false fun s => { s with way := l }) := ⟨h.n0, h.a.same (t := { p.a with way := l }) rfl, h.b⟩
    split
    · exact ⟨h1, rfl⟩
    · exact ⟨h1.become _, by rw [become_a]; rfl⟩
theorem Uns.over {p : Pr} (h : Uns p) : Uns (overP false p) ∧ (overP false p).next = p.next := by
  unfold overP
  split
  · split
    · exact ⟨h.become _, by rw [become_a]⟩
    · split
      · exact ⟨h.become _, by rw [become_a]⟩
      · exact ⟨h, rfl⟩
  · exact ⟨h, rfl⟩
theorem next_ask (p : Pr) (a : Int) : (askP false p a).next = p.next := by
  unfold askP
  simp only
  rw [become_a]
  simp only
  split <;> rfl
structure UN (p : Pr) (n : Int) : Prop where
  u : Uns p
  n : p.next ≤ n
theorem UN.askI {p : Pr} {n : Int} (h : UN p n) (i : Bool) (a : Int) : UN (askP i p a) n := by
  cases i with
  | false => exact ⟨h.u.ask a, by rw [next_ask]; exact h.n⟩
  | true => rw [askP_swap]; exact ⟨(h.u.swap.ask a).swap, by show (askP false (swap p) a).next ≤ n; rw [next_ask]; exact h.n⟩
theorem UN.comeI {p : Pr} {n : Int} (h : UN p n) (i l : Bool) : UN (comeP i p l) n := by
  cases i with
  | false => exact ⟨(h.u.come l).1, by rw [(h.u.come l).2]; exact h.n⟩
  | true => rw [comeP_swap]; exact ⟨(h.u.swap.come l).1.swap, by show (comeP false (swap p) l).next ≤ n; rw [(h.u.swap.come l).2]; exact h.n⟩
theorem UN.overI {p : Pr} {n : Int} (h : UN p n) (i : Bool) : UN (overP i p) n := by
  cases i with
  | false => exact ⟨h.u.over.1, by rw [h.u.over.2]; exact h.n⟩
  | true => rw [overP_swap]; exact ⟨h.u.swap.over.1.swap, by show (overP false (swap p)).next ≤ n; rw [h.u.swap.over.2]; exact h.n⟩
theorem UN.sendI {p : Pr} {n : Int} (h : UN p n) (hn : n < 65536) (i : Bool) (a : Int) : UN (sendP i p a) (n + 1) := by
  have h1 := h.n
  cases i with
  | false => exact ⟨(h.u.send (by omega) a).1, by rw [(h.u.send (by omega) a).2]; omega⟩
  | true =>
    rw [sendP_swap]
    have := h.u.swap.send (by show p.next < 65536; omega) a
    exact ⟨this.1.swap, by show (sendP false (swap p) a).next ≤ n + 1; rw [this.2]; show p.next + 1 ≤ n + 1; omega⟩
theorem UN.drainN : ∀ (k : Nat) {p : Pr} {n : Int}, UN p n → UN (drainN k p) n
  | 0, p, _, h => h
  | k + 1, p, _, h => by
    unfold Md.drainN; split
    · exact h
    · exact UN.drainN k ((h.comeI false false).comeI true false)
theorem UN.drain {p : Pr} {n : Int} (h : UN p n) : UN (drain p) n := UN.drainN _ h
theorem UN.settle1 {p : Pr} {n : Int} (h : UN p n) (i : Bool) : UN (settle1 i p) n := by
  unfold Md.settle1; split
  · exact (h.overI i).drain
  · exact h
theorem UN.settleN : ∀ (k : Nat) {p : Pr} {n : Int}, UN p n → UN (settleN k p) n
  | 0, p, _, h => h
  | k + 1, p, _, h => UN.settleN k ((h.drain.settle1 false).settle1 true)
theorem UN.settle {p : Pr} {n : Int} (h : UN p n) (k : Nat) : UN (settle k p) n := UN.settleN k ((h.askI false 5).askI true 5)
theorem UN.more {p : Pr} {n m : Int} (h : UN p n) (hm : n ≤ m) : UN p m := ⟨h.u, by have := h.n; omega⟩
theorem UN.do_ {p : Pr} {n : Int} (h : UN p n) (hn : n < 65536) (a : Ac) (clean : Bool) : UN (doP p a clean) (n + 1) := by
  have hc : ∀ (i lost : Bool), UN (comeOr i p lost) (n + 1) := fun i lost => by
    unfold comeOr; split
    · exact (h.overI i).more (by omega)
    · exact (h.comeI i lost).more (by omega)
  unfold doP
  simp only
  split
  · exact h.sendI hn _ 3
  split
  · split
    · exact h.more (by omega)
    · exact (h.askI _ 0).more (by omega)
  split
  · split
    · exact h.more (by omega)
    · exact (h.askI _ 1).more (by omega)
  split
  · exact (h.askI _ 4).more (by omega)
  split
  · exact (h.askI _ 5).more (by omega)
  split
  · exact hc _ _
  split
  · exact hc _ _
  · exact h.sendI hn _ 2
theorem UN.acts {clean : Bool} : ∀ (l : List Ac) {p : Pr} {n : Int}, UN p n → n + l.length ≤ 65535 → UN (l.foldl (fun p a => doP p a clean) p) (n + l.length)
  | [], _, n, h, _ => by simpa using h
  | a :: l, p, n, h, hn => by
    simp only [List.length_cons, Int.natCast_add] at hn ⊢
    have h1 := h.do_ (by omega) a clean
    have := UN.acts (clean := clean) l h1 (by omega)
    rw [show n + ((l.length : Int) + ((1 : Nat) : Int)) = n + 1 + l.length by omega]
    exact this
theorem UN.run (k n : Int) (script : List Ac) (clean : Bool) : UN (runP k n script clean) 300 := by
  have h0 : UN (begin0 k n) 0 := ⟨⟨Int.le_refl _, ⟨List.nodup_nil, fun x hx => by cases hx⟩, ⟨List.nodup_nil, fun x hx => by cases hx⟩⟩, Int.le_refl _⟩
  have h1 : UN (if clean = true then Md.drain (askP false (begin0 k n) 0) else askP false (begin0 k n) 0) 0 := by
    split
    · exact (h0.askI false 0).drain
    · exact h0.askI false 0
  have hl : (script.take 300).length ≤ 300 := List.length_take_le ..
  exact (UN.acts (script.take 300) h1 (by omega)).more (by omega)
def orderOk (s t : Sd) : Bool := decide (inL t.told (payloads s) = []) && (s.taken.foldl scan1 (t.told, false, true)).2.2
theorem D.scan {x y : Cs} (h : D x y) : ∃ c, Sc c y.told x.taken := by
  obtain ⟨tpre, j, h⟩ := h
  obtain ⟨c, hc⟩ := h.sc.some (x.fl.q.list.drop j)
  rw [List.append_assoc, ← evQ_app, List.take_append_drop, ← h.take] at hc
  exact ⟨c, hc⟩
theorem order_side {s t : Sd} {n : Int} (h : D (core s) (core t)) (hu : Un s n) : orderOk s t = true := by
  obtain ⟨c, hc⟩ := h.scan
  have h1 : Sc c t.told s.taken := hc
  unfold orderOk
  rw [decide_eq_true (show inL t.told (payloads s) = [] from inL_sub h1.sub), h1.ok hu.nd]
  rfl
theorem order_law (k n : Int) (script : List Ac) (m : Nat) : orderOk (settle m (runP k n script false)).a (settle m (runP k n script false)).b = true ∧ orderOk (settle m (runP k n script false)).b (settle m (runP k n script false)).a = true := by
  have hi := (Inv.run k n script false).settle m
  have hu := (UN.run k n script false).settle m
  exact ⟨order_side hi.j.d1 hu.u.a, order_side hi.j.d2 hu.u.b⟩
end Go.Proofs.YtljnfbpplhnmfaaGreatDoor.Md
namespace Go.Proofs.YtljnfbpplhnmfaaGreatDoorX
open Go.RowKit
theorem strs_of_tab {H : Type} {enc : TypeId × Value → H} {P : Program} {w : World} {base : Nat} {sp : Nat → Bool} {held : Bool} {fuel : Nat} {t e : TypeId} {n : Nat} {cs : List Value} {zs : List (List UInt8)} {p : List MemPlace}
    (ht : P.underlying t = some (.array n e)) (he : P.underlying e = some .string) (hce : P.cellsOf e = 1) (hct : P.cellsOf t = n)
    (h : DataW.trod enc P w base sp held fuel t cs = some (.agg (zs.map fun z => .lit (.string z)), p)) : cs = zs.map fun z => Value.string ⟨z.toArray⟩ := by
  cases fuel with
  | zero => simp [DataW.trod] at h
  | succ fuel =>
    simp only [DataW.trod, ht, hce, hct, Nat.mul_one] at h
    split at h
    · rename_i hl
      obtain ⟨xs, hm, hx⟩ := Option.map_eq_some_iff.1 h
      have hxs : xs.map (·.1) = zs.map fun z => (DataW.lit (.string z) : DataW H) := by
        have := congrArg Prod.fst hx
        simpa using this
      have hxl : xs.length = n := by simpa using Lib.mapM_length hm
      have hzl : zs.length = n := by
        have := congrArg List.length hxs
        simp at this
        omega
      apply List.ext_getElem?
      intro i
      by_cases hi : i < n
      · obtain ⟨b, hb, hf⟩ := Lib.mapM_at hm i i (by simp [hi])
        obtain ⟨s, hc, rfl, _⟩ := DataW.trod_string he hf
        have h1 : cs[i]? = some (.string s) := by
          have := congrArg (·[0]?) hc
          simpa [List.getElem?_take, List.getElem?_drop] using this
        have h2 : (xs.map (·.1))[i]? = some (DataW.lit (.string s.data.toList) : DataW H) := by simp [hb]
        rw [hxs] at h2
        simp only [List.getElem?_map, Option.map_eq_some_iff, DataW.lit.injEq, Lit.string.injEq] at h2
        obtain ⟨z', hz', rfl⟩ := h2
        rw [h1, List.getElem?_map, hz']
        rfl
      · rw [List.getElem?_eq_none (by omega), List.getElem?_eq_none (by simp; omega)]
    · cases h
def namesData : List (List UInt8) := [[73], [82, 82], [82, 78, 82], [82, 69, 74], [83, 65, 66, 77, 69], [68, 77], [85, 73], [68, 73, 83, 67], [85, 65], [70, 82, 77, 82]]
theorem gFirst : Tryz.prog.globalNamed "lapwing/ctrl.first" = some 0 := by kernel_rfl
theorem gNames : Tryz.prog.globalNamed "lapwing/ctrl.names" = some 1 := by kernel_rfl
theorem tFirst : (Tryz.prog.globals[0]?).map (·.type) = some 224 := by kernel_rfl
theorem tNames : (Tryz.prog.globals[1]?).map (·.type) = some 251 := by kernel_rfl
theorem c10a : Tryz.prog.cellsOf 224 = 10 := by kernel_rfl
theorem c10b : Tryz.prog.cellsOf 251 = 10 := by kernel_rfl
theorem c1x : Tryz.prog.cellsOf 5 = 1 := by kernel_rfl
theorem c1y : Tryz.prog.cellsOf 9 = 1 := by kernel_rfl
def LaidT (W : World) : Prop := Go.Proofs.YtljnfbpplhnmfaaGreatDoor.Fw.LaidC W ∧ 1 < W.heap.size
theorem laid_ofT {W : World} (h : laidMet Tryz.prog [("unicode/utf8.acceptRanges", Go.Proofs.YtljnfbpplhnmfaaGreatDoor.Rows.laid_unicode_utf8_acceptRanges), ("lapwing/ctrl.first", Go.Proofs.YtljnfbpplhnmfaaGreatDoor.Rows.laid_lapwing_ctrl_first), ("lapwing/ctrl.names", Go.Proofs.YtljnfbpplhnmfaaGreatDoor.Rows.laid_lapwing_ctrl_names), ("unicode/utf8.first", Go.Proofs.YtljnfbpplhnmfaaGreatDoor.Rows.laid_unicode_utf8_first)] W) : LaidT W := by
  obtain ⟨ps, ⟨_, _, _, _, _, _, _, _, _, _, hr00, _⟩, _⟩ := h
  obtain ⟨g1, t1, cs1, f1, p1, q1, hg1, ht1, hv1, hd1, hr0, _⟩ := hr00
  obtain ⟨g2, t2, cs2, f2, p2, q2, hg2, ht2, hv2, hd2, hr, _⟩ := hr0
  obtain rfl := Option.some.inj (gFirst.symm.trans hg1)
  obtain rfl := Option.some.inj (tFirst.symm.trans ht1)
  obtain rfl := Option.some.inj (gNames.symm.trans hg2)
  obtain rfl := Option.some.inj (tNames.symm.trans ht2)
  have e1 := Lib.cells_of_tab (zs := Go.Proofs.YtljnfbpplhnmfaaGreatDoor.Fw.tFirst) Tryz.underlying224 Tryz.underlying5 c1x c10a hd1
  have e2 := strs_of_tab (zs := namesData) Tryz.underlying251 Tryz.underlying9 c1y c10b hd2
  have hv1' : W.var? Tryz.prog "lapwing/ctrl.first" = some (Go.Proofs.YtljnfbpplhnmfaaGreatDoor.Fw.tFirst.map (Value.int .u8)).toArray := by rw [hv1, ← Array.toArray_toList (xs := cs1), e1]
  have hv2' : W.var? Tryz.prog "lapwing/ctrl.names" = some (Go.Proofs.YtljnfbpplhnmfaaGreatDoor.Fw.tNames.map Value.string).toArray := by rw [hv2, ← Array.toArray_toList (xs := cs2), e2]; rfl
  have hc : Go.Proofs.YtljnfbpplhnmfaaGreatDoor.Fw.LaidC W := by
    refine ⟨fun i x hx => ?_, fun i x hx => ?_⟩
    · have := World.var?_cell gFirst hv1' i
      rw [this]
      simp [hx]
    · have := World.var?_cell gNames hv2' i
      rw [this]
      simp [hx]
  exact ⟨hc, World.block_lt_of_cell? W _ (hc.2 0 _ rfl)⟩
noncomputable def laidU1 (os : Os) : World :=
  { World.holding Tryz.prog os ⟨#[], #[], []⟩ with heap := (World.holding Tryz.prog os ⟨#[], #[], []⟩).heap.modify 2 fun
      | .cells _ t frozen => .cells (Go.Pinned.utf8FirstZ.map fun (n : Nat) => Value.int .u8 (n : Int)).toArray t frozen
      | o => o }
noncomputable def laidU2 (os : Os) : World :=
  { laidU1 os with heap := (laidU1 os).heap.modify 3 fun
      | .cells _ t frozen => .cells #[.int .u8 128, .int .u8 191, .int .u8 160, .int .u8 191, .int .u8 128, .int .u8 159, .int .u8 144, .int .u8 191, .int .u8 128, .int .u8 143, .int .u8 0, .int .u8 0, .int .u8 0, .int .u8 0, .int .u8 0, .int .u8 0, .int .u8 0, .int .u8 0, .int .u8 0, .int .u8 0, .int .u8 0, .int .u8 0, .int .u8 0, .int .u8 0, .int .u8 0, .int .u8 0, .int .u8 0, .int .u8 0, .int .u8 0, .int .u8 0, .int .u8 0, .int .u8 0] t frozen
      | o => o }
noncomputable def laidU3 (os : Os) : World :=
  { laidU2 os with heap := (laidU2 os).heap.modify 0 fun
      | .cells _ t frozen => .cells #[.int .u8 0, .int .u8 1, .int .u8 5, .int .u8 9, .int .u8 111, .int .u8 15, .int .u8 3, .int .u8 67, .int .u8 99, .int .u8 135] t frozen
      | o => o }
noncomputable def laidWorldT (os : Os) : World :=
  { laidU3 os with heap := (laidU3 os).heap.modify 1 fun
      | .cells _ t frozen => .cells #[.string ⟨#[73]⟩, .string ⟨#[82, 82]⟩, .string ⟨#[82, 78, 82]⟩, .string ⟨#[82, 69, 74]⟩, .string ⟨#[83, 65, 66, 77, 69]⟩, .string ⟨#[68, 77]⟩, .string ⟨#[85, 73]⟩, .string ⟨#[68, 73, 83, 67]⟩, .string ⟨#[85, 65]⟩, .string ⟨#[70, 82, 77, 82]⟩] t frozen
      | o => o }
end Go.Proofs.YtljnfbpplhnmfaaGreatDoorX
namespace Go.Proofs.YtljnfbpplhnmfaaGreatDoor.Pa
open Go Go.RowKit Go.Proofs.YtljnfbpplhnmfaaGreatDoorW.PrintWords Go.Proofs.YtljnfbpplhnmfaaGreatDoorW.PrintLast Go.Proofs.YtljnfbpplhnmfaaGreatDoorW.PrintMore Go.Proofs.YtljnfbpplhnmfaaGreatDoor.Str Go.Proofs.YtljnfbpplhnmfaaGreatDoor.Mp Go.Proofs.YtljnfbpplhnmfaaGreatDoor.Ra Go.Proofs.YtljnfbpplhnmfaaGreatDoor.Sl Go.Proofs.YtljnfbpplhnmfaaGreatDoor.Qu Go.Proofs.YtljnfbpplhnmfaaGreatDoor.Ru Go.Proofs.YtljnfbpplhnmfaaGreatDoor.Md Go.Proofs.YtljnfbpplhnmfaaGreatDoor.Ta
set_option linter.unusedVariables false
set_option linter.unusedSimpArgs false
set_option maxRecDepth 1000000
set_option maxHeartbeats 8000000
theorem scan_false (m : List Ev) : ∀ (s : List ByteArray × Bool × Bool), s.2.2 = false → (m.foldl scan1 s).2.2 = false := by
  induction m with
  | nil => exact fun s h => h
  | cons x m ih =>
    intro s h
    refine ih _ ?_
    unfold scan1
    split
    · exact h
    · split
      · split
        · simp [h]
        · exact h
      · exact h
theorem scan_pre (l : List Ev) (k : Nat) (s : List ByteArray × Bool × Bool) (h : (l.foldl scan1 s).2.2 = true) : ((l.take k).foldl scan1 s).2.2 = true := by
  cases hc : ((l.take k).foldl scan1 s).2.2 with
  | true => rfl
  | false =>
    have h1 := scan_false (l.drop k) _ hc
    rw [← List.foldl_append, List.take_append_drop, h] at h1
    cases h1
theorem scan_next (l : List Ev) (k : Nat) (x : Ev) (s : List ByteArray × Bool × Bool) (hx : l[k]? = some x) : (l.take (k + 1)).foldl scan1 s = scan1 ((l.take k).foldl scan1 s) x := by
  have hlt := (List.getElem?_eq_some_iff.1 hx).1
  rw [List.take_succ_eq_append_getElem hlt, List.foldl_append, (List.getElem?_eq_some_iff.1 hx).2]
  rfl
theorem topOrderW (k n : Int) (A : Option Addr) (len cap : Nat) (l : List Ac) (w : World) (hL : Fw.LaidC w) (h0 : 1 < w.heap.size) (hA : Acts w A len cap l) :
    Calls Tryz.prog 3 #[.int .i64 k, .int .i64 n, .slice A len cap] w fun r w' => r = .returned (.bool true) ∧ Below w.heap.size w w' := by
  have HN := Aside0.mk (ln0 hL h0)
  have HRN := Aside0.mk (runC k n A len cap l false w hL h0 hA)
  have HLK : Aside0 (∀ w', Below w.heap.size w w' → Calls Tryz.prog 9 #[] w' fun r w'' => r = .returned (.bool true) ∧ Below w'.heap.size w' w'') := ⟨fun w' hb => linksC w' (hL.below hb) (Nat.lt_of_lt_of_le h0 hb.size)⟩
  obtain ⟨p0, HP0⟩ : ∃ q, Aside0 (runP k n l false = q) := ⟨_, ⟨rfl⟩⟩
  obtain ⟨d, HD⟩ : ∃ q, Aside0 (Md.settle 20 p0 = q) := ⟨_, ⟨rfl⟩⟩
  have hlaw := order_law k n l 20
  rw [HP0.out, HD.out] at hlaw
  have HLAW := Aside0.mk hlaw
  clear hlaw hL h0 hA
  rw [HP0.out] at HRN
  go_enter Tryz.func3, Tryz.ntmps3
  go_wp2_with fail
  refine HRN.out.mono ?_
  rintro r w1 ⟨I, rfl, hw1⟩
  have HW1 := Aside0.mk hw1
  have HB1 : Aside0 (Below w.heap.size w w1) := ⟨hw1.keeps.below (Nat.le_refl _) (fun k hk => hk.elim)⟩
  clear hw1 HRN
  go_wp2_with fail
  refine (HLK.out w1 HB1.out).mono ?_
  rintro r w2 ⟨rfl, hb2⟩
  have HW2 := Aside0.mk (HW1.out.below hb2)
  clear hb2 HLK HW1 HB1
  go_wp2_with fail
  refine (settleC I 20000000 20 (by decide) p0 (by decide) _ w w2 HN.out HW2.out).mono ?_
  rintro r w3 ⟨rfl, hw3⟩
  rw [HD.out] at hw3
  have HW3 : Aside0 (Went (pairAt I 700000000 d) (fun _ => False) w w3) := ⟨growP hw3 (by decide) (by decide)⟩
  clear hw3 HW2
  go_wp2_with fail
  go_loopw [29] (fun x wr => (x = .int .i64 0 ∨ x = .int .i64 1 ∨ x = .int .i64 2) ∧ Aside0 (Went (pairAt I 700000000 d) (fun _ => False) w wr)) (fun x _ => 2 - (intOf x).toNat)
  case atStart => exact ⟨Or.inl rfl, HW3⟩
  case round =>
    clear HW3
    obtain ⟨hx, HW⟩ := hrel
    rcases hx with rfl | rfl | rfl
    · obtain ⟨A0, c0, A1, c1, A2, c2, A3, c3, A4, c4, A5, c5, A6, c6, A7, c7, A8, c8, A9, c9, HO1, hok⟩ := pairAt.opened HW.out
      have hlaw := HLAW.out.1
      unfold orderOk at hlaw
      rw [Bool.and_eq_true, decide_eq_true_eq] at hlaw
      obtain ⟨hin, hsc⟩ := hlaw
      have HIN := Aside0.mk hin
      have htl : d.b.told.length ≤ 100000000000 := Nat.le_trans hok.b.told hok.cap
      have hpl : (payloads d.a).length ≤ 100000000000 := by
        have h9 := pays_len d.a.taken d.a.taken.length
        rw [List.take_length] at h9
        exact Nat.le_trans h9 (Nat.le_trans hok.a.taken hok.cap)
      have HPL := Aside0.mk hpl
      have HTL := Aside0.mk htl
      have hkl : d.a.taken.length ≤ 100000000000 := Nat.le_trans hok.a.taken hok.cap
      obtain ⟨ct, _⟩ := cellAt (HO1.heap 1 rfl) 7 (.slice A5 d.b.told.length c5) rfl
      have HPY := Aside0.mk (payloads0C HO1 hok)
      have HSC : Aside0 (∀ k, ((d.a.taken.take k).foldl scan1 (d.b.told, false, true)).2.2 = true) := ⟨fun k => scan_pre _ k _ hsc⟩
      clear HO1 hok hin hsc hpl htl
      go_wp2_with fail
      refine HPY.out.mono ?_
      rintro r w5 ⟨u, rfl, hw5⟩
      have HO2 := Aside0.mk hw5.drop
      obtain ⟨T1, ht⟩ := (told_at HO2.out).2
      obtain ⟨T2, hp⟩ := hw5.get 0 rfl
      have HI := Aside0.mk (inC _ u d.b.told (payloads d.a) T1 T2 w5 ht hp.2 HTL.out HPL.out)
      have HTA := Aside0.mk ht
      clear hw5 ht hp HPY ct HW
      go_wp2_with fail
      refine HI.out.mono ?_
      rintro r w6 ⟨rfl, rfl⟩
      rw [decide_eq_true HIN.out]
      obtain ⟨ck, _⟩ := cellAt (HO2.out.heap 1 rfl) 4 (.slice A2 d.a.taken.length c2) rfl
      clear HI HIN HPL
      have HEV : Aside0 (∀ {wr : World} (k : Nat) (x : Ev), Went (all (pparts I 700000000 d ⟨.slice A0 d.a.way.length c0, .slice A1 d.b.way.length c1, .slice A2 d.a.taken.length c2, .slice A3 d.b.taken.length c3, .slice A4 d.a.told.length c4, .slice A5 d.b.told.length c5, .slice A6 d.a.units.length c6, .slice A7 d.b.units.length c7, .slice A8 d.a.unit.length c8, .slice A9 d.b.unit.length c9⟩)) (fun _ => False) w wr → d.a.taken[k]? = some x → ∃ g o, A2 = some ⟨g, o, none⟩ ∧ wr.cell? ⟨g, o + k * 2, none⟩ = some (.string x.data) ∧ wr.cell? ⟨g, o + k * 2 + 1, none⟩ = some (.bool x.taken)) := ⟨by
        intro wr k x h hx
        obtain ⟨_, hr⟩ := h.get 6 rfl
        exact ev_row hr k x hx⟩
      have HPK : Aside0 (∀ {wr : World}, Went (all (pparts I 700000000 d ⟨.slice A0 d.a.way.length c0, .slice A1 d.b.way.length c1, .slice A2 d.a.taken.length c2, .slice A3 d.b.taken.length c3, .slice A4 d.a.told.length c4, .slice A5 d.b.told.length c5, .slice A6 d.a.units.length c6, .slice A7 d.b.units.length c7, .slice A8 d.a.unit.length c8, .slice A9 d.b.unit.length c9⟩)) (fun _ => False) w wr → Went (pairAt I 700000000 d) (fun _ => False) w wr) := ⟨fun h => pack h⟩
      obtain ⟨i0, hi0, hz0, hz1, hz2⟩ := info_parts infoStr
      have HI0 := Aside0.mk hi0
      have HZ1 := Aside0.mk hz1
      clear hi0 hz0 hz1 hz2
      obtain ⟨PP, HPP⟩ : ∃ PP, Aside0 (pparts I 700000000 d ⟨.slice A0 d.a.way.length c0, .slice A1 d.b.way.length c1, .slice A2 d.a.taken.length c2, .slice A3 d.b.taken.length c3, .slice A4 d.a.told.length c4, .slice A5 d.b.told.length c5, .slice A6 d.a.units.length c6, .slice A7 d.b.units.length c7, .slice A8 d.a.unit.length c8, .slice A9 d.b.unit.length c9⟩ = PP) := ⟨_, ⟨rfl⟩⟩
      obtain ⟨tk, HTK⟩ : ∃ tk, Aside0 (d.a.taken = tk) := ⟨_, ⟨rfl⟩⟩
      obtain ⟨tl, HTD⟩ : ∃ tl, Aside0 (d.b.told = tl) := ⟨_, ⟨rfl⟩⟩
      rw [HPP.out] at HO2 HPK HEV
      rw [HTK.out] at HEV HSC hkl ck
      rw [HTD.out] at HTA HTL HSC ⊢
      go_wp2_with fail
      clear ck
      go_loopw [10, 11, 52] (fun z b x wr => ∃ (k : Nat) (g : List ByteArray) (q : Bool) (A : Option Addr) (ca : Nat), k ≤ tk.length ∧ g.length ≤ 100000000000 ∧ x = .int .i64 k ∧ b = .bool q ∧ z = .slice A g.length ca ∧ Aside0 (OwnsAt wr T1 9 1 (.slice A g.length ca) g.length (strs g)) ∧ Aside0 ((tk.take k).foldl scan1 (tl, false, true) = (g, q, true)) ∧ Aside0 (Went (all PP) (fun _ => False) w wr)) (fun _ _ x _ => tk.length - (intOf x).toNat)
      case atStart => exact ⟨0, tl, false, A5, c5, Nat.zero_le _, HTL.out, rfl, rfl, rfl, HTA, ⟨rfl⟩, HO2⟩
      case round =>
        clear HO2 HTA HTL
        obtain ⟨k, g, q, A', ca, hk, hg, rfl, rfl, rfl, HTA, HST, HO2⟩ := hrel
        by_cases hlt : k < tk.length
        · obtain ⟨ev, hev⟩ : ∃ ev, tk[k]? = some ev := ⟨_, List.getElem?_eq_getElem hlt⟩
          obtain ⟨ge, oe, rfl, e0, e1⟩ := HEV.out k ev HO2.out hev
          have hnx := scan_next tk k ev (tl, false, true) hev
          rw [HST.out] at hnx
          have hok2 := HSC.out (k + 1)
          rw [hnx] at hok2
          obtain ⟨xd, xt⟩ := ev
          have HBX := Aside0.mk (HO2.out.alloc (.cells #[.string xd, .bool xt] 42 (0, 0)))
          have hbx := heap_alloc_new wr (.cells #[.string xd, .bool xt] 42 (0, 0))
          have HOB := Aside0.mk (owns_below HTA.out ((Below.refl wr.heap.size wr).alloc (Nat.le_refl _) (.cells #[.string xd, .bool xt] 42 (0, 0))))
          obtain ⟨y0, _⟩ := cellAt hbx 0 (.string xd) rfl
          obtain ⟨y1, _⟩ := cellAt hbx 1 (.bool xt) rfl
          have HNX := Aside0.mk hnx
          clear hnx hbx hev HST HTA
          cases xt with
          | false =>
            have HN : Aside0 ((tk.take (k + 1)).foldl scan1 (tl, false, true) = (g, false, true)) := ⟨HNX.out⟩
            clear HNX HO2
            try clear hok2
            go_wp2_with fail
            exact ⟨⟨k + 1, g, false, A', ca, by omega, hg, by go_num, rfl, rfl, HOB, HN, HBX⟩, by simp [intOf]; omega⟩
          | true =>
            clear HO2
            cases g with
            | nil =>
              have HN : Aside0 ((tk.take (k + 1)).foldl scan1 (tl, false, true) = ([], true, true)) := ⟨HNX.out⟩
              clear HNX
              try clear hok2
              simp only [List.length_nil] at HOB ⊢
              go_wp2_with fail
              go_quiet (fail)
              have HD1 := Aside0.mk (HBX.out.drewN nq)
              have HO1 := Aside0.mk (owns_below HOB.out (pw_below_drewN (Below.refl _ _) nq))
              go_wp2_with fail
              exact ⟨⟨k + 1, [], true, A', ca, by omega, by simp, by go_num, rfl, rfl, HO1, HN, HD1⟩, by simp [intOf]; omega⟩
            | cons y g =>
              obtain ⟨gg, og, rfl, k1⟩ := str_zero HOB.out rfl
              simp only [List.length_cons] at hg HOB ⊢
              by_cases he : y = xd
              · subst he
                have hnx := HNX.out
                unfold scan1 at hnx hok2
                simp only [Bool.true_eq_false, if_false, if_true, Bool.true_and, Bool.not_eq_true'] at hnx hok2
                obtain rfl : q = false := hok2
                have HN : Aside0 ((tk.take (k + 1)).foldl scan1 (tl, false, true) = (g, false, true)) := ⟨hnx⟩
                clear hnx HNX
                try clear hok2
                go_wp2_with fail
                go_quiet (fail)
                have HD1 := Aside0.mk (HBX.out.drewN nq)
                have hown1 := owns_below HOB.out (pw_below_drewN (Below.refl _ _) nq)
                obtain ⟨v2, hrun, hown, _⟩ := run_tails (P := Tryz.prog) _ T1 30 9 i0 1 Tryz.underlying30 HI0.out HZ1.out _ g.length _ hown1
                obtain ⟨A2, c2, rfl, _, _⟩ := hown.shape
                have HO : Aside0 (OwnsAt _ T1 9 1 (.slice A2 g.length c2) g.length (strs g)) := ⟨hown⟩
                clear hown hown1
                go_wp2_with fail
                exact ⟨⟨k + 1, g, false, A2, c2, by omega, by omega, by go_num, rfl, rfl, HO, HN, HD1⟩, by simp [intOf]; omega⟩
              · have hne : (y.toList == xd.toList) = false := by
                  rw [beq_eq_false_iff_ne]
                  intro h
                  exact he (inj (by rw [← toList_L, ← toList_L, h]))
                have hnx := HNX.out
                unfold scan1 at hnx
                simp only [Bool.true_eq_false, if_false, he] at hnx
                have HN : Aside0 ((tk.take (k + 1)).foldl scan1 (tl, false, true) = (y :: g, true, true)) := ⟨hnx⟩
                clear hnx HNX
                try clear hok2
                go_wp2_with fail
                go_quiet (fail)
                have HD1 := Aside0.mk (HBX.out.drewN nq)
                have HO1 := Aside0.mk (owns_below HOB.out (pw_below_drewN (Below.refl _ _) nq))
                go_wp2_with fail
                exact ⟨⟨k + 1, y :: g, true, _, ca, by omega, by simp; omega, by go_num, rfl, rfl, HO1, HN, HD1⟩, by simp [intOf]; omega⟩
        · obtain rfl : k = tk.length := by omega
          have HF := Aside0.mk (HPK.out HO2.out)
          clear HO2 HTA HST
          go_wp2_with fail
          exact ⟨⟨by first | exact Or.inr (Or.inl (by go_num)) | exact Or.inr (Or.inr (by go_num)), HF⟩, by simp [intOf]⟩
    · obtain ⟨A0, c0, A1, c1, A2, c2, A3, c3, A4, c4, A5, c5, A6, c6, A7, c7, A8, c8, A9, c9, HO1, hok⟩ := pairAt.opened HW.out
      have hlaw := HLAW.out.2
      unfold orderOk at hlaw
      rw [Bool.and_eq_true, decide_eq_true_eq] at hlaw
      obtain ⟨hin, hsc⟩ := hlaw
      have HIN := Aside0.mk hin
      have htl : d.a.told.length ≤ 100000000000 := Nat.le_trans hok.a.told hok.cap
      have hpl : (payloads d.b).length ≤ 100000000000 := by
        have h9 := pays_len d.b.taken d.b.taken.length
        rw [List.take_length] at h9
        exact Nat.le_trans h9 (Nat.le_trans hok.b.taken hok.cap)
      have HPL := Aside0.mk hpl
      have HTL := Aside0.mk htl
      have hkl : d.b.taken.length ≤ 100000000000 := Nat.le_trans hok.b.taken hok.cap
      obtain ⟨ct, _⟩ := cellAt (HO1.heap 1 rfl) 6 (.slice A4 d.a.told.length c4) rfl
      have HPY := Aside0.mk (payloads1C HO1 hok)
      have HSC : Aside0 (∀ k, ((d.b.taken.take k).foldl scan1 (d.a.told, false, true)).2.2 = true) := ⟨fun k => scan_pre _ k _ hsc⟩
      clear HO1 hok hin hsc hpl htl
      go_wp2_with fail
      refine HPY.out.mono ?_
      rintro r w5 ⟨u, rfl, hw5⟩
      have HO2 := Aside0.mk hw5.drop
      obtain ⟨T1, ht⟩ := (told_at HO2.out).1
      obtain ⟨T2, hp⟩ := hw5.get 0 rfl
      have HI := Aside0.mk (inC _ u d.a.told (payloads d.b) T1 T2 w5 ht hp.2 HTL.out HPL.out)
      have HTA := Aside0.mk ht
      clear hw5 ht hp HPY ct HW
      go_wp2_with fail
      refine HI.out.mono ?_
      rintro r w6 ⟨rfl, rfl⟩
      rw [decide_eq_true HIN.out]
      obtain ⟨ck, _⟩ := cellAt (HO2.out.heap 1 rfl) 5 (.slice A3 d.b.taken.length c3) rfl
      clear HI HIN HPL
      have HEV : Aside0 (∀ {wr : World} (k : Nat) (x : Ev), Went (all (pparts I 700000000 d ⟨.slice A0 d.a.way.length c0, .slice A1 d.b.way.length c1, .slice A2 d.a.taken.length c2, .slice A3 d.b.taken.length c3, .slice A4 d.a.told.length c4, .slice A5 d.b.told.length c5, .slice A6 d.a.units.length c6, .slice A7 d.b.units.length c7, .slice A8 d.a.unit.length c8, .slice A9 d.b.unit.length c9⟩)) (fun _ => False) w wr → d.b.taken[k]? = some x → ∃ g o, A3 = some ⟨g, o, none⟩ ∧ wr.cell? ⟨g, o + k * 2, none⟩ = some (.string x.data) ∧ wr.cell? ⟨g, o + k * 2 + 1, none⟩ = some (.bool x.taken)) := ⟨by
        intro wr k x h hx
        obtain ⟨_, hr⟩ := h.get 7 rfl
        exact ev_row hr k x hx⟩
      have HPK : Aside0 (∀ {wr : World}, Went (all (pparts I 700000000 d ⟨.slice A0 d.a.way.length c0, .slice A1 d.b.way.length c1, .slice A2 d.a.taken.length c2, .slice A3 d.b.taken.length c3, .slice A4 d.a.told.length c4, .slice A5 d.b.told.length c5, .slice A6 d.a.units.length c6, .slice A7 d.b.units.length c7, .slice A8 d.a.unit.length c8, .slice A9 d.b.unit.length c9⟩)) (fun _ => False) w wr → Went (pairAt I 700000000 d) (fun _ => False) w wr) := ⟨fun h => pack h⟩
      obtain ⟨i0, hi0, hz0, hz1, hz2⟩ := info_parts infoStr
      have HI0 := Aside0.mk hi0
      have HZ1 := Aside0.mk hz1
      clear hi0 hz0 hz1 hz2
      obtain ⟨PP, HPP⟩ : ∃ PP, Aside0 (pparts I 700000000 d ⟨.slice A0 d.a.way.length c0, .slice A1 d.b.way.length c1, .slice A2 d.a.taken.length c2, .slice A3 d.b.taken.length c3, .slice A4 d.a.told.length c4, .slice A5 d.b.told.length c5, .slice A6 d.a.units.length c6, .slice A7 d.b.units.length c7, .slice A8 d.a.unit.length c8, .slice A9 d.b.unit.length c9⟩ = PP) := ⟨_, ⟨rfl⟩⟩
      obtain ⟨tk, HTK⟩ : ∃ tk, Aside0 (d.b.taken = tk) := ⟨_, ⟨rfl⟩⟩
      obtain ⟨tl, HTD⟩ : ∃ tl, Aside0 (d.a.told = tl) := ⟨_, ⟨rfl⟩⟩
      rw [HPP.out] at HO2 HPK HEV
      rw [HTK.out] at HEV HSC hkl ck
      rw [HTD.out] at HTA HTL HSC ⊢
      go_wp2_with fail
      clear ck
      go_loopw [10, 11, 52] (fun z b x wr => ∃ (k : Nat) (g : List ByteArray) (q : Bool) (A : Option Addr) (ca : Nat), k ≤ tk.length ∧ g.length ≤ 100000000000 ∧ x = .int .i64 k ∧ b = .bool q ∧ z = .slice A g.length ca ∧ Aside0 (OwnsAt wr T1 9 1 (.slice A g.length ca) g.length (strs g)) ∧ Aside0 ((tk.take k).foldl scan1 (tl, false, true) = (g, q, true)) ∧ Aside0 (Went (all PP) (fun _ => False) w wr)) (fun _ _ x _ => tk.length - (intOf x).toNat)
      case atStart => exact ⟨0, tl, false, A4, c4, Nat.zero_le _, HTL.out, rfl, rfl, rfl, HTA, ⟨rfl⟩, HO2⟩
      case round =>
        clear HO2 HTA HTL
        obtain ⟨k, g, q, A', ca, hk, hg, rfl, rfl, rfl, HTA, HST, HO2⟩ := hrel
        by_cases hlt : k < tk.length
        · obtain ⟨ev, hev⟩ : ∃ ev, tk[k]? = some ev := ⟨_, List.getElem?_eq_getElem hlt⟩
          obtain ⟨ge, oe, rfl, e0, e1⟩ := HEV.out k ev HO2.out hev
          have hnx := scan_next tk k ev (tl, false, true) hev
          rw [HST.out] at hnx
          have hok2 := HSC.out (k + 1)
          rw [hnx] at hok2
          obtain ⟨xd, xt⟩ := ev
          have HBX := Aside0.mk (HO2.out.alloc (.cells #[.string xd, .bool xt] 42 (0, 0)))
          have hbx := heap_alloc_new wr (.cells #[.string xd, .bool xt] 42 (0, 0))
          have HOB := Aside0.mk (owns_below HTA.out ((Below.refl wr.heap.size wr).alloc (Nat.le_refl _) (.cells #[.string xd, .bool xt] 42 (0, 0))))
          obtain ⟨y0, _⟩ := cellAt hbx 0 (.string xd) rfl
          obtain ⟨y1, _⟩ := cellAt hbx 1 (.bool xt) rfl
          have HNX := Aside0.mk hnx
          clear hnx hbx hev HST HTA
          cases xt with
          | false =>
            have HN : Aside0 ((tk.take (k + 1)).foldl scan1 (tl, false, true) = (g, false, true)) := ⟨HNX.out⟩
            clear HNX HO2
            try clear hok2
            go_wp2_with fail
            exact ⟨⟨k + 1, g, false, A', ca, by omega, hg, by go_num, rfl, rfl, HOB, HN, HBX⟩, by simp [intOf]; omega⟩
          | true =>
            clear HO2
            cases g with
            | nil =>
              have HN : Aside0 ((tk.take (k + 1)).foldl scan1 (tl, false, true) = ([], true, true)) := ⟨HNX.out⟩
              clear HNX
              try clear hok2
              simp only [List.length_nil] at HOB ⊢
              go_wp2_with fail
              go_quiet (fail)
              have HD1 := Aside0.mk (HBX.out.drewN nq)
              have HO1 := Aside0.mk (owns_below HOB.out (pw_below_drewN (Below.refl _ _) nq))
              go_wp2_with fail
              exact ⟨⟨k + 1, [], true, A', ca, by omega, by simp, by go_num, rfl, rfl, HO1, HN, HD1⟩, by simp [intOf]; omega⟩
            | cons y g =>
              obtain ⟨gg, og, rfl, k1⟩ := str_zero HOB.out rfl
              simp only [List.length_cons] at hg HOB ⊢
              by_cases he : y = xd
              · subst he
                have hnx := HNX.out
                unfold scan1 at hnx hok2
                simp only [Bool.true_eq_false, if_false, if_true, Bool.true_and, Bool.not_eq_true'] at hnx hok2
                obtain rfl : q = false := hok2
                have HN : Aside0 ((tk.take (k + 1)).foldl scan1 (tl, false, true) = (g, false, true)) := ⟨hnx⟩
                clear hnx HNX
                try clear hok2
                go_wp2_with fail
                go_quiet (fail)
                have HD1 := Aside0.mk (HBX.out.drewN nq)
                have hown1 := owns_below HOB.out (pw_below_drewN (Below.refl _ _) nq)
                obtain ⟨v2, hrun, hown, _⟩ := run_tails (P := Tryz.prog) _ T1 30 9 i0 1 Tryz.underlying30 HI0.out HZ1.out _ g.length _ hown1
                obtain ⟨A2, c2, rfl, _, _⟩ := hown.shape
                have HO : Aside0 (OwnsAt _ T1 9 1 (.slice A2 g.length c2) g.length (strs g)) := ⟨hown⟩
                clear hown hown1
                go_wp2_with fail
                exact ⟨⟨k + 1, g, false, A2, c2, by omega, by omega, by go_num, rfl, rfl, HO, HN, HD1⟩, by simp [intOf]; omega⟩
              · have hne : (y.toList == xd.toList) = false := by
                  rw [beq_eq_false_iff_ne]
                  intro h
                  exact he (inj (by rw [← toList_L, ← toList_L, h]))
                have hnx := HNX.out
                unfold scan1 at hnx
                simp only [Bool.true_eq_false, if_false, he] at hnx
                have HN : Aside0 ((tk.take (k + 1)).foldl scan1 (tl, false, true) = (y :: g, true, true)) := ⟨hnx⟩
                clear hnx HNX
                try clear hok2
                go_wp2_with fail
                go_quiet (fail)
                have HD1 := Aside0.mk (HBX.out.drewN nq)
                have HO1 := Aside0.mk (owns_below HOB.out (pw_below_drewN (Below.refl _ _) nq))
                go_wp2_with fail
                exact ⟨⟨k + 1, y :: g, true, _, ca, by omega, by simp; omega, by go_num, rfl, rfl, HO1, HN, HD1⟩, by simp [intOf]; omega⟩
        · obtain rfl : k = tk.length := by omega
          have HF := Aside0.mk (HPK.out HO2.out)
          clear HO2 HTA HST
          go_wp2_with fail
          exact ⟨⟨by first | exact Or.inr (Or.inl (by go_num)) | exact Or.inr (Or.inr (by go_num)), HF⟩, by simp [intOf]⟩
    · go_wp2
      go_ret
      exact ⟨rfl, HW.out.keeps.below (Nat.le_refl _) (fun k hk => hk.elim)⟩
end Go.Proofs.YtljnfbpplhnmfaaGreatDoor.Pa
namespace Go.Proofs.YtljnfbpplhnmfaaGreatDoor.Wk
open Go.RowKit
set_option linter.unusedVariables false
theorem TopOrder (a0 a1 : Int) (a2 : Option Addr) (len2 cap2 : Nat) (l : List Go.Proofs.YtljnfbpplhnmfaaGreatDoor.Md.Ac) (w : World) (hL : Go.Proofs.YtljnfbpplhnmfaaGreatDoorX.LaidT w) (h0 : (Lit.int .i64 a0).wf = true) (h1 : (Lit.int .i64 a1).wf = true) (h2 : Go.Proofs.YtljnfbpplhnmfaaGreatDoor.Ta.Acts w a2 len2 cap2 l) :
    Calls Tryz.prog 3 #[.int .i64 a0, .int .i64 a1, .slice a2 len2 cap2] w fun e w' => e = .returned (.bool true) ∧ Below w.heap.size w w' :=
  Go.Proofs.YtljnfbpplhnmfaaGreatDoor.Pa.topOrderW a0 a1 a2 len2 cap2 l w hL.1 hL.2 h2
end Go.Proofs.YtljnfbpplhnmfaaGreatDoor.Wk
namespace Go.Proofs.YtljnfbpplhnmfaaGreatDoorW.PrintWords
end Go.Proofs.YtljnfbpplhnmfaaGreatDoorW.PrintWords
