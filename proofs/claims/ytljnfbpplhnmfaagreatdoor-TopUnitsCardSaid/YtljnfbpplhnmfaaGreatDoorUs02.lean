/- A link's two ends in plain words: what each function of packages queue, flow, entity, and of the laws over both ends, comes to. Definitions alone; no program in sight, no condition. Texts as lists of octets: lengths, places, cuts, joins. Plain Lean, no condition. A region that draws its order, whose first operations only read and are all waited for by each of the others (a, b = x, y): the first ones in the text's order, then what may come up of the others. No condition. Package queue by its own text, over what lies in memory. Conditions: sizes. Package seq by its own text: numbers modulo 128. No condition. -/
import Derived.Laws.BytesArg
import Derived.WideShapes
import Derived.Lib.Strings
import Derived.Lib.IndexBytes
import Derived.StillTailTactics
import Derived.RegionTactic
import Derived.Test.YtljnfbpplhnmfaaGreatDoorProg
import Derived.WalkKit
import Derived.BigCall
import Derived.BigRegion
import Derived.BigQuiet
import Derived.Handy
import Derived.Laws.Rows
import Derived.Deep.QuietTactic
import Derived.Deep.RegionLaw
import Derived.Lib.MinMax
import Derived.Test.YtljnfbpplhnmfaaGreatDoorUs01
namespace Go.Proofs.YtljnfbpplhnmfaaGreatDoor.Md
abbrev nil8 : ByteArray := ⟨#[]⟩
structure Q where
  most : Int
  list : List ByteArray
  sent : Nat
structure QOk (q : Q) : Prop where
  most : 1 ≤ q.most ∧ q.most ≤ 256
  len : q.list.length ≤ 256
  sent : q.sent ≤ q.list.length
  sizes : ∀ s ∈ q.list, s.size ≤ 260
structure F where
  vs : Int
  va : Int
  vr : Int
  peer : Bool
  own : Bool
  ref : Bool
  k : Int
  q : Q
structure FOk (f : F) : Prop where
  vs : 0 ≤ f.vs ∧ f.vs < 128
  va : 0 ≤ f.va ∧ f.va < 128
  vr : 0 ≤ f.vr ∧ f.vr < 128
  win : (f.vs - f.va) % 128 = f.q.sent
def room (va vs k : Int) : Int := max 0 (max 1 (min k 127) - (vs - va) % 128)
def come (f : F) (ns : Int) : Int := if f.own = true then 3 else if ns % 128 = f.vr then 0 else if f.ref = true then 2 else 1
def comeF (f : F) (ns : Int) : F := if f.own = true then f else if ns % 128 = f.vr then { f with vr := (ns + 1) % 128, ref := false } else { f with ref := true }
def canPush (f : F) : Prop := (f.q.list.length : Int) < f.q.most
instance (f : F) : Decidable (canPush f) := by unfold canPush; infer_instance
def pushF (f : F) (s : ByteArray) : F := { f with q := { f.q with list := f.q.list ++ [s] } }
def takeOk (f : F) : Prop := f.peer = false ∧ f.q.sent < f.q.list.length ∧ room f.va f.vs f.k ≠ 0
instance (f : F) : Decidable (takeOk f) := by unfold takeOk; infer_instance
def takeS (f : F) : ByteArray := f.q.list.getD f.q.sent nil8
def takeF (f : F) : F := { f with vs := (f.vs + 1) % 128, q := { f.q with sent := f.q.sent + 1 } }
def ackOk (f : F) (nr : Int) : Prop := (nr - f.va) % 128 ≤ (f.vs - f.va) % 128
instance (f : F) (nr : Int) : Decidable (ackOk f nr) := by unfold ackOk; infer_instance
def ackN (f : F) (nr : Int) : Nat := ((nr - f.va) % 128).toNat
def ackF (f : F) (nr : Int) : F := { f with va := nr % 128, q := { f.q with list := f.q.list.drop (ackN f nr), sent := f.q.sent - ackN f nr } }
def backF (f : F) : F := { f with vs := f.va, q := { f.q with sent := 0 } }
def resetF (f : F) : F := ⟨0, 0, 0, false, false, false, f.k, { f.q with sent := 0 }⟩
def clearF (f : F) : F := { f with vs := f.va, q := { f.q with list := [], sent := 0 } }
structure Fr where
  tei : Int
  cmd : Bool
  kind : Int
  pf : Bool
  ns : Int
  nr : Int
  info : ByteArray
def Fr.zero : Fr := ⟨0, false, 0, false, 0, 0, nil8⟩
structure Ef where
  kind : Int
  fr : Fr
  data : ByteArray
  timer : Int
structure E where
  most : Int
  state : Int
  tries : Int
  asked : Bool
  r200 : Bool
  r203 : Bool
  fl : F
  out : List Ef
structure EOk (e : E) : Prop where
  most : 1 ≤ e.most ∧ e.most ≤ 32
  state : 4 ≤ e.state ∧ e.state ≤ 8
  tries : 0 ≤ e.tries ∧ e.tries ≤ e.most
def tell (e : E) (x : Ef) : E := { e with out := e.out ++ [x] }
def told (e : E) (k : Int) (d : ByteArray) : E := tell e ⟨k, Fr.zero, d, 0⟩
def numbered (k : Int) : Bool := decide (0 ≤ k ∧ k ≤ 3)
def mkFr (e : E) (k : Int) (c p : Bool) (ns : Int) (s : ByteArray) : Fr := ⟨70, c, k, p, ns, if numbered k = true then e.fl.vr else 0, s⟩
def sendData (e : E) (k : Int) (c p : Bool) (ns : Int) (s : ByteArray) : E := tell e ⟨0, mkFr e k c p ns s, nil8, 0⟩
def send (e : E) (k : Int) (c p : Bool) : E := sendData e k c p 0 nil8
def start200 (e : E) : E := tell { e with r200 := true } ⟨9, Fr.zero, nil8, 200⟩
def start203 (e : E) : E := tell { e with r203 := true } ⟨9, Fr.zero, nil8, 203⟩
def stop200 (e : E) : E := if e.r200 = true then tell { e with r200 := false } ⟨10, Fr.zero, nil8, 200⟩ else e
def stop203 (e : E) : E := if e.r203 = true then tell { e with r203 := false } ⟨10, Fr.zero, nil8, 203⟩ else e
def call (e : E) : E := { start200 (stop203 (send { e with tries := 0 } 4 true true)) with state := 5 }
def anew (e : E) (l : ByteArray) : E := call { told e 7 l with asked := false }
def goOne1 (e : E) : E := sendData { e with fl := takeF e.fl } 0 true false e.fl.vs (takeS e.fl)
def goOne (e : E) : E := if (goOne1 e).r200 = true then goOne1 e else start200 (stop203 (goOne1 e))
def goOnN : Nat → E → E
  | 0, e => e
  | n + 1, e => if takeOk e.fl then goOnN n (goOne e) else e
def goOn (e : E) : E := if e.state = 7 then goOnN (e.fl.q.list.length - e.fl.q.sent) e else e
def open_ (e : E) : E := goOn { start203 (stop200 { e with fl := resetF e.fl }) with state := 7 }
def supervise (e : E) (c p : Bool) : E := send e (if e.fl.own = true then 2 else 1) c p
def inquire (e : E) : E := start200 (supervise e true true)
def end_ (e : E) : E := { stop203 (stop200 { e with fl := clearF e.fl }) with state := 4 }
def up (e : E) : Bool := decide (e.state = 7 ∨ e.state = 8)
def establish (e : E) : Int × E :=
  if e.state = 6 then (12, e)
  else if e.state = 5 then (0, { e with fl := clearF e.fl, asked := true })
  else if e.state = 4 then (0, call { e with asked := true })
  else (0, call { e with fl := clearF e.fl, asked := true })
def release (e : E) : Int × E :=
  if e.state = 4 then (0, told e 4 nil8)
  else if up e = true then (0, { start200 (stop203 (send { e with fl := clearF e.fl, tries := 0 } 7 true true)) with state := 6 })
  else (12, e)
def data (e : E) (s : ByteArray) : Int × E :=
  if up e = false ∧ (e.state ≠ 5 ∨ e.asked = true) then (12, e)
  else if canPush e.fl then (0, goOn { e with fl := pushF e.fl s })
  else (10, e)
def unit (e : E) (s : ByteArray) : Int × E := (0, sendData e 6 true false 0 s)
def own (e : E) (b : Bool) : Int × E :=
  if up e = false then (12, e)
  else if e.fl.own = b then (0, e)
  else (0, supervise { e with fl := { e.fl with own := b } } false false)
def ask1 (e : E) (a : Int) (s : ByteArray) : Int × E :=
  if a = 0 then establish e else if a = 1 then release e else if a = 2 then data e s else if a = 3 then unit e s else own e (decide (a = 4))
def emptied (e : E) : E := { e with out := [] }
def strange (e : E) (f : Fr) : E := if f.pf = true then told e 7 ⟨#[67]⟩ else told e 7 ⟨#[68]⟩
def inAssigned (e : E) (f : Fr) : E :=
  if f.kind = 4 then open_ (told (send e 8 false f.pf) 1 nil8)
  else if f.kind = 7 then send e 5 false f.pf
  else if f.kind = 8 then strange e f
  else if f.kind = 5 ∧ f.pf = false then call { e with asked := true }
  else e
def unsure (e : E) : E := if e.fl.q.sent ≠ 0 then told { e with fl := clearF e.fl } 1 nil8 else e
def inConnecting (e : E) (f : Fr) : E :=
  if f.kind = 4 then send e 8 false f.pf
  else if f.kind = 7 then send e 5 false f.pf
  else if f.kind = 8 then
    if f.pf = false then told e 7 ⟨#[68]⟩
    else open_ { (if e.asked = true then told e 2 nil8 else unsure e) with asked := false }
  else if f.kind = 5 ∧ f.pf = true then end_ (told e 3 nil8)
  else e
def inReleasing (e : E) (f : Fr) : E :=
  if f.kind = 4 then send e 5 false f.pf
  else if f.kind = 7 then send e 8 false f.pf
  else if f.kind = 8 ∧ f.pf = false then told e 7 ⟨#[68]⟩
  else if f.pf = true ∧ (f.kind = 8 ∨ f.kind = 5) then end_ (told e 4 nil8)
  else e
def count (e : E) (n : Nat) : E :=
  if e.fl.va = e.fl.vs then start203 (stop200 e)
  else if 0 < n then start200 e
  else e
def final (f : Fr) : Bool := !f.cmd && f.pf
def supervised1 (e : E) (f : Fr) : E :=
  if f.cmd = true ∧ f.pf = true then supervise e false true
  else if final f = true ∧ e.state = 7 then told e 7 ⟨#[65]⟩
  else e
def supervised2 (e : E) (f : Fr) : E :=
  if f.kind ≠ 2 then start203 (stop200 e)
  else start200 (if e.state = 7 then stop203 e else e)
def supervised3 (e : E) (f : Fr) : E :=
  if ackOk e.fl f.nr then
    if e.state = 8 ∧ final f = false then { e with fl := ackF e.fl f.nr }
    else if e.state = 7 ∧ f.kind = 1 then goOn (count { e with fl := ackF e.fl f.nr } (ackN e.fl f.nr))
    else if e.state = 8 ∨ f.kind = 3 then goOn { supervised2 { e with fl := ackF e.fl f.nr } f with fl := backF (ackF e.fl f.nr), state := 7 }
    else goOn { supervised2 { e with fl := ackF e.fl f.nr } f with state := 7 }
  else anew e ⟨#[74]⟩
def supervised (e : E) (f : Fr) : E := supervised3 { supervised1 e f with fl := { e.fl with peer := decide (f.kind = 2) } } f
def info1 (e : E) (f : Fr) : E :=
  if come e.fl f.ns = 0 then supervise (told { e with fl := comeF e.fl f.ns } 5 f.info) false f.pf
  else if come e.fl f.ns = 1 then send { e with fl := comeF e.fl f.ns } 3 false f.pf
  else if f.pf = true then supervise { e with fl := comeF e.fl f.ns } false true
  else { e with fl := comeF e.fl f.ns }
def info2 (e : E) (f : Fr) : E :=
  if ackOk e.fl f.nr then
    if e.state = 7 then
      if e.fl.peer = true then goOn { e with fl := ackF e.fl f.nr }
      else goOn (count { e with fl := ackF e.fl f.nr } (ackN e.fl f.nr))
    else { e with fl := ackF e.fl f.nr }
  else anew e ⟨#[74]⟩
def info (e : E) (f : Fr) : E := info2 (info1 e f) f
def inOpen (e : E) (f : Fr) : E :=
  if f.kind = 4 then open_ (unsure (told (send e 8 false f.pf) 7 ⟨#[70]⟩))
  else if f.kind = 7 then end_ (told (send e 8 false f.pf) 3 nil8)
  else if f.kind = 8 then strange e f
  else if f.kind = 5 then (if f.pf = true then anew e ⟨#[66]⟩ else anew e ⟨#[69]⟩)
  else if f.kind = 9 then anew e ⟨#[75]⟩
  else if f.kind = 0 then info e f
  else supervised e f
def frame1 (e : E) (f : Fr) : E :=
  if f.kind = 6 then told e 6 f.info
  else if e.state = 4 then inAssigned e f
  else if e.state = 5 then inConnecting e f
  else if e.state = 6 then inReleasing e f
  else inOpen e f
def again (e : E) (k : Int) (l : ByteArray) (g : Int) : E :=
  if e.tries = e.most then end_ (told (told e 7 l) g nil8)
  else start200 (send { e with tries := e.tries + 1 } k true true)
def timeout1 (e : E) : E :=
  if e.state = 5 then again e 4 ⟨#[71]⟩ 3
  else if e.state = 6 then again e 7 ⟨#[72]⟩ 4
  else if e.state = 7 then { inquire { e with tries := 0 } with state := 8 }
  else if e.state = 8 then
    if e.tries = e.most then anew e ⟨#[73]⟩
    else inquire { e with tries := e.tries + 1 }
  else e
def over200 (e : E) : E := timeout1 { e with r200 := false }
def over203 (e : E) : E := timeout1 { e with r203 := false }
structure FrOk (f : Fr) : Prop where
  kind : f.kind = 0 ∧ f.cmd = true ∨ f.kind = 1 ∨ f.kind = 2 ∨ f.kind = 3 ∨ f.kind = 4 ∧ f.cmd = true ∨ f.kind = 5 ∧ f.cmd = false ∨ f.kind = 6 ∧ f.cmd = true ∨ f.kind = 7 ∧ f.cmd = true ∨ f.kind = 8 ∧ f.cmd = false
  info : f.kind = 0 ∨ f.kind = 6 ∨ f.info = nil8
  size : f.info.size ≤ 260
end Go.Proofs.YtljnfbpplhnmfaaGreatDoor.Md
namespace Go.Proofs.YtljnfbpplhnmfaaGreatDoor.Str
open Go.RowKit Go.Proofs.YtljnfbpplhnmfaaGreatDoorW.PrintWords Go.Proofs.YtljnfbpplhnmfaaGreatDoorW.PrintLast Go.Proofs.YtljnfbpplhnmfaaGreatDoorW.PrintMore
abbrev L (s : ByteArray) : List UInt8 := s.data.toList
theorem size_L (s : ByteArray) : s.size = (L s).length := (data_length s).symm
theorem inj {a b : ByteArray} (h : L a = L b) : a = b := Go.WideShapes.bytes_inj h
theorem L_mk (l : List UInt8) : L ⟨l.toArray⟩ = l := rfl
theorem L_app (a b : ByteArray) : L (a ++ b) = L a ++ L b := by simp [L]
theorem toList_L (s : ByteArray) : s.toList = L s := Lib.toList_data s
theorem L_take (s : ByteArray) (k : Nat) : L (s.extract 0 k) = (L s).take k := by simp [L]
theorem L_cut (s : ByteArray) (j k : Nat) : L (s.extract j k) = ((L s).take k).drop j := by simp [L, List.drop_take]
theorem L_nums (xs : List Int) : L (strOfNums xs) = xs.map fun n => UInt8.ofNat n.toNat := rfl
theorem nums_size (xs : List Int) : (strOfNums xs).size = xs.length := strOfNums_size xs
theorem nums_of (l : List UInt8) : strOfNums (l.map fun b => (b.toNat : Int)) = ⟨l.toArray⟩ := by
  apply inj
  rw [L_nums, List.map_map, L_mk]
  conv => rhs; rw [← List.map_id l]
  apply List.map_congr_left
  intro b _
  simp
end Go.Proofs.YtljnfbpplhnmfaaGreatDoor.Str
namespace Go.Proofs.YtljnfbpplhnmfaaGreatDoor.Stl
end Go.Proofs.YtljnfbpplhnmfaaGreatDoor.Stl
namespace Go.Proofs.YtljnfbpplhnmfaaGreatDoor.Qu
open Go Go.RowKit Go.Proofs.YtljnfbpplhnmfaaGreatDoorW.PrintWords Go.Proofs.YtljnfbpplhnmfaaGreatDoorW.PrintLast Go.Proofs.YtljnfbpplhnmfaaGreatDoorW.PrintMore Go.Proofs.YtljnfbpplhnmfaaGreatDoor.Str Go.Proofs.YtljnfbpplhnmfaaGreatDoor.Mp Go.Proofs.YtljnfbpplhnmfaaGreatDoor.Ra Go.Proofs.YtljnfbpplhnmfaaGreatDoor.Sl Go.Proofs.YtljnfbpplhnmfaaGreatDoor.Md
set_option linter.unusedVariables false
theorem infoStr : (Tryz.prog.info? 9).map (fun i => (i.zero, i.size, i.bytes)) = some (some (.string ByteArray.empty), 1, 16) := by kernel_rfl
def strs (l : List ByteArray) : List Value := l.map .string
theorem strs_app (l m : List ByteArray) : strs (l ++ m) = strs l ++ strs m := by simp [strs]
def srow (v : Value) (l : List ByteArray) : SP := row 9 1 v l.length (strs l)
theorem row_grown {e : TypeId} {size n n' : Nat} {v v' : Value} {xs xs' : List Value} {T T2 : Nat → Prop} {w w' : World} (h : (row e size v n xs).h T w) (ho : OwnsAt w' T2 e size v' n' xs') (hg : w.grownBy w' v.ownBlock) (hl : v'.ownBlock = v.ownBlock ∨ v'.ownBlock = some w.heap.size) : Went (row e size v' n' xs') T w w' := by
  refine ⟨fun k => v'.ownBlock = some k, ⟨fun k => Iff.rfl, ?_⟩, (Kb.refl T w).grown hg (fun k hk _ => (h.1 k).2 hk), fun k hk => ?_⟩
  · exact ho.mono (fun k hk _ => hk)
  · rcases hl with e | e
    · exact Or.inl ((h.1 k).2 (e ▸ hk))
    · rw [e] at hk; injection hk with hk; omega
theorem row_none {e : TypeId} {size n : Nat} {v : Value} {xs : List Value} {T : Nat → Prop} {w : World} (h : (row e size v n xs).h T w) : Went (row e size (.slice none 0 0) 0 []) T w w :=
  ⟨fun _ => False, ⟨fun k => by simp [Value.ownBlock], ownsAt_nil w _ e size⟩, Kb.refl T w, fun _ h => h.elim⟩
def qparts (b : Nat) (q : Q) (v : Value) : List SP := [fact (QOk q), blk b (.cells #[.int .i64 q.most, v, .int .i64 q.sent] 185 (0, 0)), srow v q.list]
def quAt (b : Nat) (q : Q) : SP := ex fun v => all (qparts b q v)
theorem quAt.opened {b : Nat} {q : Q} {T : Nat → Prop} {w : World} (h : (quAt b q).h T w) : ∃ A c, Went (all (qparts b q (.slice A q.list.length c))) T w w ∧ QOk q ∧ q.list.length ≤ c ∧ c ≤ maxLen ∧
    w.heap[b]? = some (.cells #[.int .i64 q.most, .slice A q.list.length c, .int .i64 q.sent] 185 (0, 0)) := by
  obtain ⟨v, h⟩ := h
  have hw := Went.refl h
  obtain ⟨_, _, hok⟩ := hw.get 0 rfl
  have hb := hw.heap 1 rfl
  obtain ⟨_, _, hr⟩ := hw.get 2 rfl
  obtain ⟨A, c, rfl, h1, h2⟩ := hr.shape
  exact ⟨A, c, hw, hok, h1, h2, hb⟩
theorem quAt.close {p : Prop} {b : Nat} {q : Q} {v : Value} {n : Nat} {xs : List Value} {T : Nat → Prop} {w w1 : World}
    (h : Went (all [fact p, blk b (.cells #[.int .i64 q.most, v, .int .i64 q.sent] 185 (0, 0)), row 9 1 v n xs]) T w w1) (hok : QOk q) (hn : n = q.list.length) (hx : xs = strs q.list) : Went (quAt b q) T w w1 := by
  subst hn hx
  exact (h.at_ 0 rfl (B := fact (QOk q)) fun T1 h1 => Went.refl ⟨h1.1, hok⟩).imp (fun T1 h1 => ⟨v, h1⟩)
theorem cells3 {w : World} {g : Nat} {a0 a1 a2 : Value} {t : TypeId} (h : w.heap[g]? = some (.cells #[a0, a1, a2] t (0, 0))) : w.cell? ⟨g, 0, none⟩ = some a0 ∧ w.cell? ⟨g, 1, none⟩ = some a1 ∧ w.cell? ⟨g, 2, none⟩ = some a2 ∧ w.frozen? ⟨g, 0, none⟩ = false ∧ w.frozen? ⟨g, 1, none⟩ = false ∧ w.frozen? ⟨g, 2, none⟩ = false := by
  refine ⟨?_, ?_, ?_, Lib.frozen_of_heap h 0, Lib.frozen_of_heap h 1, Lib.frozen_of_heap h 2⟩ <;> rw [Lib.cell_of_heap h] <;> rfl
theorem srow_cell {A : Option Addr} {n c : Nat} {l : List ByteArray} {T : Nat → Prop} {w : World} (h : (srow (.slice A l.length c) l).h T w) (j : Nat) (hj : j < l.length) : ∃ g o, A = some ⟨g, o, none⟩ ∧ w.cell? ⟨g, o + j, none⟩ = some (.string (l.getD j ⟨#[]⟩)) ∧ w.frozen? ⟨g, o + j, none⟩ = false := by
  have hget : (strs l)[j]? = some (.string (l.getD j ⟨#[]⟩)) := by
    unfold strs
    rw [List.getElem?_map, List.getElem?_eq_getElem hj, List.getD_eq_getElem?_getD, List.getElem?_eq_getElem hj]; rfl
  obtain ⟨g, o, e, h1, h2⟩ := h.2.cell j _ hget
  rw [Nat.mul_one] at e h1 h2
  exact ⟨g, o, e, h1, h2⟩
set_option maxRecDepth 100000 in
theorem sentC (b : Nat) (q : Q) (T : Nat → Prop) (w : World) (h : (quAt b q).h T w) :
    Calls Tryz.prog 55 #[.pointer (some ⟨b, 0, none⟩)] w fun e w' => e = .returned (.int .i64 (q.sent : Int)) ∧ w = w' := by
  obtain ⟨A, c, HW, hok, hc, hm, hb⟩ := quAt.opened h
  obtain ⟨c0, c1, c2, f0, f1, f2⟩ := cells3 hb
  clear h HW hok hb
  go_enter Tryz.func55, Tryz.ntmps55
  go_wp2
  go_ret
  trivial
set_option maxRecDepth 100000 in
theorem leftD (b : Nat) (q : Q) (T : Nat → Prop) (w : World) (h : (quAt b q).h T w) :
    Calls Tryz.prog 56 #[.pointer (some ⟨b, 0, none⟩)] w fun e w' => e = .returned (.int .i64 ((q.list.length : Int) - q.sent)) ∧ ∃ m, w' = w.drewN m := by
  obtain ⟨A, c, HW, hok, hc, hm, hb⟩ := quAt.opened h
  obtain ⟨c0, c1, c2, f0, f1, f2⟩ := cells3 hb
  have h1 := hok.len
  have h2 := hok.sent
  clear h HW hok hb
  go_enter Tryz.func56, Tryz.ntmps56
  go_wp2_with fail
  go_quiet (fail)
  go_wp2
  go_ret
  exact ⟨rfl, nq, rfl⟩
theorem leftC (b : Nat) (q : Q) (T : Nat → Prop) (w : World) (h : (quAt b q).h T w) :
    Calls Tryz.prog 56 #[.pointer (some ⟨b, 0, none⟩)] w fun e w' => e = .returned (.int .i64 ((q.list.length : Int) - q.sent)) ∧ Below w.heap.size w w' :=
  (leftD b q T w h).mono fun e w' ⟨he, m, hm⟩ => ⟨he, by rw [hm]; exact pw_below_drewN (Below.refl _ _) _⟩
set_option maxRecDepth 100000 in
theorem pushC (b : Nat) (q : Q) (s : ByteArray) (hs : s.size ≤ 260) (T : Nat → Prop) (w : World) (h : (quAt b q).h T w) :
    Calls Tryz.prog 153 #[.pointer (some ⟨b, 0, none⟩), .string s] w fun e w' => e = .returned (.int .i64 (if (q.list.length : Int) < q.most then 0 else 10)) ∧ Went (quAt b (if (q.list.length : Int) < q.most then { q with list := q.list ++ [s] } else q)) T w w' := by
  obtain ⟨A, c, HW, hok, hc, hm, hb⟩ := quAt.opened h
  obtain ⟨c0, c1, c2, f0, f1, f2⟩ := cells3 hb
  have h1 := hok.len
  have h2 := hok.most
  have HOK := Aside0.mk hok
  have HH := Aside0.mk h
  clear h hok hb
  go_enter Tryz.func153, Tryz.ntmps153
  go_wp2_with fail
  go_quiet (fail)
  have hbx : Below w.heap.size w (w.drewN nq) := pw_below_drewN (Below.refl _ _) _
  have HW1 := Aside0.mk (HW.below hbx)
  have HX := Aside0.mk hbx
  clear HW hbx c0 c1 c2 f0 f1 f2
  generalize w.drewN nq = wx at HW1 HX ⊢
  by_cases hlt : (q.list.length : Int) < q.most
  · have hlt2 : ¬ q.most ≤ (q.list.length : Int) := by omega
    obtain ⟨c0, c1, c2, f0, f1, f2⟩ := cells3 (HW1.out.heap 1 rfl)
    have HW2 := Aside0.mk (HW1.out.alloc (.cells #[.string s] 9))
    obtain ⟨T3, hr⟩ := HW2.out.get 2 rfl
    have hnew := heap_alloc_new wx (.cells #[.string s] 9)
    obtain ⟨i0, hi0, hz0, hz1, hz2⟩ := info_parts infoStr
    have hin : ∀ j u, [Value.string s][j]? = some u → (wx.alloc (.cells #[.string s] 9)).cell? ((⟨wx.heap.size, 0, none⟩ : Addr).add j) = some u := by
      intro j u hu
      match j with
      | 0 => simp at hu; subst hu; rw [add_plain, Lib.cell_of_heap hnew]; rfl
      | j + 1 => simp at hu
    clear hnew
    go_wp2_with (at_builtin; refine wpList_append_at _ rfl _ _ 30 rfl T3 9 i0 (.string ByteArray.empty) 1 16 Tryz.underlying30 hi0 hz0 hz1 hz2 rfl (by decide) _ _ _ rfl hr.2 ⟨wx.heap.size, 0, none⟩ 1 1 [.string s] rfl rfl hin (by intro u hu; simp at hu; subst hu; rfl) (by decide) (by unfold maxLen; omega) (by omega) ?_; intro v' w2 hown2 hg2 hloc; obtain ⟨A2, k2, rfl, _, _⟩ := hown2.shape; have hw3 := Aside0.mk (HW2.out.at_ 2 rfl (fun T1 h1 => row_grown (n := q.list.length) (v := .slice A q.list.length c) h1 hown2 hg2 hloc)); clear hown2 hg2 hloc HW2 HW1 hr hin hi0 hz0 hz1 hz2; obtain ⟨d0, d1, d2, g0, g1, g2⟩ := cells3 (hw3.out.heap 1 rfl))
    go_ret
    exact ⟨rfl, quAt.close (q := { q with list := q.list ++ [s] }) (hw3.out.set 1 rfl 1 _) ⟨h2, by simp; omega, by simp; have := HOK.out.sent; omega, fun x hx => by
      rcases List.mem_append.1 hx with hx | hx
      · exact HOK.out.sizes x hx
      · rw [List.mem_singleton.1 hx]; exact hs⟩ (by simp) (by simp [strs])⟩
  · have hlt2 : q.most ≤ (q.list.length : Int) := by omega
    go_wp2
    go_ret
    exact ⟨rfl, (Went.refl HH.out).below HX.out⟩
set_option maxRecDepth 100000 in
theorem takeC (b : Nat) (q : Q) (T : Nat → Prop) (w : World) (h : (quAt b q).h T w) :
    Calls Tryz.prog 171 #[.pointer (some ⟨b, 0, none⟩)] w fun e w' => e = .returned (.tuple #[.string (if q.sent < q.list.length then q.list.getD q.sent ⟨#[]⟩ else ⟨#[]⟩), .bool (decide (q.sent < q.list.length))]) ∧ Went (quAt b (if q.sent < q.list.length then { q with sent := q.sent + 1 } else q)) T w w' := by
  have hl := leftC b q T w h
  obtain ⟨A, c, HW, hok, hc, hm, hb⟩ := quAt.opened h
  have HOK := Aside0.mk hok
  have h1 := hok.len
  have HH := Aside0.mk h
  have HL := Aside0.mk hl
  have HW := Aside0.mk HW
  clear h hok hb hl
  by_cases hlt : q.sent < q.list.length
  · rw [if_pos hlt, if_pos hlt, decide_eq_true hlt]
    obtain ⟨x, hx⟩ : ∃ x, q.list.getD q.sent ⟨#[]⟩ = x := ⟨_, rfl⟩
    rw [hx]
    go_enter Tryz.func171, Tryz.ntmps171
    go_wp2_with fail
    refine HL.out.mono ?_
    rintro e w1 ⟨rfl, hb1⟩
    have HW1 := Aside0.mk (HW.out.below hb1)
    clear hb1 HW
    have hne : ((q.list.length : Int) - (q.sent : Int) == 0) = false := by rw [beq_eq_false_iff_ne]; omega
    obtain ⟨c0, c1, c2, f0, f1, f2⟩ := cells3 (HW1.out.heap 1 rfl)
    have HW2 := Aside0.mk (HW1.out.set 1 rfl 2 (.int .i64 ((q.sent : Int) + 1)))
    have hsv : (w1.setCell ⟨b, 2, none⟩ (.int .i64 ((q.sent : Int) + 1))).cell? ⟨b, 2, none⟩ = some (.int .i64 ((q.sent : Int) + 1)) := by rw [Lib.cell_of_heap (HW2.out.heap 1 rfl)]; rfl
    have hls : (w1.setCell ⟨b, 2, none⟩ (.int .i64 ((q.sent : Int) + 1))).cell? ⟨b, 1, none⟩ = some (.slice A q.list.length c) := by rw [Lib.cell_of_heap (HW2.out.heap 1 rfl)]; rfl
    obtain ⟨T3, hr⟩ := HW2.out.get 2 rfl
    obtain ⟨g, o, rfl, hcell, _⟩ := srow_cell (n := 0) hr q.sent hlt
    clear hr
    have hw1 : wrap64 ((q.sent : Int) + 1 - 1) = q.sent := by unfold wrap64; omega
    have hs0 : (q.sent : Int) < q.list.length := by omega
    rw [hx] at hcell
    go_wp2_with fail
    generalize w1.setCell ⟨b, 2, none⟩ (.int .i64 ((q.sent : Int) + 1)) = w2 at HW2 hsv hls hcell ⊢
    go_quiet (fail)
    have HW3 := Aside0.mk (HW2.out.drewN nq)
    go_wp2
    go_ret2
    exact ⟨rfl, quAt.close (q := { q with sent := q.sent + 1 }) HW3.out ⟨HOK.out.most, HOK.out.len, hlt, HOK.out.sizes⟩ rfl rfl⟩
  · rw [if_neg hlt, if_neg hlt, decide_eq_false hlt]
    go_enter Tryz.func171, Tryz.ntmps171
    go_wp2_with fail
    refine HL.out.mono ?_
    rintro e w1 ⟨rfl, hb1⟩
    have HX := Aside0.mk hb1
    clear hb1
    have hne : ((q.list.length : Int) - (q.sent : Int) == 0) = true := by rw [beq_iff_eq]; have := HOK.out.sent; omega
    go_wp2
    go_ret2
    exact ⟨rfl, (Went.refl HH.out).below HX.out⟩
theorem run_cut {P : Program} {w : World} {e : TypeId} {size n : Nat} {v : Value} {xs : List Value} (T : Nat → Prop) (t : TypeId) (i : TypeInfo) (ht : P.underlying t = some (.slice e)) (hi : P.info? e = some i) (hsize : i.size = size) (k : Nat) (hk : k ≤ n)
    (hown : OwnsAt w T e size v n xs) :
    ∃ v', (∀ w0 : World, (Instr.slice t v (some (.int .i64 k)) (some (.int .i64 n)) (some (.int .i64 n))).run P w0 = .ok v' w0) ∧ OwnsAt w T e size v' (n - k) (xs.drop (k * size)) ∧ v'.ownBlock = v.ownBlock := by
  subst hsize
  rcases hown.2 with ⟨rfl, rfl⟩ | ⟨g, o, cap, cur, rfl, hbg, hg, hnc, hcm, hcs, htake⟩
  · obtain rfl : k = 0 := by omega
    refine ⟨.slice none 0 0, ?_, ?_, rfl⟩
    · intro w0; simp [Instr.slice, Instr.sliceBounds, Instr.sliceBound, run_underlying ht, asIntOf, sizeOf, typeInfo, hi, Result.andThen]
    · simpa using hown
  · have hl : (xs.drop (k * i.size)).length = (n - k) * i.size := by rw [List.length_drop, hown.1, Nat.sub_mul]
    have h1 : (k : Int) ≤ (n : Int) := by omega
    have h2 : (n : Int) ≤ (cap : Int) := by omega
    by_cases hc : k = n
    · subst hc
      refine ⟨.slice (some ⟨g, o * i.size, none⟩) 0 0, ?_, ⟨hl, .inr ⟨g, o, 0, cur, by simp, hbg, hg, by omega, Nat.zero_le _, ?_, ?_⟩⟩, rfl⟩
      · intro w0; simp [Instr.slice, Instr.sliceBounds, Instr.sliceBound, run_underlying ht, asIntOf, sizeOf, typeInfo, hi, Result.andThen, hnc]
      · exact Nat.le_trans (Nat.mul_le_mul_right _ (by omega)) hcs
      · simp only [Nat.sub_self, Nat.zero_mul, List.take_zero]
        exact (List.eq_nil_of_length_eq_zero (by simpa using hl)).symm
    · refine ⟨.slice (some ⟨g, (o + k) * i.size, none⟩) (n - k) (n - k), ?_, ⟨hl, .inr ⟨g, o + k, n - k, cur, rfl, hbg, hg, Nat.le_refl _, by omega, ?_, ?_⟩⟩, rfl⟩
      · intro w0; simp [Instr.slice, Instr.sliceBounds, Instr.sliceBound, run_underlying ht, asIntOf, sizeOf, typeInfo, hi, Result.andThen, Addr.add_lit, Nat.add_mul, hnc, hk]
        exact fun e => absurd e.symm hc
      · exact Nat.le_trans (Nat.mul_le_mul_right _ (by omega)) hcs
      · rw [← htake, List.drop_take, List.drop_drop, Nat.add_mul, Nat.sub_mul]
set_option maxRecDepth 100000 in
theorem backC (b : Nat) (q : Q) (T : Nat → Prop) (w : World) (h : (quAt b q).h T w) :
    Calls Tryz.prog 173 #[.pointer (some ⟨b, 0, none⟩), .int .i64 0] w fun e w' => e = .returned (.bool true) ∧ Went (quAt b { q with sent := 0 }) T w w' := by
  obtain ⟨A, c, HW, hok, hc, hm, hb⟩ := quAt.opened h
  have HOK := Aside0.mk hok
  have HW := Aside0.mk HW
  obtain ⟨c0, c1, c2, f0, f1, f2⟩ := cells3 hb
  have hs : ¬ (q.sent : Int) < 0 := by omega
  clear h hok hb
  go_enter Tryz.func173, Tryz.ntmps173
  go_wp2
  go_ret
  exact ⟨rfl, quAt.close (q := { q with sent := 0 }) (HW.out.set 1 rfl 2 (.int .i64 0)) ⟨HOK.out.most, HOK.out.len, Nat.zero_le _, HOK.out.sizes⟩ rfl rfl⟩
set_option maxRecDepth 100000 in
theorem clearC (b : Nat) (q : Q) (T : Nat → Prop) (w : World) (h : (quAt b q).h T w) :
    Calls Tryz.prog 152 #[.pointer (some ⟨b, 0, none⟩)] w fun e w' => e = .returned (.int .i64 (q.list.length : Int)) ∧ Went (quAt b { q with list := [], sent := 0 }) T w w' := by
  obtain ⟨A, c, HW, hok, hc, hm, hb⟩ := quAt.opened h
  have HOK := Aside0.mk hok
  have HW := Aside0.mk HW
  obtain ⟨c0, c1, c2, f0, f1, f2⟩ := cells3 hb
  clear h hok hb
  go_enter Tryz.func152, Tryz.ntmps152
  go_wp2
  go_ret
  exact ⟨rfl, quAt.close (q := { q with list := [], sent := 0 }) (((HW.out.set 1 rfl 1 (.slice none 0 0)).set 1 rfl 2 (.int .i64 0)).at_ 2 rfl (fun T1 h1 => row_none h1)) ⟨HOK.out.most, Nat.zero_le _, Nat.le_refl _, fun s hs => by cases hs⟩ rfl rfl⟩
set_option maxRecDepth 100000 in
theorem newC (w : World) :
    Calls Tryz.prog 112 #[.int .i64 256] w fun e w' => e = .returned (.pointer (some ⟨w.heap.size, 0, none⟩)) ∧ Went (quAt w.heap.size ⟨256, [], 0⟩) (fun _ => False) w w' := by
  go_enter Tryz.func112, Tryz.ntmps112
  go_wp2
  go_ret
  have h1 := (((Went.nothing (w := w)).norow 9 1).new (.cells #[.int .i64 256, .slice none 0 0, .int .i64 0] 185)).know (p := True) trivial
  exact ⟨rfl, quAt.close (q := ⟨256, [], 0⟩) h1 ⟨by decide, by decide, by decide, fun s hs => by cases hs⟩ rfl rfl⟩
end Go.Proofs.YtljnfbpplhnmfaaGreatDoor.Qu
namespace Go.Proofs.YtljnfbpplhnmfaaGreatDoor.Sq
open Go Go.RowKit Go.Proofs.YtljnfbpplhnmfaaGreatDoorW.PrintWords Go.Proofs.YtljnfbpplhnmfaaGreatDoorW.PrintLast Go.Proofs.YtljnfbpplhnmfaaGreatDoorW.PrintMore Go.Proofs.YtljnfbpplhnmfaaGreatDoor.Md
set_option linter.unusedVariables false
theorem and127 (x : Int) : Go.bits .and .i64 x 127 = x % 128 := by
  have h : ∀ b : BitVec 64, (b &&& BitVec.ofInt 64 127).toNat = b.toNat % 128 := fun b => by
    rw [BitVec.toNat_and, show (BitVec.ofInt 64 127).toNat = 2 ^ 7 - 1 from by decide, Nat.and_two_pow_sub_one_eq_mod]
  show IntKind.i64.wrap (((BitVec.ofInt 64 x) &&& (BitVec.ofInt 64 127)).toNat : Int) = x % 128
  rw [h, BitVec.toNat_ofInt, IntKind.wrap_i64]
  omega
set_option maxRecDepth 100000 in
theorem wrapC (x : Int) (w : World) : Calls Tryz.prog 181 #[.int .i64 x] w fun e w' => e = .returned (.int .i64 (x % 128)) ∧ w = w' := by
  have h := and127 x
  go_enter Tryz.func181, Tryz.ntmps181
  go_wp2
  go_ret
  trivial
theorem normC (x : Int) (w : World) : Calls Tryz.prog 174 #[.int .i64 x] w fun e w' => e = .returned (.int .i64 (x % 128)) ∧ w = w' := by
  go_enter Tryz.func174, Tryz.ntmps174
  go_wp2_with fail
  refine (wrapC x w).mono ?_
  rintro e w1 ⟨rfl, rfl⟩
  go_wp2
  go_ret
  trivial
set_option maxRecDepth 1000000 in
theorem addC (a n : Int) (w : World) : Calls Tryz.prog 172 #[.int .i64 a, .int .i64 n] w fun e w' => e = .returned (.int .i64 ((a + n) % 128)) ∧ w = w' := by
  have h1 : wrap64 (a % 128 + n % 128) = a % 128 + n % 128 := by unfold wrap64; omega
  have h2 : (a % 128 + n % 128) % 128 = (a + n) % 128 := by omega
  have H2 := Aside0.mk h2
  clear h2
  go_enter Tryz.func172, Tryz.ntmps172
  go_wp2_with fail
  refine (normC a w).mono ?_
  rintro e w1 ⟨rfl, rfl⟩
  go_wp2_with fail
  refine (normC n w).mono ?_
  rintro e w1 ⟨rfl, rfl⟩
  go_wp2_with fail
  refine (normC (a % 128 + n % 128) w).mono ?_
  rintro e w1 ⟨rfl, rfl⟩
  rw [H2.out]
  go_wp2
  go_ret
  trivial
set_option maxRecDepth 1000000 in
theorem subC (a n : Int) (w : World) : Calls Tryz.prog 176 #[.int .i64 a, .int .i64 n] w fun e w' => e = .returned (.int .i64 ((a - n) % 128)) ∧ w = w' := by
  have h1 : wrap64 (a % 128 - n % 128) = a % 128 - n % 128 := by unfold wrap64; omega
  have h2 : (a % 128 - n % 128) % 128 = (a - n) % 128 := by omega
  have H2 := Aside0.mk h2
  clear h2
  go_enter Tryz.func176, Tryz.ntmps176
  go_wp2_with fail
  refine (normC a w).mono ?_
  rintro e w1 ⟨rfl, rfl⟩
  go_wp2_with fail
  refine (normC n w).mono ?_
  rintro e w1 ⟨rfl, rfl⟩
  go_wp2_with fail
  refine (normC (a % 128 - n % 128) w).mono ?_
  rintro e w1 ⟨rfl, rfl⟩
  rw [H2.out]
  go_wp2
  go_ret
  trivial
set_option maxRecDepth 1000000 in
theorem validC (va nr vs : Int) (w : World) : Calls Tryz.prog 175 #[.int .i64 va, .int .i64 nr, .int .i64 vs] w fun e w' => e = .returned (.bool (decide ((nr - va) % 128 ≤ (vs - va) % 128))) ∧ w = w' := by
  go_enter Tryz.func175, Tryz.ntmps175
  go_wp2_with fail
  refine (subC nr va w).mono ?_
  rintro e w1 ⟨rfl, rfl⟩
  go_wp2_with fail
  refine (subC vs va w).mono ?_
  rintro e w1 ⟨rfl, rfl⟩
  go_wp2
  go_ret
  trivial
set_option maxRecDepth 1000000 in
theorem roomC (va vs k : Int) (w : World) : Calls Tryz.prog 170 #[.int .i64 va, .int .i64 vs, .int .i64 k] w fun e w' => e = .returned (.int .i64 (room va vs k)) ∧ w = w' := by
  go_enter Tryz.func170, Tryz.ntmps170
  go_wp2_with fail
  all_goals
    refine (subC vs va w).mono ?_
    rintro e w1 ⟨rfl, rfl⟩
    go_wp2
    go_ret
    trivial
end Go.Proofs.YtljnfbpplhnmfaaGreatDoor.Sq
