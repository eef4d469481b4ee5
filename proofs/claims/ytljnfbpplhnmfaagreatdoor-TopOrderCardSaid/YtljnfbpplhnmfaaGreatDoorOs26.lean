/- hdlc's decoder by its text: bit. strings.Builder's copyCheck and WriteByte at this dump, over the kit's words on a builder of the call's own: a byte more stands in it. No condition but Go's own limit on the length. bits.Of, by its own text: a Builder that gets eight digits for each octet. The text at most 2^44 octets long. hdlc's decoder by its text: New, Feed, Idle; Stuff and Encode. -/
import Derived.Test.YtljnfbpplhnmfaaGreatDoorProg
import Derived.Shelf.Strings.BuilderK
import Derived.WalkKit
import Derived.Laws.Externs
import Derived.BigCall
import Derived.Test.YtljnfbpplhnmfaaGreatDoorOs24
import Derived.Test.YtljnfbpplhnmfaaGreatDoorOs25
namespace Go.Proofs.YtljnfbpplhnmfaaGreatDoor.Hd
open Go.RowKit Go.Proofs.YtljnfbpplhnmfaaGreatDoorW.PrintWords Go.Proofs.YtljnfbpplhnmfaaGreatDoorW.PrintLast Go.Proofs.YtljnfbpplhnmfaaGreatDoorW.PrintMore Go.Proofs.YtljnfbpplhnmfaaGreatDoor.Str Go.Proofs.YtljnfbpplhnmfaaGreatDoor.Bits Go.Proofs.YtljnfbpplhnmfaaGreatDoor.Oct Go.Proofs.YtljnfbpplhnmfaaGreatDoor.OctW
set_option linter.unusedVariables false
def Went (B d : Nat) (v : Value) (s' : St) (w w' : World) : Prop :=
  ∃ v', DecAt B w' d v' s' ∧ (∀ j, v'.ownBlock = some j → v.ownBlock = some j ∨ w.heap.size ≤ j) ∧ Kb (fun j => j = d ∨ v.ownBlock = some j) w w'
def Did (B d : Nat) (v : Value) (q : St × Option Ev) (w : World) (e : Ending) (w' : World) : Prop :=
  e = .returned (.tuple #[evV (q.2.getD (0, [])), .bool q.2.isSome]) ∧ Went B d v q.1 w w'
theorem no_row (w : World) (B : Nat) (e : TypeId) : w.ownsRow B e 1 (.slice none 0 0) 0 [] := World.ownsRow_nil _ _ _ _
theorem went_same {B d : Nat} {v : Value} {cl : List UInt8} {wi : Bool} {on : Int} {w : World} (m : Int) (m' : Nat) (hh : w.heap[d]? = some (.cells #[v, .bool wi, .int .i64 on] 199 (0, 0))) (ho : w.ownsRow B 5 1 v cl.length (cellsOf cl)) (hm : m = (m' : Int)) (o : Obj) :
    Went B d v ⟨cl, wi, m'⟩ w ((w.setCell ⟨d, 2, none⟩ (.int .i64 m)).alloc o) := by
  subst hm
  have hk : Kb (fun j => j = d) w ((w.setCell ⟨d, 2, none⟩ (.int .i64 (m' : Int))).alloc o) := ((Kb.refl (fun j => j = d) w).setCell (p := ⟨d, 2, none⟩) (fun _ => rfl) _).alloc _
  exact ⟨_, ⟨heap_al (heap_set hh _).2.2 _, hk.row ho (own_ne ho hh (by decide))⟩, fun j hj => Or.inl hj, hk.mono fun _ h => Or.inl h⟩
theorem went_abort {B d : Nat} {v : Value} {wi : Bool} {on : Int} {w : World} (m : Int) (m' : Nat) (hh : w.heap[d]? = some (.cells #[v, .bool wi, .int .i64 on] 199 (0, 0))) (hm : m = (m' : Int)) (o : Obj) :
    Went B d v ⟨[], false, m'⟩ w ((((w.setCell ⟨d, 2, none⟩ (.int .i64 m)).setCell ⟨d, 0, none⟩ (.slice none 0 0)).setCell ⟨d, 1, none⟩ (.bool false)).alloc o) := by
  subst hm
  have hk : Kb (fun j => j = d) w ((((w.setCell ⟨d, 2, none⟩ (.int .i64 (m' : Int))).setCell ⟨d, 0, none⟩ (.slice none 0 0)).setCell ⟨d, 1, none⟩ (.bool false)).alloc o) := ((((Kb.refl (fun j => j = d) w).setCell (p := ⟨d, 2, none⟩) (fun _ => rfl) _).setCell (p := ⟨d, 0, none⟩) (fun _ => rfl) _).setCell (p := ⟨d, 1, none⟩) (fun _ => rfl) _).alloc _
  exact ⟨_, ⟨heap_al (heap_set (heap_set (heap_set hh _).2.2 _).1 _).2.1 _, no_row _ _ _⟩, (fun j (hj : (none : Option Nat) = some j) => by cases hj), hk.mono fun _ h => Or.inl h⟩
theorem setCell_size (w : World) (p : Addr) (v : Value) : (w.setCell p v).heap.size = w.heap.size := by simp [World.setCell]
theorem did_end {B d : Nat} {v : Value} {q : St × Option Ev} {w w' : World} {tmps : Array Value} {g : Nat} {k : Int} {s : ByteArray} {b : Bool} (hp : tmps.getD 4 undef = .pointer (some ⟨g, 0, none⟩)) (hg : w'.heap[g]? = some (.cells #[.int .i64 k, .string s] 160 (0, 0))) (hb : tmps.getD 5 undef = .bool b)
    (hq : evV (q.2.getD (0, [])) = .agg #[.int .i64 k, .string s] ∧ q.2.isSome = b) (hw : Went B d v q.1 w w') :
    bodyPost Tryz.prog Tryz.f99 (fun e w' => Did B d v q w e w') Exit.ret ⟨tmps, []⟩ w' := by
  refine bodyPost_ret (ret_cell_tmp rfl _ _ _ _ _ _ _ hp hg Tryz.underlying160 rfl (by kernel_rfl)) rfl ?_
  refine ⟨?_, hw⟩
  show Ending.returned (.tuple #[.agg #[.int .i64 k, .string s], tmps.getD 5 undef]) = _
  rw [hb, hq.1, hq.2]
theorem went_push {B d on : Nat} {v v' : Value} {cl : List UInt8} {w w1 : World} (m : Int) (m' : Nat) (x : UInt8) (hh : w.heap[d]? = some (.cells #[v, .bool true, .int .i64 (on : Int)] 199 (0, 0))) (ho : w.ownsRow B 5 1 v cl.length (cellsOf cl)) (hm : m = (m' : Int))
    (hown : w1.ownsRow B 5 1 v' (cl.length + 1) (cellsOf cl ++ [.int .u8 (x.toNat : Int)])) (hg : (((w.setCell ⟨d, 2, none⟩ (.int .i64 m)).alloc (.cells #[.int .i64 0, .string ⟨#[]⟩] 160)).alloc (.cells #[.int .u8 (x.toNat : Int)] 5)).grownBy w1 v.ownBlock)
    (hat : v'.ownBlock = v.ownBlock ∨ v'.ownBlock = some (w.heap.size + 2)) :
    w1.heap[d]? = some (.cells #[v, .bool true, .int .i64 m] 199 (0, 0)) ∧ w1.heap[w.heap.size]? = some (.cells #[.int .i64 0, .string ⟨#[]⟩] 160 (0, 0)) ∧ (w1.setCell ⟨d, 0, none⟩ v').heap[w.heap.size]? = some (.cells #[.int .i64 0, .string ⟨#[]⟩] 160 (0, 0)) ∧
      Went B d v ⟨cl ++ [x], true, m'⟩ w (w1.setCell ⟨d, 0, none⟩ v') := by
  subst hm
  have hd : d < w.heap.size := (Array.getElem?_eq_some_iff.1 hh).1
  have hne := own_ne ho hh (by decide)
  have hk0 : Kb (fun j => j = d) w (w.setCell ⟨d, 2, none⟩ (.int .i64 (m' : Int))) := (Kb.refl (fun j => j = d) w).setCell (p := ⟨d, 2, none⟩) (fun _ => rfl) _
  have hk1 : Kb (fun j => j = d ∨ v.ownBlock = some j) w w1 := (((hk0.mono fun _ h => Or.inl h).alloc _).alloc _).grown hg (fun k hk _ => Or.inr hk)
  have h1 := (heap_set hh (.int .i64 (m' : Int))).2.2
  have hd1 : w1.heap[d]? = some (.cells #[v, .bool true, .int .i64 (m' : Int)] 199 (0, 0)) := by
    have h2 := heap_al (heap_al h1 (.cells #[.int .i64 0, .string ⟨#[]⟩] 160)) (.cells #[.int .u8 (x.toNat : Int)] 5)
    rw [hg.block d (Array.getElem?_eq_some_iff.1 h2).1 (fun e => hne d e.symm rfl)]
    exact h2
  have he1 : w1.heap[w.heap.size]? = some (.cells #[.int .i64 0, .string ⟨#[]⟩] 160 (0, 0)) := by
    have h2 := Go.heap_alloc_new (w.setCell ⟨d, 2, none⟩ (.int .i64 (m' : Int))) (.cells #[.int .i64 0, .string ⟨#[]⟩] 160)
    rw [setCell_size] at h2
    have h3 := heap_al h2 (.cells #[.int .u8 (x.toNat : Int)] 5)
    rw [hg.block _ (Array.getElem?_eq_some_iff.1 h3).1 (fun e => by have := (ho.lt _ e.symm).2; omega)]
    exact h3
  refine ⟨hd1, he1, ?_, v', ⟨(heap_set hd1 _).1, ?_⟩, ?_, hk1.setCell (p := ⟨d, 0, none⟩) (fun _ => Or.inl rfl) _⟩
  · rw [Below.heap_setCell _ _ _ _ (by show w.heap.size ≠ d; omega)]
    exact he1
  · have hk2 : Kb (fun j => j = d) w1 (w1.setCell ⟨d, 0, none⟩ v') := (Kb.refl (fun j => j = d) w1).setCell (p := ⟨d, 0, none⟩) (fun _ => rfl) _
    have hn := own_ne hown hd1 (by decide)
    have h3 := hk2.row hown hn
    show (w1.setCell ⟨d, 0, none⟩ v').ownsRow B 5 1 v' (cl ++ [x]).length (cellsOf (cl ++ [x]))
    rw [List.length_append, show cellsOf (cl ++ [x]) = cellsOf cl ++ [.int .u8 (x.toNat : Int)] from by simp [cellsOf]]
    exact h3
  · intro j hj
    rcases hat with h | h
    · exact Or.inl (h ▸ hj)
    · rw [h] at hj
      injection hj with hj
      exact Or.inr (by omega)
theorem went_event {B d g : Nat} {v : Value} {s' : St} {w w' : World} {a b : Value} (h : Went B d v s' w w') (hg : w'.heap[g]? = some (.cells #[a, b] 160 (0, 0))) (hge : w.heap.size ≤ g) (hd : d < w.heap.size) (x y : Value) :
    Went B d v s' w ((w'.setCell ⟨g, 0, none⟩ x).setCell ⟨g, 1, none⟩ y) := by
  obtain ⟨v', ⟨h1, h2⟩, h3, h4⟩ := h
  have hk : Kb (fun j => j = g) w' ((w'.setCell ⟨g, 0, none⟩ x).setCell ⟨g, 1, none⟩ y) := ((Kb.refl (fun j => j = g) w').setCell (p := ⟨g, 0, none⟩) (fun _ => rfl) _).setCell (p := ⟨g, 1, none⟩) (fun _ => rfl) _
  refine ⟨v', ⟨?_, hk.row h2 (own_ne h2 hg (by decide))⟩, h3, h4.trans hk (fun j hj e => by omega)⟩
  rw [hk.block d (Array.getElem?_eq_some_iff.1 h1).1 (by omega)]
  exact h1
theorem own_some {w : World} {base n : Nat} {e : TypeId} {v : Value} {xs : List Value} (h : w.ownsRow base e 1 v (n + 1) xs) : ∃ g c, v = .slice (some ⟨g, 0, none⟩) (n + 1) c := by
  rcases h.2 with ⟨_, h1⟩ | ⟨g, cap, cur, rfl, _⟩
  · omega
  · exact ⟨g, cap, rfl⟩
theorem step_push (cl : List UInt8) (wi : Bool) (on : Nat) (h : ¬ (on + 1 = 7 ∧ wi = true)) (hn : ¬ (wi = true ∧ on + 1 ≤ 5 ∧ cl.length ≤ 2134)) : stepS ⟨cl, wi, on⟩ 49 = (⟨cl, wi, on + 1⟩, none) := by
  unfold stepS
  rw [if_pos rfl, if_neg h]
  unfold push
  rw [if_neg hn]
set_option maxHeartbeats 4000000 in
set_option maxRecDepth 1000000 in
theorem bit_one (B d : Nat) (v : Value) (s : St) (w : World) (h : DecAt B w d v s) (hB : B ≤ w.heap.size) (hok : s.ok) (hon : s.ones ≤ 4611686018427387904) :
    Calls Tryz.prog 99 #[.pointer (some ⟨d, 0, none⟩), .int .u8 49] w fun e w' => Did B d v (stepS s 49) w e w' := by
  have hd := h.lt
  obtain ⟨cl, wi, on⟩ := s
  obtain ⟨hh, ho⟩ := h
  replace hh : w.heap[d]? = some (.cells #[v, .bool wi, .int .i64 (on : Int)] 199 (0, 0)) := hh
  replace ho : w.ownsRow B 5 1 v cl.length (cellsOf cl) := ho
  replace hok : cl.length ≤ 2135 := hok
  replace hon : on ≤ 4611686018427387904 := hon
  obtain ⟨A, c, rfl, hc⟩ := own_shape8 ho
  have c0 : w.cell? ⟨d, 0, none⟩ = some (.slice A cl.length c) := by rw [Lib.cell_of_heap hh]; rfl
  have c1 : w.cell? ⟨d, 1, none⟩ = some (.bool wi) := by rw [Lib.cell_of_heap hh]; rfl
  have c2 : w.cell? ⟨d, 2, none⟩ = some (.int .i64 (on : Int)) := by rw [Lib.cell_of_heap hh]; rfl
  have f0 := Lib.frozen_of_heap hh 0
  have f1 := Lib.frozen_of_heap hh 1
  have f2 := Lib.frozen_of_heap hh 2
  have HH := Aside0.mk hh
  have HO := Aside0.mk ho
  clear hh ho
  by_cases h7 : on + 1 = 7 ∧ wi = true
  · obtain ⟨h7, rfl⟩ := h7
    have h7' : (on : Int) + 1 = 7 := by omega
    have HA := fun o => Aside0.mk (went_abort (v := .slice A cl.length c) (B := B) 7 (on + 1) HH.out (by omega) o)
    have e : stepS ⟨cl, true, on⟩ 49 = (⟨[], false, on + 1⟩, some (1, [])) := by unfold stepS; rw [if_pos rfl, if_pos ⟨h7, rfl⟩]
    rw [e]
    go_enter Tryz.func99, Tryz.ntmps99
    go_wp2
    exact did_end (g := w.heap.size) rfl (by rw [← setCell_size w ⟨d, 2, none⟩ (.int .i64 7), ← setCell_size _ ⟨d, 0, none⟩ (.slice none 0 0), ← setCell_size _ ⟨d, 1, none⟩ (.bool false)]; exact Go.heap_alloc_new _ _) rfl ⟨rfl, rfl⟩ (HA _).out
  · by_cases hp : wi = true ∧ on + 1 ≤ 5 ∧ cl.length ≤ 2134
    · obtain ⟨rfl, h5, hl⟩ := hp
      have e : stepS ⟨cl, true, on⟩ 49 = (⟨cl ++ [49], true, on + 1⟩, none) := by
        unfold stepS
        rw [if_pos rfl, if_neg h7]
        unfold push
        rw [if_pos ⟨rfl, h5, hl⟩]
      rw [e]
      have h6 : ¬ ((on : Int) + 1 = 7) := by omega
      have hOa := ((((Kb.refl (fun j => j = d) w).setCell (p := ⟨d, 2, none⟩) (fun _ => rfl) (.int .i64 ((on : Int) + 1))).alloc (.cells #[.int .i64 0, .string ⟨#[]⟩] 160)).alloc (.cells #[.int .u8 49] 5)).row HO.out (own_ne HO.out HH.out (by decide))
      have HOA := Aside0.mk hOa
      clear h7 hOa
      obtain ⟨i0, hi, hz0, hz1, hz2⟩ := info_parts infoByte
      go_enter Tryz.func99, Tryz.ntmps99
      go_wp2_with (at_builtin; refine wpList_append_own_at _ rfl _ _ 181 rfl B 5 i0 (.int .u8 0) 1 1 Tryz.underlying181 hi hz0 hz1 hz2 rfl (by decide) _ _ _ rfl HOA.out ⟨w.heap.size + 1, 0, none⟩ 1 1 [.int .u8 49] rfl rfl ?c1 ?c2 ?c3 ?c4 ?c5 ?_)
      case c1 => have := cell_one_new ((w.setCell ⟨d, 2, none⟩ (.int .i64 ((on : Int) + 1))).alloc (.cells #[.int .i64 0, .string ⟨#[]⟩] 160)) (.int .u8 49) 5; first | simpa using this | simpa [setCell_size] using this
      case c2 => first | rfl | (intro u hu; simp at hu; subst hu; rfl)
      case c3 => unfold maxLen; omega
      case c4 => omega
      case c5 => first | omega | (simp; omega)
      intro v' w1 hown' hgrow _ hat
      replace hat : v'.ownBlock = (Value.slice A cl.length c).ownBlock ∨ v'.ownBlock = some (w.heap.size + 2) := hat
      obtain ⟨hd1, he1, he2, hWent⟩ := went_push (x := 49) ((on : Int) + 1) (on + 1) HH.out HO.out (by omega) hown' hgrow hat
      obtain ⟨g, cp, rfl⟩ := own_some hown'
      have e0 : w1.cell? ⟨d, 0, none⟩ = some (.slice A cl.length c) := by rw [Lib.cell_of_heap hd1]; rfl
      have ff0 := Lib.frozen_of_heap hd1 0
      have e1 : w1.cell? ⟨w.heap.size, 0, none⟩ = some (.int .i64 0) := by rw [Lib.cell_of_heap he1]; rfl
      have e2 : w1.cell? ⟨w.heap.size, 1, none⟩ = some (.string ⟨#[]⟩) := by rw [Lib.cell_of_heap he1]; rfl
      have ff1 := Lib.frozen_of_heap he1 0
      have ff2 := Lib.frozen_of_heap he1 1
      have HE2 := Aside0.mk he2
      have HWE := Aside0.mk hWent
      clear hd1 he1 he2 hWent hown' hgrow hat
      go_wp2
      exact did_end rfl (heap_set2 HE2.out _ _) rfl ⟨rfl, rfl⟩ (went_event HWE.out HE2.out (Nat.le_refl _) hd _ _)
    · rw [step_push cl wi on h7 hp]
      have HWS := fun m hm o => Aside0.mk (went_same m (on + 1) HH.out HO.out hm o)
      have HN := fun (m : Int) => Go.heap_alloc_new (w.setCell ⟨d, 2, none⟩ (.int .i64 m)) (.cells #[.int .i64 0, .string ⟨#[]⟩] 160)
      simp only [setCell_size] at HN
      have HN' := Aside0.mk HN
      clear HN
      cases wi with
      | false =>
        go_enter Tryz.func99, Tryz.ntmps99
        go_wp2
        · exact did_end rfl (HN'.out _) rfl ⟨rfl, rfl⟩ (HWS _ (by omega) _).out
        · exact did_end rfl (HN'.out _) rfl ⟨rfl, rfl⟩ (HWS _ (by omega) _).out
      | true =>
        have hp' : on + 1 ≤ 5 → ¬ cl.length ≤ 2134 := by simpa using hp
        have h6 : ¬ ((on : Int) + 1 = 7) := fun h => h7 ⟨by omega, rfl⟩
        clear hp h7
        by_cases h5 : (on : Int) + 1 ≤ 5
        · have hl : ¬ ((cl.length : Int) ≤ 2134) := by have := hp' (by omega); omega
          clear hp'
          go_enter Tryz.func99, Tryz.ntmps99
          go_wp2
          exact did_end rfl (HN'.out _) rfl ⟨rfl, rfl⟩ (HWS _ (by omega) _).out
        · clear hp'
          go_enter Tryz.func99, Tryz.ntmps99
          go_wp2
          exact did_end rfl (HN'.out _) rfl ⟨rfl, rfl⟩ (HWS _ (by omega) _).out
set_option maxHeartbeats 4000000 in
set_option maxRecDepth 1000000 in
theorem bit_zero (B d : Nat) (v : Value) (s : St) (w : World) (h : DecAt B w d v s) (hB : B ≤ w.heap.size) (hok : s.ok) (hon : s.ones ≤ 4611686018427387904) :
    Calls Tryz.prog 99 #[.pointer (some ⟨d, 0, none⟩), .int .u8 48] w fun e w' => Did B d v (stepS s 48) w e w' := by
  have hd := h.lt
  obtain ⟨cl, wi, on⟩ := s
  obtain ⟨hh, ho⟩ := h
  replace hh : w.heap[d]? = some (.cells #[v, .bool wi, .int .i64 (on : Int)] 199 (0, 0)) := hh
  replace ho : w.ownsRow B 5 1 v cl.length (cellsOf cl) := ho
  replace hok : cl.length ≤ 2135 := hok
  replace hon : on ≤ 4611686018427387904 := hon
  obtain ⟨A, c, rfl, hc⟩ := own_shape8 ho
  have c0 : w.cell? ⟨d, 0, none⟩ = some (.slice A cl.length c) := by rw [Lib.cell_of_heap hh]; rfl
  have c1 : w.cell? ⟨d, 1, none⟩ = some (.bool wi) := by rw [Lib.cell_of_heap hh]; rfl
  have c2 : w.cell? ⟨d, 2, none⟩ = some (.int .i64 (on : Int)) := by rw [Lib.cell_of_heap hh]; rfl
  have f0 := Lib.frozen_of_heap hh 0
  have f1 := Lib.frozen_of_heap hh 1
  have f2 := Lib.frozen_of_heap hh 2
  have HH := Aside0.mk hh
  have HO := Aside0.mk ho
  clear hh ho
  by_cases h5 : on ≥ 5
  · by_cases h6 : on = 6
    · subst h6
      have e : stepS ⟨cl, wi, 6⟩ 48 = (⟨[], true, 0⟩, flagS cl wi) := by unfold stepS; rw [if_neg (by decide), if_pos (by simp), if_pos rfl]
      rw [e]
      have hDec : DecAt B ((w.setCell ⟨d, 2, none⟩ (.int .i64 0)).alloc (.cells #[.int .i64 0, .string ⟨#[]⟩] 160)) d (.slice A cl.length c) ⟨cl, wi, 0⟩ := by
        obtain ⟨v', h1, _, h3⟩ := went_same 0 0 HH.out HO.out rfl (.cells #[.int .i64 0, .string ⟨#[]⟩] 160)
        have hk : Kb (fun j => j = d) w ((w.setCell ⟨d, 2, none⟩ (.int .i64 0)).alloc (.cells #[.int .i64 0, .string ⟨#[]⟩] 160)) := ((Kb.refl (fun j => j = d) w).setCell (p := ⟨d, 2, none⟩) (fun _ => rfl) _).alloc _
        exact ⟨heap_al (heap_set HH.out _).2.2 _, hk.row HO.out (own_ne HO.out HH.out (by decide))⟩
      have HDEC := Aside0.mk hDec
      clear hDec h5
      obtain ⟨⟨k, l⟩, HQ⟩ : ∃ q : Ev, Aside0 ((flagS cl wi).getD (0, []) = q) := ⟨_, ⟨rfl⟩⟩
      obtain ⟨bb, HBB⟩ : ∃ b : Bool, Aside0 ((flagS cl wi).isSome = b) := ⟨_, ⟨rfl⟩⟩
      go_enter Tryz.func99, Tryz.ntmps99
      go_wp2_with fail
      refine (flag B d _ _ _ HDEC.out hok).mono ?_
      rintro e w1 ⟨he, hd1, hk⟩
      rw [show flagS (St.mk cl wi 0).c (St.mk cl wi 0).within = flagS cl wi from rfl, HQ.out, HBB.out] at he
      replace he : e = .returned (.tuple #[.agg #[.int .i64 k, .string ⟨l.toArray⟩], .bool bb]) := he
      subst he
      have he1 : w1.heap[w.heap.size]? = some (.cells #[.int .i64 0, .string ⟨#[]⟩] 160 (0, 0)) := by
        have h2 := Go.heap_alloc_new (w.setCell ⟨d, 2, none⟩ (.int .i64 0)) (.cells #[.int .i64 0, .string ⟨#[]⟩] 160)
        rw [setCell_size] at h2
        rw [hk.block _ (Array.getElem?_eq_some_iff.1 h2).1 (by omega)]
        exact h2
      have hWent : Went B d (.slice A cl.length c) ⟨[], true, 0⟩ w w1 :=
        ⟨.slice none 0 0, ⟨hd1, no_row _ _ _⟩, (fun j (hj : (none : Option Nat) = some j) => by cases hj), ((((Kb.refl (fun j => j = d ∨ _) w).setCell (p := ⟨d, 2, none⟩) (fun _ => Or.inl rfl) _).alloc _).trans hk (fun j _ h => Or.inl h))⟩
      have e1 : w1.cell? ⟨w.heap.size, 0, none⟩ = some (.int .i64 0) := by rw [Lib.cell_of_heap he1]; rfl
      have e2 : w1.cell? ⟨w.heap.size, 1, none⟩ = some (.string ⟨#[]⟩) := by rw [Lib.cell_of_heap he1]; rfl
      have ff1 := Lib.frozen_of_heap he1 0
      have ff2 := Lib.frozen_of_heap he1 1
      have HE2 := Aside0.mk he1
      have HWE := Aside0.mk hWent
      clear hd1 hk he1 hWent
      go_wp2
      exact did_end rfl (heap_set2 HE2.out _ _) rfl ⟨by rw [HQ.out]; rfl, HBB.out⟩ (went_event HWE.out HE2.out (Nat.le_refl _) hd _ _)
    · have e : stepS ⟨cl, wi, on⟩ 48 = (⟨cl, wi, 0⟩, none) := by unfold stepS; rw [if_neg (by decide), if_pos h5, if_neg h6]
      rw [e]
      have HWS := fun o => Aside0.mk (went_same 0 0 HH.out HO.out rfl o)
      have HN := Go.heap_alloc_new (w.setCell ⟨d, 2, none⟩ (.int .i64 0)) (.cells #[.int .i64 0, .string ⟨#[]⟩] 160)
      simp only [setCell_size] at HN
      have HN' := Aside0.mk HN
      clear HN e
      have h6' : ¬ ((on : Int) = 6) := by omega
      by_cases h5e : on = 5
      · subst h5e
        clear h5
        go_enter Tryz.func99, Tryz.ntmps99
        go_wp2
        exact did_end rfl HN'.out rfl ⟨rfl, rfl⟩ (HWS _).out
      · have h5' : (5 : Int) < (on : Int) := by omega
        clear h5 h5e
        go_enter Tryz.func99, Tryz.ntmps99
        go_wp2
        exact did_end rfl HN'.out rfl ⟨rfl, rfl⟩ (HWS _).out
  · have h5a : ¬ ((5 : Int) < (on : Int)) := by omega
    have h5b : ¬ ((on : Int) = 5) := by omega
    have h6 : ¬ (on = 6) := by omega
    by_cases hp : wi = true ∧ 0 ≤ 5 ∧ cl.length ≤ 2134
    · obtain ⟨rfl, _, hl⟩ := hp
      have e : stepS ⟨cl, true, on⟩ 48 = (⟨cl ++ [48], true, 0⟩, none) := by
        unfold stepS
        rw [if_neg (by decide), if_neg h5]
        unfold push
        rw [if_pos ⟨rfl, Nat.zero_le _, hl⟩]
      rw [e]
      clear h5 h6
      have hOa := ((((Kb.refl (fun j => j = d) w).setCell (p := ⟨d, 2, none⟩) (fun _ => rfl) (.int .i64 0)).alloc (.cells #[.int .i64 0, .string ⟨#[]⟩] 160)).alloc (.cells #[.int .u8 48] 5)).row HO.out (own_ne HO.out HH.out (by decide))
      have HOA := Aside0.mk hOa
      clear hOa
      obtain ⟨i0, hi, hz0, hz1, hz2⟩ := info_parts infoByte
      go_enter Tryz.func99, Tryz.ntmps99
      go_wp2_with (at_builtin; refine wpList_append_own_at _ rfl _ _ 181 rfl B 5 i0 (.int .u8 0) 1 1 Tryz.underlying181 hi hz0 hz1 hz2 rfl (by decide) _ _ _ rfl HOA.out ⟨w.heap.size + 1, 0, none⟩ 1 1 [.int .u8 48] rfl rfl ?c1 ?c2 ?c3 ?c4 ?c5 ?_)
      try (case c1 => (have := cell_one_new ((w.setCell ⟨d, 2, none⟩ (.int .i64 0)).alloc (.cells #[.int .i64 0, .string ⟨#[]⟩] 160)) (.int .u8 48) 5; first | simpa using this | simpa [setCell_size] using this))
      case c2 => first | rfl | (intro u hu; simp at hu; subst hu; rfl)
      case c3 => unfold maxLen; omega
      case c4 => omega
      case c5 => first | omega | (simp; omega)
      intro v' w1 hown' hgrow _ hat
      replace hat : v'.ownBlock = (Value.slice A cl.length c).ownBlock ∨ v'.ownBlock = some (w.heap.size + 2) := hat
      obtain ⟨hd1, he1, he2, hWent⟩ := went_push (x := 48) 0 0 HH.out HO.out rfl hown' hgrow hat
      obtain ⟨g, cp, rfl⟩ := own_some hown'
      have e0 : w1.cell? ⟨d, 0, none⟩ = some (.slice A cl.length c) := by rw [Lib.cell_of_heap hd1]; rfl
      have ff0 := Lib.frozen_of_heap hd1 0
      have e1 : w1.cell? ⟨w.heap.size, 0, none⟩ = some (.int .i64 0) := by rw [Lib.cell_of_heap he1]; rfl
      have e2 : w1.cell? ⟨w.heap.size, 1, none⟩ = some (.string ⟨#[]⟩) := by rw [Lib.cell_of_heap he1]; rfl
      have ff1 := Lib.frozen_of_heap he1 0
      have ff2 := Lib.frozen_of_heap he1 1
      have HE2 := Aside0.mk he2
      have HWE := Aside0.mk hWent
      clear hd1 he1 he2 hWent hown' hgrow hat
      go_wp2
      exact did_end rfl (heap_set2 HE2.out _ _) rfl ⟨rfl, rfl⟩ (went_event HWE.out HE2.out (Nat.le_refl _) hd _ _)
    · have e : stepS ⟨cl, wi, on⟩ 48 = (⟨cl, wi, 0⟩, none) := by
        unfold stepS
        rw [if_neg (by decide), if_neg h5]
        unfold push
        rw [if_neg hp]
      rw [e]
      have HWS := fun o => Aside0.mk (went_same 0 0 HH.out HO.out rfl o)
      have HN := Go.heap_alloc_new (w.setCell ⟨d, 2, none⟩ (.int .i64 0)) (.cells #[.int .i64 0, .string ⟨#[]⟩] 160)
      simp only [setCell_size] at HN
      have HN' := Aside0.mk HN
      clear HN e h5 h6
      cases wi with
      | false =>
        clear hp
        go_enter Tryz.func99, Tryz.ntmps99
        go_wp2
        exact did_end rfl HN'.out rfl ⟨rfl, rfl⟩ (HWS _).out
      | true =>
        have hl : ¬ ((cl.length : Int) ≤ 2134) := by simp at hp; omega
        clear hp
        go_enter Tryz.func99, Tryz.ntmps99
        go_wp2
        exact did_end rfl HN'.out rfl ⟨rfl, rfl⟩ (HWS _).out
theorem bit (B d : Nat) (v : Value) (s : St) (x : UInt8) (w : World) (hx : x = 48 ∨ x = 49) (h : DecAt B w d v s) (hB : B ≤ w.heap.size) (hok : s.ok) (hon : s.ones ≤ 4611686018427387904) :
    Calls Tryz.prog 99 #[.pointer (some ⟨d, 0, none⟩), .int .u8 (x.toNat : Int)] w fun e w' => Did B d v (stepS s x) w e w' := by
  rcases hx with rfl | rfl
  · exact bit_zero B d v s w h hB hok hon
  · exact bit_one B d v s w h hB hok hon
end Go.Proofs.YtljnfbpplhnmfaaGreatDoor.Hd
namespace Go.Proofs.YtljnfbpplhnmfaaGreatDoor.Buil
open Go.RowKit
set_option linter.unusedVariables false
theorem sizeB : (Tryz.prog.info? 230).map (·.size) = some 2 := by kernel_rfl
theorem liesB : liesAt Tryz.prog Tryz.prog.depth 230 (2 / Tryz.prog.cellsOf 230) 0 230 1 = true := by kernel_rfl
theorem infoByte : (Tryz.prog.info? 5).map (fun i => (i.zero, i.size, i.bytes)) = some (some (.int .u8 0), 1, 1) := by kernel_rfl
set_option maxHeartbeats 1000000 in
set_option maxRecDepth 100000 in
theorem check_used (b : Nat) (w : World) (h0 : w.cell? ⟨b, 0, none⟩ = some (.pointer (some ⟨b, 0, none⟩))) :
    Calls Tryz.prog 163 #[.pointer (some ⟨b, 0, none⟩)] w fun e w' => e = .returned (.tuple #[]) ∧ w' = w := by
  obtain ⟨j, hj, _⟩ := Option.map_eq_some_iff.1 sizeB
  go_enter Tryz.func163, Tryz.ntmps163
  go_wp2
  rw [Lib.run_neq_ptr_same w _ Tryz.underlying228 hj]
  go_wp2
  go_end0
  exact ⟨rfl, rfl⟩
set_option maxHeartbeats 1000000 in
set_option maxRecDepth 100000 in
theorem check_fresh (b : Nat) (w : World) (h0 : w.cell? ⟨b, 0, none⟩ = some (.pointer none)) (hsh : w.shape? b = some (230, 2)) (hfz : w.frozen? ⟨b, 0, none⟩ = false) :
    Calls Tryz.prog 163 #[.pointer (some ⟨b, 0, none⟩)] w fun e w' => e = .returned (.tuple #[]) ∧ w' = w.setCell ⟨b, 0, none⟩ (.pointer (some ⟨b, 0, none⟩)) := by
  obtain ⟨j, hj, hjs⟩ := Option.map_eq_some_iff.1 sizeB
  go_enter Tryz.func163, Tryz.ntmps163
  go_wp2
  rw [Lib.run_to_unsafe w ⟨b, 0, none⟩ Tryz.underlying228 Tryz.underlying271 hj (by rw [hjs]; decide) hsh (Nat.zero_lt_succ 1)]
  simp only [Result.andThen]
  rw [Oper.upon_value]
  go_wp2
  rw [run_callFunc_extern Tryz.func179 (by kernel_rfl) (by kernel_rfl) (by kernel_rfl) (e := Extern.AbiNoEscape.same) (by kernel_rfl)]
  rw [Lib.run_noEscape]
  simp only [Result.andThen]
  rw [Oper.upon_value]
  go_wp2
  rw [Lib.run_from_unsafe w ⟨b, 0, none⟩ Tryz.underlying271 Tryz.underlying228 hj hsh liesB]
  simp only [Result.andThen]
  rw [Oper.upon_value]
  go_wp2
  go_end0
  exact ⟨rfl, rfl⟩
theorem check (B b : Nat) (bs : List Value) (w : World) (h : Lib.IsBuilderF 230 5 B b bs w) :
    Calls Tryz.prog 163 #[.pointer (some ⟨b, 0, none⟩)] w fun e w' => e = .returned (.tuple #[]) ∧ (Lib.BuilderAtF 230 5 B b (.pointer (some ⟨b, 0, none⟩)) bs w' ∧ Below B w w' ∧ Lib.OthersKept 5 (some b) w w') := by
  rcases h with h | h
  · refine (check_fresh b w h.cell0 h.shape h.frozen0).mono ?_
    rintro e w' ⟨rfl, rfl⟩
    exact ⟨rfl, h.used _, (Below.refl B w).setCell (p := ⟨b, 0, none⟩) h.1 _, (Lib.OthersKept.refl _ _ w).setCell ⟨b, 0, none⟩ rfl _⟩
  · refine (check_used b w h.cell0).mono ?_
    rintro e w' ⟨rfl, rfl⟩
    exact ⟨rfl, h, Below.refl B _, Lib.OthersKept.refl _ _ _⟩
set_option maxHeartbeats 2000000 in
set_option maxRecDepth 100000 in
theorem byte (B b : Nat) (bs : List Value) (c : Int) (w : World) (h : Lib.IsBuilderF 230 5 B b bs w) (hlen : bs.length + 1 ≤ 140737488355328) (hBw : B ≤ w.heap.size) :
    Calls Tryz.prog 137 #[.pointer (some ⟨b, 0, none⟩), .int .u8 c] w fun e w' => e = .returned .nilIface ∧ (Lib.BuilderAtF 230 5 B b (.pointer (some ⟨b, 0, none⟩)) (bs ++ [.int .u8 c]) w' ∧ Below B w w' ∧ Lib.OthersKept 5 (some b) w w') := by
  obtain ⟨i0, hi, hz0, hz1, hz2⟩ := info_parts infoByte
  go_enter Tryz.func137, Tryz.ntmps137
  go_wp2_with (go_at_call 163; refine (check B b bs _ h).mono ?_)
  rintro e w1 ⟨rfl, h1, hb1, hk1⟩
  obtain ⟨hB, v, hbk, hown, hne⟩ := h1
  have c0 : w1.cell? ⟨b, 0, none⟩ = some (.pointer (some ⟨b, 0, none⟩)) := by rw [Lib.cell_of_heap hbk]; rfl
  have c1 : w1.cell? ⟨b, 1, none⟩ = some v := by rw [Lib.cell_of_heap hbk]; rfl
  go_wp2_with (at_builtin; refine wpList_append_ownF _ rfl _ _ 181 rfl B 5 i0 (.int .u8 0) 1 1 Tryz.underlying181 hi hz0 hz1 hz2 rfl (by decide) _ _ _ rfl (hown.alloc _) ⟨w1.heap.size, 0, none⟩ 1 1 [.int .u8 c] rfl rfl ?c1 ?c2 ?c3 ?c4 ?c5 ?_)
  case c1 =>
    intro j u hj
    match j, hj with
    | 0, hj => simp at hj; subst hj; simp [Addr.add]
  case c2 => intro u hu; simp at hu; subst hu; rfl
  case c3 => unfold maxLen; omega
  case c4 => omega
  case c5 => have := hb1.size; simp; omega
  intro v' w2 hown' hgrow _
  have hlt : b < w1.heap.size := by
    rcases Nat.lt_or_ge b w1.heap.size with h' | h'
    · exact h'
    · simp [Array.getElem?_eq_none h'] at hbk
  have hb2 : w2.heap[b]? = some (.cells #[.pointer (some ⟨b, 0, none⟩), v] 230 (0, 0)) := by
    rw [hgrow.block b (by simp; omega) (fun e => hne e.symm), Lib.alloc_old w1 _ b hlt]
    exact hbk
  have d0 : w2.cell? ⟨b, 0, none⟩ = some (.pointer (some ⟨b, 0, none⟩)) := by rw [Lib.cell_of_heap hb2]; rfl
  have d1 : w2.cell? ⟨b, 1, none⟩ = some v := by rw [Lib.cell_of_heap hb2]; rfl
  have f1 : w2.frozen? ⟨b, 1, none⟩ = false := Lib.frozen_of_heap hb2 1
  obtain ⟨g, cap, rfl⟩ : ∃ g cap, v' = .slice (some ⟨g, 0, none⟩) (bs.length + 1) cap := by
    rcases hown'.2 with ⟨_, h0⟩ | ⟨g, cap, cur, fz, hv, _⟩
    · omega
    · exact ⟨g, cap, hv⟩
  go_wp2
  go_ret
  refine ⟨rfl, ?_, ?_, ((hk1.alloc _).grown hgrow (Lib.ownsRowF_kind (hown.alloc _))).setCell ⟨b, 1, none⟩ rfl _⟩
  · exact Lib.BuilderAtF.put (T := 230) (e := 5) hB hb2 (bs' := bs ++ [.int .u8 c]) (by simpa using hown') (by decide)
  · exact ((hb1.alloc (by have := hb1.size; omega) _).grown hgrow (by have := hb1.size; simp; omega) (fun k hk => (hown.lt k hk).1)).setCell (p := ⟨b, 1, none⟩) hB _
end Go.Proofs.YtljnfbpplhnmfaaGreatDoor.Buil
namespace Go.Proofs.YtljnfbpplhnmfaaGreatDoor.BitsOf
open Go.RowKit Go.Proofs.YtljnfbpplhnmfaaGreatDoor.Str Go.Proofs.YtljnfbpplhnmfaaGreatDoor.Bits
set_option linter.unusedVariables false
theorem bit_num (b : UInt8) (k : Nat) : (48 + Go.bits .and .u8 ((b.toNat : Int) / 2 ^ k) 1) % 256 = ((bitB b k).toNat : Int) := by
  have hb := b.toNat_lt
  have hk : 0 < 2 ^ k := Nat.pow_pos (by decide)
  have e : (b.toNat : Int) / 2 ^ k = ((b.toNat / 2 ^ k : Nat) : Int) := by simp
  have hl : b.toNat / 2 ^ k ≤ b.toNat := Nat.div_le_self _ _
  have h0 : 0 ≤ (b.toNat : Int) / 2 ^ k := by rw [e]; exact Int.natCast_nonneg _
  have h1 : (b.toNat : Int) / 2 ^ k ≤ 255 := by rw [e]; omega
  rw [bitB_num]
  generalize (b.toNat : Int) / 2 ^ k = q at h0 h1
  rw [Field.low_bit q h0 h1]
  omega
set_option maxHeartbeats 4000000 in
set_option maxRecDepth 1000000 in
theorem walk (s : ByteArray) (w : World) (hs : s.size ≤ 17592186044416) :
    Calls Tryz.prog 101 #[.string s] w fun e w' => e = .returned (.string ⟨(ofL (L s)).toArray⟩) ∧ Below w.heap.size w w' := by
  go_enter Tryz.func101, Tryz.ntmps101
  go_wp2
  go_loopw [8] (fun v wr => ∃ i : Nat, i ≤ s.size ∧ v = .int .i64 i ∧ Lib.IsBuilderF 230 5 w.heap.size w.heap.size (Lib.byteCells (ofL ((L s).take i))) wr ∧ Below w.heap.size w wr) (fun v _ => s.size - (intOf v).toNat)
  case atStart => exact ⟨0, Nat.zero_le _, rfl, Lib.IsBuilderF.of (Lib.fresh_isBuilder 230 5 w), (Below.refl _ w).alloc (Nat.le_refl _) _⟩
  case round =>
    obtain ⟨i, hi, rfl, hI, hB⟩ := hrel
    by_cases hlt : i < s.size
    · have hl : i < (L s).length := by rw [← size_L]; exact hlt
      have hsz := hB.size
      have ht : (ofL ((L s).take i)).length = 8 * i := by rw [ofL_length, List.length_take]; omega
      go_wp2
      obtain ⟨wo, hwo⟩ : ∃ wo : World, wo = wr := ⟨_, rfl⟩
      go_loopw [11] (fun v wr => ∃ k : Nat, k ≤ 8 ∧ v = .int .i64 k ∧ Lib.IsBuilderF 230 5 w.heap.size w.heap.size (Lib.byteCells (ofL ((L s).take i) ++ (bitsB (L s)[i]).take k)) wr ∧ Below w.heap.size w wr) (fun v _ => 8 - (intOf v).toNat)
      case atStart => exact ⟨0, by omega, rfl, by simpa using hI, hB⟩
      case round =>
        clear hI hB hsz hwo
        obtain ⟨k, hk, rfl, hI, hB⟩ := hrel
        have hsz := hB.size
        by_cases hkl : k < 8
        · have hv : (48 + Go.bits .and .u8 (((L s)[i].toNat : Int) / 2 ^ k) 1) % 256 = ((bitB (L s)[i] k).toNat : Int) := bit_num _ _
          have hlen : (Lib.byteCells (ofL ((L s).take i) ++ (bitsB (L s)[i]).take k)).length + 1 ≤ 140737488355328 := by
            rw [Lib.byteCells_length, List.length_append, ht, List.length_take, bitsB_length]; omega
          have hnx : Lib.byteCells (ofL ((L s).take i) ++ (bitsB (L s)[i]).take (k + 1)) = Lib.byteCells (ofL ((L s).take i) ++ (bitsB (L s)[i]).take k) ++ [.int .u8 ((bitB (L s)[i] k).toNat : Int)] := by
            rw [bitsB_take _ _ hkl, ← List.append_assoc, Lib.byteCells_append _ [_]]; rfl
          clear ht
          go_wp2_with (go_at_call 137; refine (Buil.byte w.heap.size w.heap.size _ _ _ hI hlen hsz).mono ?_)
          rintro e W1 ⟨rfl, h1, b1, k1⟩
          replace h1 := hnx ▸ (hv ▸ h1)
          go_wp2
          go_roundw
          case rel => exact ⟨k + 1, by omega, by go_num, Or.inr h1, hB.trans b1⟩
          case measure => simp [intOf]; omega
        · have h8 : k = 8 := by omega
          subst h8
          rw [bitsB_all, ← ofL_take _ _ hl] at hI
          go_wp2
          go_roundw
          case rel => exact ⟨i + 1, by omega, by go_num, hI, hB⟩
          case measure => simp [intOf]; omega
    · have e : (L s).take i = L s := List.take_of_length_le (by rw [← size_L]; omega)
      rw [e] at hI
      have hsz := hB.size
      go_wp2_with (go_at_call 138; refine (Tryz.Builder_String_any_k w.heap.size w.heap.size (ofL (L s)) _ hI hsz).mono ?_)
      rintro e W1 ⟨rfl, _, b1, _⟩
      go_wp2
      go_ret
      exact ⟨rfl, hB.trans b1⟩
end Go.Proofs.YtljnfbpplhnmfaaGreatDoor.BitsOf
namespace Go.Proofs.YtljnfbpplhnmfaaGreatDoor.Hd
open Go.RowKit Go.Proofs.YtljnfbpplhnmfaaGreatDoorW.PrintWords Go.Proofs.YtljnfbpplhnmfaaGreatDoorW.PrintLast Go.Proofs.YtljnfbpplhnmfaaGreatDoorW.PrintMore Go.Proofs.YtljnfbpplhnmfaaGreatDoor.Str Go.Proofs.YtljnfbpplhnmfaaGreatDoor.Bits Go.Proofs.YtljnfbpplhnmfaaGreatDoor.Oct Go.Proofs.YtljnfbpplhnmfaaGreatDoor.OctW
set_option linter.unusedVariables false
set_option maxHeartbeats 4000000 in
set_option maxRecDepth 1000000 in
theorem new (w : World) : Calls Tryz.prog 60 #[] w fun e w' => e = .returned (.pointer (some ⟨w.heap.size, 0, none⟩)) ∧ w' = w.alloc (.cells #[.slice none 0 0, .bool false, .int .i64 0] 199) := by
  go_enter Tryz.func60, Tryz.ntmps60
  go_wp2
  go_returns
  exact ⟨rfl, rfl⟩
theorem new_dec (w : World) (B : Nat) : DecAt B (w.alloc (.cells #[.slice none 0 0, .bool false, .int .i64 0] 199)) w.heap.size (.slice none 0 0) St.new :=
  ⟨Go.heap_alloc_new _ _, no_row _ _ _⟩
set_option maxHeartbeats 4000000 in
set_option maxRecDepth 1000000 in
theorem stuff (s : ByteArray) (w : World) (hs : s.size ≤ 35184372088832) :
    Calls Tryz.prog 100 #[.string s] w fun e w' => e = .returned (.string ⟨(stuffL (L s)).toArray⟩) ∧ Below w.heap.size w w' := by
  go_enter Tryz.func100, Tryz.ntmps100
  go_wp2
  go_loopw [4, 9] (fun u v wr => ∃ i n : Nat, i ≤ s.size ∧ n ≤ 4 ∧ v = .int .i64 i ∧ u = .int .i64 n ∧ Aside0 (n = (stF ((L s).take i)).2) ∧ Lib.IsBuilderF 230 5 w.heap.size w.heap.size (Lib.byteCells (stF ((L s).take i)).1) wr ∧ Below w.heap.size w wr) (fun _ v _ => s.size - (intOf v).toNat)
  case atStart => exact ⟨0, 0, Nat.zero_le _, Nat.zero_le _, rfl, rfl, ⟨rfl⟩, Lib.IsBuilderF.of (Lib.fresh_isBuilder 230 5 w), (Below.refl _ w).alloc (Nat.le_refl _) _⟩
  case round =>
    obtain ⟨i, n, hi, hn4, rfl, rfl, HN, hI, hB⟩ := hrel
    by_cases hlt : i < s.size
    · have hl : i < (L s).length := by rw [← size_L]; exact hlt
      have hsz := hB.size
      have hbd := (stF_bound (L s) i (by omega)).2
      have HST := Aside0.mk (stF_take (L s) i hl)
      obtain ⟨b, HBy⟩ : ∃ b, Aside0 (b = (L s)[i]) := ⟨_, ⟨rfl⟩⟩
      obtain ⟨q, HQ⟩ : ∃ q, Aside0 (stF ((L s).take i) = q) := ⟨_, ⟨rfl⟩⟩
      rw [HQ.out] at HN hI hbd HST
      obtain ⟨a, m⟩ := q
      obtain rfl : n = m := HN.out
      replace hI : Lib.IsBuilderF 230 5 w.heap.size w.heap.size (Lib.byteCells a) wr := hI
      replace hbd : a.length ≤ 2 * i := hbd
      have hlen : (Lib.byteCells a).length + 1 ≤ 140737488355328 := by rw [Lib.byteCells_length]; omega
      have hlen2 : ∀ c, (Lib.byteCells (a ++ [c])).length + 1 ≤ 140737488355328 := fun c => by rw [Lib.byteCells_length, List.length_append]; show _ + 1 + 1 ≤ _; omega
      have hnx : ∀ (l : List UInt8) (c : UInt8), Lib.byteCells l ++ [.int .u8 (c.toNat : Int)] = Lib.byteCells (l ++ [c]) := fun l c => by rw [Lib.byteCells_append _ [_]]; rfl
      have HLen2 := Aside0.mk hlen2
      have HNX := Aside0.mk hnx
      clear hlen2 hnx hbd HN
      by_cases hx : b = 49
      · have hx1 : (((s[i]'hlt).toNat : Nat) : Int) = 49 := by show (((L s)[i].toNat : Nat) : Int) = 49; rw [← HBy.out, hx]; rfl
        have hx49 : (L s)[i] = 49 := by rw [← HBy.out, hx]
        have hst : stF ((L s).take (i + 1)) = if n + 1 = 5 then (a ++ [49, 48], 0) else (a ++ [49], n + 1) := by rw [HST.out, hx49]; rfl
        have HS2 := Aside0.mk hst
        clear hx49 hst hx
        go_wp2_with (go_at_call 137; refine (Buil.byte w.heap.size w.heap.size _ _ _ hI hlen hsz).mono ?_)
        rintro e W1 ⟨rfl, h1, b1, k1⟩
        rw [show (.int .u8 49 : Value) = .int .u8 ((49 : UInt8).toNat : Int) from rfl, HNX.out] at h1
        have hs1 := b1.size
        have hB1 := hB.trans b1
        clear hI hB hsz b1 k1 hlen
        by_cases h5 : n + 1 = 5
        · have h5' : (n : Int) + 1 = 5 := by omega
          have HS3 : Aside0 (stF ((L s).take (i + 1)) = (a ++ [49] ++ [48], 0)) := ⟨by rw [HS2.out, if_pos h5]; simp⟩
          have hsz := hB1.size
          clear h5
          go_wp2_with (go_at_call 137; refine (Buil.byte w.heap.size w.heap.size _ _ _ (Or.inr h1) (HLen2.out 49) hsz).mono ?_)
          rintro e W2 ⟨rfl, h2, b2, k2⟩
          rw [show (.int .u8 48 : Value) = .int .u8 ((48 : UInt8).toNat : Int) from rfl, HNX.out] at h2
          have hB2 := hB1.trans b2
          clear h1 hB1 b2 k2
          go_wp2
          go_roundw
          case rel => exact ⟨i + 1, 0, by omega, by omega, by go_num, rfl, ⟨by rw [HS3.out]⟩, by rw [HS3.out]; exact Or.inr h2, hB2⟩
          case measure => simp [intOf]; omega
        · have h5' : ¬ ((n : Int) + 1 = 5) := by omega
          have HS3 : Aside0 (stF ((L s).take (i + 1)) = (a ++ [49], n + 1)) := ⟨by rw [HS2.out, if_neg h5]⟩
          clear h5
          go_wp2
          go_roundw
          case rel => exact ⟨i + 1, n + 1, by omega, by omega, by go_num, by go_num, ⟨by rw [HS3.out]⟩, by rw [HS3.out]; exact Or.inr h1, hB1⟩
          case measure => simp [intOf]; omega
      · have hx1 : ¬ ((((s[i]'hlt).toNat : Nat) : Int) = 49) := by
          intro h
          replace h : (((L s)[i].toNat : Nat) : Int) = 49 := h
          apply hx
          rw [HBy.out]
          apply UInt8.toNat_inj.1
          show _ = 49
          omega
        have hx49 : ¬ ((L s)[i] = 49) := by rw [← HBy.out]; exact hx
        have HS3 : Aside0 (stF ((L s).take (i + 1)) = (a ++ [48], 0)) := ⟨by rw [HST.out]; unfold stS; rw [if_neg hx49]⟩
        clear hx49 hx
        go_wp2_with (go_at_call 137; refine (Buil.byte w.heap.size w.heap.size _ _ _ hI hlen hsz).mono ?_)
        rintro e W1 ⟨rfl, h1, b1, k1⟩
        rw [show (.int .u8 48 : Value) = .int .u8 ((48 : UInt8).toNat : Int) from rfl, HNX.out] at h1
        have hB1 := hB.trans b1
        clear hI hB hsz b1 k1 hlen
        go_wp2
        go_roundw
        case rel => exact ⟨i + 1, 0, by omega, by omega, by go_num, rfl, ⟨by rw [HS3.out]⟩, by rw [HS3.out]; exact Or.inr h1, hB1⟩
        case measure => simp [intOf]; omega
    · have e : (L s).take i = L s := List.take_of_length_le (by rw [← size_L]; omega)
      rw [e] at hI
      have hsz := hB.size
      go_wp2_with (go_at_call 138; refine (Tryz.Builder_String_any_k w.heap.size w.heap.size (stF (L s)).1 _ hI hsz).mono ?_)
      rintro e W1 ⟨rfl, _, b1, _⟩
      go_wp2
      go_ret
      exact ⟨rfl, hB.trans b1⟩
set_option maxHeartbeats 4000000 in
set_option maxRecDepth 1000000 in
theorem encode (s : ByteArray) (w : World) (hs : s.size ≤ 4398046511104) :
    Calls Tryz.prog 62 #[.string s] w fun e w' => e = .returned (.string ⟨(encL (L s)).toArray⟩) ∧ Below w.heap.size w w' := by
  have hz1 : (⟨(ofL (L s)).toArray⟩ : ByteArray).size ≤ 35184372088832 := by rw [size_L, L_mk, ofL_length, ← size_L]; omega
  have he : (⟨#[48, 49, 49, 49, 49, 49, 49, 48]⟩ : ByteArray) ++ ⟨(stuffL (ofL (L s))).toArray⟩ ++ ⟨#[48, 49, 49, 49, 49, 49, 49, 48]⟩ = ⟨(encL (L s)).toArray⟩ := inj (by rw [L_app, L_app, L_mk, L_mk]; rfl)
  have hz2 : (stuffL (ofL (L s))).length ≤ 70368744177664 := by have := stuffL_length (ofL (L s)); rw [ofL_length, ← size_L] at this; omega
  have HE := Aside0.mk he
  clear he
  go_enter Tryz.func62, Tryz.ntmps62
  go_wp2_with fail
  refine (BitsOf.walk s _ (by omega)).mono ?_
  rintro e w1 ⟨rfl, hb⟩
  go_wp2_with fail
  refine (stuff _ _ hz1).mono ?_
  rintro e w2 ⟨he, hb2⟩
  rw [L_mk] at he
  subst he
  have hb3 := below_step hb hb2
  clear hb hb2
  go_wp2
  go_ret
  exact ⟨congrArg (fun z => Ending.returned (Value.string z)) HE.out, hb3⟩
end Go.Proofs.YtljnfbpplhnmfaaGreatDoor.Hd
