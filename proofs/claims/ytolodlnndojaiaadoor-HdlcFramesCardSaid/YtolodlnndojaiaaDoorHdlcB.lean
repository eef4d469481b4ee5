/- hdlc's decoder by its text: bit. -/
import Derived.Test.YtolodlnndojaiaaDoorHdlcF
namespace Go.Proofs.YtolodlnndojaiaaDoor.Hd
open Go.RowKit Go.Proofs.YtolodlnndojaiaaDoorW.PrintWords Go.Proofs.YtolodlnndojaiaaDoorW.PrintLast Go.Proofs.YtolodlnndojaiaaDoorW.PrintMore Go.Proofs.YtolodlnndojaiaaDoor.Str Go.Proofs.YtolodlnndojaiaaDoor.Bits Go.Proofs.YtolodlnndojaiaaDoor.Oct Go.Proofs.YtolodlnndojaiaaDoor.OctW
set_option linter.unusedVariables false
/-- What a step leaves: the decoder in its new state; all else as it was. -/
def Went (B d : Nat) (v : Value) (s' : St) (w w' : World) : Prop :=
  ∃ v', DecAt B w' d v' s' ∧ (∀ j, v'.ownBlock = some j → v.ownBlock = some j ∨ w.heap.size ≤ j) ∧ Kb (fun j => j = d ∨ v.ownBlock = some j) w w'
def Did (B d : Nat) (v : Value) (q : St × Option Ev) (w : World) (e : Ending) (w' : World) : Prop :=
  e = .returned (.tuple #[evV (q.2.getD (0, [])), .bool q.2.isSome]) ∧ Went B d v q.1 w w'
theorem no_row (w : World) (B : Nat) (e : TypeId) : w.ownsRow B e 1 (.slice none 0 0) 0 [] := World.ownsRow_nil _ _ _ _
/-- The decoder's own cells turned, its content as it was. -/
theorem went_same {B d : Nat} {v : Value} {cl : List UInt8} {wi : Bool} {on : Int} {w : World} (m : Int) (m' : Nat) (hh : w.heap[d]? = some (.cells #[v, .bool wi, .int .i64 on] 55 (0, 0))) (ho : w.ownsRow B 5 1 v cl.length (cellsOf cl)) (hm : m = (m' : Int)) (o : Obj) :
    Went B d v ⟨cl, wi, m'⟩ w ((w.setCell ⟨d, 2, none⟩ (.int .i64 m)).alloc o) := by
  subst hm
  have hk : Kb (fun j => j = d) w ((w.setCell ⟨d, 2, none⟩ (.int .i64 (m' : Int))).alloc o) := ((Kb.refl (fun j => j = d) w).setCell (p := ⟨d, 2, none⟩) (fun _ => rfl) _).alloc _
  exact ⟨_, ⟨heap_al (heap_set hh _).2.2 _, hk.row ho (own_ne ho hh (by decide))⟩, fun j hj => Or.inl hj, hk.mono fun _ h => Or.inl h⟩
theorem went_abort {B d : Nat} {v : Value} {wi : Bool} {on : Int} {w : World} (m : Int) (m' : Nat) (hh : w.heap[d]? = some (.cells #[v, .bool wi, .int .i64 on] 55 (0, 0))) (hm : m = (m' : Int)) (o : Obj) :
    Went B d v ⟨[], false, m'⟩ w ((((w.setCell ⟨d, 2, none⟩ (.int .i64 m)).setCell ⟨d, 0, none⟩ (.slice none 0 0)).setCell ⟨d, 1, none⟩ (.bool false)).alloc o) := by
  subst hm
  have hk : Kb (fun j => j = d) w ((((w.setCell ⟨d, 2, none⟩ (.int .i64 (m' : Int))).setCell ⟨d, 0, none⟩ (.slice none 0 0)).setCell ⟨d, 1, none⟩ (.bool false)).alloc o) := ((((Kb.refl (fun j => j = d) w).setCell (p := ⟨d, 2, none⟩) (fun _ => rfl) _).setCell (p := ⟨d, 0, none⟩) (fun _ => rfl) _).setCell (p := ⟨d, 1, none⟩) (fun _ => rfl) _).alloc _
  exact ⟨_, ⟨heap_al (heap_set (heap_set (heap_set hh _).2.2 _).1 _).2.1 _, no_row _ _ _⟩, (fun j (hj : (none : Option Nat) = some j) => by cases hj), hk.mono fun _ h => Or.inl h⟩
theorem setCell_size (w : World) (p : Addr) (v : Value) : (w.setCell p v).heap.size = w.heap.size := by simp [World.setCell]
/-- The answer of a step that stands in block g. -/
theorem did_end {B d : Nat} {v : Value} {q : St × Option Ev} {w w' : World} {tmps : Array Value} {g : Nat} {k : Int} {s : ByteArray} {b : Bool} (hp : tmps.getD 4 undef = .pointer (some ⟨g, 0, none⟩)) (hg : w'.heap[g]? = some (.cells #[.int .i64 k, .string s] 31 (0, 0))) (hb : tmps.getD 5 undef = .bool b)
    (hq : evV (q.2.getD (0, [])) = .agg #[.int .i64 k, .string s] ∧ q.2.isSome = b) (hw : Went B d v q.1 w w') :
    bodyPost Tryd.prog Tryd.f25 (fun e w' => Did B d v q w e w') Exit.ret ⟨tmps, []⟩ w' := by
  refine bodyPost_ret (ret_cell_tmp rfl _ _ _ _ _ _ _ hp hg Tryd.underlying31 rfl (by kernel_rfl)) rfl ?_
  refine ⟨?_, hw⟩
  show Ending.returned (.tuple #[.agg #[.int .i64 k, .string s], tmps.getD 5 undef]) = _
  rw [hb, hq.1, hq.2]
/-- A bit more in the content: the append is over, the store yet to come. -/
theorem went_push {B d on : Nat} {v v' : Value} {cl : List UInt8} {w w1 : World} (m : Int) (m' : Nat) (x : UInt8) (hh : w.heap[d]? = some (.cells #[v, .bool true, .int .i64 (on : Int)] 55 (0, 0))) (ho : w.ownsRow B 5 1 v cl.length (cellsOf cl)) (hm : m = (m' : Int))
    (hown : w1.ownsRow B 5 1 v' (cl.length + 1) (cellsOf cl ++ [.int .u8 (x.toNat : Int)])) (hg : (((w.setCell ⟨d, 2, none⟩ (.int .i64 m)).alloc (.cells #[.int .i64 0, .string ⟨#[]⟩] 31)).alloc (.cells #[.int .u8 (x.toNat : Int)] 5)).grownBy w1 v.ownBlock)
    (hat : v'.ownBlock = v.ownBlock ∨ v'.ownBlock = some (w.heap.size + 2)) :
    w1.heap[d]? = some (.cells #[v, .bool true, .int .i64 m] 55 (0, 0)) ∧ w1.heap[w.heap.size]? = some (.cells #[.int .i64 0, .string ⟨#[]⟩] 31 (0, 0)) ∧ (w1.setCell ⟨d, 0, none⟩ v').heap[w.heap.size]? = some (.cells #[.int .i64 0, .string ⟨#[]⟩] 31 (0, 0)) ∧
      Went B d v ⟨cl ++ [x], true, m'⟩ w (w1.setCell ⟨d, 0, none⟩ v') := by
  subst hm
  have hd : d < w.heap.size := (Array.getElem?_eq_some_iff.1 hh).1
  have hne := own_ne ho hh (by decide)
  have hk0 : Kb (fun j => j = d) w (w.setCell ⟨d, 2, none⟩ (.int .i64 (m' : Int))) := (Kb.refl (fun j => j = d) w).setCell (p := ⟨d, 2, none⟩) (fun _ => rfl) _
  have hk1 : Kb (fun j => j = d ∨ v.ownBlock = some j) w w1 := (((hk0.mono fun _ h => Or.inl h).alloc _).alloc _).grown hg (fun k hk _ => Or.inr hk)
  have h1 := (heap_set hh (.int .i64 (m' : Int))).2.2
  have hd1 : w1.heap[d]? = some (.cells #[v, .bool true, .int .i64 (m' : Int)] 55 (0, 0)) := by
    have h2 := heap_al (heap_al h1 (.cells #[.int .i64 0, .string ⟨#[]⟩] 31)) (.cells #[.int .u8 (x.toNat : Int)] 5)
    rw [hg.block d (Array.getElem?_eq_some_iff.1 h2).1 (fun e => hne d e.symm rfl)]
    exact h2
  have he1 : w1.heap[w.heap.size]? = some (.cells #[.int .i64 0, .string ⟨#[]⟩] 31 (0, 0)) := by
    have h2 := Go.heap_alloc_new (w.setCell ⟨d, 2, none⟩ (.int .i64 (m' : Int))) (.cells #[.int .i64 0, .string ⟨#[]⟩] 31)
    rw [setCell_size] at h2
    have h3 := heap_al h2 (.cells #[.int .u8 (x.toNat : Int)] 5)
    rw [hg.block _ (Array.getElem?_eq_some_iff.1 h3).1 (fun e => by have := (ho.lt _ e.symm).2; omega)]
    exact h3
  refine ⟨hd1, he1, ?_, v', ⟨(heap_set hd1 _).1, ?_⟩, ?_, hk1.setCell (p := ⟨d, 0, none⟩) (fun _ => Or.inl rfl) _⟩
  · rw [Below.heap_setCell _ _ _ _ (by show w.heap.size ≠ d; omega)]
    exact he1
  · have hk2 : Kb (fun j => j = d) w1 (w1.setCell ⟨d, 0, none⟩ v') := (Kb.refl (fun j => j = d) w1).setCell (p := ⟨d, 0, none⟩) (fun _ => rfl) _
    have hn := own_ne hown hd1 (by decide)
    have h3 := hk2.row hown hn
    show (w1.setCell ⟨d, 0, none⟩ v').ownsRow B 5 1 v' (cl ++ [x]).length (cellsOf (cl ++ [x]))
    rw [List.length_append, show cellsOf (cl ++ [x]) = cellsOf cl ++ [.int .u8 (x.toNat : Int)] from by simp [cellsOf]]
    exact h3
  · intro j hj
    rcases hat with h | h
    · exact Or.inl (h ▸ hj)
    · rw [h] at hj
      injection hj with hj
      exact Or.inr (by omega)
/-- The answer laid into its own block. -/
theorem went_event {B d g : Nat} {v : Value} {s' : St} {w w' : World} {a b : Value} (h : Went B d v s' w w') (hg : w'.heap[g]? = some (.cells #[a, b] 31 (0, 0))) (hge : w.heap.size ≤ g) (hd : d < w.heap.size) (x y : Value) :
    Went B d v s' w ((w'.setCell ⟨g, 0, none⟩ x).setCell ⟨g, 1, none⟩ y) := by
  obtain ⟨v', ⟨h1, h2⟩, h3, h4⟩ := h
  have hk : Kb (fun j => j = g) w' ((w'.setCell ⟨g, 0, none⟩ x).setCell ⟨g, 1, none⟩ y) := ((Kb.refl (fun j => j = g) w').setCell (p := ⟨g, 0, none⟩) (fun _ => rfl) _).setCell (p := ⟨g, 1, none⟩) (fun _ => rfl) _
  refine ⟨v', ⟨?_, hk.row h2 (own_ne h2 hg (by decide))⟩, h3, h4.trans hk (fun j hj e => by omega)⟩
  rw [hk.block d (Array.getElem?_eq_some_iff.1 h1).1 (by omega)]
  exact h1
theorem own_some {w : World} {base n : Nat} {e : TypeId} {v : Value} {xs : List Value} (h : w.ownsRow base e 1 v (n + 1) xs) : ∃ g c, v = .slice (some ⟨g, 0, none⟩) (n + 1) c := by
  rcases h.2 with ⟨_, h1⟩ | ⟨g, cap, cur, rfl, _⟩
  · omega
  · exact ⟨g, cap, rfl⟩
theorem step_push (cl : List UInt8) (wi : Bool) (on : Nat) (h : ¬ (on + 1 = 7 ∧ wi = true)) (hn : ¬ (wi = true ∧ on + 1 ≤ 5 ∧ cl.length ≤ 2134)) : stepS ⟨cl, wi, on⟩ 49 = (⟨cl, wi, on + 1⟩, none) := by
  unfold stepS
  rw [if_pos rfl, if_neg h]
  unfold push
  rw [if_neg hn]
set_option maxHeartbeats 4000000 in
set_option maxRecDepth 1000000 in
theorem bit_one (B d : Nat) (v : Value) (s : St) (w : World) (h : DecAt B w d v s) (hB : B ≤ w.heap.size) (hok : s.ok) (hon : s.ones ≤ 4611686018427387904) :
    Calls Tryd.prog 25 #[.pointer (some ⟨d, 0, none⟩), .int .u8 49] w fun e w' => Did B d v (stepS s 49) w e w' := by
  have hd := h.lt
  obtain ⟨cl, wi, on⟩ := s
  obtain ⟨hh, ho⟩ := h
  replace hh : w.heap[d]? = some (.cells #[v, .bool wi, .int .i64 (on : Int)] 55 (0, 0)) := hh
  replace ho : w.ownsRow B 5 1 v cl.length (cellsOf cl) := ho
  replace hok : cl.length ≤ 2135 := hok
  replace hon : on ≤ 4611686018427387904 := hon
  obtain ⟨A, c, rfl, hc⟩ := own_shape8 ho
  have c0 : w.cell? ⟨d, 0, none⟩ = some (.slice A cl.length c) := by rw [Lib.cell_of_heap hh]; rfl
  have c1 : w.cell? ⟨d, 1, none⟩ = some (.bool wi) := by rw [Lib.cell_of_heap hh]; rfl
  have c2 : w.cell? ⟨d, 2, none⟩ = some (.int .i64 (on : Int)) := by rw [Lib.cell_of_heap hh]; rfl
  have f0 := Lib.frozen_of_heap hh 0
  have f1 := Lib.frozen_of_heap hh 1
  have f2 := Lib.frozen_of_heap hh 2
  have HH := Aside0.mk hh
  have HO := Aside0.mk ho
  clear hh ho
  by_cases h7 : on + 1 = 7 ∧ wi = true
  · obtain ⟨h7, rfl⟩ := h7
    have h7' : (on : Int) + 1 = 7 := by omega
    have HA := fun o => Aside0.mk (went_abort (v := .slice A cl.length c) (B := B) 7 (on + 1) HH.out (by omega) o)
    have e : stepS ⟨cl, true, on⟩ 49 = (⟨[], false, on + 1⟩, some (1, [])) := by unfold stepS; rw [if_pos rfl, if_pos ⟨h7, rfl⟩]
    rw [e]
    go_enter Tryd.func25, Tryd.ntmps25
    go_wp2
    exact did_end (g := w.heap.size) rfl (by rw [← setCell_size w ⟨d, 2, none⟩ (.int .i64 7), ← setCell_size _ ⟨d, 0, none⟩ (.slice none 0 0), ← setCell_size _ ⟨d, 1, none⟩ (.bool false)]; exact Go.heap_alloc_new _ _) rfl ⟨rfl, rfl⟩ (HA _).out
  · by_cases hp : wi = true ∧ on + 1 ≤ 5 ∧ cl.length ≤ 2134
    · obtain ⟨rfl, h5, hl⟩ := hp
      have e : stepS ⟨cl, true, on⟩ 49 = (⟨cl ++ [49], true, on + 1⟩, none) := by
        unfold stepS
        rw [if_pos rfl, if_neg h7]
        unfold push
        rw [if_pos ⟨rfl, h5, hl⟩]
      rw [e]
      have h6 : ¬ ((on : Int) + 1 = 7) := by omega
      have hOa := ((((Kb.refl (fun j => j = d) w).setCell (p := ⟨d, 2, none⟩) (fun _ => rfl) (.int .i64 ((on : Int) + 1))).alloc (.cells #[.int .i64 0, .string ⟨#[]⟩] 31)).alloc (.cells #[.int .u8 49] 5)).row HO.out (own_ne HO.out HH.out (by decide))
      have HOA := Aside0.mk hOa
      clear h7 hOa
      obtain ⟨i0, hi, hz0, hz1, hz2⟩ := info_parts infoByte
      go_enter Tryd.func25, Tryd.ntmps25
      go_wp2_with (at_builtin; refine wpList_append_own_at _ rfl _ _ 22 rfl B 5 i0 (.int .u8 0) 1 1 Tryd.underlying22 hi hz0 hz1 hz2 rfl (by decide) _ _ _ rfl HOA.out ⟨w.heap.size + 1, 0, none⟩ 1 1 [.int .u8 49] rfl rfl ?c1 ?c2 ?c3 ?c4 ?c5 ?_)
      case c1 => have := cell_one_new ((w.setCell ⟨d, 2, none⟩ (.int .i64 ((on : Int) + 1))).alloc (.cells #[.int .i64 0, .string ⟨#[]⟩] 31)) (.int .u8 49) 5; first | simpa using this | simpa [setCell_size] using this
      case c2 => first | rfl | (intro u hu; simp at hu; subst hu; rfl)
      case c3 => unfold maxLen; omega
      case c4 => omega
      case c5 => first | omega | (simp; omega)
      intro v' w1 hown' hgrow _ hat
      replace hat : v'.ownBlock = (Value.slice A cl.length c).ownBlock ∨ v'.ownBlock = some (w.heap.size + 2) := hat
      obtain ⟨hd1, he1, he2, hWent⟩ := went_push (x := 49) ((on : Int) + 1) (on + 1) HH.out HO.out (by omega) hown' hgrow hat
      obtain ⟨g, cp, rfl⟩ := own_some hown'
      have e0 : w1.cell? ⟨d, 0, none⟩ = some (.slice A cl.length c) := by rw [Lib.cell_of_heap hd1]; rfl
      have ff0 := Lib.frozen_of_heap hd1 0
      have e1 : w1.cell? ⟨w.heap.size, 0, none⟩ = some (.int .i64 0) := by rw [Lib.cell_of_heap he1]; rfl
      have e2 : w1.cell? ⟨w.heap.size, 1, none⟩ = some (.string ⟨#[]⟩) := by rw [Lib.cell_of_heap he1]; rfl
      have ff1 := Lib.frozen_of_heap he1 0
      have ff2 := Lib.frozen_of_heap he1 1
      have HE2 := Aside0.mk he2
      have HWE := Aside0.mk hWent
      clear hd1 he1 he2 hWent hown' hgrow hat
      go_wp2
      exact did_end rfl (heap_set2 HE2.out _ _) rfl ⟨rfl, rfl⟩ (went_event HWE.out HE2.out (Nat.le_refl _) hd _ _)
    · rw [step_push cl wi on h7 hp]
      have HWS := fun m hm o => Aside0.mk (went_same m (on + 1) HH.out HO.out hm o)
      have HN := fun (m : Int) => Go.heap_alloc_new (w.setCell ⟨d, 2, none⟩ (.int .i64 m)) (.cells #[.int .i64 0, .string ⟨#[]⟩] 31)
      simp only [setCell_size] at HN
      have HN' := Aside0.mk HN
      clear HN
      cases wi with
      | false =>
        go_enter Tryd.func25, Tryd.ntmps25
        go_wp2
        · exact did_end rfl (HN'.out _) rfl ⟨rfl, rfl⟩ (HWS _ (by omega) _).out
        · exact did_end rfl (HN'.out _) rfl ⟨rfl, rfl⟩ (HWS _ (by omega) _).out
      | true =>
        have hp' : on + 1 ≤ 5 → ¬ cl.length ≤ 2134 := by simpa using hp
        have h6 : ¬ ((on : Int) + 1 = 7) := fun h => h7 ⟨by omega, rfl⟩
        clear hp h7
        by_cases h5 : (on : Int) + 1 ≤ 5
        · have hl : ¬ ((cl.length : Int) ≤ 2134) := by have := hp' (by omega); omega
          clear hp'
          go_enter Tryd.func25, Tryd.ntmps25
          go_wp2
          exact did_end rfl (HN'.out _) rfl ⟨rfl, rfl⟩ (HWS _ (by omega) _).out
        · clear hp'
          go_enter Tryd.func25, Tryd.ntmps25
          go_wp2
          exact did_end rfl (HN'.out _) rfl ⟨rfl, rfl⟩ (HWS _ (by omega) _).out
set_option maxHeartbeats 4000000 in
set_option maxRecDepth 1000000 in
theorem bit_zero (B d : Nat) (v : Value) (s : St) (w : World) (h : DecAt B w d v s) (hB : B ≤ w.heap.size) (hok : s.ok) (hon : s.ones ≤ 4611686018427387904) :
    Calls Tryd.prog 25 #[.pointer (some ⟨d, 0, none⟩), .int .u8 48] w fun e w' => Did B d v (stepS s 48) w e w' := by
  have hd := h.lt
  obtain ⟨cl, wi, on⟩ := s
  obtain ⟨hh, ho⟩ := h
  replace hh : w.heap[d]? = some (.cells #[v, .bool wi, .int .i64 (on : Int)] 55 (0, 0)) := hh
  replace ho : w.ownsRow B 5 1 v cl.length (cellsOf cl) := ho
  replace hok : cl.length ≤ 2135 := hok
  replace hon : on ≤ 4611686018427387904 := hon
  obtain ⟨A, c, rfl, hc⟩ := own_shape8 ho
  have c0 : w.cell? ⟨d, 0, none⟩ = some (.slice A cl.length c) := by rw [Lib.cell_of_heap hh]; rfl
  have c1 : w.cell? ⟨d, 1, none⟩ = some (.bool wi) := by rw [Lib.cell_of_heap hh]; rfl
  have c2 : w.cell? ⟨d, 2, none⟩ = some (.int .i64 (on : Int)) := by rw [Lib.cell_of_heap hh]; rfl
  have f0 := Lib.frozen_of_heap hh 0
  have f1 := Lib.frozen_of_heap hh 1
  have f2 := Lib.frozen_of_heap hh 2
  have HH := Aside0.mk hh
  have HO := Aside0.mk ho
  clear hh ho
  by_cases h5 : on ≥ 5
  · by_cases h6 : on = 6
    · subst h6
      have e : stepS ⟨cl, wi, 6⟩ 48 = (⟨[], true, 0⟩, flagS cl wi) := by unfold stepS; rw [if_neg (by decide), if_pos (by simp), if_pos rfl]
      rw [e]
      have hDec : DecAt B ((w.setCell ⟨d, 2, none⟩ (.int .i64 0)).alloc (.cells #[.int .i64 0, .string ⟨#[]⟩] 31)) d (.slice A cl.length c) ⟨cl, wi, 0⟩ := by
        obtain ⟨v', h1, _, h3⟩ := went_same 0 0 HH.out HO.out rfl (.cells #[.int .i64 0, .string ⟨#[]⟩] 31)
        have hk : Kb (fun j => j = d) w ((w.setCell ⟨d, 2, none⟩ (.int .i64 0)).alloc (.cells #[.int .i64 0, .string ⟨#[]⟩] 31)) := ((Kb.refl (fun j => j = d) w).setCell (p := ⟨d, 2, none⟩) (fun _ => rfl) _).alloc _
        exact ⟨heap_al (heap_set HH.out _).2.2 _, hk.row HO.out (own_ne HO.out HH.out (by decide))⟩
      have HDEC := Aside0.mk hDec
      clear hDec h5
      obtain ⟨⟨k, l⟩, HQ⟩ : ∃ q : Ev, Aside0 ((flagS cl wi).getD (0, []) = q) := ⟨_, ⟨rfl⟩⟩
      obtain ⟨bb, HBB⟩ : ∃ b : Bool, Aside0 ((flagS cl wi).isSome = b) := ⟨_, ⟨rfl⟩⟩
      go_enter Tryd.func25, Tryd.ntmps25
      go_wp2_with fail
      refine (flag B d _ _ _ HDEC.out hok).mono ?_
      rintro e w1 ⟨he, hd1, hk⟩
      rw [show flagS (St.mk cl wi 0).c (St.mk cl wi 0).within = flagS cl wi from rfl, HQ.out, HBB.out] at he
      replace he : e = .returned (.tuple #[.agg #[.int .i64 k, .string ⟨l.toArray⟩], .bool bb]) := he
      subst he
      have he1 : w1.heap[w.heap.size]? = some (.cells #[.int .i64 0, .string ⟨#[]⟩] 31 (0, 0)) := by
        have h2 := Go.heap_alloc_new (w.setCell ⟨d, 2, none⟩ (.int .i64 0)) (.cells #[.int .i64 0, .string ⟨#[]⟩] 31)
        rw [setCell_size] at h2
        rw [hk.block _ (Array.getElem?_eq_some_iff.1 h2).1 (by omega)]
        exact h2
      have hWent : Went B d (.slice A cl.length c) ⟨[], true, 0⟩ w w1 :=
        ⟨.slice none 0 0, ⟨hd1, no_row _ _ _⟩, (fun j (hj : (none : Option Nat) = some j) => by cases hj), ((((Kb.refl (fun j => j = d ∨ _) w).setCell (p := ⟨d, 2, none⟩) (fun _ => Or.inl rfl) _).alloc _).trans hk (fun j _ h => Or.inl h))⟩
      have e1 : w1.cell? ⟨w.heap.size, 0, none⟩ = some (.int .i64 0) := by rw [Lib.cell_of_heap he1]; rfl
      have e2 : w1.cell? ⟨w.heap.size, 1, none⟩ = some (.string ⟨#[]⟩) := by rw [Lib.cell_of_heap he1]; rfl
      have ff1 := Lib.frozen_of_heap he1 0
      have ff2 := Lib.frozen_of_heap he1 1
      have HE2 := Aside0.mk he1
      have HWE := Aside0.mk hWent
      clear hd1 hk he1 hWent
      go_wp2
      exact did_end rfl (heap_set2 HE2.out _ _) rfl ⟨by rw [HQ.out]; rfl, HBB.out⟩ (went_event HWE.out HE2.out (Nat.le_refl _) hd _ _)
    · have e : stepS ⟨cl, wi, on⟩ 48 = (⟨cl, wi, 0⟩, none) := by unfold stepS; rw [if_neg (by decide), if_pos h5, if_neg h6]
      rw [e]
      have HWS := fun o => Aside0.mk (went_same 0 0 HH.out HO.out rfl o)
      have HN := Go.heap_alloc_new (w.setCell ⟨d, 2, none⟩ (.int .i64 0)) (.cells #[.int .i64 0, .string ⟨#[]⟩] 31)
      simp only [setCell_size] at HN
      have HN' := Aside0.mk HN
      clear HN e
      have h6' : ¬ ((on : Int) = 6) := by omega
      by_cases h5e : on = 5
      · subst h5e
        clear h5
        go_enter Tryd.func25, Tryd.ntmps25
        go_wp2
        exact did_end rfl HN'.out rfl ⟨rfl, rfl⟩ (HWS _).out
      · have h5' : (5 : Int) < (on : Int) := by omega
        clear h5 h5e
        go_enter Tryd.func25, Tryd.ntmps25
        go_wp2
        exact did_end rfl HN'.out rfl ⟨rfl, rfl⟩ (HWS _).out
  · have h5a : ¬ ((5 : Int) < (on : Int)) := by omega
    have h5b : ¬ ((on : Int) = 5) := by omega
    have h6 : ¬ (on = 6) := by omega
    by_cases hp : wi = true ∧ 0 ≤ 5 ∧ cl.length ≤ 2134
    · obtain ⟨rfl, _, hl⟩ := hp
      have e : stepS ⟨cl, true, on⟩ 48 = (⟨cl ++ [48], true, 0⟩, none) := by
        unfold stepS
        rw [if_neg (by decide), if_neg h5]
        unfold push
        rw [if_pos ⟨rfl, Nat.zero_le _, hl⟩]
      rw [e]
      clear h5 h6
      have hOa := ((((Kb.refl (fun j => j = d) w).setCell (p := ⟨d, 2, none⟩) (fun _ => rfl) (.int .i64 0)).alloc (.cells #[.int .i64 0, .string ⟨#[]⟩] 31)).alloc (.cells #[.int .u8 48] 5)).row HO.out (own_ne HO.out HH.out (by decide))
      have HOA := Aside0.mk hOa
      clear hOa
      obtain ⟨i0, hi, hz0, hz1, hz2⟩ := info_parts infoByte
      go_enter Tryd.func25, Tryd.ntmps25
      go_wp2_with (at_builtin; refine wpList_append_own_at _ rfl _ _ 22 rfl B 5 i0 (.int .u8 0) 1 1 Tryd.underlying22 hi hz0 hz1 hz2 rfl (by decide) _ _ _ rfl HOA.out ⟨w.heap.size + 1, 0, none⟩ 1 1 [.int .u8 48] rfl rfl ?c1 ?c2 ?c3 ?c4 ?c5 ?_)
      try (case c1 => (have := cell_one_new ((w.setCell ⟨d, 2, none⟩ (.int .i64 0)).alloc (.cells #[.int .i64 0, .string ⟨#[]⟩] 31)) (.int .u8 48) 5; first | simpa using this | simpa [setCell_size] using this))
      case c2 => first | rfl | (intro u hu; simp at hu; subst hu; rfl)
      case c3 => unfold maxLen; omega
      case c4 => omega
      case c5 => first | omega | (simp; omega)
      intro v' w1 hown' hgrow _ hat
      replace hat : v'.ownBlock = (Value.slice A cl.length c).ownBlock ∨ v'.ownBlock = some (w.heap.size + 2) := hat
      obtain ⟨hd1, he1, he2, hWent⟩ := went_push (x := 48) 0 0 HH.out HO.out rfl hown' hgrow hat
      obtain ⟨g, cp, rfl⟩ := own_some hown'
      have e0 : w1.cell? ⟨d, 0, none⟩ = some (.slice A cl.length c) := by rw [Lib.cell_of_heap hd1]; rfl
      have ff0 := Lib.frozen_of_heap hd1 0
      have e1 : w1.cell? ⟨w.heap.size, 0, none⟩ = some (.int .i64 0) := by rw [Lib.cell_of_heap he1]; rfl
      have e2 : w1.cell? ⟨w.heap.size, 1, none⟩ = some (.string ⟨#[]⟩) := by rw [Lib.cell_of_heap he1]; rfl
      have ff1 := Lib.frozen_of_heap he1 0
      have ff2 := Lib.frozen_of_heap he1 1
      have HE2 := Aside0.mk he2
      have HWE := Aside0.mk hWent
      clear hd1 he1 he2 hWent hown' hgrow hat
      go_wp2
      exact did_end rfl (heap_set2 HE2.out _ _) rfl ⟨rfl, rfl⟩ (went_event HWE.out HE2.out (Nat.le_refl _) hd _ _)
    · have e : stepS ⟨cl, wi, on⟩ 48 = (⟨cl, wi, 0⟩, none) := by
        unfold stepS
        rw [if_neg (by decide), if_neg h5]
        unfold push
        rw [if_neg hp]
      rw [e]
      have HWS := fun o => Aside0.mk (went_same 0 0 HH.out HO.out rfl o)
      have HN := Go.heap_alloc_new (w.setCell ⟨d, 2, none⟩ (.int .i64 0)) (.cells #[.int .i64 0, .string ⟨#[]⟩] 31)
      simp only [setCell_size] at HN
      have HN' := Aside0.mk HN
      clear HN e h5 h6
      cases wi with
      | false =>
        clear hp
        go_enter Tryd.func25, Tryd.ntmps25
        go_wp2
        exact did_end rfl HN'.out rfl ⟨rfl, rfl⟩ (HWS _).out
      | true =>
        have hl : ¬ ((cl.length : Int) ≤ 2134) := by simp at hp; omega
        clear hp
        go_enter Tryd.func25, Tryd.ntmps25
        go_wp2
        exact did_end rfl HN'.out rfl ⟨rfl, rfl⟩ (HWS _).out
/-- One bit more. -/
theorem bit (B d : Nat) (v : Value) (s : St) (x : UInt8) (w : World) (hx : x = 48 ∨ x = 49) (h : DecAt B w d v s) (hB : B ≤ w.heap.size) (hok : s.ok) (hon : s.ones ≤ 4611686018427387904) :
    Calls Tryd.prog 25 #[.pointer (some ⟨d, 0, none⟩), .int .u8 (x.toNat : Int)] w fun e w' => Did B d v (stepS s x) w e w' := by
  rcases hx with rfl | rfl
  · exact bit_zero B d v s w h hB hok hon
  · exact bit_one B d v s w h hB hok hon
end Go.Proofs.YtolodlnndojaiaaDoor.Hd
