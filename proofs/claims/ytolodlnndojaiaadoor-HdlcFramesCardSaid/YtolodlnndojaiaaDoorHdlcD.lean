/- hdlc's decoder by its text: Feed. -/
import Derived.Test.YtolodlnndojaiaaDoorHdlcB
namespace Go.Proofs.YtolodlnndojaiaaDoor.Hd
open Go.RowKit Go.Proofs.YtolodlnndojaiaaDoorW.PrintWords Go.Proofs.YtolodlnndojaiaaDoorW.PrintLast Go.Proofs.YtolodlnndojaiaaDoorW.PrintMore Go.Proofs.YtolodlnndojaiaaDoor.Str Go.Proofs.YtolodlnndojaiaaDoor.Bits Go.Proofs.YtolodlnndojaiaaDoor.Oct Go.Proofs.YtolodlnndojaiaaDoor.OctW
set_option linter.unusedVariables false
theorem infoEv : (Tryd.prog.info? 31).map (fun i => (i.zero, i.size, i.bytes)) = some (some (.agg #[.int .i64 0, .string ⟨#[]⟩]), 2, 24) := by kernel_rfl
def evCells (l : List Ev) : List Value := l.flatMap fun e => [.int .i64 e.1, .string ⟨e.2.toArray⟩]
theorem evCells_append (a b : List Ev) : evCells (a ++ b) = evCells a ++ evCells b := by simp [evCells]
set_option maxRecDepth 100000 in
theorem or_one (b : UInt8) : (Go.bits .or .u8 (b.toNat : Int) 1 = 49) ↔ isDig b = true := by
  have h : ∀ n : Fin 256, (Go.bits .or .u8 (n.val : Int) 1 = 49) ↔ isDig (UInt8.ofNat n.val) = true := by decide +kernel
  have := h ⟨b.toNat, b.toNat_lt⟩
  simpa using this
theorem own_apart {w : World} {B B' z z' n n' : Nat} {e e' : TypeId} {v u : Value} {xs ys : List Value} (h : w.ownsRow B e z v n xs) (k : w.ownsRow B' e' z' u n' ys) (hne : e ≠ e') (j : Nat) (hv : v.ownBlock = some j) (hu : u.ownBlock = some j) : False := by
  rcases k.2 with ⟨rfl, _⟩ | ⟨g, cap, cur, rfl, _, hh, _⟩
  · cases hu
  · obtain rfl : g = j := by simpa [Value.ownBlock] using hu
    exact own_ne h hh (Ne.symm hne) g hv rfl
theorem Went.lt {B d : Nat} {v : Value} {s : St} {w w' : World} (h : Went B d v s w w') : d < w'.heap.size := by
  obtain ⟨v', h1, _, _⟩ := h
  exact h1.lt
theorem Went.refl {B d : Nat} {v : Value} {s : St} {w : World} (h : DecAt B w d v s) : Went B d v s w w := ⟨v, h, fun j hj => Or.inl hj, Kb.refl _ _⟩
theorem Went.size {B d : Nat} {v : Value} {s : St} {w w' : World} (h : Went B d v s w w') : w.heap.size ≤ w'.heap.size := by
  obtain ⟨v', _, _, h3⟩ := h
  exact h3.size
theorem Went.step {B d : Nat} {v : Value} {s1 : St} {w wr : World} (h : Went B d v s1 w wr) (hd : d < w.heap.size) : ∃ v1, DecAt B wr d v1 s1 ∧ (∀ s2 w1, Went B d v1 s2 wr w1 → Went B d v s2 w w1) ∧
    (∀ (u : Value) (n : Nat) (xs : List Value) (s2 : St) (w1 : World), Went B d v1 s2 wr w1 → wr.ownsRow w.heap.size 31 2 u n xs → w1.ownsRow w.heap.size 31 2 u n xs) := by
  obtain ⟨v1, h1, h2, h3⟩ := h
  refine ⟨v1, h1, fun s2 w1 ⟨v2, k1, k2, k3⟩ => ⟨v2, k1, fun j hj => ?_, h3.trans k3 (fun j hj t => ?_)⟩, fun u n xs s2 w1 ⟨v2, k1, k2, k3⟩ hr => k3.row hr (fun j hj t => ?_)⟩
  · rcases k2 j hj with h | h
    · exact h2 j h
    · exact Or.inr (Nat.le_trans h3.size h)
  · rcases t with t | t
    · exact Or.inl t
    · rcases h2 j t with h | h
      · exact Or.inr h
      · omega
  · rcases t with t | t
    · have := (hr.lt j hj).1
      omega
    · exact own_apart h1.2 hr (by decide) j t hj
theorem Went.alloc {B d : Nat} {v : Value} {s : St} {w w' : World} (h : Went B d v s w w') (o : Obj) : Went B d v s w (w'.alloc o) := by
  obtain ⟨v1, ⟨h1, h1'⟩, h2, h3⟩ := h
  exact ⟨v1, ⟨heap_al h1 o, h1'.alloc o⟩, h2, h3.alloc o⟩
theorem Went.grown {B d n : Nat} {v u : Value} {s : St} {w w1 w2 : World} {xs : List Value} (h : Went B d v s w w1) (hd : d < w.heap.size) (ho : w1.ownsRow w.heap.size 31 2 u n xs) (hg : w1.grownBy w2 u.ownBlock) : Went B d v s w w2 := by
  obtain ⟨v1, ⟨h1, h1'⟩, h2, h3⟩ := h
  have hk : Kb (fun j => u.ownBlock = some j) w1 w2 := (Kb.refl _ _).grown hg (fun k hk _ => hk)
  refine ⟨v1, ⟨?_, hk.row h1' (fun j hj t => own_apart h1' ho (by decide) j hj t)⟩, h2, h3.trans hk (fun j hj t => ?_)⟩
  · rw [hk.block d (Array.getElem?_eq_some_iff.1 h1).1 (fun t => by have := (ho.lt d t).1; omega)]
    exact h1
  · have := (ho.lt j t).1
    omega
set_option maxHeartbeats 8000000 in
set_option maxRecDepth 1000000 in
theorem feed (B d : Nat) (v : Value) (s : St) (b : ByteArray) (w : World) (h : DecAt B w d v s) (hB : B ≤ w.heap.size) (hok : s.ok) (hon : s.ones ≤ 1099511627776) (hs : b.size ≤ 1099511627776) :
    Calls Tryd.prog 13 #[.pointer (some ⟨d, 0, none⟩), .string b] w fun e w' => ∃ u, e = .returned u ∧ w'.ownsRow w.heap.size 31 2 u (feedL s (L b)).2.length (evCells (feedL s (L b)).2) ∧ Went B d v (feedL s (L b)).1 w w' := by
  have hd := h.lt
  have H := Aside0.mk h
  have HK := Aside0.mk hok
  clear h hok
  obtain ⟨i0, hi, hz0, hz1, hz2⟩ := info_parts infoEv
  go_enter Tryd.func13, Tryd.ntmps13
  go_wp2
  go_loopw [5, 13] (fun u x wr => ∃ i : Nat, i ≤ b.size ∧ x = .int .i64 i ∧ Aside0 (wr.ownsRow w.heap.size 31 2 u (feedL s ((L b).take i)).2.length (evCells (feedL s ((L b).take i)).2)) ∧ Aside0 (Went B d v (feedL s ((L b).take i)).1 w wr)) (fun _ x _ => b.size - (intOf x).toNat)
  case atStart => exact ⟨0, Nat.zero_le _, rfl, ⟨World.ownsRow_nil _ _ _ _⟩, ⟨Went.refl H.out⟩⟩
  case round =>
    obtain ⟨i, hi', rfl, HO, HW⟩ := hrel
    by_cases hlt : i < b.size
    · have hl : i < (L b).length := by rw [← size_L]; exact hlt
      have HST := Aside0.mk (feedL_take s (L b) i hl)
      have hev := feedL_len s (L b) i (by omega)
      have hsok := feedL_ok s ((L b).take i) HK.out
      rw [List.length_take] at hsok
      obtain ⟨q, HQ⟩ : ∃ q, Aside0 (feedL s ((L b).take i) = q) := ⟨_, ⟨rfl⟩⟩
      rw [HQ.out] at HO HW hev hsok HST
      obtain ⟨s1, evs⟩ := q
      obtain ⟨hsok, hson⟩ := hsok
      dsimp only at HO HW hev hsok hson
      obtain ⟨x, HX⟩ : ∃ x, Aside0 ((L b)[i] = x) := ⟨_, ⟨rfl⟩⟩
      have hor := or_one x
      rw [← HX.out] at hor
      replace hor : (Go.bits .or .u8 ((((b[i]'hlt).toNat : Nat)) : Int) 1 = 49) ↔ isDig ((L b)[i]) = true := hor
      rw [HX.out] at hor HST
      by_cases hdg : isDig x = true
      · have h49 := hor.2 hdg
        have hx : x = 48 ∨ x = 49 := by unfold isDig at hdg; simpa using hdg
        have hst2 : feedL s ((L b).take (i + 1)) = ((stepS s1 x).1, evs ++ (stepS s1 x).2.toList) := by rw [HST.out]; unfold feed1; rw [if_pos hdg]
        have HST2 := Aside0.mk hst2
        have HDX := Aside0.mk hx
        obtain ⟨v1, hd1, htr, hrow⟩ := HW.out.step hd
        clear hor hdg hst2 hx
        have hsr := HW.out.size
        go_wp2_with fail
        have hbx : b[i]'hlt = x := HX.out
        refine (bit B d v1 s1 (b[i]'hlt) wr (hbx.symm ▸ HDX.out) hd1 (by omega) hsok (by omega)).mono ?_
        rintro e w1 ⟨he, hw⟩
        rw [hbx] at he hw
        obtain ⟨⟨s2, o⟩, HQ2⟩ : ∃ q, Aside0 (stepS s1 x = q) := ⟨_, ⟨rfl⟩⟩
        rw [HQ2.out] at he hw HST2
        dsimp only at he hw HST2
        have hW2 := htr _ _ hw
        have HO2 := Aside0.mk (hrow _ _ _ _ _ hw HO.out)
        have hs1 := hW2.size
        have HW2 := Aside0.mk hW2
        clear htr hrow hw hd1 hbx hW2 hsok hson
        cases o with
        | none =>
          replace he : e = .returned (.tuple #[.agg #[.int .i64 0, .string ⟨#[]⟩], .bool false]) := he
          subst he
          have HST3 : Aside0 (feedL s ((L b).take (i + 1)) = (s2, evs)) := ⟨by rw [HST2.out]; simp⟩
          go_wp2
          go_roundw
          case rel => exact ⟨i + 1, by omega, by go_num, by rw [HST3.out]; exact ⟨HO2.out.alloc _⟩, by rw [HST3.out]; exact ⟨HW2.out.alloc _⟩⟩
          case measure => simp [intOf]; omega
        | some ev =>
          obtain ⟨k, l⟩ := ev
          replace he : e = .returned (.tuple #[.agg #[.int .i64 k, .string ⟨l.toArray⟩], .bool true]) := he
          subst he
          have HST3 : Aside0 (feedL s ((L b).take (i + 1)) = (s2, evs ++ [(k, l)])) := ⟨by rw [HST2.out]; rfl⟩
          have hc1 : ∀ (E : Obj) (x y : Value) (T : TypeId) (j : Nat) (u : Value), [x, y][j]? = some u → ((w1.alloc E).alloc (.cells #[x, y] T)).cell? ((⟨w1.heap.size + 1, 0, none⟩ : Addr).add j) = some u := by
            intro E x y T j u hj
            have hn := Go.heap_alloc_new (w1.alloc E) (.cells #[x, y] T)
            rw [show (w1.alloc E).heap.size = w1.heap.size + 1 from by show (w1.heap.push E).size = _; simp] at hn
            match j, hj with
            | 0, hj => simp at hj; subst hj; show World.cell? _ ((⟨w1.heap.size + 1, 0, none⟩ : Addr).add 0) = _; rw [show (⟨w1.heap.size + 1, 0, none⟩ : Addr).add 0 = ⟨w1.heap.size + 1, 0, none⟩ from by simp [Addr.add], Lib.cell_of_heap hn]; rfl
            | 1, hj => simp at hj; subst hj; rw [show (⟨w1.heap.size + 1, 0, none⟩ : Addr).add 1 = ⟨w1.heap.size + 1, 1, none⟩ from by simp [Addr.add], Lib.cell_of_heap hn]; rfl
          have HC1 := Aside0.mk hc1
          clear hc1
          go_wp2_with (at_builtin; refine wpList_append_own_at _ rfl _ _ 25 rfl w.heap.size 31 i0 (.agg #[.int .i64 0, .string ⟨#[]⟩]) 2 24 Tryd.underlying25 hi hz0 hz1 hz2 rfl (by decide) _ _ _ rfl ((HO2.out.alloc _).alloc _) ⟨w1.heap.size + 1, 0, none⟩ 1 1 [.int .i64 k, .string ⟨l.toArray⟩] rfl rfl ?c1 ?c2 ?c3 ?c4 ?c5 ?_)
          case c1 => exact HC1.out _ _ _ _
          case c2 => intro u hu; simp at hu; rcases hu with rfl | rfl <;> rfl
          case c3 => unfold maxLen; omega
          case c4 => omega
          case c5 => simp; omega
          intro v' w2 hown' hgrow _ hat
          have hW3 := ((HW2.out.alloc (.cells #[.int .i64 k, .string ⟨l.toArray⟩] 31)).alloc (.cells #[.int .i64 k, .string ⟨l.toArray⟩] 31)).grown hd ((HO2.out.alloc _).alloc _) hgrow
          have HW3 := Aside0.mk hW3
          have HO3 : Aside0 (w2.ownsRow w.heap.size 31 2 v' (evs ++ [(k, l)]).length (evCells (evs ++ [(k, l)]))) := ⟨by
            rw [List.length_append, evCells_append]
            exact hown'⟩
          clear hown' hgrow hat hW3
          go_wp2
          go_roundw
          case rel => exact ⟨i + 1, by omega, by go_num, by rw [HST3.out]; exact HO3, by rw [HST3.out]; exact HW3⟩
          case measure => simp [intOf]; omega
      · have h49 : ¬ (Go.bits .or .u8 ((((b[i]'hlt).toNat : Nat)) : Int) 1 = 49) := fun h => hdg (hor.1 h)
        have HST2 : Aside0 (feedL s ((L b).take (i + 1)) = (s1, evs)) := ⟨by rw [HST.out]; unfold feed1; rw [if_neg hdg]⟩
        clear hor hdg hev hsok hson
        go_wp2
        go_roundw
        case rel => exact ⟨i + 1, by omega, by go_num, by rw [HST2.out]; exact HO, by rw [HST2.out]; exact HW⟩
        case measure => simp [intOf]; omega
    · have e : (L b).take i = L b := List.take_of_length_le (by rw [← size_L]; omega)
      rw [e] at HO HW
      go_wp2
      go_ret
      exact ⟨_, rfl, HO.out, HW.out⟩
end Go.Proofs.YtolodlnndojaiaaDoor.Hd
