/- The bus by its text, fourth part: Spoil, Clear. -/
import Derived.Test.YtfopcnabcmdclaaBusT
namespace Go.Proofs.Ytfopcnabcmdclaa.Bs
open Go Go.RowKit Go.Proofs.YtfopcnabcmdclaaW.PrintWords Go.Proofs.YtfopcnabcmdclaaW.PrintLast Go.Proofs.YtfopcnabcmdclaaW.PrintMore Go.Proofs.Ytfopcnabcmdclaa.Str Go.Proofs.Ytfopcnabcmdclaa.Bits Go.Proofs.Ytfopcnabcmdclaa.Mp Go.Proofs.Ytfopcnabcmdclaa.Ra
set_option linter.unusedVariables false
theorem heap_setAt {w : World} {g o : Nat} {cur : Array Value} {e : TypeId} {m : Nat × Nat} (h : w.heap[g]? = some (.cells cur e m)) (v : Value) : (w.setCell ⟨g, o, none⟩ v).heap[g]? = some (.cells (cur.setIfInBounds o v) e m) := by
  simp [World.setCell, Array.getElem?_modify, h]
theorem take_drop_set {α : Type} (l : List α) (o n : Nat) (v : α) (h : o + n < l.length) : ((l.set o v).drop o).take (n + 1) = v :: ((l.drop (o + 1)).take n) := by
  have h1 : o < l.length := by omega
  rw [List.drop_set, if_neg (Nat.lt_irrefl o), Nat.sub_self, List.drop_eq_getElem_cons h1, List.set_cons_zero, List.take_succ_cons]
/-- The first string of a row made another one. -/
theorem row_set {w : World} {T : Nat → Prop} {g o cp : Nat} {s s' : ByteArray} {l : List ByteArray} (h : Row w T (.slice (some ⟨g, o, none⟩) (s :: l).length cp) (s :: l)) : Row (w.setCell ⟨g, o, none⟩ (.string s')) T (.slice (some ⟨g, o, none⟩) (s :: l).length cp) (s' :: l) := by
  obtain ⟨h1, h2⟩ := h
  have hl : (s :: l).length = l.length + 1 := rfl
  refine ⟨by rw [strs_length, Nat.mul_one], .inr ?_⟩
  rcases h2 with ⟨_, h2⟩ | ⟨g', o', cap, cur, hv, ht, hg, hn, hc, hcs, htake⟩
  · rw [hl] at h2; omega
  · injection hv with e1 e2 e3
    injection e1 with e1
    injection e1 with e1 e4
    subst e1; subst e3
    obtain rfl : o = o' := by omega
    rw [Nat.mul_one, Nat.mul_one] at htake
    rw [Nat.mul_one] at hcs
    rw [hl] at hn
    refine ⟨g, o, cp, _, by rw [Nat.mul_one]; rfl, ht, heap_setAt hg _, by show l.length + 1 ≤ cp; exact hn, hc, by rw [Nat.mul_one, Array.size_setIfInBounds]; exact hcs, ?_⟩
    rw [Nat.mul_one, Nat.mul_one, Array.toList_setIfInBounds]
    show List.take (l.length + 1) _ = _
    rw [take_drop_set cur.toList o l.length (.string s') (by rw [show cur.toList.length = cur.size from Array.length_toList]; omega)]
    have e := congrArg (List.drop 1) htake
    rw [List.drop_take, List.drop_drop, hl] at e
    have e2 : (cur.toList.drop (o + 1)).take l.length = strs l := by simpa [strs] using e
    rw [e2]; rfl
theorem spoil_step {T : Nat → Prop} {w : World} {p mb c n : Nat} {q : Bool → Int → List ByteArray} {f : Lit → Option Value} (h : BusAt T w p mb c n q f) (d : Bool) (i : Int) (hi : wfi i) {g o cp : Nat} {s s' : ByteArray} {l : List ByteArray}
    (hv : val f d i = .slice (some ⟨g, o, none⟩) (s :: l).length cp) (hq : q d i = s :: l) (hs : s'.size ≤ 9223372036854775807) :
    BusAt T (w.setCell ⟨g, o, none⟩ (.string s')) p mb c n (updQ q d i (s' :: l)) f := by
  have hrow := h.rows d i hi
  have hob : (val f d i).ownBlock = some g := by rw [hv]; rfl
  obtain ⟨es, cl, hmb⟩ := MapAt.heap h.map
  have hgm : g ≠ mb := fun e => own_ne_map hrow hmb (by rw [hob, e])
  have hgp : g ≠ p := fun e => own_ne_cells hrow h.cells (by decide) (by rw [hob, e])
  have hoth : ∀ k, k ≠ g → (w.setCell ⟨g, o, none⟩ (.string s')).heap[k]? = w.heap[k]? := fun k hk => Below.heap_setCell _ _ _ _ hk
  have hin : 0 ≤ i ∧ i < (n : Int) := by
    by_cases hin : 0 ≤ i ∧ i < (n : Int)
    · exact hin
    · have := h.out d i hin
      rw [hq] at this
      cases this
  refine ⟨h.tp, h.tm, fun k hk => by rw [show (w.setCell ⟨g, o, none⟩ (.string s')).heap.size = w.heap.size from by simp [World.setCell]]; exact h.lt k hk, (hoth p hgp.symm).trans h.cells, h.map.same (hoth mb hgm.symm), ?_, h.apart, ?_, ?_, ?_, h.n1, h.n16⟩
  · intro d' i' hi'
    by_cases hk : (d, i) = (d', i')
    · injection hk with e1 e2
      subst e1; subst e2
      rw [updQ_same, hv]
      rw [hv, hq] at hrow
      exact row_set hrow
    · rw [updQ_other hk]
      exact (h.rows d' i' hi').same (fun k hk2 => hoth k (fun e => h.apart d i d' i' hi hi' hk g hob (by rw [hk2, e])))
  · intro d' i' ho
    have hk : (d, i) ≠ (d', i') := fun e => by injection e with _ e2; subst e2; exact ho hin
    rw [updQ_other hk]
    exact h.out d' i' ho
  · intro d' i'
    by_cases hk : (d, i) = (d', i')
    · injection hk with e1 e2
      subst e1; subst e2
      rw [updQ_same]
      have := h.short d i
      rw [hq] at this
      exact this
    · rw [updQ_other hk]
      exact h.short d' i'
  · intro d' i' x hx
    by_cases hk : (d, i) = (d', i')
    · injection hk with e1 e2
      subst e1; subst e2
      rw [updQ_same] at hx
      rcases List.mem_cons.1 hx with rfl | hx
      · exact hs
      · exact h.sizes d i x (by rw [hq]; exact List.mem_cons_of_mem _ hx)
    · rw [updQ_other hk] at hx
      exact h.sizes _ _ x hx
/-- The first string of a row, turned at some places. -/
def spoilQ (q : Bool → Int → List ByteArray) (d : Bool) (i : Int) (m : List Int) : Bool → Int → List ByteArray :=
  match q d i with
  | [] => q
  | s :: l => updQ q d i (⟨(turnL (L s) m).toArray⟩ :: l)
set_option maxHeartbeats 4000000 in
set_option maxRecDepth 1000000 in
theorem spoilW (T : Nat → Prop) (p mb c n : Nat) (q : Bool → Int → List ByteArray) (f : Lit → Option Value) (w : World) (h : BusAt T w p mb c n q f) (d : Bool) (i : Int) (hi : wfi i) (A : Option Addr) (na ca : Nat) (m : List Int) (hr : (Kd.int .i64).C w A na m) (hc : na ≤ ca) :
    Calls Try.prog 17 #[.pointer (some ⟨p, 0, none⟩), .bool d, .int .i64 i, .slice A na ca] w fun e w' => e = .returned (.bool (decide (0 < (q d i).length))) ∧ Went T w p mb c n (spoilQ q d i m) w' := by
  have HH := Aside0.mk h
  have HR := Aside0.mk hr
  clear hr
  obtain ⟨l0, HQ⟩ : ∃ l0, Aside0 (q d i = l0) := ⟨_, ⟨rfl⟩⟩
  go_enter Try.func17, Try.ntmps17
  go_wp2_with fail
  refine (lenW T p mb c n q f w HH.out d i hi).mono ?_
  rintro e w1 ⟨rfl, rfl⟩
  rw [HQ.out]
  cases l0 with
  | nil =>
    have HS : Aside0 (spoilQ q d i m = q) := ⟨by unfold spoilQ; rw [HQ.out]⟩
    clear h
    go_wp2
    go_ret
    rw [HQ.out]
    refine ⟨rfl, ?_⟩
    rw [HS.out]
    exact Went.still HH.out (Below.refl _ _)
  | cons s l =>
    have HS : Aside0 (spoilQ q d i m = updQ q d i (⟨(turnL (L s) m).toArray⟩ :: l)) := ⟨by unfold spoilQ; rw [HQ.out]⟩
    have c1 := h.cell1
    have hl := h.look d i hi
    have hrow := h.rows d i hi
    rw [HQ.out] at hrow
    obtain ⟨A', cp, hv, _, _⟩ := hrow.shape
    rw [hv] at hl hrow
    obtain ⟨_, g, o, rfl, hg1, hgf, hglt, hgT⟩ := row_head hrow
    have HV := Aside0.mk hv
    have HGT := Aside0.mk hgT
    have hsz := h.sizes d i s (by rw [HQ.out]; exact List.mem_cons_self ..)
    clear hv h hrow hgT
    go_wp2_with fail
    refine (Flip.walkN s A na ca m _ hsz HR.out hc).mono ?_
    rintro e w2 ⟨rfl, hb⟩
    have hB2 := HH.out.below hb
    have hgf2 : w2.frozen? ⟨g, o, none⟩ = false := (World.frozen?_of_block (a := ⟨g, o, none⟩) (hb.block g hglt)).trans hgf
    have hg2 := pw_cell_below hb hg1
    have hz2 : (⟨(turnL (L s) m).toArray⟩ : ByteArray).size ≤ 9223372036854775807 := by rw [size_L, L_mk, turnL_length, ← size_L]; exact hsz
    have hsp := spoil_step (s' := ⟨(turnL (L s) m).toArray⟩) hB2 d i hi HV.out HQ.out hz2
    have HSP := Aside0.mk hsp
    have hkb : Kb T w (w2.setCell ⟨g, o, none⟩ (.string ⟨(turnL (L s) m).toArray⟩)) := ((Kb.refl T w).ofBelow hb).setCell (p := ⟨g, o, none⟩) (fun _ => HGT.out) _
    have HKB := Aside0.mk hkb
    clear hB2 hsp hkb hb hz2 hl c1 hg1 hgf
    go_wp2
    go_ret
    rw [HQ.out]
    refine ⟨rfl, ?_⟩
    rw [HS.out]
    exact ⟨T, c, f, HSP.out, Nat.le_refl _, HKB.out, fun k hk => Or.inl hk⟩
/-- A key taken out of the map. -/
theorem drop_step {T : Nat → Prop} {w w1 : World} {p mb c n : Nat} {q : Bool → Int → List ByteArray} {f : Lit → Option Value} (h : BusAt T w p mb c n q f) (d : Bool) (i : Int) (hi : wfi i)
    (hm : MapAt Try.prog 61 w1 mb c (upd f (keyL d i) none)) (hg : w.grownBy w1 (some mb)) (hs : w1.heap.size = w.heap.size) : BusAt T w1 p mb c n (updQ q d i []) (upd f (keyL d i) none) := by
  obtain ⟨es, cl, hmb⟩ := MapAt.heap h.map
  have hpm := p_ne_mb h
  have hvs : val (upd f (keyL d i) none) d i = .slice none 0 0 := by unfold val; rw [upd_same]; rfl
  refine ⟨h.tp, h.tm, fun k hk => by rw [hs]; exact h.lt k hk, (hg.block p (h.lt p h.tp) (fun e => hpm (Option.some.inj e))).trans h.cells, hm, ?_, ?_, ?_, ?_, ?_, h.n1, h.n16⟩
  · intro d' i' hi'
    by_cases hk : (d, i) = (d', i')
    · injection hk with e1 e2
      subst e1; subst e2
      rw [hvs, updQ_same]
      exact ownsAt_nil _ _ _ _
    · rw [val_upd_other hi hi' hk, updQ_other hk]
      exact (h.rows d' i' hi').kept hg (Or.inr (own_ne_map (h.rows d' i' hi') hmb))
  · intro d1 i1 d2 i2 h1 h2 hne k hk
    by_cases e1 : (d, i) = (d1, i1)
    · injection e1 with e1 e2
      subst e1; subst e2
      rw [hvs] at hk
      cases hk
    · rw [val_upd_other hi h1 e1] at hk
      by_cases e2 : (d, i) = (d2, i2)
      · injection e2 with e2 e3
        subst e2; subst e3
        rw [hvs]
        intro e; cases e
      · rw [val_upd_other hi h2 e2]
        exact h.apart d1 i1 d2 i2 h1 h2 hne k hk
  · intro d' i' ho
    by_cases hk : (d, i) = (d', i')
    · injection hk with e1 e2
      subst e1; subst e2
      rw [updQ_same]
    · rw [updQ_other hk]
      exact h.out d' i' ho
  · intro d' i'
    by_cases hk : (d, i) = (d', i')
    · injection hk with e1 e2
      subst e1; subst e2
      rw [updQ_same]
      exact Nat.zero_le _
    · rw [updQ_other hk]
      exact h.short d' i'
  · intro d' i' x hx
    by_cases hk : (d, i) = (d', i')
    · injection hk with e1 e2
      subst e1; subst e2
      rw [updQ_same] at hx
      exact (List.not_mem_nil hx).elim
    · rw [updQ_other hk] at hx
      exact h.sizes _ _ x hx
/-- Behind k of the two rows of a Clear: the rows; how many were on their way. -/
def clrQ (q : Bool → Int → List ByteArray) (i : Int) : Nat → (Bool → Int → List ByteArray)
  | 0 => q
  | 1 => updQ q true i []
  | _ => updQ (updQ q true i []) false i []
def clrN (q : Bool → Int → List ByteArray) (i : Int) : Nat → Nat
  | 0 => 0
  | 1 => (q true i).length
  | _ => (q true i).length + (q false i).length
theorem idx0 (w : World) : (Instr.index 65 (.agg #[.bool true, .bool false]) (.int .i64 0)).run Try.prog w = .ok (.bool true) w := by kernel_rfl
theorem idx1 (w : World) : (Instr.index 65 (.agg #[.bool true, .bool false]) (.int .i64 1)).run Try.prog w = .ok (.bool false) w := by kernel_rfl
theorem clr_other (q : Bool → Int → List ByteArray) (i : Int) : clrQ q i 1 false i = q false i := updQ_other (by simp)
set_option maxHeartbeats 4000000 in
set_option maxRecDepth 1000000 in
theorem clearW (T : Nat → Prop) (p mb c n : Nat) (q : Bool → Int → List ByteArray) (f : Lit → Option Value) (w : World) (h : BusAt T w p mb c n q f) (i : Int) (hi : wfi i) :
    Calls Try.prog 19 #[.pointer (some ⟨p, 0, none⟩), .int .i64 i] w fun e w' => e = .returned (.int .i64 (clrN q i 2 : Int)) ∧ Went T w p mb c n (clrQ q i 2) w' := by
  have HH := Aside0.mk h
  have hs0 := h.short true i
  have hs1 := h.short false i
  clear h
  go_enter Try.func19, Try.ntmps19
  go_wp2
  go_loopw [5, 9] (fun u x wr => ∃ k : Nat, k ≤ 2 ∧ x = .int .i64 k ∧ u = .int .i64 (clrN q i k : Int) ∧ Aside0 (Went T w p mb c n (clrQ q i k) wr)) (fun _ x _ => 2 - (intOf x).toNat)
  case atStart => exact ⟨0, Nat.zero_le _, rfl, rfl, ⟨Went.still HH.out (Below.refl _ _)⟩⟩
  case round =>
    obtain ⟨k, hk, rfl, rfl, HG⟩ := hrel
    by_cases hlt : k < 2
    · obtain ⟨T1, c1, f1, hb, hc1, hkb, hT1⟩ := HG.out
      have HB := Aside0.mk hb
      have HKB := Aside0.mk hkb
      have HT1 := Aside0.mk hT1
      have c1' := hb.cell1
      clear hb hkb hT1 HG
      have hk01 : k = 0 ∨ k = 1 := by omega
      rcases hk01 with rfl | rfl
      · have HN : Aside0 (clrN q i 1 = clrN q i 0 + (clrQ q i 0 true i).length) := ⟨by show (q true i).length = 0 + _; rw [Nat.zero_add]; rfl⟩
        have hix := idx0
        go_wp2_with fail
        refine (lenW T1 p mb c1 n _ f1 wr HB.out true i hi).mono ?_
        rintro e w2 ⟨rfl, rfl⟩
        have hz1 := HB.out.short true i
        have hz2 : clrN q i 0 ≤ 256 := Nat.zero_le _
        clear hix
        go_wp2_with (at_delete; refine wp_drop _ rfl _ _ 56 61 rfl 22 rowKeyed Try.underlying56 mb c1 f1 rfl HB.out.map _ _ rfl (keyRow true i hi) ?_; intro w3 hm3 hg3 hs3)
        have hd := drop_step HB.out true i hi hm3 hg3 hs3
        have HG2 : Aside0 (Went T w p mb c n (clrQ q i 1) w3) := ⟨⟨T1, c1, _, hd, hc1, HKB.out.grown hg3 (fun k hk hl => by cases hk; rcases HT1.out _ HB.out.tm with h | h; exact h; omega), HT1.out⟩⟩
        clear hm3 hg3 hs3 hd
        go_wp2
        exact ⟨⟨1, by omega, rfl, by rw [HN.out]; go_num, HG2⟩, by simp [intOf]⟩
      · have HN : Aside0 (clrN q i 2 = clrN q i 1 + (clrQ q i 1 false i).length) := ⟨by rw [clr_other]; rfl⟩
        have hix := idx1
        go_wp2_with fail
        refine (lenW T1 p mb c1 n _ f1 wr HB.out false i hi).mono ?_
        rintro e w2 ⟨rfl, rfl⟩
        have hz1 := HB.out.short false i
        have hz2 : clrN q i 1 ≤ 256 := hs0
        clear hix
        go_wp2_with (at_delete; refine wp_drop _ rfl _ _ 56 61 rfl 22 rowKeyed Try.underlying56 mb c1 f1 rfl HB.out.map _ _ rfl (keyRow false i hi) ?_; intro w3 hm3 hg3 hs3)
        have hd := drop_step HB.out false i hi hm3 hg3 hs3
        have HG2 : Aside0 (Went T w p mb c n (clrQ q i 2) w3) := ⟨⟨T1, c1, _, hd, hc1, HKB.out.grown hg3 (fun k hk hl => by cases hk; rcases HT1.out _ HB.out.tm with h | h; exact h; omega), HT1.out⟩⟩
        clear hm3 hg3 hs3 hd
        go_wp2
        exact ⟨⟨2, by omega, rfl, by rw [HN.out]; go_num, HG2⟩, by simp [intOf]⟩
    · obtain rfl : k = 2 := by omega
      go_wp2
      go_ret
      exact ⟨rfl, HG.out⟩
end Go.Proofs.Ytfopcnabcmdclaa.Bs
