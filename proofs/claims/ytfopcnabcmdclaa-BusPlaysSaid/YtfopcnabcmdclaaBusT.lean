/- The bus by its text, third part: Take, Spoil, Clear. -/
import Derived.Test.YtfopcnabcmdclaaBusX
namespace Go.Proofs.Ytfopcnabcmdclaa.Bs
open Go Go.RowKit Go.Proofs.YtfopcnabcmdclaaW.PrintWords Go.Proofs.YtfopcnabcmdclaaW.PrintLast Go.Proofs.YtfopcnabcmdclaaW.PrintMore Go.Proofs.Ytfopcnabcmdclaa.Str Go.Proofs.Ytfopcnabcmdclaa.Bits Go.Proofs.Ytfopcnabcmdclaa.Mp Go.Proofs.Ytfopcnabcmdclaa.Ra
set_option linter.unusedVariables false
/-- A row's slice made another one in its own block: the store. -/
theorem set_step {T : Nat → Prop} {w : World} {p mb c n : Nat} {q : Bool → Int → List ByteArray} {f : Lit → Option Value} (h : BusAt T w p mb c n q f) (hcn : c ≤ 1000000000) (d : Bool) (i : Int) (hi : wfi i) (v' : Value) (l : List ByteArray)
    (hv : Row w T v' l) (hbl : v'.ownBlock = (val f d i).ownBlock) (hin : ¬ (0 ≤ i ∧ i < (n : Int)) → l = []) (hl : l.length ≤ 256) (hsz : ∀ s ∈ l, s.size ≤ 9223372036854775807) :
    ∃ w3, (Instr.mapUpdate 56 (.map (some mb)) (.agg #[.bool d, .int .i64 i]) v').run Try.prog w = .ok () w3 ∧ Went T w p mb (c + 1) n (updQ q d i l) w3 := by
  obtain ⟨w3, hrun, hm3, hg3, hs3⟩ := store_law rowKeyed Try.underlying56 h.map (by unfold maxLen; omega) (keyRow d i hi) (val := v')
  obtain ⟨es, cl, hmb⟩ := MapAt.heap h.map
  have hpm := p_ne_mb h
  have hap : ∀ d' i', wfi i' → (d, i) ≠ (d', i') → ∀ k, v'.ownBlock = some k → (val f d' i').ownBlock ≠ some k := fun d' i' hi' hne k hk => h.apart d i d' i' hi hi' hne k (by rw [← hbl]; exact hk)
  refine ⟨w3, hrun, T, c + 1, upd f (keyL d i) (some v'), ?_, Nat.le_refl _, (Kb.refl T w).grown hg3 (fun k hk _ => by cases hk; exact h.tm), fun k hk => Or.inl hk⟩
  refine ⟨h.tp, h.tm, fun k hk => by rw [hs3]; exact h.lt k hk, (hg3.block p (h.lt p h.tp) (fun e => hpm (Option.some.inj e))).trans h.cells, hm3, ?_, ?_, ?_, ?_, ?_, h.n1, h.n16⟩
  · intro d' i' hi'
    by_cases hk : (d, i) = (d', i')
    · injection hk with e1 e2
      subst e1; subst e2
      rw [val_upd_same, updQ_same]
      exact hv.kept hg3 (Or.inr (own_ne_map hv hmb))
    · rw [val_upd_other hi hi' hk, updQ_other hk]
      exact (h.rows d' i' hi').kept hg3 (Or.inr (own_ne_map (h.rows d' i' hi') hmb))
  · intro d1 i1 d2 i2 h1 h2 hne k hk
    by_cases e1 : (d, i) = (d1, i1)
    · injection e1 with e1 e2
      subst e1; subst e2
      rw [val_upd_same] at hk
      rw [val_upd_other hi h2 hne]
      exact hap d2 i2 h2 hne k hk
    · rw [val_upd_other hi h1 e1] at hk
      by_cases e2 : (d, i) = (d2, i2)
      · injection e2 with e2 e3
        subst e2; subst e3
        rw [val_upd_same]
        exact fun e => hap d1 i1 h1 e1 k e hk
      · rw [val_upd_other hi h2 e2]
        exact h.apart d1 i1 d2 i2 h1 h2 hne k hk
  · intro d' i' ho
    by_cases hk : (d, i) = (d', i')
    · injection hk with e1 e2
      subst e1; subst e2
      rw [updQ_same]
      exact hin ho
    · rw [updQ_other hk]
      exact h.out d' i' ho
  · intro d' i'
    by_cases hk : (d, i) = (d', i')
    · injection hk with e1 e2
      subst e1; subst e2
      rw [updQ_same]
      exact hl
    · rw [updQ_other hk]
      exact h.short d' i'
  · intro d' i' x hx
    by_cases hk : (d, i) = (d', i')
    · injection hk with e1 e2
      subst e1; subst e2
      rw [updQ_same] at hx
      exact hsz x hx
    · rw [updQ_other hk] at hx
      exact h.sizes _ _ x hx
/-- The first string of a row. -/
theorem row_head {w : World} {T : Nat → Prop} {A : Option Addr} {c n : Nat} {s : ByteArray} {l : List ByteArray} (h : Row w T (.slice A n c) (s :: l)) : n = l.length + 1 ∧ ∃ g o, A = some ⟨g, o, none⟩ ∧ w.cell? ⟨g, o, none⟩ = some (.string s) ∧ w.frozen? ⟨g, o, none⟩ = false ∧ g < w.heap.size ∧ T g := by
  obtain ⟨A', c', e, _⟩ := h.shape
  injection e with e1 e2 e3
  subst e1; subst e2; subst e3
  obtain ⟨g, o, rfl, h1, h2⟩ := h.cell 0 (.string s) rfl
  have hl := h.lt g rfl
  refine ⟨rfl, g, o * 1, rfl, h1, h2, hl.2, hl.1⟩
/-- A row without its first string. -/
theorem row_tail {w : World} {T : Nat → Prop} {g o cp : Nat} {s : ByteArray} {l : List ByteArray} (h : Row w T (.slice (some ⟨g, o, none⟩) (s :: l).length cp) (s :: l)) : Row w T (.slice (if cp = 1 then some ⟨g, o, none⟩ else some ⟨g, o + 1, none⟩) l.length (cp - 1)) l := by
  obtain ⟨h1, h2⟩ := h
  refine ⟨by rw [strs_length, Nat.mul_one], .inr ?_⟩
  have hl : (s :: l).length = l.length + 1 := rfl
  rcases h2 with ⟨_, h2⟩ | ⟨g', o', cap, cur, hv, ht, hg, hn, hc, hcs, htake⟩
  · rw [hl] at h2; omega
  · injection hv with e1 e2 e3
    injection e1 with e1
    injection e1 with e1 e4
    subst e1; subst e3
    obtain rfl : o = o' := by omega
    rw [Nat.mul_one, Nat.mul_one] at htake
    rw [Nat.mul_one] at hcs
    have ht2 : (cur.toList.drop (o + 1)).take l.length = strs l := by
      have e := congrArg (List.drop 1) htake
      rw [List.drop_take, List.drop_drop, hl] at e
      simpa [strs] using e
    by_cases hcp : cp = 1
    · have hl0 : l.length = 0 := by rw [hl] at hn; omega
      obtain rfl : l = [] := List.eq_nil_of_length_eq_zero hl0
      rw [if_pos hcp]
      refine ⟨g, o, cp - 1, cur, by rw [Nat.mul_one], ht, hg, Nat.zero_le _, by omega, by rw [Nat.mul_one]; omega, by simp [strs]⟩
    · rw [if_neg hcp]
      refine ⟨g, o + 1, cp - 1, cur, by rw [Nat.mul_one], ht, hg, by rw [hl] at hn; omega, by omega, by rw [Nat.mul_one]; omega, by rw [Nat.mul_one, Nat.mul_one]; exact ht2⟩
set_option maxHeartbeats 4000000 in
set_option maxRecDepth 1000000 in
theorem takeW (T : Nat → Prop) (p mb c n : Nat) (q : Bool → Int → List ByteArray) (f : Lit → Option Value) (w : World) (h : BusAt T w p mb c n q f) (hcn : c ≤ 999999900) (d : Bool) (i : Int) (hi : wfi i) :
    Calls Try.prog 12 #[.pointer (some ⟨p, 0, none⟩), .bool d, .int .i64 i] w fun e w' => e = .returned (.tuple #[.string ((q d i).headD ⟨#[]⟩), .bool (decide (0 < (q d i).length))]) ∧ Went T w p mb (c + 1) n (updQ q d i (q d i).tail) w' := by
  have HH := Aside0.mk h
  obtain ⟨l0, HQ⟩ : ∃ l0, Aside0 (q d i = l0) := ⟨_, ⟨rfl⟩⟩
  go_enter Try.func12, Try.ntmps12
  go_wp2_with fail
  refine (lenW T p mb c n q f w HH.out d i hi).mono ?_
  rintro e w1 ⟨rfl, rfl⟩
  rw [HQ.out]
  cases l0 with
  | nil =>
    have hsame : updQ q d i ([] : List ByteArray).tail = q := by
      funext d' i'
      unfold updQ
      split
      · rename_i e
        rw [e.1, e.2, HQ.out]; rfl
      · rfl
    have HS := Aside0.mk hsame
    clear hsame h
    go_wp2
    go_ret2
    rw [HQ.out]
    refine ⟨rfl, ?_⟩
    try rw [HS.out]
    obtain ⟨T', c', f', x1, x2, x3, x4⟩ := Went.still HH.out (Below.refl _ _)
    exact ⟨T', c', f', x1, by omega, x3, x4⟩
  | cons s l =>
    have hb0 : Below w.heap.size w (w.alloc (.cells #[.bool d, .int .i64 i] 61)) := (Below.refl _ w).alloc (Nat.le_refl _) _
    have hW : BusAt T (w.alloc (.cells #[.bool d, .int .i64 i] 61)) p mb c n q f := h.below hb0
    have HBX := Aside0.mk (heap_alloc_new w (.cells #[.bool d, .int .i64 i] 61))
    have HSZ : Aside0 ((w.alloc (.cells #[.bool d, .int .i64 i] 61)).heap.size = w.heap.size + 1) := ⟨by show (w.heap.push _).size = _; simp⟩
    have c1 := hW.cell1
    have hl : ∀ k, (Instr.lookup 56 (.map (some mb)) (.agg #[.bool d, .int .i64 i]) false).run Try.prog ((w.alloc (.cells #[.bool d, .int .i64 i] 61)).drewN k) = .ok (val f d i) ((w.alloc (.cells #[.bool d, .int .i64 i] 61)).drewN k) := fun k => (hW.below (pw_below_drewN (Below.refl _ _) k)).look d i hi
    have hrow := hW.rows d i hi
    rw [HQ.out] at hrow
    obtain ⟨A, cp, hv, _, _⟩ := hrow.shape
    rw [hv] at hl hrow
    obtain ⟨_, g, o, rfl, hg1, _, _, _⟩ := row_head hrow
    have HV := Aside0.mk hv
    have HW := Aside0.mk hW
    have HB0 := Aside0.mk hb0
    clear hv hW hb0 h hrow
    go_wp2_with fail
    go_quiet (fail)
    have hbx : Below (w.alloc (.cells #[.bool d, .int .i64 i] 61)).heap.size (w.alloc (.cells #[.bool d, .int .i64 i] 61)) ((w.alloc (.cells #[.bool d, .int .i64 i] 61)).drewN nq) := pw_below_drewN (Below.refl _ _) _
    have HX := Aside0.mk (HW.out.below hbx)
    have hbx2 := (hbx.block w.heap.size (by rw [HSZ.out]; omega)).trans HBX.out
    have HB2 := Aside0.mk (below_step HB0.out hbx)
    generalize (w.alloc (.cells #[.bool d, .int .i64 i] 61)).drewN nq = wx at HX hbx2 HB2 hbx ⊢
    clear hl c1 HW HB0 HBX HSZ hbx hg1
    have c1 := HX.out.cell1
    have b0 : wx.cell? ⟨w.heap.size, 0, none⟩ = some (.bool d) := by rw [Lib.cell_of_heap hbx2]; rfl
    have b1 : wx.cell? ⟨w.heap.size, 1, none⟩ = some (.int .i64 i) := by rw [Lib.cell_of_heap hbx2]; rfl
    have HXd : Aside0 (BusAt T wx.drew p mb c n q f) := ⟨HX.out.same (fun _ _ => rfl) (Nat.le_refl _)⟩
    have hl := HXd.out.look d i hi
    rw [HV.out] at hl
    have hrow := HXd.out.rows d i hi
    rw [HQ.out, HV.out] at hrow
    have ho' := row_tail hrow
    have hb' : (Value.slice (if cp = 1 then some ⟨g, o, none⟩ else some ⟨g, o + 1, none⟩) l.length (cp - 1)).ownBlock = some g := by split <;> rfl
    have h1l : (1 : Int) ≤ (l.length : Int) + 1 := by omega
    have hin : 0 ≤ i ∧ i < (n : Int) := by
      by_cases hin : 0 ≤ i ∧ i < (n : Int)
      · exact hin
      · have := HX.out.out d i hin
        rw [HQ.out] at this
        cases this
    have hsh := HX.out.short d i
    rw [HQ.out] at hsh
    obtain ⟨w3, hst, hw3⟩ := set_step HXd.out (by omega) d i hi _ l ho' (by rw [hb', HV.out]; rfl) (fun h => absurd hin h) (by have : (s :: l).length = l.length + 1 := rfl; omega) (fun x hx => HX.out.sizes d i x (by rw [HQ.out]; exact List.mem_cons_of_mem _ hx))
    have HW3 : Aside0 (Went T w p mb (c + 1) n (updQ q d i l) w3) := ⟨Went.trans (((Kb.refl T w).ofBelow HB2.out).drew) (fun k hk => Or.inl hk) (Nat.le_refl _) hw3⟩
    clear hrow hbx2 ho' hb' hw3 hin hsh
    go_wp2_with fail
    go_still_tail 12, (by kernel_rfl)
    change wpList _ _ _ _ _ wx.drew
    go_wp2
    all_goals
      go_ret2
      rw [HQ.out]
      exact ⟨rfl, HW3.out⟩
end Go.Proofs.Ytfopcnabcmdclaa.Bs
