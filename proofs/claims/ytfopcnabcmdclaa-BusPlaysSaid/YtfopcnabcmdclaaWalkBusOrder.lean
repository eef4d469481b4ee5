/- The law BusOrder by its own text: it answers true. -/
import Derived.Test.YtfopcnabcmdclaaBusO
import Derived.Deep.OwnRows
import Derived.Deep.SlicePairs
import Derived.OpenShut
namespace Go.Proofs.Ytfopcnabcmdclaa.Wk
open Go Go.RowKit Go.Proofs.YtfopcnabcmdclaaW.PrintWords Go.Proofs.YtfopcnabcmdclaaW.PrintLast Go.Proofs.YtfopcnabcmdclaaW.PrintMore Go.Proofs.Ytfopcnabcmdclaa.Str Go.Proofs.Ytfopcnabcmdclaa.Bits Go.Proofs.Ytfopcnabcmdclaa.Mp Go.Proofs.Ytfopcnabcmdclaa.Ra Go.Proofs.Ytfopcnabcmdclaa.Bs
set_option linter.unusedVariables false
theorem infoInt : (Try.prog.info? 3).map (fun i => (i.zero, i.size, i.bytes)) = some (some (.int .i64 0), 1, 8) := by kernel_rfl
/-- Nothing below B is turned by a call on the bus. -/
theorem below_kb {B : Nat} {F : Nat → Prop} {a b w : World} (h : Below B w a) (hk : Kb (fun k => ¬ F k) a b) (hB : B ≤ a.heap.size) (hF : ∀ k, k < B → F k) : Below B w b :=
  h.trans (hk.below hB (fun k hk => by
    by_cases h : B ≤ k
    · exact h
    · exact absurd (hF k (by omega)) hk))
/-- The counts of those who took, as a row. -/
def nxCells (n : Nat) (nx : Nat → Nat) : Array Value := ((List.range n).map fun j => Value.int .i64 (nx j : Int)).toArray
theorem nx_get (n : Nat) (nx : Nat → Nat) (i : Nat) (h : i < n) : (nxCells n nx)[i]? = some (.int .i64 (nx i : Int)) := by simp [nxCells, h]
theorem nx_set (n : Nat) (nx : Nat → Nat) (i : Nat) (v : Nat) : (nxCells n nx).setIfInBounds i (.int .i64 (v : Int)) = nxCells n (fun j => if j = i then v else nx j) := by
  apply Array.ext_getElem?
  intro j
  rw [Array.getElem?_setIfInBounds]
  have hsz : ∀ f, (nxCells n f).size = n := fun f => by simp [nxCells]
  by_cases hj : j < n
  · have e1 := nx_get n nx j hj
    have e2 := nx_get n (fun j => if j = i then v else nx j) j hj
    rw [e2]
    by_cases e : i = j
    · subst e
      rw [if_pos rfl, if_pos (by rw [hsz]; exact hj), if_pos rfl]
    · rw [if_neg e, e1, if_neg (fun h => e h.symm)]
  · have h1 : (nxCells n nx)[j]? = none := Array.getElem?_eq_none (by rw [hsz]; omega)
    have h2 : (nxCells n (fun j => if j = i then v else nx j))[j]? = none := Array.getElem?_eq_none (by rw [hsz]; omega)
    rw [h1, h2]
    split
    · rename_i e
      rw [if_neg (by rw [hsz]; omega)]
    · rfl
theorem nx_made (n : Nat) : madeCells #[Value.int .i64 0] n = nxCells n (fun _ => 0) := by
  apply Array.ext'
  rw [toList_madeCells_one]
  simp [nxCells, List.map_const']
theorem setCell_size (w : World) (p : Addr) (v : Value) : (w.setCell p v).heap.size = w.heap.size := by simp [World.setCell]
theorem drop_more (lb : List ByteArray) (j : Nat) (h : j < lb.length) : lb.drop j = lb[j] :: lb.drop (j + 1) := List.drop_eq_getElem_cons h
/-- In the midst of the takes: terminal i has taken nx i. -/
def Mid (q : Bool → Int → List ByteArray) (n : Nat) (lb : List ByteArray) (nx : Nat → Nat) : Prop := ∀ i : Nat, i < n → q true (i : Int) = lb.drop (nx i) ∧ nx i ≤ lb.length ∧ q false (i : Int) = upL lb n lb.length i
theorem mid_start (q : Bool → Int → List ByteArray) (n : Nat) (lb : List ByteArray) (h : Sent q n lb lb.length) : Mid q n lb (fun _ => 0) := fun i hi => by
  obtain ⟨h1, h2⟩ := h i hi
  exact ⟨by rw [h1, List.take_length]; rfl, Nat.zero_le _, h2⟩
theorem mid_take (q : Bool → Int → List ByteArray) (n : Nat) (lb : List ByteArray) (nx : Nat → Nat) (h : Mid q n lb nx) (i : Nat) (hi : i < n) (hl : nx i < lb.length) : Mid (updQ q true (i : Int) (q true (i : Int)).tail) n lb (fun j => if j = i then nx i + 1 else nx j) := by
  intro j hj
  obtain ⟨h1, h2, h3⟩ := h j hj
  by_cases e : j = i
  · subst e
    dsimp only
    rw [updQ_same, updQ_other (by simp), h1, if_pos rfl, drop_more lb _ hl]
    exact ⟨rfl, hl, h3⟩
  · dsimp only
    rw [updQ_other (by simp; omega), updQ_other (by simp), if_neg e]
    exact ⟨h1, h2, h3⟩
theorem mid_none (q : Bool → Int → List ByteArray) (n : Nat) (lb : List ByteArray) (nx : Nat → Nat) (h : Mid q n lb nx) (i : Nat) (hi : i < n) (hl : ¬ nx i < lb.length) : Mid (updQ q true (i : Int) (q true (i : Int)).tail) n lb nx := by
  intro j hj
  obtain ⟨h1, h2, h3⟩ := h j hj
  by_cases e : j = i
  · subst e
    rw [updQ_same, updQ_other (by simp), h1, List.drop_of_length_le (by omega)]
    exact ⟨rfl, h2, h3⟩
  · rw [updQ_other (by simp; omega), updQ_other (by simp)]
    exact ⟨h1, h2, h3⟩
set_option maxHeartbeats 8000000 in
set_option maxRecDepth 1000000 in
theorem orderW (n0 : Int) (A A3 : Option Addr) (c n c3 n3 : Nat) (w : World) (hn : n ≤ 9223372036854775807) (hc : n ≤ c) (hn3 : n3 ≤ 9223372036854775807) (hc3 : n3 ≤ c3)
    (hr : 0 < n → ∃ x, A = some x ∧ ∀ i, i < n → ∃ s : ByteArray, s.size ≤ 9223372036854775807 ∧ w.cell? (x.add i) = some (.string s)) (hr3 : 0 < n3 → ∃ x, A3 = some x ∧ ∀ i, i < n3 → ∃ v : Int, -9223372036854775808 ≤ v ∧ v ≤ 9223372036854775807 ∧ w.cell? (x.add i) = some (.int .i64 v)) :
    Calls Try.prog 3 #[.int .i64 n0, .slice A n c, .slice A3 n3 c3] w fun e w' => e = .returned (.bool true) ∧ Below w.heap.size w w' := by
  have HR := Aside0.mk hr
  have HR3 := Aside0.mk hr3
  clear hr hr3
  have hsz := size20_le n0
  go_enter Try.func3, Try.ntmps3
  go_wp2_with fail
  refine (newH n0 w).mono ?_
  rintro e w1 ⟨rfl, h1, b1⟩
  generalize size20 n0 = sz at h1 hsz
  have H1 := Aside0.mk h1
  have B1 := Aside0.mk b1
  clear h1 b1
  go_wp2_with fail
  refine (sizeH _ _ _ _ _ _ _ H1.out).mono ?_
  rintro e w2 ⟨rfl, rfl⟩
  go_wp2_with fail
  refine (wakes _).mono ?_
  rintro e w3 ⟨rfl, hb⟩
  have H2 := Aside0.mk (H1.out.below hb)
  have B2 := Aside0.mk (below_step B1.out hb)
  clear H1 B1 hb
  have hmm : max (min (n : Int) 100) 0 = ((min (n : Int) 100).toNat : Int) := by omega
  have hm2 : (min (n : Int) 100).toNat ≤ 100 := by omega
  have hmn : (min (n : Int) 100).toNat ≤ n := by omega
  obtain ⟨m, hm⟩ : ∃ m, (min (n : Int) 100).toNat = m := ⟨_, rfl⟩
  rw [hm] at hmm hm2 hmn
  obtain ⟨lb, hlb, hrl⟩ : ∃ lb : List ByteArray, lb.length = m ∧ (0 < m → ∃ x, A = some x ∧ ∀ i (h : i < lb.length), lb[i].size ≤ 9223372036854775807 ∧ w.cell? (x.add i) = some (.string lb[i])) := by
    by_cases h0 : 0 < m
    · obtain ⟨x, hA, hx⟩ := HR.out (by omega)
      obtain ⟨f, hf⟩ := Go.Deep.choose_lt (n := m) (fun i hi => hx i (by omega))
      exact ⟨(List.range m).map f, by simp, fun _ => ⟨x, hA, fun i hi => by simpa using hf i (by simpa using hi)⟩⟩
    · exact ⟨[], by simp; omega, fun h => absurd h h0⟩
  have HRL := Aside0.mk hrl
  have hs1 : ¬ ((sz : Int) < 1) := by omega
  have hmax : max 1 (sz : Int) = (sz : Int) := by omega
  clear hrl HR
  go_wp2_with fail
  go_loopw [38] (fun x wr => ∃ (k : Nat) (q : Bool → Int → List ByteArray), k ≤ m ∧ x = .int .i64 k ∧ Aside0 (Has (fun k => k < w.heap.size) wr (w.heap.size + 1) w.heap.size (20 * k) sz q) ∧ Aside0 (Sent q sz lb k) ∧ Aside0 (Below w.heap.size w wr)) (fun x _ => m - (intOf x).toNat)
  case atStart => exact ⟨0, _, Nat.zero_le _, rfl, H2, ⟨sent_zero _ _⟩, B2⟩
  case round =>
    clear H2 B2
    obtain ⟨k, q, hk, rfl, HH, HS, HB⟩ := hrel
    by_cases hlt : k < m
    · obtain ⟨ad, rfl, hcells⟩ := HRL.out (by omega)
      obtain ⟨hsz1, hx⟩ := hcells k (by omega)
      have hx2 : wr.cell? (ad.add k) = some (.string (lb[k]'(by omega))) := (HB.out.cell (World.block_lt_of_cell? w _ hx)).trans hx
      have HN := Aside0.mk (sent_next q sz lb k HS.out (by omega) (by omega))
      have HU := Aside0.mk (sent_up q sz lb k HS.out (by omega) (by omega) hsz.1 (lb[k]'(by omega)))
      have HD := Aside0.mk (sent_down q sz lb k HS.out (by omega) (lb[k]'(by omega)))
      obtain ⟨s, HSS⟩ : ∃ s, Aside0 (lb[k]'(by omega) = s) := ⟨_, ⟨rfl⟩⟩
      rw [HSS.out] at hx2 hsz1 HN HU HD
      clear hx hcells
      go_wp2_with fail
      refine (downH _ _ _ _ _ _ _ HH.out (by omega) s hsz1).mono ?_
      rintro e w4 ⟨he, h4, k4⟩
      rw [HD.out] at he
      subst he
      have H4 := Aside0.mk h4
      have B4 := Aside0.mk (below_kb HB.out k4 HB.out.size (fun k hk => hk))
      have hmod : ((k % sz : Nat) : Int) = ((k : Int) % (sz : Int)) := by omega
      rw [hmod] at HU HN
      have hml : k % sz < sz := Nat.mod_lt _ (by omega)
      have hwi : wfi ((k : Int) % (sz : Int)) := wfi_small (by omega) (by omega)
      clear h4 k4 hx2 hmod hml
      go_wp2_with fail
      refine (upH _ _ _ _ _ _ _ H4.out (by omega) _ hwi s hsz1).mono ?_
      rintro e w5 ⟨he, h5, k5⟩
      rw [HU.out] at he
      subst he
      have H5 := Aside0.mk (h5.le (show 20 * k + sz + 1 ≤ 20 * (k + 1) by omega))
      have B5 := Aside0.mk (below_kb B4.out k5 B4.out.size (fun k hk => hk))
      clear h5 k5 H4 B4 hwi
      go_wp2
      exact ⟨⟨k + 1, _, by omega, by go_num, H5, HN, B5⟩, by simp [intOf]; omega⟩
    · obtain rfl : k = m := by omega
      have hmk : ∀ W, (Instr.makeSlice 23 (.int .i64 (sz : Int)) (.int .i64 (sz : Int))).run Try.prog W = .ok (.slice (some ⟨W.heap.size, 0, none⟩) sz sz) (W.alloc (.cells (madeCells #[.int .i64 0] sz) 3)) := fun W => run_make_row' (P := Try.prog) 23 3 (.int .i64 0) 8 Try.underlying23 infoInt rfl .i64 .i64 sz (by omega) (by omega) W
      go_wp2_with fail
      rw [nx_made]
      have hg0 := heap_alloc_new wr (.cells (nxCells sz fun _ => 0) 3)
      have hb0 : Below wr.heap.size wr (wr.alloc (.cells (nxCells sz fun _ => 0) 3)) := (Below.refl _ _).alloc (Nat.le_refl _) _
      have hz0 : (wr.alloc (.cells (nxCells sz fun _ => 0) 3)).heap.size = wr.heap.size + 1 := by show (wr.heap.push _).size = _; simp
      have H0 : Aside0 (Has (fun j => j < w.heap.size ∨ j = wr.heap.size) (wr.alloc (.cells (nxCells sz fun _ => 0) 3)) (w.heap.size + 1) w.heap.size 4000 sz q) := ⟨(HH.out.more hb0 (fun j hj => by rcases hj with h | h; exact Or.inl h; exact Or.inr (by omega))).le (by omega)⟩
      have B0 := Aside0.mk (below_step HB.out hb0)
      have G0 := Aside0.mk hg0
      have GLE : Aside0 (w.heap.size ≤ wr.heap.size) := ⟨HB.out.size⟩
      have M0 := Aside0.mk (mid_start q sz lb (by rw [hlb]; exact HS.out))
      generalize wr.heap.size = g at H0 G0 GLE hz0 ⊢
      generalize wr.alloc (.cells (nxCells sz fun _ => 0) 3) = w6 at H0 B0 G0 ⊢
      have hmm3 : max (min (n3 : Int) 300) 0 = ((min (n3 : Int) 300).toNat : Int) := by omega
      have hm3 : (min (n3 : Int) 300).toNat ≤ 300 := by omega
      have hmn3 : (min (n3 : Int) 300).toNat ≤ n3 := by omega
      generalize (min (n3 : Int) 300).toNat = m3 at hmm3 hm3 hmn3
      try rw [hmm3]
      clear hmm3 hg0 hb0 hz0 HH HS HB hmk hk hlt hmm hm
      go_loopw [67] (fun x wy => ∃ (j : Nat) (q : Bool → Int → List ByteArray) (nx : Nat → Nat), j ≤ m3 ∧ x = .int .i64 j ∧ Aside0 (Has (fun j => j < w.heap.size ∨ j = g) wy (w.heap.size + 1) w.heap.size (4000 + j) sz q) ∧ Aside0 (Mid q sz lb nx) ∧ Aside0 (wy.heap[g]? = some (.cells (nxCells sz nx) 3 (0, 0))) ∧ Aside0 (Below w.heap.size w wy)) (fun x _ => m3 - (intOf x).toNat)
      case atStart => exact ⟨0, q, _, Nat.zero_le _, rfl, H0, M0, G0, B0⟩
      case round =>
        clear H0 M0 G0 B0
        obtain ⟨j, q, nx, hj, rfl, HH, HM, HG, HB⟩ := hrel
        by_cases hlt : j < m3
        · obtain ⟨ad3, rfl, hcells⟩ := HR3.out (by omega)
          obtain ⟨v, hv0, hv1, hx⟩ := hcells j (by omega)
          have hx2 : wr.cell? (ad3.add j) = some (.int .i64 v) := (HB.out.cell (World.block_lt_of_cell? w _ hx)).trans hx
          clear hx hcells
          obtain ⟨i, hvi⟩ : ∃ i : Nat, max 0 v % (sz : Int) = (i : Int) := ⟨(max 0 v % (sz : Int)).toNat, by have := Int.emod_nonneg (max 0 v) (show (sz : Int) ≠ 0 by omega); omega⟩
          have hisz : i < sz := by have := Int.emod_lt_of_pos (max 0 v) (show (0 : Int) < sz by omega); omega
          have hwi : wfi (i : Int) := wfi_small (by omega) (by omega)
          go_wp2_with fail
          rw [hvi]
          obtain ⟨hq1, hq2, hq3⟩ := HM.out i hisz
          have HQ1 := Aside0.mk hq1
          refine (takeH _ _ _ _ _ _ _ HH.out (by omega) true (i : Int) hwi).mono ?_
          rintro e w4 ⟨he, h4, k4⟩
          have hg4 : w4.heap[g]? = _ := (k4.block g (Array.getElem?_eq_some_iff.1 HG.out).1 (fun h => h (Or.inr rfl))).trans HG.out
          have H4 := Aside0.mk (h4.le (show 4000 + j + 1 ≤ 4000 + (j + 1) by omega))
          have B4 := Aside0.mk (below_kb HB.out k4 HB.out.size (fun k hk => Or.inl hk))
          have c4 : w4.cell? ⟨g, i, none⟩ = some (.int .i64 (nx i : Int)) := by rw [Lib.cell_of_heap hg4]; exact nx_get sz nx i hisz
          have f4 : w4.frozen? ⟨g, i, none⟩ = false := Lib.frozen_of_heap hg4 i
          have G4 := Aside0.mk hg4
          by_cases hl : nx i < lb.length
          · have HM2 := Aside0.mk (mid_take q sz lb nx HM.out i hisz hl)
            rw [HQ1.out, drop_more lb _ hl] at he
            replace he : e = .returned (.tuple #[.string lb[nx i], .bool true]) := he
            subst he
            obtain ⟨ad, rfl, hcells⟩ := HRL.out (by omega)
            obtain ⟨hsz1, hx⟩ := hcells (nx i) hl
            have hx4 : w4.cell? (ad.add (nx i)) = some (.string lb[nx i]) := (B4.out.cell (World.block_lt_of_cell? w _ hx)).trans hx
            generalize lb[nx i] = s at hx4
            obtain ⟨L2, HQ2⟩ : ∃ L2, Aside0 ((updQ q true (i : Int) (q true (i : Int)).tail true (i : Int)).length = L2) := ⟨_, ⟨rfl⟩⟩
            have hL2 : (L2 : Int) = (k : Int) - ((nx i : Int) + 1) := by
              rw [← HQ2.out, updQ_same, HQ1.out, drop_more lb _ hl]
              show (((lb.drop (nx i + 1)).length : Nat) : Int) = _
              rw [List.length_drop]
              omega
            have hlk : nx i < k := by omega
            clear h4 k4 hx hcells hx2 hg4 hq1 hq2 hq3 hvi hv0 hv1 hsz1
            go_wp2_with fail
            have hg5 : (w4.setCell ⟨g, i, none⟩ (.int .i64 ((nx i : Int) + 1))).heap[g]? = some (.cells (nxCells sz (fun j => if j = i then nx i + 1 else nx j)) 3 (0, 0)) := by
              rw [heap_setAt G4.out, show ((nx i : Int) + 1) = ((nx i + 1 : Nat) : Int) from by omega, nx_set]
            have H5 := Aside0.mk (H4.out.kept ((Kb.refl (fun j => j < w.heap.size ∨ j = g) w4).setCell (p := ⟨g, i, none⟩) (fun _ => Or.inr rfl) (.int .i64 ((nx i : Int) + 1))))
            have B5 := Aside0.mk (B4.out.setCell (p := ⟨g, i, none⟩) GLE.out (.int .i64 ((nx i : Int) + 1)))
            have c5 : (w4.setCell ⟨g, i, none⟩ (.int .i64 ((nx i : Int) + 1))).cell? ⟨g, i, none⟩ = some (.int .i64 ((nx i : Int) + 1)) := by
              rw [Lib.cell_of_heap hg5, nx_get sz _ i hisz, if_pos rfl]
              rfl
            have G5 := Aside0.mk hg5
            generalize w4.setCell ⟨g, i, none⟩ (.int .i64 ((nx i : Int) + 1)) = w5 at H5 B5 c5 G5 ⊢
            clear c4 f4 hx4 hg5 H4 B4 G4 HQ1 HM HH HG HB
            have HLEN : Aside0 (∀ m, Calls Try.prog 13 #[.pointer (some ⟨w.heap.size + 1, 0, none⟩), .bool true, .int .i64 (i : Int)] (w5.drewN m) fun e w' => e = .returned (.int .i64 (L2 : Int)) ∧ w' = w5.drewN m) := ⟨fun m => by
              rw [← HQ2.out]
              exact (lenH _ _ _ _ _ _ _ (H5.out.below (pw_below_drewN (Below.refl _ _) _)) true (i : Int) hwi).mono (fun e w' h => ⟨h.1, h.2.symm⟩)⟩
            go_quiet ((go_at_call 13; refine Calls.quiet_of_same (HLEN.out _)))
            have H6 := Aside0.mk (H5.out.below (pw_below_drewN (Below.refl w5.heap.size w5) nq))
            have G6 : Aside0 ((w5.drewN nq).heap[g]? = some (.cells (nxCells sz (fun j => if j = i then nx i + 1 else nx j)) 3 (0, 0))) := ⟨((pw_below_drewN (Below.refl w5.heap.size w5) nq).block g (Array.getElem?_eq_some_iff.1 G5.out).1).trans G5.out⟩
            have B6 := Aside0.mk (pw_below_drewN B5.out nq)
            go_wp2
            exact ⟨⟨j + 1, _, _, by omega, by go_num, H6, HM2, G6, B6⟩, by simp [intOf]; omega⟩
          · have HM2 := Aside0.mk (mid_none q sz lb nx HM.out i hisz hl)
            have hnk : nx i = lb.length := by omega
            rw [HQ1.out, List.drop_of_length_le (by omega)] at he
            replace he : e = .returned (.tuple #[.string ⟨#[]⟩, .bool false]) := he
            subst he
            obtain ⟨L2, HQ2⟩ : ∃ L2, Aside0 ((updQ q true (i : Int) (q true (i : Int)).tail true (i : Int)).length = L2) := ⟨_, ⟨rfl⟩⟩
            have hL2 : (L2 : Int) = (k : Int) - (nx i : Int) := by
              rw [← HQ2.out, updQ_same, HQ1.out, List.drop_of_length_le (by omega)]
              show (0 : Int) = _
              omega
            have hlk : ¬ ((nx i : Int) < (k : Int)) := by omega
            clear h4 k4 hx2 hg4 hq1 hq2 hq3 hvi hv0 hv1 hl
            go_wp2_with fail
            clear HQ1 HM HH HG HB
            have HLEN : Aside0 (∀ m, Calls Try.prog 13 #[.pointer (some ⟨w.heap.size + 1, 0, none⟩), .bool true, .int .i64 (i : Int)] (w4.drewN m) fun e w' => e = .returned (.int .i64 (L2 : Int)) ∧ w' = w4.drewN m) := ⟨fun m => by
              rw [← HQ2.out]
              exact (lenH _ _ _ _ _ _ _ (H4.out.below (pw_below_drewN (Below.refl _ _) _)) true (i : Int) hwi).mono (fun e w' h => ⟨h.1, h.2.symm⟩)⟩
            go_quiet ((go_at_call 13; refine Calls.quiet_of_same (HLEN.out _)))
            have H6 := Aside0.mk (H4.out.below (pw_below_drewN (Below.refl w4.heap.size w4) nq))
            have G6 : Aside0 ((w4.drewN nq).heap[g]? = some (.cells (nxCells sz nx) 3 (0, 0))) := ⟨((pw_below_drewN (Below.refl w4.heap.size w4) nq).block g (Array.getElem?_eq_some_iff.1 G4.out).1).trans G4.out⟩
            have B6 := Aside0.mk (pw_below_drewN B4.out nq)
            go_wp2
            exact ⟨⟨j + 1, _, _, by omega, by go_num, H6, HM2, G6, B6⟩, by simp [intOf]; omega⟩
        · have H7 := Aside0.mk (HH.out.le (show 4000 + j ≤ 5000 by omega))
          have U7 : Aside0 (∀ i : Nat, 0 ≤ i → i < sz → q false (i : Int) = upL lb sz lb.length i) := ⟨fun i _ hi => (HM.out i hi).2.2⟩
          have B7 := HB
          clear HH HM HB HG HR3
          go_wp2_with fail
          clear hlt hj
          go_loopw [126] (fun x wz => ∃ (y : Nat) (q : Bool → Int → List ByteArray), y ≤ k ∧ x = .int .i64 y ∧ Aside0 (Has (fun j => j < w.heap.size ∨ j = g) wz (w.heap.size + 1) w.heap.size (5000 + y) sz q) ∧ Aside0 (∀ i : Nat, y ≤ i → i < sz → q false (i : Int) = upL lb sz lb.length i) ∧ Aside0 (Below w.heap.size w wz)) (fun x _ => k - (intOf x).toNat)
          case atStart => exact ⟨0, q, Nat.zero_le _, rfl, H7, U7, B7⟩
          case round =>
            clear H7 U7 B7
            obtain ⟨y, q, hy, rfl, HH, HU, HB⟩ := hrel
            by_cases hlt : y < k
            · obtain ⟨ad, rfl, hcells⟩ := HRL.out (by omega)
              obtain ⟨hsz1, hx⟩ := hcells y (by omega)
              have hx2 : wr.cell? (ad.add y) = some (.string (lb[y]'(by omega))) := (HB.out.cell (World.block_lt_of_cell? w _ hx)).trans hx
              have hgd : lb.getD y ⟨#[]⟩ = lb[y]'(by omega) := by rw [List.getD_eq_getElem?_getD, List.getElem?_eq_getElem (by omega : y < lb.length)]; rfl
              have HGD := Aside0.mk hgd
              obtain ⟨s, HSS⟩ : ∃ s, Aside0 (lb[y]'(by omega) = s) := ⟨_, ⟨rfl⟩⟩
              rw [HSS.out] at hx2
              clear hx hcells hsz1 hgd
              by_cases hys : y < sz
              · obtain ⟨r, hr⟩ := upL_head lb sz y hys lb.length (by omega)
                have HQF : Aside0 (q false (y : Int) = s :: r) := ⟨by rw [HU.out y (Nat.le_refl _) hys, hr, HGD.out, HSS.out]⟩
                clear hr
                go_wp2_with fail
                refine (takeH _ _ _ _ _ _ _ HH.out (by omega) false (y : Int) (wfi_small (by omega) (by omega))).mono ?_
                rintro e w4 ⟨he, h4, k4⟩
                rw [HQF.out] at he
                replace he : e = .returned (.tuple #[.string s, .bool true]) := he
                subst he
                have H4 := Aside0.mk (h4.le (show 5000 + y + 1 ≤ 5000 + (y + 1) by omega))
                have B4 := Aside0.mk (below_kb HB.out k4 HB.out.size (fun k hk => Or.inl hk))
                have U4 : Aside0 (∀ i : Nat, y + 1 ≤ i → i < sz → updQ q false (y : Int) (q false (y : Int)).tail false (i : Int) = upL lb sz lb.length i) := ⟨fun i h1 h2 => by rw [updQ_other (by simp; omega)]; exact HU.out i (by omega) h2⟩
                clear h4 k4 HH HB HU hx2
                go_wp2
                exact ⟨⟨y + 1, _, by omega, by go_num, H4, U4, B4⟩, by simp [intOf]; omega⟩
              · have H4 := Aside0.mk (HH.out.le (show 5000 + y ≤ 5000 + (y + 1) by omega))
                have U4 : Aside0 (∀ i : Nat, y + 1 ≤ i → i < sz → q false (i : Int) = upL lb sz lb.length i) := ⟨fun i h1 h2 => absurd h2 (by omega)⟩
                clear HH HU
                go_wp2
                exact ⟨⟨y + 1, _, by omega, by go_num, H4, U4, HB⟩, by simp [intOf]; omega⟩
            · go_wp2
              go_ret
              exact ⟨rfl, HB.out⟩
theorem BusOrder (a0 : Int) (a1 : Option Addr) (len1 cap1 : Nat) (z1 : List ByteArray) (a2 : Option Addr) (len2 cap2 : Nat) (z2 : List Int) (w : World) (w0 : (Lit.int .i64 a0).wf = true)
    (w1 : (a1 = none ∧ len1 = 0 ∧ cap1 = 0 ∧ z1 = []) ∨ ∃ x, a1 = some x ∧ len1 ≤ cap1 ∧ cap1 ≤ maxLen ∧ z1.length = cap1 ∧ (∀ i, i < z1.length → w.cell? (x.add i) = some (.string (z1.getD i ByteArray.empty))) ∧ ∀ s ∈ z1, s.size ≤ maxLen)
    (w2 : (a2 = none ∧ len2 = 0 ∧ cap2 = 0 ∧ z2 = []) ∨ ∃ x, a2 = some x ∧ len2 ≤ cap2 ∧ cap2 ≤ maxLen ∧ z2.length = cap2 ∧ (∀ i, i < z2.length → w.cell? (x.add i) = some (.int .i64 (z2.getD i 0))) ∧ ∀ n ∈ z2, (Lit.int .i64 n).wf = true) (y2 : len2 * 8 ≤ 140737488351232) :
    Calls Try.prog 3 #[.int .i64 a0, .slice a1 len1 cap1, .slice a2 len2 cap2] w fun e w' => e = .returned (.bool true) ∧ Below w.heap.size w w' := by
  have k1 : len1 ≤ 9223372036854775807 ∧ len1 ≤ cap1 ∧ (0 < len1 → ∃ x, a1 = some x ∧ ∀ i, i < len1 → ∃ s : ByteArray, s.size ≤ 9223372036854775807 ∧ w.cell? (x.add i) = some (.string s)) := by
    rcases w1 with ⟨rfl, rfl, rfl, rfl⟩ | ⟨x, rfl, h1, h2, h3, h4, h5⟩
    · exact ⟨by omega, by omega, fun h => absurd h (by omega)⟩
    · unfold maxLen at h2 h5
      refine ⟨by omega, h1, fun _ => ⟨x, rfl, fun i hi => ⟨z1.getD i ByteArray.empty, ?_, h4 i (by omega)⟩⟩⟩
      rw [List.getD_eq_getElem?_getD, List.getElem?_eq_getElem (by omega : i < z1.length)]
      exact h5 _ (List.getElem_mem _)
  have k2 : len2 ≤ 9223372036854775807 ∧ len2 ≤ cap2 ∧ (0 < len2 → ∃ x, a2 = some x ∧ ∀ i, i < len2 → ∃ v : Int, -9223372036854775808 ≤ v ∧ v ≤ 9223372036854775807 ∧ w.cell? (x.add i) = some (.int .i64 v)) := by
    rcases w2 with ⟨rfl, rfl, rfl, rfl⟩ | ⟨x, rfl, h1, h2, h3, h4, h5⟩
    · exact ⟨by omega, by omega, fun h => absurd h (by omega)⟩
    · unfold maxLen at h2
      refine ⟨by omega, h1, fun _ => ⟨x, rfl, fun i hi => ⟨z2.getD i 0, ?_, ?_, h4 i (by omega)⟩⟩⟩
      · rw [List.getD_eq_getElem?_getD, List.getElem?_eq_getElem (by omega : i < z2.length)]
        exact (bounds_i64 (h5 _ (List.getElem_mem _))).1
      · rw [List.getD_eq_getElem?_getD, List.getElem?_eq_getElem (by omega : i < z2.length)]
        exact (bounds_i64 (h5 _ (List.getElem_mem _))).2
  exact orderW a0 a1 a2 cap1 len1 cap2 len2 w k1.1 k1.2.1 k2.1 k2.2.1 k1.2.2 k2.2.2
end Go.Proofs.Ytfopcnabcmdclaa.Wk
