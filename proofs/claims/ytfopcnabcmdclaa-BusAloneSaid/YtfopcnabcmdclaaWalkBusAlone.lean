/- The law BusAlone by its own text: it answers true. -/
import Derived.Test.YtfopcnabcmdclaaBusDo
import Derived.Test.YtfopcnabcmdclaaWalkBusOrder
import Derived.BigRegion
import Derived.Deep.DeepCutAuto
namespace Go.Proofs.Ytfopcnabcmdclaa.Wk
open Go Go.RowKit Go.Proofs.YtfopcnabcmdclaaW.PrintWords Go.Proofs.YtfopcnabcmdclaaW.PrintLast Go.Proofs.YtfopcnabcmdclaaW.PrintMore Go.Proofs.Ytfopcnabcmdclaa.Str Go.Proofs.Ytfopcnabcmdclaa.Bits Go.Proofs.Ytfopcnabcmdclaa.Mp Go.Proofs.Ytfopcnabcmdclaa.Ra Go.Proofs.Ytfopcnabcmdclaa.Bs Go.Proofs.Ytfopcnabcmdclaa.Ac
set_option linter.unusedVariables false
set_option linter.unusedSimpArgs false
theorem act_cut (g : Nat) (w : World) (x i o : Int) (wy : Bool) (s s' : ByteArray) (A A' : Option Addr) (na ca na' ca' : Nat) (hg : w.heap[g]? = some (.cells #[.int .i64 x, .int .i64 i, .int .i64 o, .bool wy, .string s, .slice A na ca] 42 (0, 0))) :
    ((w.setCell ⟨g, 4, none⟩ (.string s')).setCell ⟨g, 5, none⟩ (.slice A' na' ca')).heap[g]? = some (.cells #[.int .i64 x, .int .i64 i, .int .i64 o, .bool wy, .string s', .slice A' na' ca'] 42 (0, 0)) := by
  rw [heap_setAt (heap_setAt hg _)]
  rfl
set_option maxHeartbeats 8000000 in
set_option maxRecDepth 1000000 in
theorem aloneW (n0 i0 : Int) (A : Option Addr) (n c : Nat) (w : World) (hi : wfi i0) (hr : Acts w A n c) :
    Calls Try.prog 6 #[.int .i64 n0, .slice A n c, .int .i64 i0] w fun e w' => e = .returned (.bool true) ∧ Below w.heap.size w w' := by
  obtain ⟨hc, hn, hr⟩ := hr
  have HR := Aside0.mk hr
  clear hr
  have hsz := size20_le n0
  go_enter Try.func6, Try.ntmps6
  go_wp2_with fail
  refine (newH n0 w).mono ?_
  rintro e w1 ⟨rfl, h1, b1⟩
  have H1 := Aside0.mk h1
  have B1 := Aside0.mk b1
  clear h1 b1
  go_wp2_with fail
  refine (newH n0 w1).mono ?_
  rintro e w2 ⟨rfl, h2, b2⟩
  have T2 := Aside0.mk (Two.made H1.out B1.out h2 b2)
  have B2 := Aside0.mk (below_step B1.out b2)
  generalize size20 n0 = sz at T2 hsz
  clear h2 b2 H1 B1
  obtain ⟨F2, hF2, hs2, _⟩ := T2.out.first
  have S2 := Aside0.mk hs2
  clear hs2 hF2
  generalize w1.heap.size = g1 at T2 ⊢
  go_wp2_with fail
  refine (sizeH _ _ _ _ _ _ _ S2.out).mono ?_
  rintro e w3 ⟨rfl, rfl⟩
  clear S2
  have hmx : max 1 (sz : Int) = (sz : Int) := by omega
  have hmm : max (min (n : Int) 40) 0 = ((min (n : Int) 40).toNat : Int) := by omega
  have hm2 : (min (n : Int) 40).toNat ≤ 40 := by omega
  have hmn : (min (n : Int) 40).toNat ≤ n := by omega
  obtain ⟨m, hm⟩ : ∃ m, (min (n : Int) 40).toNat = m := ⟨_, rfl⟩
  rw [hm] at hmm hm2 hmn
  obtain ⟨t, ht⟩ : ∃ t : Nat, max 0 i0 % (sz : Int) = (t : Int) := ⟨(max 0 i0 % (sz : Int)).toNat, by have := Int.emod_nonneg (max 0 i0) (show (sz : Int) ≠ 0 by omega); omega⟩
  have htz : t < sz := by have := Int.emod_lt_of_pos (max 0 i0) (show (0 : Int) < sz by omega); omega
  go_wp2_with fail
  rw [ht]
  clear hmm hm ht hmx
  have hi' := hi
  go_loopw [35] (fun x wr => ∃ (k : Nat) (qa qb : Bool → Int → List ByteArray), k ≤ m ∧ x = .int .i64 k ∧ Aside0 (Two (fun k => k < w.heap.size) wr (w.heap.size + 1) w.heap.size (20 * k) qa (g1 + 1) g1 (20 * k) qb sz) ∧ Aside0 (Same qa qb t) ∧ Aside0 (Below w.heap.size w wr)) (fun x _ => m - (intOf x).toNat)
  case atStart => exact ⟨0, _, _, Nat.zero_le _, rfl, T2, ⟨fun _ => rfl⟩, B2⟩
  case round =>
    clear T2 B2
    obtain ⟨k, qa, qb, hk, rfl, HH, HS, HB⟩ := hrel
    by_cases hlt : k < m
    · obtain ⟨ad, rfl, hcells⟩ := HR.out (by omega)
      obtain ⟨⟨x, i, o, wy, s, A', n', c'⟩, hok, hx⟩ := hcells k (by omega)
      have hk0 : wr.cell? (ad.add (k * 6)) = _ := (HB.out.cell (World.block_lt_of_cell? w _ (hx 0 _ rfl))).trans (hx 0 _ rfl)
      have hk1 : wr.cell? ⟨(ad.add (k * 6)).block, (ad.add (k * 6)).off + 1, none⟩ = _ := (HB.out.cell (World.block_lt_of_cell? w _ (hx 1 _ rfl))).trans (hx 1 _ rfl)
      have hk2 : wr.cell? ⟨(ad.add (k * 6)).block, (ad.add (k * 6)).off + 2, none⟩ = _ := (HB.out.cell (World.block_lt_of_cell? w _ (hx 2 _ rfl))).trans (hx 2 _ rfl)
      have hk3 : wr.cell? ⟨(ad.add (k * 6)).block, (ad.add (k * 6)).off + 3, none⟩ = _ := (HB.out.cell (World.block_lt_of_cell? w _ (hx 3 _ rfl))).trans (hx 3 _ rfl)
      have hk4 : wr.cell? ⟨(ad.add (k * 6)).block, (ad.add (k * 6)).off + 4, none⟩ = _ := (HB.out.cell (World.block_lt_of_cell? w _ (hx 4 _ rfl))).trans (hx 4 _ rfl)
      have hk5 : wr.cell? ⟨(ad.add (k * 6)).block, (ad.add (k * 6)).off + 5, none⟩ = _ := (HB.out.cell (World.block_lt_of_cell? w _ (hx 5 _ rfl))).trans (hx 5 _ rfl)
      clear hcells hx
      have HOK := Aside0.mk hok
      clear hok
      go_wp2_with fail
      have hg3 := heap_alloc_new wr (.cells #[.int .i64 x, .int .i64 i, .int .i64 o, .bool wy, .string s, .slice A' n' c'] 42)
      have hb3 : Below wr.heap.size wr (wr.alloc (.cells #[.int .i64 x, .int .i64 i, .int .i64 o, .bool wy, .string s, .slice A' n' c'] 42)) := (Below.refl _ _).alloc (Nat.le_refl _) _
      have hz3 : (wr.alloc (.cells #[.int .i64 x, .int .i64 i, .int .i64 o, .bool wy, .string s, .slice A' n' c'] 42)).heap.size = wr.heap.size + 1 := by show (wr.heap.push _).size = _; simp
      have T3 : Aside0 (Two (fun k => k < w.heap.size ∨ k = wr.heap.size) (wr.alloc (.cells #[.int .i64 x, .int .i64 i, .int .i64 o, .bool wy, .string s, .slice A' n' c'] 42)) (w.heap.size + 1) w.heap.size (20 * k) qa (g1 + 1) g1 (20 * k) qb sz) := ⟨HH.out.more hb3 (fun j hj => by rcases hj with h | h; exact Or.inl h; exact Or.inr (by omega))⟩
      have B3 := Aside0.mk (below_step HB.out hb3)
      have GLE : Aside0 (w.heap.size ≤ wr.heap.size) := ⟨HB.out.size⟩
      have G3 := Aside0.mk hg3
      generalize wr.heap.size = g at T3 G3 GLE hz3 hg3 ⊢
      generalize wr.alloc (.cells #[.int .i64 x, .int .i64 i, .int .i64 o, .bool wy, .string s, .slice A' n' c'] 42) = w3 at T3 G3 B3 hg3 ⊢
      have c0 : w3.cell? ⟨g, 0, none⟩ = some (.int .i64 x) := by rw [Lib.cell_of_heap hg3]; rfl
      have c1 : w3.cell? ⟨g, 1, none⟩ = some (.int .i64 i) := by rw [Lib.cell_of_heap hg3]; rfl
      have c4 : w3.cell? ⟨g, 4, none⟩ = some (.string s) := by rw [Lib.cell_of_heap hg3]; rfl
      have c5 : w3.cell? ⟨g, 5, none⟩ = some (.slice A' n' c') := by rw [Lib.cell_of_heap hg3]; rfl
      have f4 : w3.frozen? ⟨g, 4, none⟩ = false := Lib.frozen_of_heap hg3 4
      have f5 : w3.frozen? ⟨g, 5, none⟩ = false := Lib.frozen_of_heap hg3 5
      obtain ⟨hi64, ho64, hw64, hs64, hn64, hc64, hints⟩ := HOK.out
      have hs64' : s.size ≤ 9223372036854775807 := hs64
      have hn' : n' ≤ c' := hn64
      have hc' : c' ≤ 9223372036854775807 := hc64
      clear hk0 hk1 hk2 hk3 hk4 hk5 hg3 hb3 hz3 HH HB hi64 ho64 hw64 hs64 hn64 hc64 hints
      go_region
      have hn2 : (min (n' : Int) 10).toNat ≤ n' := by omega
      have hs2 : (s.extract 0 (min (s.size : Int) 100).toNat).size ≤ 9223372036854775807 := by rw [ByteArray.size_extract]; omega
      have hg4 := act_cut g w3 x i o wy s (s.extract 0 (min (s.size : Int) 100).toNat) A' A' n' c' (min (n' : Int) 10).toNat c' G3.out
      have T4 := Aside0.mk (T3.out.kept ((((Kb.refl (fun k => k < w.heap.size ∨ k = g) w3).setCell (p := ⟨g, 4, none⟩) (fun _ => Or.inr rfl) (.string (s.extract 0 (min (s.size : Int) 100).toNat))).setCell (p := ⟨g, 5, none⟩) (fun _ => Or.inr rfl) (.slice A' (min (n' : Int) 10).toNat c')).drew))
      have B4 := Aside0.mk (((B3.out.setCell (p := ⟨g, 4, none⟩) GLE.out (.string (s.extract 0 (min (s.size : Int) 100).toNat))).setCell (p := ⟨g, 5, none⟩) GLE.out (.slice A' (min (n' : Int) 10).toNat c')).drew)
      generalize s.extract 0 (min (s.size : Int) 100).toNat = s2 at hs2 hg4 T4 B4 ⊢
      generalize (min (n' : Int) 10).toNat = n2 at hn2 hg4 T4 B4 ⊢
      have G4 : Aside0 (((w3.setCell ⟨g, 4, none⟩ (.string s2)).setCell ⟨g, 5, none⟩ (.slice A' n2 c')).drew.heap[g]? = _) := ⟨hg4⟩
      generalize ((w3.setCell ⟨g, 4, none⟩ (.string s2)).setCell ⟨g, 5, none⟩ (.slice A' n2 c')).drew = w4 at T4 B4 G4 ⊢
      clear hg4 c0 c1 c4 c5 f4 f5 T3 G3 B3 hs64'
      obtain ⟨_, hi64, _, _, hints⟩ := HOK.out
      obtain ⟨ml, _, hC⟩ := ints_list hints n2 hn2
      have HC := Aside0.mk hC
      have hwi : wfi i := WalkArith.wf_i64 (by have h0 : -9223372036854775808 ≤ i := hi64.1; have h1 : i ≤ 9223372036854775807 := hi64.2; omega)
      clear hC hints hi64 HOK
      obtain ⟨F5, hF5, hA5, hnext⟩ := T4.out.first
      have HA5 := Aside0.mk hA5
      have HN5 := Aside0.mk hnext
      clear hnext hA5 T4
      go_wp2_with fail
      refine (doH F5 _ _ _ _ _ w4 HA5.out (by omega) g x i o wy s2 A' n2 c' ml G4.out hwi hs2 (HC.out w4 B4.out) (by omega)).mono ?_
      rintro e w5 ⟨rfl, h5, k5⟩
      obtain ⟨h5', k5'⟩ := HN5.out _ _ _ h5 k5
      have hg5 := (k5'.block g (Array.getElem?_eq_some_iff.1 G4.out).1 (fun h => h (Or.inr rfl))).trans G4.out
      have B5 := Aside0.mk (below_kb B4.out k5' B4.out.size (fun k hk => Or.inl hk))
      have T5 := Aside0.mk h5'
      have G5 := Aside0.mk hg5
      have c0 : w5.cell? ⟨g, 0, none⟩ = some (.int .i64 x) := by rw [Lib.cell_of_heap hg5]; rfl
      have c1 : w5.cell? ⟨g, 1, none⟩ = some (.int .i64 i) := by rw [Lib.cell_of_heap hg5]; rfl
      clear h5 k5 h5' k5' hg5 HN5 HA5 B4 G4 hF5
      by_cases hit : i = (t : Int)
      · subst hit
        obtain ⟨F6, hF6, hA6, hnext⟩ := T5.out.symm.first
        have HA6 := Aside0.mk hA6
        have HN6 := Aside0.mk hnext
        clear hnext hA6 hF6
        go_wp2_with fail
        refine (doH F6 _ _ _ _ _ w5 HA6.out (by omega) g x t o wy s2 A' n2 c' ml G5.out hwi hs2 (HC.out w5 B5.out) (by omega)).mono ?_
        rintro e w6 ⟨rfl, h6, k6⟩
        obtain ⟨h6', k6'⟩ := HN6.out _ _ _ h6 k6
        have B6 := Aside0.mk (below_kb B5.out k6' B5.out.size (fun k hk => Or.inl hk))
        have T6 := Aside0.mk ((h6'.symm.less (F' := fun k => k < w.heap.size) (fun k hk => Or.inl hk)).le (show 20 * k + 20 ≤ 20 * (k + 1) by omega) (show 20 * k + 20 ≤ 20 * (k + 1) by omega))
        have S6 := Aside0.mk (op_both HS.out sz (x.tmod 7) t wy s2 ml)
        clear h6 k6 h6' k6' HN6 HA6 T5 B5 G5 HS c0 c1
        go_wp2
        exact ⟨⟨k + 1, _, _, by omega, by go_num, T6, S6, B6⟩, by simp [intOf]; omega⟩
      · by_cases y1 : x.tmod 7 = 1
        · have hlt1 := hlt
          have T6 := Aside0.mk ((T5.out.less (F' := fun k => k < w.heap.size) (fun k hk => Or.inl hk)).le (show 20 * k + 20 ≤ 20 * (k + 1) by omega) (show 20 * k ≤ 20 * (k + 1) by omega))
          have S6 := Aside0.mk ((op_far (q := qa) sz (x.tmod 7) i wy s2 ml (by omega) hit).trans HS.out)
          clear T5 G5 HS
          go_wp2
          exact ⟨⟨k + 1, _, _, by omega, by go_num, T6, S6, B5⟩, by simp [intOf]; omega⟩
        · by_cases y2 : x.tmod 7 = 2
          · clear y1
            have T6 := Aside0.mk ((T5.out.less (F' := fun k => k < w.heap.size) (fun k hk => Or.inl hk)).le (show 20 * k + 20 ≤ 20 * (k + 1) by omega) (show 20 * k ≤ 20 * (k + 1) by omega))
            have S6 := Aside0.mk ((op_far (q := qa) sz (x.tmod 7) i wy s2 ml (by omega) hit).trans HS.out)
            clear T5 G5 HS
            go_wp2
            exact ⟨⟨k + 1, _, _, by omega, by go_num, T6, S6, B5⟩, by simp [intOf]; omega⟩
          · by_cases y3 : x.tmod 7 = 3
            · clear y1 y2
              have T6 := Aside0.mk ((T5.out.less (F' := fun k => k < w.heap.size) (fun k hk => Or.inl hk)).le (show 20 * k + 20 ≤ 20 * (k + 1) by omega) (show 20 * k ≤ 20 * (k + 1) by omega))
              have S6 := Aside0.mk ((op_far (q := qa) sz (x.tmod 7) i wy s2 ml (by omega) hit).trans HS.out)
              clear T5 G5 HS
              go_wp2
              exact ⟨⟨k + 1, _, _, by omega, by go_num, T6, S6, B5⟩, by simp [intOf]; omega⟩
            · by_cases y4 : x.tmod 7 = 4
              · clear y1 y2 y3
                have T6 := Aside0.mk ((T5.out.less (F' := fun k => k < w.heap.size) (fun k hk => Or.inl hk)).le (show 20 * k + 20 ≤ 20 * (k + 1) by omega) (show 20 * k ≤ 20 * (k + 1) by omega))
                have S6 := Aside0.mk ((op_far (q := qa) sz (x.tmod 7) i wy s2 ml (by omega) hit).trans HS.out)
                clear T5 G5 HS
                go_wp2
                exact ⟨⟨k + 1, _, _, by omega, by go_num, T6, S6, B5⟩, by simp [intOf]; omega⟩
              · obtain ⟨F6, hF6, hA6, hnext⟩ := T5.out.symm.first
                have HA6 := Aside0.mk hA6
                have HN6 := Aside0.mk hnext
                clear hnext hA6 hF6
                go_wp2_with fail
                refine (doH F6 _ _ _ _ _ w5 HA6.out (by omega) g x i o wy s2 A' n2 c' ml G5.out hwi hs2 (HC.out w5 B5.out) (by omega)).mono ?_
                rintro e w6 ⟨rfl, h6, k6⟩
                obtain ⟨h6', k6'⟩ := HN6.out _ _ _ h6 k6
                have B6 := Aside0.mk (below_kb B5.out k6' B5.out.size (fun k hk => Or.inl hk))
                have T6 := Aside0.mk ((h6'.symm.less (F' := fun k => k < w.heap.size) (fun k hk => Or.inl hk)).le (show 20 * k + 20 ≤ 20 * (k + 1) by omega) (show 20 * k + 20 ≤ 20 * (k + 1) by omega))
                have S6 := Aside0.mk (op_both HS.out sz (x.tmod 7) i wy s2 ml)
                clear h6 k6 h6' k6' HN6 HA6 T5 B5 G5 HS c0 c1
                go_wp2
                exact ⟨⟨k + 1, _, _, by omega, by go_num, T6, S6, B6⟩, by simp [intOf]; omega⟩
                rename_i hbad
                exact absurd hbad (by simp [y1, y2, y3, y4])
    · obtain rfl : k = m := by omega
      go_wp2_with fail
      have hg0 := heap_alloc_new wr (.cells #[.bool true, .bool false] 4)
      have hb0 : Below wr.heap.size wr (wr.alloc (.cells #[.bool true, .bool false] 4)) := (Below.refl _ _).alloc (Nat.le_refl _) _
      have hz0 : (wr.alloc (.cells #[.bool true, .bool false] 4)).heap.size = wr.heap.size + 1 := by show (wr.heap.push _).size = _; simp
      have H0 : Aside0 (Two (fun j => j < w.heap.size ∨ j = wr.heap.size) (wr.alloc (.cells #[.bool true, .bool false] 4)) (w.heap.size + 1) w.heap.size 800 qa (g1 + 1) g1 800 qb sz) := ⟨(HH.out.more hb0 (fun j hj => by rcases hj with h | h; exact Or.inl h; exact Or.inr (by omega))).le (by omega) (by omega)⟩
      have B0 := Aside0.mk (below_step HB.out hb0)
      have G0 := Aside0.mk hg0
      generalize wr.heap.size = g at H0 G0 hz0 ⊢
      generalize wr.alloc (.cells #[.bool true, .bool false] 4) = w6 at H0 B0 G0 ⊢
      clear hg0 hb0 hz0 HH HB
      have S0 := HS
      have hwt : wfi (t : Int) := wfi_small (by omega) (by omega)
      go_loopw [88] (fun x wy => ∃ (y : Nat) (qa qb : Bool → Int → List ByteArray), y ≤ 2 ∧ x = .int .i64 y ∧ Aside0 (Two (fun j => j < w.heap.size ∨ j = g) wy (w.heap.size + 1) w.heap.size (800 + 300 * y) qa (g1 + 1) g1 (800 + 300 * y) qb sz) ∧ Aside0 (Same qa qb t) ∧ Aside0 (wy.heap[g]? = some (.cells #[.bool true, .bool false] 4 (0, 0))) ∧ Aside0 (Below w.heap.size w wy)) (fun x _ => 2 - (intOf x).toNat)
      case atStart => exact ⟨0, qa, qb, Nat.zero_le _, rfl, H0, S0, G0, B0⟩
      case round =>
        clear H0 S0 G0 B0 HS
        obtain ⟨y, qa, qb, hy, rfl, HH, HS, HG, HB⟩ := hrel
        by_cases hlt : y < 2
        · obtain ⟨d, hd⟩ : ∃ d, wr.cell? ⟨g, y, none⟩ = some (.bool d) := by
            have h01 : y = 0 ∨ y = 1 := by omega
            rcases h01 with rfl | rfl
            · exact ⟨true, by show wr.cell? ⟨g, 0, none⟩ = _; rw [Lib.cell_of_heap HG.out]; rfl⟩
            · exact ⟨false, by show wr.cell? ⟨g, 1, none⟩ = _; rw [Lib.cell_of_heap HG.out]; rfl⟩
          obtain ⟨Fa, hFa, ha, _⟩ := HH.out.first
          obtain ⟨Fb, hFb, hb, _⟩ := HH.out.symm.first
          have HA := Aside0.mk ha
          have HBb := Aside0.mk hb
          have hsh := hb.short d t
          have HSE := Aside0.mk (HS.out d)
          obtain ⟨L, hL⟩ : ∃ L, Aside0 ((qb d t).length = L) := ⟨_, ⟨rfl⟩⟩
          rw [hL.out] at hsh
          clear ha hb hFa hFb
          go_wp2_with fail
          refine (lenH _ _ _ _ _ _ _ HA.out d t hwt).mono ?_
          rintro e w4 ⟨he, rfl⟩
          rw [HSE.out, hL.out] at he
          subst he
          go_wp2_with fail
          refine (lenH _ _ _ _ _ _ _ HBb.out d t hwt).mono ?_
          rintro e w4 ⟨he, rfl⟩
          rw [hL.out] at he
          subst he
          go_wp2_with fail
          refine (lenH _ _ _ _ _ _ _ HA.out d t hwt).mono ?_
          rintro e w4 ⟨he, rfl⟩
          rw [HSE.out, hL.out] at he
          subst he
          clear HA HBb HSE hd
          go_wp2_with fail
          have HH0 : Aside0 (Two (fun j => j < w.heap.size ∨ j = g) wr (w.heap.size + 1) w.heap.size (800 + 300 * y + 0) qa (g1 + 1) g1 (800 + 300 * y + 0) qb sz) := HH
          have HL0 : Aside0 ((qb d t).length = L - 0) := hL
          have HS0 := HS
          have HG0 := HG
          have HB0 := HB
          clear HH HS HG HB hL
          go_loopw [105] (fun x wz => ∃ (j : Nat) (qa qb : Bool → Int → List ByteArray), j ≤ L ∧ x = .int .i64 j ∧ Aside0 (Two (fun j => j < w.heap.size ∨ j = g) wz (w.heap.size + 1) w.heap.size (800 + 300 * y + j) qa (g1 + 1) g1 (800 + 300 * y + j) qb sz) ∧ Aside0 (Same qa qb t) ∧ Aside0 ((qb d t).length = L - j) ∧ Aside0 (wz.heap[g]? = some (.cells #[.bool true, .bool false] 4 (0, 0))) ∧ Aside0 (Below w.heap.size w wz)) (fun x _ => L - (intOf x).toNat)
          case atStart => exact ⟨0, qa, qb, Nat.zero_le _, rfl, HH0, HS0, HL0, HG0, HB0⟩
          case round =>
            clear HH0 HS0 HL0 HG0 HB0
            obtain ⟨j, qa, qb, hj, rfl, HH, HS, HL, HG, HB⟩ := hrel
            by_cases hlt2 : j < L
            · obtain ⟨Fa, hFa, ha, hna⟩ := HH.out.first
              have HA := Aside0.mk ha
              have HNA := Aside0.mk hna
              have HSE := Aside0.mk (HS.out d)
              clear ha hna hFa
              obtain ⟨s, l, hq⟩ : ∃ s l, qb d t = s :: l := by
                match hq : qb d t with
                | [] => have := HL.out; rw [hq] at this; simp at this; omega
                | s :: l => exact ⟨s, l, rfl⟩
              have HQ := Aside0.mk hq
              clear hq
              go_wp2_with fail
              refine (takeH _ _ _ _ _ _ _ HA.out (by omega) d t hwt).mono ?_
              rintro e w4 ⟨he, h4, k4⟩
              rw [HSE.out, HQ.out] at he
              replace he : e = .returned (.tuple #[.string s, .bool true]) := he
              subst he
              obtain ⟨h4', k4'⟩ := HNA.out _ _ _ h4 k4
              have T4 := Aside0.mk h4'
              have B4 := Aside0.mk (below_kb HB.out k4' HB.out.size (fun k hk => Or.inl hk))
              have G4 := Aside0.mk ((k4'.block g (Array.getElem?_eq_some_iff.1 HG.out).1 (fun h => h (Or.inr rfl))).trans HG.out)
              clear h4 k4 h4' k4' HNA HA HH HB HG
              obtain ⟨Fb, hFb, hb, hnb⟩ := T4.out.symm.first
              have HA := Aside0.mk hb
              have HNA := Aside0.mk hnb
              clear hb hnb hFb
              go_wp2_with fail
              refine (takeH _ _ _ _ _ _ _ HA.out (by omega) d t hwt).mono ?_
              rintro e w5 ⟨he, h5, k5⟩
              obtain ⟨h5', k5'⟩ := HNA.out _ _ _ h5 k5
              have T5 := Aside0.mk (h5'.symm.le (show 800 + 300 * y + j + 1 ≤ 800 + 300 * y + (j + 1) by omega) (show 800 + 300 * y + j + 1 ≤ 800 + 300 * y + (j + 1) by omega))
              have B5 := Aside0.mk (below_kb B4.out k5' B4.out.size (fun k hk => Or.inl hk))
              have G5 := Aside0.mk ((k5'.block g (Array.getElem?_eq_some_iff.1 G4.out).1 (fun h => h (Or.inr rfl))).trans G4.out)
              have S5 : Aside0 (Same (updQ qa d t (qa d t).tail) (updQ qb d t (qb d t).tail) t) := ⟨upd_same_both HS.out d t (fun _ => by rw [HS.out d])⟩
              have L5 : Aside0 ((updQ qb d t (qb d t).tail d t).length = L - (j + 1)) := ⟨by rw [updQ_same, List.length_tail, HL.out]; omega⟩
              clear h5 k5 h5' k5' HNA HA T4 B4 G4
              rw [HQ.out] at he
              replace he : e = .returned (.tuple #[.string s, .bool true]) := he
              subst he
              clear HS HL HSE HQ
              go_wp2
              exact ⟨⟨j + 1, _, _, by omega, by go_num, T5, S5, L5, G5, B5⟩, by simp [intOf]; omega⟩
            · obtain rfl : j = L := by omega
              have T5 := Aside0.mk (HH.out.le (show 800 + 300 * y + j ≤ 800 + 300 * (y + 1) by omega) (show 800 + 300 * y + j ≤ 800 + 300 * (y + 1) by omega))
              clear HH
              go_wp2
              exact ⟨⟨y + 1, _, _, by omega, by go_num, T5, HS, HG, HB⟩, by simp [intOf]; omega⟩
        · go_wp2_with fail
          refine (wakes _).mono ?_
          rintro e w7 ⟨rfl, hb⟩
          have B7 := Aside0.mk (below_step HB.out hb)
          clear hb
          go_wp2
          go_ret
          exact ⟨rfl, B7.out⟩
theorem BusAlone (a0 : Int) (A : Option Addr) (n c : Nat) (a2 : Int) (w : World) (h0 : (Lit.int .i64 a0).wf = true) (h1 : Acts w A n c) (h2 : (Lit.int .i64 a2).wf = true) :
    Calls Try.prog 6 #[.int .i64 a0, .slice A n c, .int .i64 a2] w fun e w' => e = .returned (.bool true) ∧ Below w.heap.size w w' :=
  aloneW a0 a2 A n c w h2 h1
end Go.Proofs.Ytfopcnabcmdclaa.Wk
