/- The law BusPlays by its own text: it answers true. -/
import Derived.Test.YtfopcnabcmdclaaBusNH
import Derived.Test.YtfopcnabcmdclaaWalkBusOrder
import Derived.BigRegion
import Derived.Deep.DeepCutAuto
import Derived.Deep.CutBlock
import Derived.Test.YtfopcnabcmdclaaBusArmAll
import Derived.Test.YtfopcnabcmdclaaBusArmLen
namespace Go.Proofs.Ytfopcnabcmdclaa.Wk
open Go Go.RowKit Go.Proofs.YtfopcnabcmdclaaW.PrintWords Go.Proofs.YtfopcnabcmdclaaW.PrintLast Go.Proofs.YtfopcnabcmdclaaW.PrintMore Go.Proofs.Ytfopcnabcmdclaa.Str Go.Proofs.Ytfopcnabcmdclaa.Bits Go.Proofs.Ytfopcnabcmdclaa.Mp Go.Proofs.Ytfopcnabcmdclaa.Ra Go.Proofs.Ytfopcnabcmdclaa.Bs Go.Proofs.Ytfopcnabcmdclaa.Ac
set_option linter.unusedVariables false
set_option linter.unusedSimpArgs false
theorem act_cut (g : Nat) (w : World) (x i o : Int) (wy : Bool) (s s' : ByteArray) (A A' : Option Addr) (na ca na' ca' : Nat) (hg : w.heap[g]? = some (.cells #[.int .i64 x, .int .i64 i, .int .i64 o, .bool wy, .string s, .slice A na ca] 42 (0, 0))) :
    ((w.setCell ⟨g, 4, none⟩ (.string s')).setCell ⟨g, 5, none⟩ (.slice A' na' ca')).heap[g]? = some (.cells #[.int .i64 x, .int .i64 i, .int .i64 o, .bool wy, .string s', .slice A' na' ca'] 42 (0, 0)) := by
  rw [heap_setAt (heap_setAt hg _)]
  rfl
set_option maxHeartbeats 8000000 in
set_option maxRecDepth 1000000 in
theorem playsW (n0 : Int) (A : Option Addr) (n c : Nat) (w : World) (hr : Acts w A n c) :
    Calls Try.prog 4 #[.int .i64 n0, .slice A n c] w fun e w' => e = .returned (.bool true) ∧ Below w.heap.size w w' := by
  obtain ⟨hc, hn, hr⟩ := hr
  have HR := Aside0.mk hr
  clear hr
  have hsz := size20_le n0
  go_enter Try.func4, Try.ntmps4
  go_wp2_with fail
  refine (newH n0 w).mono ?_
  rintro e w1 ⟨rfl, h1, b1⟩
  have H1 := Aside0.mk h1
  have B1 := Aside0.mk b1
  clear h1 b1
  go_wp2_with fail
  refine (newHR n0 w1).mono ?_
  rintro e w2 ⟨rfl, h2, b2⟩
  have T2 := Aside0.mk (Pair.made H1.out B1.out h2 b2)
  have B2 := Aside0.mk (below_step B1.out b2)
  generalize size20 n0 = sz at T2 hsz
  clear h2 b2 H1 B1
  generalize w1.heap.size = g1 at T2 ⊢
  go_wp2_with fail
  have HF : Aside0 (∀ w3, Below w2.drew.heap.size w2.drew w3 → Pair (fun k => k < w.heap.size) w3 (w.heap.size + 1) w.heap.size 0 sz (fun _ _ => []) g1 (fun _ _ => []) ∧ w3.cell? ⟨g1, 0, none⟩ = some (.int .i64 (sz : Int)) ∧ Below w.heap.size w w3 ∧ ∃ F', Has F' w3 (w.heap.size + 1) w.heap.size 0 sz (fun _ _ => [])) := ⟨fun w3 hb => by
    have hb' : Below w2.heap.size w2 w3 := ((Below.refl w2.heap.size w2).drew).trans hb
    have hp := T2.out.below hb'
    obtain ⟨F', _, hF', _⟩ := hp.first
    have hp0 := hp
    obtain ⟨Tb, v, hr, _⟩ := hp0
    exact ⟨hp, hr.cell0, below_step B2.out hb', F', hF'⟩⟩
  clear T2 B2
  go_cut [28] (fun vb wx => vb = .bool false ∧ Aside0 (Pair (fun k => k < w.heap.size) wx (w.heap.size + 1) w.heap.size 0 sz (fun _ _ => []) g1 (fun _ _ => [])) ∧ Aside0 (Below w.heap.size w wx))
  case first =>
    go_region_law (first | (go_simp; go_at_call 9; refine (wakes _).mono ?_; rintro e w3 ⟨rfl, hb⟩; obtain ⟨x1, c0, x3, F3, x4⟩ := HF.out w3 hb; have T3 := Aside0.mk x1; have B3 := Aside0.mk x3; have HS3 := Aside0.mk x4; clear x1 x3 x4 hb HF) | (go_simp; go_at_call 8; refine (sizeH _ _ _ _ _ _ _ HS3.out).mono ?_; rintro e w4 ⟨rfl, rfl⟩))
    all_goals
      go_wp2_with fail
      go_meet
      exact ⟨rfl, T3, B3⟩
  case rest =>
    clear HF
    obtain ⟨rfl, T3, B3⟩ := hcut
    have hmm : max (min (n : Int) 40) 0 = ((min (n : Int) 40).toNat : Int) := by omega
    have hm2 : (min (n : Int) 40).toNat ≤ 40 := by omega
    have hmn : (min (n : Int) 40).toNat ≤ n := by omega
    obtain ⟨m, hm⟩ : ∃ m, (min (n : Int) 40).toNat = m := ⟨_, rfl⟩
    rw [hm] at hmm hm2 hmn
    go_wp2_with fail
    clear hmm hm
    go_loopw [35] (fun x wr => ∃ (k : Nat) (q : Bool → Int → List ByteArray), k ≤ m ∧ x = .int .i64 k ∧ Aside0 (Pair (fun k => k < w.heap.size) wr (w.heap.size + 1) w.heap.size (6000 * k) sz q g1 q) ∧ Aside0 (Below w.heap.size w wr)) (fun x _ => m - (intOf x).toNat)
    case atStart => exact ⟨0, _, Nat.zero_le _, rfl, T3, B3⟩
    case round =>
      clear T3 B3
      obtain ⟨k, q, hk, rfl, HH, HB⟩ := hrel
      by_cases hlt : k < m
      · obtain ⟨ad, rfl, hcells⟩ := HR.out (by omega)
        obtain ⟨⟨x, i, o, wy, s, A', n', c'⟩, hok, hx⟩ := hcells k (by omega)
        have hk0 : wr.cell? (ad.add (k * 6)) = _ := (HB.out.cell (World.block_lt_of_cell? w _ (hx 0 _ rfl))).trans (hx 0 _ rfl)
        have hk1 : wr.cell? ⟨(ad.add (k * 6)).block, (ad.add (k * 6)).off + 1, none⟩ = _ := (HB.out.cell (World.block_lt_of_cell? w _ (hx 1 _ rfl))).trans (hx 1 _ rfl)
        have hk2 : wr.cell? ⟨(ad.add (k * 6)).block, (ad.add (k * 6)).off + 2, none⟩ = _ := (HB.out.cell (World.block_lt_of_cell? w _ (hx 2 _ rfl))).trans (hx 2 _ rfl)
        have hk3 : wr.cell? ⟨(ad.add (k * 6)).block, (ad.add (k * 6)).off + 3, none⟩ = _ := (HB.out.cell (World.block_lt_of_cell? w _ (hx 3 _ rfl))).trans (hx 3 _ rfl)
        have hk4 : wr.cell? ⟨(ad.add (k * 6)).block, (ad.add (k * 6)).off + 4, none⟩ = _ := (HB.out.cell (World.block_lt_of_cell? w _ (hx 4 _ rfl))).trans (hx 4 _ rfl)
        have hk5 : wr.cell? ⟨(ad.add (k * 6)).block, (ad.add (k * 6)).off + 5, none⟩ = _ := (HB.out.cell (World.block_lt_of_cell? w _ (hx 5 _ rfl))).trans (hx 5 _ rfl)
        clear hcells hx
        have HOK := Aside0.mk hok
        clear hok
        go_wp2_with fail
        have hg3 := heap_alloc_new wr (.cells #[.int .i64 x, .int .i64 i, .int .i64 o, .bool wy, .string s, .slice A' n' c'] 42)
        have hb3 : Below wr.heap.size wr (wr.alloc (.cells #[.int .i64 x, .int .i64 i, .int .i64 o, .bool wy, .string s, .slice A' n' c'] 42)) := (Below.refl _ _).alloc (Nat.le_refl _) _
        have hz3 : (wr.alloc (.cells #[.int .i64 x, .int .i64 i, .int .i64 o, .bool wy, .string s, .slice A' n' c'] 42)).heap.size = wr.heap.size + 1 := by show (wr.heap.push _).size = _; simp
        have T3 : Aside0 (Pair (fun k => k < w.heap.size ∨ k = wr.heap.size) (wr.alloc (.cells #[.int .i64 x, .int .i64 i, .int .i64 o, .bool wy, .string s, .slice A' n' c'] 42)) (w.heap.size + 1) w.heap.size (6000 * k) sz q g1 q) := ⟨HH.out.more hb3 (fun j hj => by rcases hj with h | h; exact Or.inl h; exact Or.inr (by omega))⟩
        have B3 := Aside0.mk (below_step HB.out hb3)
        have GLE : Aside0 (w.heap.size ≤ wr.heap.size) := ⟨HB.out.size⟩
        have G3 := Aside0.mk hg3
        generalize wr.heap.size = g at T3 G3 GLE hz3 hg3 ⊢
        generalize wr.alloc (.cells #[.int .i64 x, .int .i64 i, .int .i64 o, .bool wy, .string s, .slice A' n' c'] 42) = w3 at T3 G3 B3 hg3 ⊢
        have c0 : w3.cell? ⟨g, 0, none⟩ = some (.int .i64 x) := by rw [Lib.cell_of_heap hg3]; rfl
        have c1 : w3.cell? ⟨g, 1, none⟩ = some (.int .i64 i) := by rw [Lib.cell_of_heap hg3]; rfl
        have c4 : w3.cell? ⟨g, 4, none⟩ = some (.string s) := by rw [Lib.cell_of_heap hg3]; rfl
        have c5 : w3.cell? ⟨g, 5, none⟩ = some (.slice A' n' c') := by rw [Lib.cell_of_heap hg3]; rfl
        have f4 : w3.frozen? ⟨g, 4, none⟩ = false := Lib.frozen_of_heap hg3 4
        have f5 : w3.frozen? ⟨g, 5, none⟩ = false := Lib.frozen_of_heap hg3 5
        obtain ⟨hi64, ho64, hw64, hs64, hn64, hc64, hints⟩ := HOK.out
        have hs64' : s.size ≤ 9223372036854775807 := hs64
        have hn' : n' ≤ c' := hn64
        have hc' : c' ≤ 9223372036854775807 := hc64
        clear hk0 hk1 hk2 hk3 hk4 hk5 hg3 hb3 hz3 HH HB hi64 ho64 hw64 hs64 hn64 hc64 hints
        go_region
        have hn2 : (min (n' : Int) 10).toNat ≤ n' := by omega
        have hs2 : (s.extract 0 (min (s.size : Int) 100).toNat).size ≤ 9223372036854775807 := by rw [ByteArray.size_extract]; omega
        have hg4 := act_cut g w3 x i o wy s (s.extract 0 (min (s.size : Int) 100).toNat) A' A' n' c' (min (n' : Int) 10).toNat c' G3.out
        have T4 := Aside0.mk (T3.out.kept ((((Kb.refl (fun k => k < w.heap.size ∨ k = g) w3).setCell (p := ⟨g, 4, none⟩) (fun _ => Or.inr rfl) (.string (s.extract 0 (min (s.size : Int) 100).toNat))).setCell (p := ⟨g, 5, none⟩) (fun _ => Or.inr rfl) (.slice A' (min (n' : Int) 10).toNat c')).drew))
        have B4 := Aside0.mk (((B3.out.setCell (p := ⟨g, 4, none⟩) GLE.out (.string (s.extract 0 (min (s.size : Int) 100).toNat))).setCell (p := ⟨g, 5, none⟩) GLE.out (.slice A' (min (n' : Int) 10).toNat c')).drew)
        generalize s.extract 0 (min (s.size : Int) 100).toNat = s2 at hs2 hg4 T4 B4 ⊢
        generalize (min (n' : Int) 10).toNat = n2 at hn2 hg4 T4 B4 ⊢
        have G4 : Aside0 (((w3.setCell ⟨g, 4, none⟩ (.string s2)).setCell ⟨g, 5, none⟩ (.slice A' n2 c')).drew.heap[g]? = _) := ⟨hg4⟩
        generalize ((w3.setCell ⟨g, 4, none⟩ (.string s2)).setCell ⟨g, 5, none⟩ (.slice A' n2 c')).drew = w4 at T4 B4 G4 ⊢
        clear hg4 c0 c1 c4 c5 f4 f5 T3 G3 B3 hs64'
        obtain ⟨_, hi64, ho64, _, hints⟩ := HOK.out
        obtain ⟨ml, _, hC⟩ := ints_list hints n2 hn2
        have HC := Aside0.mk hC
        have ho : -9223372036854775808 ≤ o ∧ o ≤ 9223372036854775807 := ho64
        have hwi : wfi i := WalkArith.wf_i64 (by have h0 : -9223372036854775808 ≤ i := hi64.1; have h1 : i ≤ 9223372036854775807 := hi64.2; omega)
        clear hC hints hi64 ho64 HOK
        have hg4 := G4.out
        have c0 : w4.cell? ⟨g, 0, none⟩ = some (.int .i64 x) := by rw [Lib.cell_of_heap hg4]; rfl
        clear hg4
        go_upto_block 2 with fail
        obtain ⟨y, HY⟩ : ∃ y, Aside0 (x.tmod 7 = y) := ⟨_, ⟨rfl⟩⟩
        rw [HY.out]
        clear c0
        refine to_arm ?_
        refine armAll _ w w4 sz g1 g k q x y i o wy s2 A' n2 c' ml _ _ _ _ _ _ _ _ _ _ _ _ _ _ _ _ _ _ _ _ _ _ _ _ _ _ _ _ _ _ _ _ _ _ _ _ _ _ _ _ _ _ _ _ _ _ _ _ _ _ _ _ _ _ _ _ _ _ _ _ _ _ _ _ _ _ _ _ _ _ _ _ _ _ _ _ _ _ _ _ _ _ _ _ _ _ _ _ _ _ _ _ _ _ _ _ _ _ _ _ _ _ _ _ _ _ _ _ _ _ _ _ _ _ _ _ _ _ _ _ _ _ _ _ _ _ _ _ _ _ _ _ _ _ _ _ _ _ _ _ _ _ _ _ _ _ _ _ _ _ _ _ _ _ _ _ _ _ _ _ _ _ _ _ _ _ _ _ _ _ _ _ _ _ _ _ _ _ _ (by omega) hsz hwi ho hs2 (by omega) T4 B4 G4 HC ?_
        intros
        rename_i w9 hp
        obtain ⟨q9, T9, B9⟩ := hp
        clear T4 B4 G4 HC hwi HY
        go_upto_block 7 with fail
        refine to_arm ?_
        refine armLen _ w w9 sz g1 k q9 _ _ _ _ _ _ _ _ _ _ _ _ _ _ _ _ _ _ _ _ _ _ _ _ _ _ _ _ _ _ _ _ _ _ _ _ _ _ _ _ _ _ _ _ _ _ _ _ _ _ _ _ _ _ _ _ _ _ _ _ _ _ _ _ _ _ _ _ _ _ _ _ _ _ _ _ _ _ _ _ _ _ _ _ _ _ _ _ _ _ _ _ _ _ _ _ _ _ _ _ _ _ _ _ _ _ _ _ _ _ _ _ _ _ _ _ _ _ _ _ _ _ _ _ _ _ _ _ _ _ _ _ _ _ _ _ _ _ _ _ _ _ _ _ _ _ _ _ _ _ _ _ _ _ _ _ _ _ _ _ _ _ _ _ _ _ _ _ _ _ _ _ _ _ _ _ _ _ _ _ T9 B9 ?_
        intros
        rename_i w10 hp
        obtain ⟨q10, T10, B10⟩ := hp
        go_wp2_with fail
        exact ⟨⟨k + 1, q10, by omega, by go_num, T10, B10⟩, by simp [intOf]; omega⟩
      · obtain rfl : k = m := by omega
        go_wp2
        go_ret
        exact ⟨rfl, HB.out⟩
theorem BusPlays (a0 : Int) (A : Option Addr) (n c : Nat) (w : World) (h0 : (Lit.int .i64 a0).wf = true) (h1 : Acts w A n c) :
    Calls Try.prog 4 #[.int .i64 a0, .slice A n c] w fun e w' => e = .returned (.bool true) ∧ Below w.heap.size w w' :=
  playsW a0 A n c w h1
end Go.Proofs.Ytfopcnabcmdclaa.Wk
