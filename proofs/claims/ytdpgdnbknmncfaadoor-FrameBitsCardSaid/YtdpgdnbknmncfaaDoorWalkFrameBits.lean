/- The law FrameBits by its own text: it answers true. -/
import Derived.Test.YtdpgdnbknmncfaaDoorFrameGetP
import Derived.Test.YtdpgdnbknmncfaaDoorBurst
import Derived.Test.YtdpgdnbknmncfaaDoorOctW
import Derived.Test.YtdpgdnbknmncfaaDoorBitsOf
import Derived.Test.YtdpgdnbknmncfaaDoorFlip
import Derived.Test.YtdpgdnbknmncfaaDoorPrint8
import Derived.OpenShut
namespace Go.Proofs.YtdpgdnbknmncfaaDoor.Wk
open Go.RowKit Go.Proofs.YtdpgdnbknmncfaaDoorW.PrintWords Go.Proofs.YtdpgdnbknmncfaaDoorW.PrintLast Go.Proofs.YtdpgdnbknmncfaaDoorW.PrintMore Go.Proofs.YtdpgdnbknmncfaaDoor.Str Go.Proofs.YtdpgdnbknmncfaaDoor.Bits Go.Proofs.YtdpgdnbknmncfaaDoor.Oct Go.Proofs.YtdpgdnbknmncfaaDoor.Frm
open Go.Proofs.YtdpgdnbknmncfaaDoor.Fcs (sealL checkL seal_length)
set_option linter.unusedVariables false
attribute [local go_sem] max2_int min2_int
theorem infoInt : (Tryd.prog.info? 3).map (fun i => (i.zero, i.size, i.bytes)) = some (some (.int .i64 0), 1, 8) := by kernel_rfl
theorem cell_al {w : World} {b : Addr} {v : Value} (h : w.cell? b = some v) (o : Obj) : (w.alloc o).cell? b = some v := pw_cell_below ((Below.refl _ w).alloc (Nat.le_refl _) o) h
theorem box2 (w : World) (o : Obj) (u v : Value) (T : TypeId) : ((w.alloc o).alloc (.cells #[u, v] T)).cell? ⟨w.heap.size + 1, 0, none⟩ = some u ∧ ((w.alloc o).alloc (.cells #[u, v] T)).cell? ⟨w.heap.size + 1, 1, none⟩ = some v := by
  have h := Go.heap_alloc_new (w.alloc o) (.cells #[u, v] T)
  have e : (w.alloc o).heap.size = w.heap.size + 1 := by show (w.heap.push o).size = _; simp
  rw [e] at h
  exact ⟨by rw [Lib.cell_of_heap h]; rfl, by rw [Lib.cell_of_heap h]; rfl⟩
theorem below_two {w w1 : World} {o o2 : Obj} (h : Below ((w.alloc o).alloc o2).heap.size ((w.alloc o).alloc o2) w1) : Below w.heap.size w w1 :=
  below_step (((Below.refl _ w).alloc (Nat.le_refl _) o).alloc (by show w.heap.size ≤ (w.heap.push o).size; simp) o2) h
theorem own_shape {w : World} {base : Nat} {e : TypeId} {v : Value} {k : IntKind} {xs : List Int} (h : w.ownsRow base e 1 v xs.length (nums k xs)) : ∃ A c, v = .slice A xs.length c ∧ xs.length ≤ c ∧ (Kd.int k).C w A xs.length xs := by
  obtain ⟨A, c, rfl, hr⟩ := own_reads h
  refine ⟨A, c, rfl, ?_, Kd.C_of_reads (d := (0 : Int)) (h1 := fun _ => rfl) hr⟩
  rcases h.2 with ⟨h1, h2⟩ | ⟨g, cap, cur, h1, _, _, h2, _⟩
  · omega
  · injection h1 with _ _ h3
    omega
theorem wakes_walk (w : World) (hL : Go.Proofs.YtdpgdnbknmncfaaDoorX.Laid w) : Calls Tryd.prog 15 #[] w fun e w' => e = .returned (.bool true) ∧ Below w.heap.size w w' :=
  Print.lapwinglaw06_wakes.calls 60 true w hL (wakes_eq 60 (by decide))
/-- What a frame that was put looks like. -/
theorem put_seal (s t : Int) (c : Bool) (a : Int) (p : Bool) (x y : Int) (I : ByteArray) (w : Bool) (h : (putF s t c a p x y I w).2 = 0) :
    ∃ l, (putF s t c a p x y I w).1 = ⟨(sealL l).toArray⟩ ∧ l.length ≤ 264 := by
  unfold putF at h ⊢
  have hA := sizeA s t (c == w)
  have hC := sizeC a p x y
  generalize Ctl.putC a p x y = C at *
  generalize Addr.putA s t (c == w) = A at *
  split at h
  · cases h
  · rename_i h1
    rw [if_neg h1]
    split at h
    · rename_i h2
      rw [if_pos h2]
      split at h
      · rename_i h3
        rw [if_pos h3]
        split at h
        · rename_i h4
          rw [if_pos h4]
          refine ⟨_, rfl, ?_⟩
          rw [← size_L, size_app, size_app]
          have hI : (I.size : Int) ≤ 260 := by
            unfold carF at h4
            split at h4
            · have := of_decide_eq_true h4; omega
            · split at h4
              · have := eq_of_beq h4; omega
              · simp only [Bool.and_eq_true, beq_iff_eq] at h4; omega
          omega
        · cases h
      · rename_i h3
        exact absurd h h3
    · rename_i h2
      exact absurd h h2
set_option maxHeartbeats 16000000 in
set_option maxRecDepth 1000000 in
theorem bitsW (s t : Int) (c : Bool) (a : Int) (p : Bool) (x y : Int) (I : ByteArray) (nw : Bool) (y0 y1 : Int) (w : World) (hL : Go.Proofs.YtdpgdnbknmncfaaDoorX.Laid w) (hI : I.size ≤ 140737488351232) (h0 : -9223372036854775808 ≤ y0) (h1 : y0 ≤ 9223372036854775807) :
    Calls Tryd.prog 10 #[.agg #[.int .i64 s, .int .i64 t, .bool c, .int .i64 a, .bool p, .int .i64 x, .int .i64 y, .string I], .bool nw, .agg #[.int .i64 y0, .int .i64 y1]] w fun e w' => e = .returned (.bool true) ∧ Below w.heap.size w w' := by
  have HLd := Aside0.mk hL
  clear hL
  obtain ⟨i0, hi, hz0, hz1', hz2⟩ := info_parts infoInt
  obtain ⟨P, HP⟩ : ∃ P, Aside0 (putF s t c a p x y I nw = P) := ⟨_, ⟨rfl⟩⟩
  have HPS := Aside0.mk (put_seal s t c a p x y I nw)
  have HPB := Aside0.mk (read_back s t c a p x y I nw nw)
  obtain ⟨P1, P2⟩ := P
  go_enter Tryd.func10, Tryd.ntmps10
  go_wp2_with fail
  refine (Print.lapwinglaw06_frames.calls s t c a p x y I s t c a p x y I s t c a p x y I _ rfl).mono ?_
  rintro e w1 ⟨rfl, hb⟩
  have c0 := pw_cell_below hb (box2 w _ _ _ _).1
  have c1 := pw_cell_below hb (box2 w _ _ _ _).2
  have hb1 := below_two hb
  clear hb
  go_wp2_with fail
  refine (Print.frame_Put.calls (I.size + 50) s t c a p x y I nw P1 P2 _ (Go.Proofs.YtdpgdnbknmncfaaDoorX.Laid_below HLd.out (((hb1.alloc hb1.size _)).alloc (by have := hb1.size; simp; omega) _)) ((put_eq _ s t c a p x y I nw hI (by omega)).trans (congrArg some HP.out))).mono ?_
  rintro e w2 ⟨rfl, hb⟩
  replace c0 := pw_cell_below hb (cell_al (cell_al c0 _) _)
  replace c1 := pw_cell_below hb (cell_al (cell_al c1 _) _)
  have hb2 := below_step hb1 (below_two hb)
  clear hb hb1
  go_wp2_with fail
  refine (wakes_walk _ (Go.Proofs.YtdpgdnbknmncfaaDoorX.Laid_below HLd.out hb2)).mono ?_
  rintro e w3 ⟨rfl, hb⟩
  replace c0 := pw_cell_below hb c0
  replace c1 := pw_cell_below hb c1
  have hb3 := below_step hb2 hb
  clear hb hb2
  by_cases hp : P2 = 0
  · subst hp
    obtain ⟨lb, hlb, hll⟩ := HPS.out (by rw [HP.out])
    rw [HP.out] at hlb
    replace hlb : P1 = ⟨(sealL lb).toArray⟩ := hlb
    have hz : P1.size = lb.length + 2 := by rw [hlb, size_L, L_mk, seal_length]
    have hz1 : 2 ≤ P1.size := by omega
    have HZ := Aside0.mk hz
    have HLB := Aside0.mk hlb
    clear hz hlb
    have HG0 : Aside0 ((getF P1 nw).2.2.2.2.2.2.2.2 = 0) := ⟨by
      have hr := HPB.out (by rw [HP.out])
      rw [HP.out] at hr
      obtain ⟨r1, r2, _⟩ := hr
      rw [eqw, if_pos r2] at r1
      exact congrArg (fun z => z.2.2.2.2.2.2.2.2) r1⟩
    clear HPB HPS HP
    obtain ⟨bs, HBS⟩ : ∃ b : ByteArray, Aside0 (b = ⟨(ofL (L P1)).toArray⟩) := ⟨_, ⟨rfl⟩⟩
    have HZB : Aside0 (bs.size = 8 * (lb.length + 2)) := ⟨by rw [HBS.out, size_L, L_mk, ofL_length, ← size_L, HZ.out]⟩
    have hz16 : 16 ≤ bs.size := by have := HZB.out; omega
    have hz3 : bs.size ≤ 2416 := by have := HZB.out; omega
    have HB0 : Aside0 (L bs = ofL (sealL lb)) := ⟨by rw [HBS.out, L_mk, HLB.out, L_mk]⟩
    go_wp2_with fail
    refine (BitsOf.walk P1 _ (by have := HZ.out; omega)).mono ?_
    rintro e w4 ⟨he, hb⟩
    rw [← HBS.out] at he
    subst he
    replace c0 := pw_cell_below hb c0
    replace c1 := pw_cell_below hb c1
    have hb4 := below_step hb3 hb
    clear hb hb3
    go_wp2_with fail
    obtain ⟨fr, hfr⟩ : ∃ fr : Nat, max 0 y0 % ((bs.size : Int) - 15) = (fr : Int) := ⟨(max 0 y0 % ((bs.size : Int) - 15)).toNat, by have := Int.emod_nonneg (max 0 y0) (by omega : (bs.size : Int) - 15 ≠ 0); omega⟩
    have hfl : fr + 16 ≤ bs.size := by have := Int.emod_lt_of_pos (max 0 y0) (by omega : 0 < (bs.size : Int) - 15); omega
    rw [hfr]
    clear hfr h0 h1
    obtain ⟨pt, HPT⟩ : ∃ pt : Nat → Bool, Aside0 (∀ k, pt k = (Go.bits .and .i64 (y1 / 2 ^ k) 1 == 1)) := ⟨_, ⟨fun _ => rfl⟩⟩
    have hs4 : w.heap.size + 1 < w4.heap.size := World.block_lt_of_cell? w4 _ c1
    go_loopw [13, 51] (fun v u wr => ∃ k : Nat, k ≤ 16 ∧ u = .int .i64 k ∧ Aside0 (wr.ownsRow (w.heap.size + 2) 3 1 v (Burst.places pt fr k).length (nums .i64 (Burst.places pt fr k))) ∧ Below (w.heap.size + 2) w4 wr) (fun _ u _ => 16 - (intOf u).toNat)
    case atStart => exact ⟨0, by omega, rfl, ⟨World.ownsRow_nil _ _ _ _⟩, Below.refl _ _⟩
    case round =>
      clear c0
      obtain ⟨k, hk, rfl, HO, hB⟩ := hrel
      have hpl := Burst.places_le pt fr k
      have hsr := hB.size
      by_cases hlt : k < 16
      · have hsum : 0 ≤ (fr : Int) + (k : Int) := by omega
        have c2 := (hB.cell (p := ⟨w.heap.size + 1, 1, none⟩) (by simp)).trans c1
        by_cases hp : pt k = true
        · have hpt := (HPT.out k).symm.trans hp
          have HN : Aside0 (Burst.places pt fr (k + 1) = Burst.places pt fr k ++ [((fr + k : Nat) : Int)]) := ⟨by simp [Burst.places, hp]⟩
          clear hp
          go_wp2_with (at_builtin; refine wpList_append_own _ rfl _ _ 55 rfl (w.heap.size + 2) 3 i0 (.int .i64 0) 1 8 Tryd.underlying55 hi hz0 hz1' hz2 rfl (by decide) _ _ _ rfl (HO.out.alloc _) ⟨wr.heap.size, 0, none⟩ 1 1 [.int .i64 ((fr : Int) + (k : Int))] rfl rfl ?c1 ?c2 ?c3 ?c4 ?c5 ?_)
          try (case c1 => exact cell_one_new _ _ _)
          case c2 => first | rfl | (intro u hu; simp at hu; subst hu; rfl)
          case c3 => unfold maxLen; omega
          case c4 => omega
          case c5 => simp; omega
          intro v' w5 hown' hgrow _
          have hB2 := (hB.alloc (by omega) _).grown hgrow (by simp; omega) (fun j hj => (HO.out.lt j hj).1)
          have HO2 : Aside0 (w5.ownsRow (w.heap.size + 2) 3 1 v' (Burst.places pt fr (k + 1)).length (nums .i64 (Burst.places pt fr (k + 1)))) := ⟨by
            rw [HN.out, nums_append, List.length_append]
            simpa [nums] using hown'⟩
          clear hown' hgrow c2
          go_wp2
          go_roundw
          case rel => exact ⟨k + 1, by omega, by go_num, HO2, hB2⟩
          case measure => simp [intOf]; omega
        · have hp' : pt k = false := by simpa using hp
          have hpt := (HPT.out k).symm.trans hp'
          have HN : Aside0 (Burst.places pt fr (k + 1) = Burst.places pt fr k) := ⟨by simp [Burst.places, hp']⟩
          clear hp hp'
          go_wp2
          go_roundw
          case rel => exact ⟨k + 1, by omega, by go_num, by rw [HN.out]; exact HO, hB⟩
          case measure => simp [intOf]; omega
      · obtain rfl : k = 16 := by omega
        have hb5 : Below w.heap.size w wr := hb4.trans (hB.mono (by omega))
        clear hb4 hB c1 hs4
        obtain ⟨A, c, rfl, hc, hC⟩ := own_shape HO.out
        have hf := Burst.found_places lb pt fr (by have := HZB.out; omega)
        rw [← HB0.out] at hf
        have hno := Burst.places_none pt fr 16
        generalize Burst.places pt fr 16 = m at hf hno hC hpl hc HO
        obtain ⟨tb, HTB⟩ : ∃ b : ByteArray, Aside0 (b = ⟨(turnL (L bs) m).toArray⟩) := ⟨_, ⟨rfl⟩⟩
        have HF1 : Aside0 (octR (L tb) = (octsL (L tb), 0)) := ⟨by rw [HTB.out, L_mk]; exact hf.1⟩
        have HF2 : Aside0 (m ≠ [] → checkL (octsL (L tb)) = ([], 6)) := ⟨fun h => by rw [HTB.out, L_mk]; exact hf.2 (hno h)⟩
        have HF3 : Aside0 (m = [] → octsL (L tb) = L P1) := ⟨fun h => by
          rw [HTB.out, L_mk, h]
          show octsL (L bs) = L P1
          rw [HBS.out, L_mk, octs_of]⟩
        have HT : Aside0 (tb.size = bs.size) := ⟨by rw [HTB.out, size_L, L_mk, turnL_length, ← size_L]⟩
        obtain ⟨ob, HOB⟩ : ∃ b : ByteArray, Aside0 (b = ⟨(octsL (L tb)).toArray⟩) := ⟨_, ⟨rfl⟩⟩
        have HOZ : Aside0 (ob.size ≤ 2416) := ⟨by rw [HOB.out, size_L, L_mk]; unfold octsL; rw [List.length_map, List.length_range, ← size_L, HT.out]; omega⟩
        obtain ⟨⟨r1, r2, r3, r4, r5, r6, r7, r8, r9⟩, HR⟩ : ∃ R : Fr, Aside0 (getF ob nw = R) := ⟨_, ⟨rfl⟩⟩
        have HR9 : Aside0 (((r9 == 0) == ((m.length : Int) == 0)) = true) := ⟨by
          cases m with
          | nil =>
            have e : ob = P1 := by rw [HOB.out, HF3.out rfl]
            have h9 := HG0.out
            rw [← e, HR.out] at h9
            have h9' : r9 = 0 := h9
            rw [h9']; rfl
          | cons z m =>
            have e : checkL (L ob) = ([], 6) := by rw [HOB.out, L_mk]; exact HF2.out (by simp)
            have h9 := HR.out
            unfold getF at h9
            rw [e, if_neg (by decide)] at h9
            have h9' : r9 = 6 := (congrArg (fun q : Fr => q.2.2.2.2.2.2.2.2) h9).symm
            rw [h9']
            have : ((((z :: m).length : Nat) : Int) == 0) = false := by simp; omega
            rw [this]; rfl⟩
        clear hf hno HO
        go_wp2_with fail
        refine (Flip.walkN bs A _ c m _ (by omega) (Kd.C_below hC (Below.refl _ _)) hc).mono ?_
        rintro e w5 ⟨he, hb⟩
        rw [← HTB.out] at he
        subst he
        have hb6 := below_step hb5 hb
        clear hb hb5 hC
        go_wp2_with fail
        refine (OctW.walk tb _ (by have := HT.out; omega)).mono ?_
        rintro e w6 ⟨he, hb⟩
        rw [HF1.out] at he
        rw [← HOB.out] at he
        subst he
        have hb7 := below_step hb6 hb
        clear hb hb6
        go_wp2_with fail
        refine (Print.frame_Get.calls (ob.size + 70) ob nw r1 r2 r3 r4 r5 r6 r7 r8 r9 _ (Go.Proofs.YtdpgdnbknmncfaaDoorX.Laid_below HLd.out hb7) ((get_F _ ob nw (by have := HOZ.out; omega) (by omega)).trans (congrArg some HR.out))).mono ?_
        rintro e w7 ⟨rfl, hb⟩
        have hb8 := below_step hb7 hb
        clear hb hb7
        go_wp2
        go_ret
        exact ⟨congrArg (fun z => Ending.returned (Value.bool z)) HR9.out, hb8.alloc hb8.size _⟩
  · have hp' : (P2 != 0) = true := by simpa using hp
    clear hp
    go_wp2_with fail
    refine (wakes_walk _ (Go.Proofs.YtdpgdnbknmncfaaDoorX.Laid_below HLd.out hb3)).mono ?_
    rintro e w4 ⟨rfl, hb⟩
    have hb4 := below_step hb3 hb
    go_wp2
    go_ret
    exact ⟨rfl, hb4⟩
theorem FrameBits (s t : Int) (c : Bool) (a : Int) (p : Bool) (x y : Int) (I : ByteArray) (nw : Bool) (y0 y1 : Int) (w : World) (hL : Go.Proofs.YtdpgdnbknmncfaaDoorX.Laid w) (w0 : (Lit.int .i64 s).wf = true) (w1 : (Lit.int .i64 t).wf = true) (w3 : (Lit.int .i64 a).wf = true) (w5 : (Lit.int .i64 x).wf = true) (w6 : (Lit.int .i64 y).wf = true) (hI : I.size ≤ 140737488351232) (v0 : (Lit.int .i64 y0).wf = true) (v1 : (Lit.int .i64 y1).wf = true) :
    Calls Tryd.prog 10 #[.agg #[.int .i64 s, .int .i64 t, .bool c, .int .i64 a, .bool p, .int .i64 x, .int .i64 y, .string I], .bool nw, .agg #[.int .i64 y0, .int .i64 y1]] w fun e w' => e = .returned (.bool true) ∧ Below w.heap.size w w' :=
  bitsW s t c a p x y I nw y0 y1 w hL hI (bounds_i64 v0).1 (bounds_i64 v0).2
end Go.Proofs.YtdpgdnbknmncfaaDoor.Wk
