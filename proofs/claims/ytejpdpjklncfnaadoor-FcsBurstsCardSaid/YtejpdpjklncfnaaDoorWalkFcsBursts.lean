/- The law FcsBursts by its own text: it answers true. -/
import Derived.Test.YtejpdpjklncfnaaDoorWalkFcsEach
import Derived.OpenShut
namespace Go.Proofs.YtejpdpjklncfnaaDoor.Wk
open Go.RowKit Go.Proofs.YtejpdpjklncfnaaDoorW.PrintWords Go.Proofs.YtejpdpjklncfnaaDoorW.PrintLast Go.Proofs.YtejpdpjklncfnaaDoorW.PrintMore Go.Proofs.YtejpdpjklncfnaaDoor.Str Go.Proofs.YtejpdpjklncfnaaDoor.Bits Go.Proofs.YtejpdpjklncfnaaDoor.Oct Go.Proofs.YtejpdpjklncfnaaDoor.Fcs
set_option linter.unusedVariables false
attribute [local go_sem] max2_int min2_int
theorem infoInt : (Tryd.prog.info? 3).map (fun i => (i.zero, i.size, i.bytes)) = some (some (.int .i64 0), 1, 8) := by kernel_rfl
theorem known : Crc.num (crc [49, 50, 51, 52, 53, 54, 55, 56, 57]) = 36974 := by decide +kernel
theorem known_sum (k : Nat) (hk : 18 < k) : Print.fcs_Sum.f k (⟨#[49, 50, 51, 52, 53, 54, 55, 56, 57]⟩ : ByteArray) = some 36974 := by
  have hs : (⟨#[49, 50, 51, 52, 53, 54, 55, 56, 57]⟩ : ByteArray).size = 9 := rfl
  rw [sum_eq k _ (by rw [hs]; decide) (by rw [hs]; omega), show L (⟨#[49, 50, 51, 52, 53, 54, 55, 56, 57]⟩ : ByteArray) = [49, 50, 51, 52, 53, 54, 55, 56, 57] from rfl, known]
/-- A row of numbers that the call owns, as a slice that is read. -/
theorem own_shape {w : World} {base : Nat} {e : TypeId} {v : Value} {k : IntKind} {xs : List Int} (h : w.ownsRow base e 1 v xs.length (nums k xs)) : ∃ A c, v = .slice A xs.length c ∧ xs.length ≤ c ∧ (Kd.int k).C w A xs.length xs := by
  obtain ⟨A, c, rfl, hr⟩ := own_reads h
  refine ⟨A, c, rfl, ?_, Kd.C_of_reads (d := (0 : Int)) (h1 := fun _ => rfl) hr⟩
  rcases h.2 with ⟨h1, h2⟩ | ⟨g, cap, cur, h1, _, _, h2, _⟩
  · omega
  · injection h1 with _ _ h3
    omega
set_option maxHeartbeats 8000000 in
set_option maxRecDepth 1000000 in
theorem FcsBursts (a0 : ByteArray) (a1 a2 : Int) (w : World) (w0 : a0.size ≤ 140737488351232) (w1 : (Lit.int .i64 a1).wf = true) (w2 : (Lit.int .u16 a2).wf = true) :
    Calls Tryd.prog 3 #[.string a0, .int .i64 a1, .int .u16 a2] w fun e w' => e = .returned (.bool true) ∧ Below w.heap.size w w' := by
  obtain ⟨h10, h11⟩ := bounds_i64 w1
  obtain ⟨h20, h21⟩ := bounds_u16 w2
  obtain ⟨i0, hi, hz0, hz1', hz2⟩ := info_parts infoInt
  clear w1 w2
  go_enter Tryd.func3, Tryd.ntmps3
  go_wp2_with fail
  have z0 := cut_le a0 300
  generalize a0.extract 0 (min (a0.size : Int) 300).toNat = s at z0
  obtain ⟨sl, HSL⟩ : ∃ b : ByteArray, Aside0 (b = ⟨(sealL (L s)).toArray⟩) := ⟨_, ⟨rfl⟩⟩
  obtain ⟨bs, HBS⟩ : ∃ b : ByteArray, Aside0 (b = ⟨(ofL (L sl)).toArray⟩) := ⟨_, ⟨rfl⟩⟩
  have HL1 : Aside0 (sl.size = s.size + 2) := ⟨by rw [HSL.out, size_L, L_mk, seal_length, ← size_L]⟩
  have HZ : Aside0 (bs.size = 8 * (s.size + 2)) := ⟨by rw [HBS.out, size_L, L_mk, ofL_length, ← size_L, HL1.out]⟩
  have hz1 : 16 ≤ bs.size := by have := HZ.out; omega
  have hz3 : bs.size ≤ 2416 := by have := HZ.out; omega
  have HB0 : Aside0 (L bs = ofL (sealL (L s))) := ⟨by rw [HBS.out, L_mk, HSL.out, L_mk]⟩
  refine (seal_walk s _ (by omega)).mono ?_
  rintro e w1 ⟨he, hb0⟩
  rw [← HSL.out] at he
  subst he
  go_wp2_with fail
  refine (BitsOf.walk sl _ (by have := HL1.out; omega)).mono ?_
  rintro e w2 ⟨he, hb1⟩
  rw [← HBS.out] at he
  subst he
  have hb2 := below_step hb0 hb1
  clear hb0 hb1
  have hlt16 : ((bs.size : Int) < 16) = False := by simp; omega
  go_wp2_with fail
  obtain ⟨fr, hfr⟩ : ∃ fr : Nat, max 0 a1 % ((bs.size : Int) - 15) = (fr : Int) := ⟨(max 0 a1 % ((bs.size : Int) - 15)).toNat, by have := Int.emod_nonneg (max 0 a1) (by omega : (bs.size : Int) - 15 ≠ 0); omega⟩
  have hfl : fr + 16 ≤ bs.size := by have := Int.emod_lt_of_pos (max 0 a1) (by omega : 0 < (bs.size : Int) - 15); omega
  rw [hfr]
  clear hfr hlt16 h10 h11
  obtain ⟨pt, HP⟩ : ∃ pt : Nat → Bool, Aside0 (∀ k, pt k = (Go.bits .and .u16 (a2 / 2 ^ k) 1 == 1)) := ⟨_, ⟨fun _ => rfl⟩⟩
  go_loopw [9, 32] (fun v u wr => ∃ k : Nat, k ≤ 16 ∧ u = .int .i64 k ∧ Aside0 (wr.ownsRow w.heap.size 3 1 v (Burst.places pt fr k).length (nums .i64 (Burst.places pt fr k))) ∧ Below w.heap.size w wr) (fun _ u _ => 16 - (intOf u).toNat)
  case atStart => exact ⟨0, by omega, rfl, ⟨World.ownsRow_nil _ _ _ _⟩, hb2⟩
  case round =>
    clear hb2
    obtain ⟨k, hk, rfl, HO, hB⟩ := hrel
    have hpl := Burst.places_le pt fr k
    by_cases hlt : k < 16
    · have hsum : 0 ≤ (fr : Int) + (k : Int) := by omega
      have hB' := hB.size
      by_cases hp : pt k = true
      · have hpt := (HP.out k).symm.trans hp
        have HN : Aside0 (Burst.places pt fr (k + 1) = Burst.places pt fr k ++ [((fr + k : Nat) : Int)]) := ⟨by simp [Burst.places, hp]⟩
        clear hp
        go_wp2_with (at_builtin; refine wpList_append_own _ rfl _ _ 24 rfl w.heap.size 3 i0 (.int .i64 0) 1 8 Tryd.underlying24 hi hz0 hz1' hz2 rfl (by decide) _ _ _ rfl (HO.out.alloc _) ⟨wr.heap.size, 0, none⟩ 1 1 [.int .i64 ((fr : Int) + (k : Int))] rfl rfl ?c1 ?c2 ?c3 ?c4 ?c5 ?_)
        try (case c1 => exact cell_one_new _ _ _)
        case c2 => first | rfl | (intro u hu; simp at hu; subst hu; rfl)
        case c3 => unfold maxLen; omega
        case c4 => omega
        case c5 => simp; omega
        intro v' w3 hown' hgrow _
        have hB2 := (hB.alloc hB.size _).grown hgrow (by simp; omega) (fun j hj => (HO.out.lt j hj).1)
        have HO2 : Aside0 (w3.ownsRow w.heap.size 3 1 v' (Burst.places pt fr (k + 1)).length (nums .i64 (Burst.places pt fr (k + 1)))) := ⟨by
          rw [HN.out, nums_append, List.length_append]
          simpa [nums] using hown'⟩
        clear hown' hgrow
        go_wp2
        go_roundw
        case rel => exact ⟨k + 1, by omega, by go_num, HO2, hB2⟩
        case measure => simp [intOf]; omega
      · have hp' : pt k = false := by simpa using hp
        have hpt := (HP.out k).symm.trans hp'
        have HN : Aside0 (Burst.places pt fr (k + 1) = Burst.places pt fr k) := ⟨by simp [Burst.places, hp']⟩
        clear hp hp'
        go_wp2
        go_roundw
        case rel => exact ⟨k + 1, by omega, by go_num, by rw [HN.out]; exact HO, hB⟩
        case measure => simp [intOf]; omega
    · obtain rfl : k = 16 := by omega
      obtain ⟨A, c, rfl, hc, hC⟩ := own_shape HO.out
      have hf := Burst.found_places (L s) pt fr (by have := HZ.out; rw [← size_L]; omega)
      rw [← HB0.out] at hf
      have hno := Burst.places_none pt fr 16
      generalize Burst.places pt fr 16 = m at hf hno hC hpl hc HO
      obtain ⟨tb, HTB⟩ : ∃ b : ByteArray, Aside0 (b = ⟨(turnL (L bs) m).toArray⟩) := ⟨_, ⟨rfl⟩⟩
      have HF1 : Aside0 (octR (L tb) = (octsL (L tb), 0)) := ⟨by rw [HTB.out, L_mk]; exact hf.1⟩
      have HF2 : Aside0 (m ≠ [] → checkL (octsL (L tb)) = ([], 6)) := ⟨fun h => by rw [HTB.out, L_mk]; exact hf.2 (hno h)⟩
      have HT : Aside0 (tb.size = bs.size) := ⟨by rw [HTB.out, size_L, L_mk, turnL_length, ← size_L]⟩
      obtain ⟨ob, HOB⟩ : ∃ b : ByteArray, Aside0 (b = ⟨(octsL (L tb)).toArray⟩) := ⟨_, ⟨rfl⟩⟩
      have HOZ : Aside0 (ob.size ≤ 2416) := ⟨by rw [HOB.out, size_L, L_mk]; unfold octsL; rw [List.length_map, List.length_range, ← size_L, HT.out]; omega⟩
      have HKS : ∀ W, Calls Tryd.prog 9 #[.string ⟨#[49, 50, 51, 52, 53, 54, 55, 56, 57]⟩] W fun e w' => e = .returned (.int .u16 36974) ∧ Drawn0 W w' := fun W => Print.fcs_Sum.calls 20 _ _ W (known_sum 20 (by omega))
      clear hf hno HO
      cases m with
      | nil =>
        go_wp2_with fail
        refine (Flip.walkN bs A _ c [] _ (by omega) hC hc).mono ?_
        rintro e w3 ⟨he, hb3⟩
        rw [← HTB.out] at he
        subst he
        have hb4 := below_step hB hb3
        clear hb3 hB hC
        go_wp2_with fail
        refine (OctW.walk tb _ (by have := HT.out; omega)).mono ?_
        rintro e w4 ⟨he, hb5⟩
        rw [HF1.out] at he
        rw [← HOB.out] at he
        subst he
        have hb6 := below_step hb4 hb5
        clear hb4 hb5
        go_wp2_with fail
        refine (HKS _).mono ?_
        rintro e w5 ⟨rfl, hd⟩
        have hb7 := below_step hb6 hd.below
        clear hb6 hd
        go_wp2
        go_ret
        exact ⟨rfl, hb7⟩
      | cons x m =>
        go_wp2_with fail
        refine (Flip.walkN bs A _ c (x :: m) _ (by omega) hC hc).mono ?_
        rintro e w3 ⟨he, hb3⟩
        rw [← HTB.out] at he
        subst he
        have hb4 := below_step hB hb3
        clear hb3 hB hC
        go_wp2_with fail
        refine (OctW.walk tb _ (by have := HT.out; omega)).mono ?_
        rintro e w4 ⟨he, hb5⟩
        rw [HF1.out] at he
        rw [← HOB.out] at he
        subst he
        have hb6 := below_step hb4 hb5
        clear hb4 hb5
        go_wp2_with fail
        refine (check_walk ob _ (by have := HOZ.out; omega)).mono ?_
        rintro e w5 ⟨he, hb7⟩
        rw [HOB.out, L_mk, HF2.out (by simp)] at he
        subst he
        have hb8 := below_step hb6 hb7
        clear hb6 hb7
        go_wp2
        go_ret
        exact ⟨rfl, hb8⟩
end Go.Proofs.YtejpdpjklncfnaaDoor.Wk
