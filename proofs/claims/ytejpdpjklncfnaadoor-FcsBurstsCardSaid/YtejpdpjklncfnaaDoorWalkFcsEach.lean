/- The law FcsEach by its own text: it answers true. -/
import Derived.Test.YtejpdpjklncfnaaDoorBurst
import Derived.Test.YtejpdpjklncfnaaDoorOctW
import Derived.Test.YtejpdpjklncfnaaDoorBitsOf
import Derived.Test.YtejpdpjklncfnaaDoorFlip
namespace Go.Proofs.YtejpdpjklncfnaaDoor.Wk
open Go.RowKit Go.Proofs.YtejpdpjklncfnaaDoorW.PrintWords Go.Proofs.YtejpdpjklncfnaaDoorW.PrintLast Go.Proofs.YtejpdpjklncfnaaDoorW.PrintMore Go.Proofs.YtejpdpjklncfnaaDoor.Str Go.Proofs.YtejpdpjklncfnaaDoor.Bits Go.Proofs.YtejpdpjklncfnaaDoor.Oct Go.Proofs.YtejpdpjklncfnaaDoor.Fcs
set_option linter.unusedVariables false
attribute [local go_sem] max2_int min2_int
/-- fcs.Seal and fcs.Check as plain functions. -/
theorem seal_walk (s : ByteArray) (w : World) (hs : s.size ≤ 9223372036854775805) :
    Calls Tryd.prog 6 #[.string s] w fun e w' => e = .returned (.string ⟨(sealL (L s)).toArray⟩) ∧ Below w.heap.size w w' :=
  Print.fcs_Seal.calls (s.size + 10) s _ w (seal_eq _ s hs (by omega))
theorem check_walk (s : ByteArray) (w : World) (hs : s.size ≤ 9223372036854775805) :
    Calls Tryd.prog 10 #[.string s] w fun e w' => e = .returned (.tuple #[.string ⟨(checkL (L s)).1.toArray⟩, .int .i64 (checkL (L s)).2]) ∧ Below w.heap.size w w' :=
  Print.fcs_Check.calls (s.size + 10) s _ _ w (check_eq _ s hs (by omega))
theorem cut_le (a : ByteArray) (n : Nat) : (a.extract 0 (min (a.size : Int) (n : Int)).toNat).size ≤ n := by
  rw [ByteArray.size_extract]; omega
/-- One number, made by a call. -/
theorem one_int (w : World) (x : Int) : (Kd.int .i64).C (w.alloc (.cells #[.int .i64 x] 3)) (some ⟨w.heap.size, 0, none⟩) 1 [x] := by
  refine ⟨rfl, by decide, fun _ => ⟨_, rfl, fun j p hj => ⟨[.int .i64 p], rfl, rfl, fun i u hu => ?_⟩⟩⟩
  match j, hj with
  | 0, hj =>
    match i, hu with
    | 0, hu =>
      simp at hj hu
      subst hj; subst hu
      exact cell_one_new w _ 3 0 _ rfl
set_option maxHeartbeats 4000000 in
set_option maxRecDepth 1000000 in
theorem FcsEach (a0 : ByteArray) (w : World) (w0 : a0.size ≤ 140737488351232) :
    Calls Tryd.prog 4 #[.string a0] w fun e w' => e = .returned (.bool true) ∧ Below w.heap.size w w' := by
  go_enter Tryd.func4, Tryd.ntmps4
  go_wp2_with fail
  have z0 := cut_le a0 60
  generalize a0.extract 0 (min (a0.size : Int) 60).toNat = s at z0
  obtain ⟨sl, HSL⟩ : ∃ b : ByteArray, Aside0 (b = ⟨(sealL (L s)).toArray⟩) := ⟨_, ⟨rfl⟩⟩
  obtain ⟨bs, HBS⟩ : ∃ b : ByteArray, Aside0 (b = ⟨(ofL (L sl)).toArray⟩) := ⟨_, ⟨rfl⟩⟩
  have HL1 : Aside0 (sl.size = s.size + 2) := ⟨by rw [HSL.out, size_L, L_mk, seal_length, ← size_L]⟩
  have hz1 : (bs.size : Int) = 8 * (s.size : Int) + 16 := by rw [HBS.out, size_L, L_mk, ofL_length, ← size_L, HL1.out]; omega
  have HZ := Aside0.mk hz1
  have HB0 : Aside0 (L bs = ofL (sealL (L s))) := ⟨by rw [HBS.out, L_mk, HSL.out, L_mk]⟩
  refine (seal_walk s _ (by omega)).mono ?_
  rintro e w1 ⟨he, hb0⟩
  rw [← HSL.out] at he
  subst he
  go_wp2_with fail
  refine (BitsOf.walk sl _ (by have := HL1.out; omega)).mono ?_
  rintro e w2 ⟨he, hb1⟩
  rw [← HBS.out] at he
  subst he
  have hb2 := below_step hb0 hb1
  clear hb0 hb1
  have hne : ((bs.size : Int) != 8 * (s.size : Int) + 16) = false := by rw [hz1]; simp
  clear hz1
  go_wp2_with fail
  go_loopw [26] (fun v wr => ∃ i : Nat, i ≤ bs.size ∧ v = .int .i64 i ∧ Below w.heap.size w wr) (fun v _ => bs.size - (intOf v).toNat)
  case atStart => exact ⟨0, Nat.zero_le _, rfl, hb2⟩
  case round =>
    clear hb2
    obtain ⟨i, hi, rfl, hB⟩ := hrel
    have hbz : bs.size ≤ 496 := by have := HZ.out; omega
    by_cases hlt : i < bs.size
    · have hf := Burst.found_one (L s) i (by have := HZ.out; rw [← size_L]; omega)
      rw [← HB0.out] at hf
      obtain ⟨tb, HTB⟩ : ∃ b : ByteArray, Aside0 (b = ⟨(turnL (L bs) [(i : Int)]).toArray⟩) := ⟨_, ⟨rfl⟩⟩
      have HF1 : Aside0 (octR (L tb) = (octsL (L tb), 0)) := ⟨by rw [HTB.out, L_mk]; exact hf.1⟩
      have HF2 : Aside0 (checkL (octsL (L tb)) = ([], 6)) := ⟨by rw [HTB.out, L_mk]; exact hf.2⟩
      have HT : Aside0 (tb.size = bs.size) := ⟨by rw [HTB.out, size_L, L_mk, turnL_length, ← size_L]⟩
      obtain ⟨ob, HOB⟩ : ∃ b : ByteArray, Aside0 (b = ⟨(octsL (L tb)).toArray⟩) := ⟨_, ⟨rfl⟩⟩
      have HO : Aside0 (ob.size ≤ 496) := ⟨by rw [HOB.out, size_L, L_mk]; unfold octsL; rw [List.length_map, List.length_range, ← size_L, HT.out]; omega⟩
      have hC := one_int wr (i : Int)
      have hB' : Below w.heap.size w (wr.alloc (.cells #[.int .i64 (i : Int)] 3)) := hB.alloc hB.size _
      clear hf
      go_wp2_with fail
      refine (Flip.walkN bs _ 1 1 [(i : Int)] _ (by omega) hC (Nat.le_refl _)).mono ?_
      rintro e w3 ⟨he, hb3⟩
      rw [← HTB.out] at he
      subst he
      have hb4 := below_step hB' hb3
      clear hb3 hB' hB hC
      go_wp2_with fail
      refine (OctW.walk tb _ (by have := HT.out; omega)).mono ?_
      rintro e w4 ⟨he, hb5⟩
      rw [HF1.out] at he
      rw [← HOB.out] at he
      subst he
      have hb6 := below_step hb4 hb5
      clear hb4 hb5
      go_wp2_with fail
      refine (check_walk ob _ (by have := HO.out; omega)).mono ?_
      rintro e w5 ⟨he, hb7⟩
      rw [HOB.out, L_mk, HF2.out] at he
      subst he
      have hb8 := below_step hb6 hb7
      clear hb6 hb7
      go_wp2
      go_roundw
      case rel => exact ⟨i + 1, by omega, by go_num, hb8⟩
      case measure => simp [intOf]; omega
    · go_wp2
      go_ret
      exact ⟨rfl, hB⟩
end Go.Proofs.YtejpdpjklncfnaaDoor.Wk
