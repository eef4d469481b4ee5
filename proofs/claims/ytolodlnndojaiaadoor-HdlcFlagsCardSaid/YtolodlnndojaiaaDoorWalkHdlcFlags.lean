/- The law HdlcFlags by its own text: it answers true. -/
import Derived.Test.YtolodlnndojaiaaDoorHdlcLaw
import Derived.Test.YtolodlnndojaiaaDoorWEqStruct
import Derived.OpenShut
namespace Go.Proofs.YtolodlnndojaiaaDoor.Wk
open Go.RowKit Go.Proofs.YtolodlnndojaiaaDoorW.PrintWords Go.Proofs.YtolodlnndojaiaaDoorW.PrintLast Go.Proofs.YtolodlnndojaiaaDoorW.PrintMore Go.Proofs.YtolodlnndojaiaaDoor.Str Go.Proofs.YtolodlnndojaiaaDoor.Bits Go.Proofs.YtolodlnndojaiaaDoor.Oct Go.Proofs.YtolodlnndojaiaaDoor.Hd
set_option linter.unusedVariables false
attribute [local go_sem] max2_int min2_int
set_option maxHeartbeats 4000000 in
set_option maxRecDepth 1000000 in
theorem flagsW (a0 : ByteArray) (n m : Int) (w : World) (w0 : a0.size ≤ 140737488351232) :
    Calls Tryd.prog 4 #[.string a0, .int .i64 n, .int .i64 m] w fun e w' => e = .returned (.bool true) ∧ Below w.heap.size w w' := by
  obtain ⟨k, hk⟩ : ∃ k : Nat, max 0 n % 20 = (k : Int) := ⟨(max 0 n % 20).toNat, by have := Int.emod_nonneg (max 0 n) (by omega : (20 : Int) ≠ 0); omega⟩
  have hk20 : k < 20 := by have := Int.emod_lt_of_pos (max 0 n) (by omega : (0 : Int) < 20); omega
  obtain ⟨j, hj⟩ : ∃ j : Nat, max 0 m % 20 = (j : Int) := ⟨(max 0 m % 20).toNat, by have := Int.emod_nonneg (max 0 m) (by omega : (20 : Int) ≠ 0); omega⟩
  have hj20 : j < 20 := by have := Int.emod_lt_of_pos (max 0 m) (by omega : (0 : Int) < 20); omega
  have hz : (a0.extract 0 (min (a0.size : Int) 100).toNat).size ≤ 100 := cut_size a0 100
  obtain ⟨t, HT⟩ : ∃ t : ByteArray, Aside0 (t = ⟨#[122]⟩ ++ a0.extract 0 (min (a0.size : Int) 100).toNat) := ⟨_, ⟨rfl⟩⟩
  have hzt : t.size ≤ 101 := by rw [HT.out, ByteArray.size_append]; show 1 + _ ≤ _; omega
  have ht0 : L t ≠ [] := by rw [HT.out, L_app]; simp [L]
  have HT0 := Aside0.mk ht0
  have HT' := Aside0.mk HT.out.symm
  clear ht0
  go_enter Tryd.func4, Tryd.ntmps4
  go_wp2
  rw [HT'.out]
  try rw [hk]
  clear hk hz
  go_loopw [7, 18] (fun u x wr => ∃ i : Nat, i ≤ k ∧ x = .int .i64 i ∧ u = .string ⟨(flags i).toArray⟩ ∧ w = wr) (fun _ x _ => k - (intOf x).toNat)
  case atStart => exact ⟨0, Nat.zero_le _, rfl, rfl, rfl⟩
  case round =>
    obtain ⟨i, hi, rfl, rfl, rfl⟩ := hrel
    have hfl := flags_length i
    by_cases hlt : i < k
    · have he : (⟨(flags i).toArray⟩ : ByteArray) ++ ⟨#[48, 49, 49, 49, 49, 49, 49, 48]⟩ = ⟨(flags (i + 1)).toArray⟩ := inj (by rw [L_app, L_mk, L_mk]; rfl)
      have HE := Aside0.mk he
      clear he
      go_wp2
      go_roundw
      case rel => exact ⟨i + 1, by omega, by go_num, by rw [HE.out], (by first | rfl | trivial)⟩
      case measure => simp [intOf]; omega
    · obtain rfl : i = k := by omega
      clear hi hlt
      have hel := encL_length (L t)
      rw [← size_L] at hel
      go_wp2_with fail
      refine (encode t _ (by omega)).mono ?_
      rintro e w1 ⟨rfl, hb⟩
      have he : (⟨(flags i).toArray⟩ : ByteArray) ++ ⟨(encL (L t)).toArray⟩ = ⟨(flags i ++ encL (L t) ++ flags 0).toArray⟩ := inj (by rw [L_app, L_mk, L_mk, L_mk]; simp [flags])
      have HE := Aside0.mk he
      clear he
      go_wp2
      rw [HE.out]
      try rw [hj]
      clear hj HE
      go_loopw [7, 30] (fun u x wr => ∃ y : Nat, y ≤ j ∧ x = .int .i64 y ∧ u = .string ⟨(flags i ++ encL (L t) ++ flags y).toArray⟩ ∧ w1 = wr) (fun _ x _ => j - (intOf x).toNat)
      case atStart => exact ⟨0, Nat.zero_le _, rfl, rfl, rfl⟩
      case round =>
        obtain ⟨y, hy, rfl, rfl, rfl⟩ := hrel
        have hlen : (flags i ++ encL (L t) ++ flags y).length = (encL (L t)).length + 8 * i + 8 * y := by rw [List.length_append, List.length_append, flags_length, flags_length]; omega
        obtain ⟨bl, HBL⟩ : ∃ bl, Aside0 (flags i ++ encL (L t) ++ flags y = bl) := ⟨_, ⟨rfl⟩⟩
        rw [HBL.out] at hlen ⊢
        by_cases hlt : y < j
        · have he : (⟨bl.toArray⟩ : ByteArray) ++ ⟨#[48, 49, 49, 49, 49, 49, 49, 48]⟩ = ⟨(flags i ++ encL (L t) ++ flags (y + 1)).toArray⟩ := inj (by rw [L_app, L_mk, L_mk, ← HBL.out, flags, List.append_assoc _ (flags y)]; rfl)
          have HE := Aside0.mk he
          clear he
          go_wp2
          go_roundw
          case rel => exact ⟨y + 1, by omega, by go_num, by rw [HE.out], (by first | rfl | trivial)⟩
          case measure => simp [intOf]; omega
        · obtain rfl : y = j := by omega
          clear hy hlt
          obtain ⟨s', hf⟩ := feed_around i y (L t) HT0.out (by rw [← size_L]; omega)
          rw [HBL.out] at hf
          have HF := Aside0.mk hf
          clear hf
          go_wp2_with fail
          refine (new _).mono ?_
          rintro e w2 ⟨rfl, hw1⟩
          have hd := Dec.new w _ w.heap.size hb hb.size
          rw [← hw1] at hd
          have HD := Aside0.mk hd
          clear hd hw1 hb
          go_wp2_with fail
          refine (feed_dec _ _ _ _ _ ⟨bl.toArray⟩ _ _ HD.out new_ok (by decide) (by rw [size_L, L_mk]; omega) HF.out).mono ?_
          rintro e w3 ⟨u, rfl, hev, hd⟩
          have HEV := Aside0.mk hev
          have HD3 := Aside0.mk hd
          clear hd hev HD
          go_wp2_with fail
          refine (Hd.wakes _).mono ?_
          rintro e w4 ⟨rfl, hb⟩
          have HD4 := Aside0.mk (HD3.out.kept hb)
          have hev := HEV.out.kept hb
          clear HEV HD3 hb
          obtain ⟨g, c, rfl, hc, hcl⟩ := hev.shape (by simp)
          have c0 := (hcl 0 (by simp)).1
          have c1 := (hcl 0 (by simp)).2
          replace c1 : w4.cell? ⟨g, 2 * 0 + 1, none⟩ = some (.string t) := c1
          clear hcl hev
          go_wp2
          go_ret
          exact ⟨rfl, HD4.out.2.1⟩
theorem HdlcFlags (a0 : ByteArray) (a1 a2 : Int) (w : World) (w0 : a0.size ≤ 140737488351232) (w1 : (Lit.int .i64 a1).wf = true) (w2 : (Lit.int .i64 a2).wf = true) :
    Calls Tryd.prog 4 #[.string a0, .int .i64 a1, .int .i64 a2] w fun e w' => e = .returned (.bool true) ∧ Below w.heap.size w w' :=
  flagsW a0 a1 a2 w w0
end Go.Proofs.YtolodlnndojaiaaDoor.Wk
