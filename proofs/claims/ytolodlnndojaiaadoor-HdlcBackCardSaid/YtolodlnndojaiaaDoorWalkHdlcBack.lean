/- The law HdlcBack by its own text: it answers true. -/
import Derived.Test.YtolodlnndojaiaaDoorHdlcLaw
import Derived.Test.YtolodlnndojaiaaDoorUnst
import Derived.OpenShut
namespace Go.Proofs.YtolodlnndojaiaaDoor.Wk
open Go.RowKit Go.Proofs.YtolodlnndojaiaaDoorW.PrintWords Go.Proofs.YtolodlnndojaiaaDoorW.PrintLast Go.Proofs.YtolodlnndojaiaaDoorW.PrintMore Go.Proofs.YtolodlnndojaiaaDoor.Str Go.Proofs.YtolodlnndojaiaaDoor.Bits Go.Proofs.YtolodlnndojaiaaDoor.Oct Go.Proofs.YtolodlnndojaiaaDoor.Hd
set_option linter.unusedVariables false
attribute [local go_sem] max2_int min2_int
set_option maxHeartbeats 4000000 in
set_option maxRecDepth 1000000 in
theorem HdlcBack (a0 : ByteArray) (m : Int) (w : World) (hm : w.cell? ⟨0, 0, none⟩ = some (.int .i64 m)) (w0 : a0.size ≤ 140737488351232) :
    Calls Tryd.prog 10 #[.string a0] w fun e w' => e = .returned (.bool true) ∧ Below w.heap.size w w' := by
  have hz : (a0.extract 0 (min (a0.size : Int) 1000).toNat).size ≤ 1000 := cut_size a0 1000
  have HM := Aside0.mk hm
  clear hm
  go_enter Tryd.func10, Tryd.ntmps10
  go_wp2_with fail
  generalize a0.extract 0 (min (a0.size : Int) 1000).toNat = s at hz
  obtain ⟨b, HB⟩ : ∃ b : ByteArray, Aside0 (b = ⟨(ofL (L s)).toArray⟩) := ⟨_, ⟨rfl⟩⟩
  have HG : Aside0 (goodL (L b) = true) := ⟨by rw [HB.out, L_mk, good_of]⟩
  have hbz : b.size ≤ 8000 := by rw [HB.out, size_L, L_mk, ofL_length, ← size_L]; omega
  refine (BitsOf.walk s _ (by omega)).mono ?_
  rintro e w1 ⟨he, hb1⟩
  rw [← HB.out] at he
  subst he
  go_wp2_with fail
  obtain ⟨t, HT⟩ : ∃ t : ByteArray, Aside0 (t = ⟨(stuffL (L b)).toArray⟩) := ⟨_, ⟨rfl⟩⟩
  have htz : t.size ≤ 16000 := by rw [HT.out, size_L, L_mk]; have := stuffL_length (L b); rw [← size_L] at this; omega
  refine (stuff b _ (by omega)).mono ?_
  rintro e w2 ⟨he, hb2⟩
  rw [← HT.out] at he
  subst he
  have hb3 := below_step hb1 hb2
  clear hb1 hb2
  have HU : Aside0 (unstuffS (L t) = (L b, 0)) := ⟨by rw [HT.out, L_mk, unstuff_stuff _ HG.out]⟩
  have HC : Aside0 (calm 0 (L t)) := ⟨by rw [HT.out, L_mk, stuffL_R]; exact calm_stuffR _ 0 (by omega)⟩
  have HGT : Aside0 (goodL (L t) = true) := ⟨by rw [HT.out, L_mk, stuffL_R]; exact good_stuffR 0 _ HG.out⟩
  go_wp2_with fail
  refine (unstuff t m _ (by omega) (pw_cell_below hb3 HM.out)).mono ?_
  rintro e w3 ⟨he, hb4⟩
  rw [HU.out, show (⟨(L b, (0 : Int)).1.toArray⟩ : ByteArray) = b from inj rfl] at he
  subst he
  have HB5 := Aside0.mk (below_step hb3 hb4)
  clear hb3 hb4
  go_wp2
  go_loopw [7, 24] (fun u v wr => ∃ i n : Nat, i ≤ t.size ∧ n ≤ 5 ∧ v = .int .i64 i ∧ u = .int .i64 n ∧ Aside0 (tailOnes 0 ((L t).take i) = n) ∧ w3 = wr) (fun _ v _ => t.size - (intOf v).toNat)
  case atStart => exact ⟨0, 0, Nat.zero_le _, Nat.zero_le _, rfl, rfl, ⟨rfl⟩, rfl⟩
  case round =>
    obtain ⟨i, n, hi, hn5, rfl, rfl, HN, rfl⟩ := hrel
    by_cases hlt : i < t.size
    · have hl : i < (L t).length := by rw [← size_L]; exact hlt
      have HT1 := Aside0.mk (tail_take (L t) i hl)
      have hc1 := calm_take (L t) HC.out (i + 1)
      obtain ⟨x, HX⟩ : ∃ x, Aside0 ((L t)[i] = x) := ⟨_, ⟨rfl⟩⟩
      have hxg := good_at (L t) HGT.out i hl
      rw [HX.out] at HT1 hxg
      rw [HT1.out] at hc1
      rcases hxg with rfl | rfl
      · have hx1 : (((t[i]'hlt).toNat : Nat) : Int) = 48 := by show (((L t)[i].toNat : Nat) : Int) = 48; rw [HX.out]; rfl
        have HN1 : Aside0 (tailOnes 0 ((L t).take (i + 1)) = 0) := ⟨by rw [HT1.out, if_neg (by decide)]⟩
        clear hc1 HX hl
        go_wp2
        go_roundw
        case rel => exact ⟨i + 1, 0, by omega, by omega, by go_num, rfl, HN1, (by first | rfl | trivial)⟩
        case measure => simp [intOf]; omega
      · have hx1 : ¬ ((((t[i]'hlt).toNat : Nat) : Int) = 48) := by show ¬ ((((L t)[i].toNat : Nat) : Int) = 48); rw [HX.out]; decide
        have HN1 : Aside0 (tailOnes 0 ((L t).take (i + 1)) = n + 1) := ⟨by rw [HT1.out, if_pos rfl, HN.out]⟩
        rw [if_pos rfl, HN.out] at hc1
        have h5 : ¬ (5 < (n : Int) + 1) := by omega
        clear HX hl
        go_wp2
        go_roundw
        case rel => exact ⟨i + 1, n + 1, by omega, by omega, by go_num, by go_num, HN1, (by first | rfl | trivial)⟩
        case measure => simp [intOf]; omega
    · go_wp2_with fail
      refine (Hd.wakes _).mono ?_
      rintro e w4 ⟨rfl, hb⟩
      have hb6 := below_step HB5.out hb
      go_wp2
      go_ret
      exact ⟨rfl, hb6⟩
end Go.Proofs.YtolodlnndojaiaaDoor.Wk
