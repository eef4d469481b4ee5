/- The law BitsJoin by its own text: it answers true. -/
import Derived.Test.YtjgcoidfkpjeiaaDoorOctW
import Derived.Test.YtjgcoidfkpjeiaaDoorBitsOf
import Derived.Deep.QuietTactic
import Derived.BigQuiet
namespace Go.Proofs.YtjgcoidfkpjeiaaDoor.Wk
open Go.RowKit Go.Proofs.YtjgcoidfkpjeiaaDoorW.PrintWords Go.Proofs.YtjgcoidfkpjeiaaDoorW.PrintLast Go.Proofs.YtjgcoidfkpjeiaaDoorW.PrintMore Go.Proofs.YtjgcoidfkpjeiaaDoor.Str Go.Proofs.YtjgcoidfkpjeiaaDoor.Bits Go.Proofs.YtjgcoidfkpjeiaaDoor.Oct
set_option linter.unusedVariables false
attribute [local go_sem] max2_int min2_int
theorem of1 : (⟨(ofL (L (⟨#[1]⟩ : ByteArray))).toArray⟩ : ByteArray) = ⟨#[49, 48, 48, 48, 48, 48, 48, 48]⟩ := by decide +kernel
theorem cut_le (a : ByteArray) (n : Nat) : (a.extract 0 (min (a.size : Int) (n : Int)).toNat).size ≤ n := by
  rw [ByteArray.size_extract]; omega
set_option maxHeartbeats 4000000 in
set_option maxRecDepth 1000000 in
theorem BitsJoin (a0 a1 : ByteArray) (w : World) (w0 : a0.size ≤ 140737488351232) (w1 : a1.size ≤ 140737488351232) :
    Calls Tryd.prog 4 #[.string a0, .string a1] w fun e w' => e = .returned (.bool true) ∧ Below w.heap.size w w' := by
  go_enter Tryd.func4, Tryd.ntmps4
  go_wp2_with fail
  go_quiet (fail)
  have z0 := cut_le a0 1000
  have z1 := cut_le a1 1000
  generalize a0.extract 0 (min (a0.size : Int) 1000).toNat = s at z0
  generalize a1.extract 0 (min (a1.size : Int) 1000).toNat = t at z1
  have hb0 : Below w.heap.size w (w.drewN nq) := pw_below_drewN (Below.refl _ _) _
  obtain ⟨bs, HBS⟩ : ∃ b : ByteArray, Aside0 (b = ⟨(ofL (L s)).toArray⟩) := ⟨_, ⟨rfl⟩⟩
  obtain ⟨bt, HBT⟩ : ∃ b : ByteArray, Aside0 (b = ⟨(ofL (L t)).toArray⟩) := ⟨_, ⟨rfl⟩⟩
  have hz0 : bs.size ≤ 8000 := by rw [HBS.out, size_L]; show (ofL (L s)).length ≤ 8000; rw [ofL_length, ← size_L]; omega
  have hz1 : bt.size ≤ 8000 := by rw [HBT.out, size_L]; show (ofL (L t)).length ≤ 8000; rw [ofL_length, ← size_L]; omega
  have HJ : Aside0 (bs ++ bt = ⟨(ofL (L (s ++ t))).toArray⟩) := ⟨inj (by rw [L_app, HBS.out, HBT.out, L_mk, L_mk, L_mk, L_app, ofL_append])⟩
  have HO : Aside0 (octR (L (bs ++ bt)) = (L (s ++ t), 0)) := ⟨by rw [HJ.out, L_mk, octR_of]⟩
  go_wp2_with fail
  refine (BitsOf.walk s _ (by omega)).mono ?_
  rintro e w1 ⟨he, hb1⟩
  rw [← HBS.out] at he
  subst he
  have hb2 := below_step hb0 hb1
  clear hb0 hb1
  go_wp2_with fail
  refine (BitsOf.walk t _ (by omega)).mono ?_
  rintro e w2 ⟨he, hb3⟩
  rw [← HBT.out] at he
  subst he
  have hb4 := below_step hb2 hb3
  clear hb2 hb3
  go_wp2_with fail
  refine (OctW.walk (bs ++ bt) _ (by rw [ByteArray.size_append]; omega)).mono ?_
  rintro e w3 ⟨he, hb5⟩
  rw [HO.out] at he
  subst he
  have hb6 := below_step hb4 hb5
  clear hb4 hb5
  go_wp2_with fail
  refine (BitsOf.walk _ _ (by decide)).mono ?_
  rintro e w4 ⟨he, hb7⟩
  rw [of1] at he
  subst he
  have hb8 := below_step hb6 hb7
  clear hb6 hb7
  go_wp2_with fail
  refine (BitsOf.walk (s ++ t) _ (by rw [ByteArray.size_append]; omega)).mono ?_
  rintro e w5 ⟨he, hb9⟩
  rw [← HJ.out] at he
  subst he
  have hb10 := below_step hb8 hb9
  clear hb8 hb9
  go_wp2
  go_ret
  exact ⟨congrArg (fun z => Ending.returned (Value.bool z)) (by rw [toList_L, L_app]; exact beq_self_eq_true _), hb10⟩
end Go.Proofs.YtjgcoidfkpjeiaaDoor.Wk
