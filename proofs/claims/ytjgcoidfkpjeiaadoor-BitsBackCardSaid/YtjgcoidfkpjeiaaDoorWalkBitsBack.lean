/- The law BitsBack by its own text: it answers true. -/
import Derived.Test.YtjgcoidfkpjeiaaDoorOctW
import Derived.Test.YtjgcoidfkpjeiaaDoorBitsOf
import Derived.Test.YtjgcoidfkpjeiaaDoorFlip
import Derived.Deep.QuietTactic
import Derived.BigQuiet
namespace Go.Proofs.YtjgcoidfkpjeiaaDoor.Wk
open Go.RowKit Go.Proofs.YtjgcoidfkpjeiaaDoorW.PrintWords Go.Proofs.YtjgcoidfkpjeiaaDoorW.PrintLast Go.Proofs.YtjgcoidfkpjeiaaDoorW.PrintMore Go.Proofs.YtjgcoidfkpjeiaaDoor.Str Go.Proofs.YtjgcoidfkpjeiaaDoor.Bits Go.Proofs.YtjgcoidfkpjeiaaDoor.Oct
set_option linter.unusedVariables false
attribute [local go_sem] max2_int min2_int
theorem of1 : (⟨(ofL (L (⟨#[1]⟩ : ByteArray))).toArray⟩ : ByteArray) = ⟨#[49, 48, 48, 48, 48, 48, 48, 48]⟩ := by decide +kernel
theorem cut_le (a : ByteArray) (n : Nat) : (a.extract 0 (min (a.size : Int) (n : Int)).toNat).size ≤ n := by
  rw [ByteArray.size_extract]; omega
set_option maxHeartbeats 4000000 in
set_option maxRecDepth 1000000 in
theorem back (a0 : ByteArray) (A : Option Addr) (c n : Nat) (l : List Int) (w : World) (w0 : a0.size ≤ 140737488351232) (hr : (Kd.int .i64).C w A n l) (hc : n ≤ c) :
    Calls Tryd.prog 5 #[.string a0, .slice A n c] w fun e w' => e = .returned (.bool true) ∧ Below w.heap.size w w' := by
  have hm := hr.2.1
  go_enter Tryd.func5, Tryd.ntmps5
  go_wp2_with fail
  go_quiet (fail)
  have z0 := cut_le a0 2000
  have hrm := Flip.C_take hr (by omega : (min (n : Int) 100).toNat ≤ n)
  have hmc : (min (n : Int) 100).toNat ≤ c := by omega
  generalize a0.extract 0 (min (a0.size : Int) 2000).toNat = s at z0
  generalize (min (n : Int) 100).toNat = m at hrm hmc
  generalize l.take m = at_ at hrm
  clear hr hm
  have hb0 : Below w.heap.size w (w.drewN nq) := pw_below_drewN (Below.refl _ _) _
  obtain ⟨bs, HBS⟩ : ∃ b : ByteArray, Aside0 (b = ⟨(ofL (L s)).toArray⟩) := ⟨_, ⟨rfl⟩⟩
  have hz1 : (bs.size : Int) = 8 * (s.size : Int) := by rw [HBS.out, size_L, size_L]; show ((ofL (L s)).length : Int) = _; rw [ofL_length]; omega
  have HZ := Aside0.mk hz1
  have HO : Aside0 (octR (L bs) = (L s, 0)) := ⟨by rw [HBS.out, L_mk, octR_of]⟩
  have HG : Aside0 (goodL (L bs) = true) := ⟨by rw [HBS.out, L_mk, good_of]⟩
  go_wp2_with fail
  refine (BitsOf.walk s _ (by omega)).mono ?_
  rintro e w1 ⟨he, hb1⟩
  rw [← HBS.out] at he
  subst he
  have hb2 := below_step hb0 hb1
  clear hb0 hb1
  go_wp2_with fail
  refine (OctW.walk bs _ (by omega)).mono ?_
  rintro e w2 ⟨he, hb3⟩
  rw [HO.out, show (⟨(L s, (0 : Int)).1.toArray⟩ : ByteArray) = s from inj rfl] at he
  subst he
  have hb4 := below_step hb2 hb3
  clear hb2 hb3
  go_wp2_with fail
  refine (BitsOf.walk _ _ (by decide)).mono ?_
  rintro e w4 ⟨he, hb7⟩
  rw [of1] at he
  subst he
  have hb8 := below_step hb4 hb7
  clear hb4 hb7
  have hsz : ((bs.size : Int) == 8 * (s.size : Int)) = true := by rw [hz1]; exact beq_self_eq_true _
  go_wp2_with fail
  refine (Good.walk bs _ (by omega)).mono ?_
  rintro e w5 ⟨he, hb9⟩
  rw [HG.out] at he
  subst he
  have hb10 := below_step hb8 hb9
  clear hb8 hb9
  go_wp2_with fail
  refine (Flip.walkN bs A _ c _ _ (by omega) (Kd.C_below hrm hb10) hmc).mono ?_
  rintro e w6 ⟨rfl, hb11⟩
  have hb12 := below_step hb10 hb11
  clear hb10 hb11
  go_wp2_with fail
  refine (Flip.walkN _ A _ c _ _ (by rw [size_L]; show (turnL (L bs) at_).length ≤ _; rw [turnL_length, ← size_L]; omega) (Kd.C_below hrm hb12) hmc).mono ?_
  rintro e w7 ⟨he, hb13⟩
  rw [L_mk, turnL_back, show (⟨(L bs).toArray⟩ : ByteArray) = bs from inj rfl] at he
  subst he
  have hb14 := below_step hb12 hb13
  clear hb12 hb13
  go_wp2
  go_ret
  exact ⟨by simp, hb14⟩
theorem BitsBack (a0 : ByteArray) (a1 : Option Addr) (len1 cap1 : Nat) (z1 : List Int) (w : World) (w0 : a0.size ≤ 140737488351232) (w1 : (a1 = none ∧ len1 = 0 ∧ cap1 = 0 ∧ z1 = []) ∨ ∃ x, a1 = some x ∧ len1 ≤ cap1 ∧ cap1 ≤ maxLen ∧ z1.length = cap1 ∧ (∀ i, i < z1.length → w.cell? (x.add i) = some (.int .i64 (z1.getD i 0))) ∧ ∀ n ∈ z1, (Lit.int .i64 n).wf = true) (y1 : len1 * 8 ≤ 140737488351232) :
    Calls Tryd.prog 5 #[.string a0, .slice a1 len1 cap1] w fun e w' => e = .returned (.bool true) ∧ Below w.heap.size w w' := by
  obtain ⟨l1, rfl, hr1, hm1, hw1, hc1⟩ := ReadsInt.ofRowC w1
  exact back a0 a1 cap1 l1.length l1 w w0 (Kd.C_of_reads (d := (0 : Int)) (h1 := fun _ => rfl) hr1) hc1
end Go.Proofs.YtjgcoidfkpjeiaaDoor.Wk
