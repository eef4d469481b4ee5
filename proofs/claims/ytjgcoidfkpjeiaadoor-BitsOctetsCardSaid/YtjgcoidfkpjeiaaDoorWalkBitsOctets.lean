/- The law BitsOctets by its own text: it answers true. -/
import Derived.Test.YtjgcoidfkpjeiaaDoorOctRef
namespace Go.Proofs.YtjgcoidfkpjeiaaDoor.Wk
open Go.RowKit Go.Proofs.YtjgcoidfkpjeiaaDoorW.PrintWords Go.Proofs.YtjgcoidfkpjeiaaDoorW.PrintLast Go.Proofs.YtjgcoidfkpjeiaaDoorW.PrintMore Go.Proofs.YtjgcoidfkpjeiaaDoor.Str Go.Proofs.YtjgcoidfkpjeiaaDoor.Bits Go.Proofs.YtjgcoidfkpjeiaaDoor.Oct
set_option linter.unusedVariables false
theorem one : octR (L (⟨#[49, 48, 48, 48, 48, 48, 48, 48]⟩ : ByteArray)) = ([1], 0) := by decide +kernel
set_option maxHeartbeats 4000000 in
set_option maxRecDepth 1000000 in
theorem BitsOctets (a0 : ByteArray) (w : World) (w0 : a0.size ≤ 140737488351232) :
    Calls Tryd.prog 3 #[.string a0] w fun e w' => e = .returned (.bool true) ∧ Below w.heap.size w w' := by
  obtain ⟨t, ht⟩ : ∃ t : ByteArray, t = ⟨(octR (L a0)).1.toArray⟩ := ⟨_, rfl⟩
  obtain ⟨f, hf⟩ : ∃ f : Int, f = (octR (L a0)).2 := ⟨_, rfl⟩
  obtain ⟨gd, hg⟩ : ∃ gd : Bool, gd = goodL (L a0) := ⟨_, rfl⟩
  have c1 := fun w1 => OctW.walk a0 w1 w0
  have c2 := fun w1 => OctRef.walk a0 w1 w0
  have c3 := fun w1 => Good.walk a0 w1 (by omega)
  have c4 := fun w1 => OctRef.good_walk a0 w1 w0
  rw [← ht, ← hf] at c1 c2
  rw [← hg] at c3 c4
  clear ht hf hg
  go_enter Tryd.func3, Tryd.ntmps3
  go_wp2_with fail
  refine (c1 _).mono ?_
  rintro e w1 ⟨rfl, hb1⟩
  go_wp2_with fail
  refine (c2 _).mono ?_
  rintro e w2 ⟨rfl, hb2⟩
  have hb3 := below_step hb1 hb2
  clear hb1 hb2
  go_wp2_with fail
  refine (OctW.walk _ _ (by decide)).mono ?_
  rintro e w3 ⟨he, hb4⟩
  rw [one] at he
  subst he
  have hb5 := below_step hb3 hb4
  clear hb3 hb4
  go_wp2_with fail
  refine (c3 _).mono ?_
  rintro e w4 ⟨rfl, hb6⟩
  have hb7 := below_step hb5 hb6
  clear hb5 hb6
  go_wp2_with fail
  refine (c4 _).mono ?_
  rintro e w5 ⟨he, hb8⟩
  subst hb8
  subst he
  go_wp2
  go_ret
  exact ⟨by simp, hb7⟩
end Go.Proofs.YtjgcoidfkpjeiaaDoor.Wk
