/- The law HdlcAborts by its own text: it answers true. -/
import Derived.Test.YtolodlnndojaiaaDoorHdlcLaw
import Derived.Test.YtolodlnndojaiaaDoorHdlcAbort
import Derived.Test.YtolodlnndojaiaaDoorWEqStruct
import Derived.OpenShut
import Derived.Deep.QuietTactic
import Derived.BigQuiet
namespace Go.Proofs.YtolodlnndojaiaaDoor.Wk
open Go.RowKit Go.Proofs.YtolodlnndojaiaaDoorW.PrintWords Go.Proofs.YtolodlnndojaiaaDoorW.PrintLast Go.Proofs.YtolodlnndojaiaaDoorW.PrintMore Go.Proofs.YtolodlnndojaiaaDoor.Str Go.Proofs.YtolodlnndojaiaaDoor.Bits Go.Proofs.YtolodlnndojaiaaDoor.Oct Go.Proofs.YtolodlnndojaiaaDoor.Hd
set_option linter.unusedVariables false
attribute [local go_sem] max2_int min2_int
set_option maxHeartbeats 4000000 in
set_option maxRecDepth 1000000 in
theorem feed_nil (b : ByteArray) (w : World) : Calls Tryd.prog 13 #[.pointer none, .string b] w fun e w' => e = .returned (.slice none 0 0) ∧ w = w' := by
  go_enter Tryd.func13, Tryd.ntmps13
  go_wp2
  go_returns
  exact ⟨rfl, rfl⟩
set_option maxHeartbeats 4000000 in
set_option maxRecDepth 1000000 in
theorem idle_nil (w : World) : Calls Tryd.prog 18 #[.pointer none] w fun e w' => e = .returned (.bool false) ∧ w = w' := by
  go_enter Tryd.func18, Tryd.ntmps18
  go_wp2
  go_returns
  exact ⟨rfl, rfl⟩
set_option maxHeartbeats 4000000 in
set_option maxRecDepth 1000000 in
theorem aborts (a0 a1 : ByteArray) (n : Int) (w : World) (w0 : a0.size ≤ 140737488351232) (w1 : a1.size ≤ 140737488351232) :
    Calls Tryd.prog 7 #[.string a0, .string a1, .int .i64 n] w fun e w' => e = .returned (.bool true) ∧ Below w.heap.size w w' := by
  go_enter Tryd.func7, Tryd.ntmps7
  go_wp2_with fail
  go_quiet (fail)
  have z0 := cut_size a0 100
  have z1 := cut_size a1 100
  generalize a0.extract 0 (min (a0.size : Int) 100).toNat = s at z0
  generalize a1.extract 0 (min (a1.size : Int) 100).toNat = t at z1
  obtain ⟨xs, HXS⟩ : ∃ b : ByteArray, Aside0 (b = ⟨(encL (L s)).toArray⟩) := ⟨_, ⟨rfl⟩⟩
  have hx1 : xs.size = (encL (L s)).length := by rw [HXS.out]; exact size_L _
  have hx2 : (encL (L s)).length = 16 + (stuffL (ofL (L s))).length := by
    unfold encL
    rw [List.length_append, List.length_append]
    show 8 + _ + 8 = _
    omega
  have hx3 := encL_length (L s)
  rw [← size_L] at hx3
  have hx4 : xs.size ≤ 1616 := by omega
  have hx5 : 16 ≤ xs.size := by omega
  obtain ⟨k, hk⟩ : ∃ k : Nat, max 8 (max 0 n % max 1 ((xs.size : Int) - 8)) = (k : Int) := ⟨(max 8 (max 0 n % max 1 ((xs.size : Int) - 8))).toNat, by omega⟩
  have hk8 : 8 ≤ k := by omega
  have hk2 : k = 8 ∨ k + 8 < xs.size := by
    have h1 : max 1 ((xs.size : Int) - 8) = (xs.size : Int) - 8 := by omega
    have h2 := Int.emod_lt_of_pos (max 0 n) (by omega : 0 < (xs.size : Int) - 8)
    rw [h1] at hk
    omega
  have hk3 : (k : Int) ≤ (xs.size : Int) := by omega
  have hk4 : (xs.extract 0 k).size = k := by rw [ByteArray.size_extract]; omega
  obtain ⟨zt, hzt⟩ : ∃ b : ByteArray, ⟨#[122]⟩ ++ t = b := ⟨_, rfl⟩
  have hztz : zt.size ≤ 101 := by rw [← hzt, ByteArray.size_append]; show 1 + _ ≤ _; exact Nat.add_le_add_left z1 1
  have hzt0 : L zt ≠ [] := by rw [← hzt, L_app]; simp [L]
  have he2 := encL_length (L zt)
  rw [← size_L] at he2
  have hf : feedL St.new (L (xs.extract 0 k ++ ⟨#[49, 49, 49, 49, 49, 49, 49]⟩ ++ ⟨#[48]⟩ ++ ⟨(encL (L zt)).toArray⟩)) = (⟨[], true, 0⟩, [(1, []), (0, L zt)]) := by
    have := feed_abort (L s) k hk8 (by omega) (L zt) hzt0 (by rw [← size_L]; omega)
    rw [L_app, L_app, L_app, L_take, HXS.out, L_mk, L_mk]
    rw [← this]
    congr 1
    simp [L]
  have hz2 : (⟨(encL (L zt)).toArray⟩ : ByteArray).size = (encL (L zt)).length := size_L _
  have hfs : (xs.extract 0 k ++ ⟨#[49, 49, 49, 49, 49, 49, 49]⟩ ++ ⟨#[48]⟩ ++ ⟨(encL (L zt)).toArray⟩ : ByteArray).size ≤ 1099511627776 := by
    rw [ByteArray.size_append, ByteArray.size_append, ByteArray.size_append, hk4, hz2]
    show k + 7 + 1 + _ ≤ _
    omega
  have HF := Aside0.mk hf
  have HFS := Aside0.mk hfs
  have HK2 := Aside0.mk hk2
  have hb0 : Below w.heap.size w (w.drewN nq) := pw_below_drewN (Below.refl _ w) _
  clear hf hfs hzt0 hx1 hx2 hx3 hk2 w0 w1
  go_wp2_with fail
  refine (Hd.wakes _).mono ?_
  rintro e wA ⟨rfl, hbA⟩
  have hb1 := below_step hb0 hbA
  clear hb0 hbA
  go_wp2_with fail
  refine (encode s _ (by omega)).mono ?_
  rintro e wB ⟨he, hbB⟩
  rw [← HXS.out] at he
  subst he
  have hb2 := below_step hb1 hbB
  clear hb1 hbB
  go_wp2_with fail
  refine (new _).mono ?_
  rintro e wC ⟨rfl, hw1⟩
  have hd := Dec.new w _ w.heap.size hb2 hb2.size
  rw [← hw1] at hd
  have HD := Aside0.mk hd
  clear hw1 hb2 hd
  go_wp2_with fail
  refine (encode zt _ (by omega)).mono ?_
  rintro e wD ⟨rfl, hbD⟩
  have HD2 := Aside0.mk (HD.out.kept hbD)
  clear hbD HD
  go_wp2_with fail
  refine (feed_dec _ _ _ _ _ _ _ _ HD2.out new_ok (by decide) HFS.out HF.out).mono ?_
  rintro e w3 ⟨u, rfl, hev, hd⟩
  obtain ⟨g, c, rfl, hc, hcl⟩ := hev.shape (by simp)
  have c0 : w3.cell? ⟨g, 0, none⟩ = some (.int .i64 1) := (hcl 0 (by simp)).1
  have c2 : w3.cell? ⟨g, 2, none⟩ = some (.int .i64 0) := (hcl 1 (by simp)).1
  have c3 : w3.cell? ⟨g, 3, none⟩ = some (.string zt) := (hcl 1 (by simp)).2
  have HD3 := Aside0.mk hd
  clear hd hev HD2 hcl
  go_wp2_with fail
  refine (feed_nil _ _).mono ?_
  rintro e w5 ⟨rfl, rfl⟩
  go_wp2_with fail
  refine (idle_nil _).mono ?_
  rintro e w5 ⟨rfl, rfl⟩
  go_wp2
  go_ret
  exact ⟨rfl, HD3.out.2.1⟩
theorem HdlcAborts (a0 a1 : ByteArray) (a2 : Int) (w : World) (w0 : a0.size ≤ 140737488351232) (w1 : a1.size ≤ 140737488351232) (w2 : (Lit.int .i64 a2).wf = true) :
    Calls Tryd.prog 7 #[.string a0, .string a1, .int .i64 a2] w fun e w' => e = .returned (.bool true) ∧ Below w.heap.size w w' :=
  aborts a0 a1 a2 w w0 w1
end Go.Proofs.YtolodlnndojaiaaDoor.Wk
