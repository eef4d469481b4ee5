/- The law HdlcLong by its own text: it answers true. -/
import Derived.Test.YtolodlnndojaiaaDoorHdlcLaw
import Derived.Test.YtolodlnndojaiaaDoorWEqStruct
import Derived.OpenShut
import Derived.RegionTactic
import Derived.BigRegion
import Derived.Laws.OwnMore
import Derived.Deep.RegionWith
import Derived.Deep.RegionHeld3
namespace Go.Proofs.YtolodlnndojaiaaDoor.Wk
open Go.RowKit Go.Proofs.YtolodlnndojaiaaDoorW.PrintWords Go.Proofs.YtolodlnndojaiaaDoorW.PrintLast Go.Proofs.YtolodlnndojaiaaDoorW.PrintMore Go.Proofs.YtolodlnndojaiaaDoor.Str Go.Proofs.YtolodlnndojaiaaDoor.Bits Go.Proofs.YtolodlnndojaiaaDoor.Oct Go.Proofs.YtolodlnndojaiaaDoor.Hd
set_option linter.unusedVariables false
attribute [local go_sem] max2_int min2_int
set_option maxHeartbeats 4000000 in
set_option maxRecDepth 1000000 in
theorem long (a0 : ByteArray) (n : Int) (a2 : ByteArray) (w : World) (w0 : a0.size ≤ 140737488351232) (w2 : a2.size ≤ 140737488351232) :
    Calls Tryd.prog 3 #[.string a0, .int .i64 n, .string a2] w fun e w' => e = .returned (.bool true) ∧ Below w.heap.size w w' := by
  obtain ⟨k, hk⟩ : ∃ k : Nat, max 0 n % 50 = (k : Int) := ⟨(max 0 n % 50).toNat, by have := Int.emod_nonneg (max 0 n) (by omega : (50 : Int) ≠ 0); omega⟩
  have hk20 : k < 50 := by have := Int.emod_lt_of_pos (max 0 n) (by omega : (0 : Int) < 50); omega
  obtain ⟨i0, hi, hz0, hz1, hz2⟩ := info_parts OctW.infoByte
  obtain ⟨q, hq⟩ : ∃ q : Nat, min (a0.size : Int) (267 + (k : Int)) = (q : Int) := ⟨(min (a0.size : Int) (267 + (k : Int))).toNat, by omega⟩
  obtain ⟨r, hr⟩ : ∃ r : Nat, 267 + (k : Int) - (q : Int) = (r : Int) := ⟨(267 + (k : Int) - (q : Int)).toNat, by omega⟩
  have hqs : (q : Int) ≤ (a0.size : Int) := by omega
  obtain ⟨z0, HZ0⟩ : ∃ z : ByteArray, Aside0 (z = ⟨(List.replicate r (0 : UInt8)).toArray⟩) := ⟨_, ⟨rfl⟩⟩
  have hzz : z0.size = r := by rw [HZ0.out, size_L, L_mk, List.length_replicate]
  have hmk : ∀ w : World, (Instr.makeSlice 22 (.int .i64 (r : Int)) (.int .i64 (r : Int))).run Tryd.prog w = .ok (.slice (some ⟨w.heap.size, 0, none⟩) r r) (w.alloc (.cells (madeCells #[.int .u8 0] r) 5)) := fun w => by
    have := run_make (P := Tryd.prog) w 22 5 i0 (.int .u8 0) Tryd.underlying22 hi hz0 .i64 .i64 (r : Int) (r : Int) (by omega) (by omega) (by rw [hz2]; omega) (by omega)
    rw [hz1, Nat.mul_one, Int.toNat_natCast] at this
    exact this
  have hcv : ∀ w : World, (convert 22 9 (.slice (some ⟨w.heap.size, 0, none⟩) r r)).run Tryd.prog (w.alloc (.cells (madeCells #[.int .u8 0] r) 5)).drew = .ok (.string z0) (w.alloc (.cells (madeCells #[.int .u8 0] r) 5)).drew := fun w => by
    have hrow : (w.alloc (.cells (madeCells #[.int .u8 0] r) 5)).drew.ownsRow 0 5 1 (.slice (some ⟨w.heap.size, 0, none⟩) r r) r (nums .u8 ((List.replicate r (0 : UInt8)).map fun b => (b.toNat : Int))) := by
      refine ⟨by simp [nums], Or.inr ⟨w.heap.size, r, _, rfl, Nat.zero_le _, Go.heap_alloc_new w _, Nat.le_refl _, by unfold maxLen; omega, by rw [size_madeCells]; simp, ?_⟩⟩
      rw [toList_madeCells_one]
      simp [nums]
    have := own_string (P := Tryd.prog) Tryd.underlying22 Tryd.underlying5 Tryd.underlying9 hrow
    rw [nums_of, ← HZ0.out] at this
    exact this
  have HMK := Aside0.mk hmk
  have HCV := Aside0.mk hcv
  obtain ⟨lg, hlg⟩ : ∃ b : ByteArray, a0.extract 0 q ++ z0 = b := ⟨_, rfl⟩
  have hlgz : lg.size = 267 + k := by rw [← hlg, ByteArray.size_append, ByteArray.size_extract, hzz]; omega
  obtain ⟨p, hp⟩ : ∃ p : Nat, min (a2.size : Int) 100 = (p : Int) := ⟨(min (a2.size : Int) 100).toNat, by omega⟩
  have hpp : (p : Int) ≤ (a2.size : Int) := by omega
  obtain ⟨zt, hzt⟩ : ∃ b : ByteArray, ⟨#[122]⟩ ++ a2.extract 0 p = b := ⟨_, rfl⟩
  have hztz : zt.size ≤ 101 := by rw [← hzt, ByteArray.size_append, ByteArray.size_extract]; show 1 + _ ≤ _; omega
  have hzt0 : L zt ≠ [] := by rw [← hzt, L_app]; simp [L]
  have he1 := encL_length (L lg)
  have he2 := encL_length (L zt)
  rw [← size_L] at he1 he2
  have hf : feedL St.new (L ((⟨(encL (L lg)).toArray⟩ : ByteArray) ++ ⟨(encL (L zt)).toArray⟩)) = (⟨[], true, 0⟩, [(2, []), (0, L zt)]) := by
    rw [L_app, L_mk, L_mk]
    exact feed_two _ _ (by rw [← size_L]; omega) hzt0 (by rw [← size_L]; omega)
  have hz1 : (⟨(encL (L lg)).toArray⟩ : ByteArray).size = (encL (L lg)).length := size_L _
  have hz2 : (⟨(encL (L zt)).toArray⟩ : ByteArray).size = (encL (L zt)).length := size_L _
  have hfs : ((⟨(encL (L lg)).toArray⟩ : ByteArray) ++ ⟨(encL (L zt)).toArray⟩).size ≤ 1099511627776 := by rw [ByteArray.size_append]; omega
  have HF := Aside0.mk hf
  have HFS := Aside0.mk hfs
  have HMK := hmk
  have HCV := hcv
  clear hf hfs hzt0
  go_enter Tryd.func3, Tryd.ntmps3
  go_wp2_with fail
  go_region
  all_goals go_wp2_with fail
  refine (new _).mono ?_
  rintro e w2 ⟨rfl, hw1⟩
  have hb0 : Below w.heap.size w (w.alloc (.cells (madeCells #[.int .u8 0] r) 5)).drew := ((Below.refl _ _).alloc (Nat.le_refl _) _).drew
  have hd := Dec.new w _ w.heap.size hb0 hb0.size
  rw [← hw1, show (w.alloc (.cells (madeCells #[.int .u8 0] r) 5)).drew.heap.size = w.heap.size + 1 from by show (w.heap.push _).size = _; simp] at hd
  have HD := Aside0.mk hd
  clear hw1 hb0 hd hmk hcv HMK HCV hlg
  go_wp2_with fail

  go_region_with (first
    | (go_at_call_of 14 (Value.string lg); refine (encode lg _ (by omega)).mono ?_; rintro e wA ⟨rfl, hbA⟩)
    | (go_at_call_of 14 (Value.string zt); refine (encode zt _ (by omega)).mono ?_; rintro e wB ⟨rfl, hbB⟩)
    | (go_at_call 13; refine (feed_dec _ _ _ _ _ _ _ _ (((HD.out.kept (Below.refl _ _).drew).kept hbA).kept hbB) new_ok (by decide) HFS.out HF.out).mono ?_; rintro e w3 ⟨u, rfl, hev, hd⟩))
  all_goals
    obtain ⟨g, c, rfl, hc, hcl⟩ := hev.shape (by simp)
    have HEV := Aside0.mk hev
    have HD3 := Aside0.mk hd
    have c0 : w3.cell? ⟨g, 0, none⟩ = some (.int .i64 2) := (hcl 0 (by simp)).1
    have c1 : w3.cell? ⟨g, 1, none⟩ = some (.string ⟨#[]⟩) := (hcl 0 (by simp)).2
    have c3 : w3.cell? ⟨g, 3, none⟩ = some (.string zt) := (hcl 1 (by simp)).2
    clear hbA hbB hev hd HD HF HFS he1 he2 hz1 hz2 hlgz hzz hqs hcl
    go_wp2_with fail
    go_region_held3 (fun w' => w'.cell? ⟨g, 0, none⟩ = some (.int .i64 2) ∧ w'.cell? ⟨g, 1, none⟩ = some (.string ⟨#[]⟩) ∧ w'.cell? ⟨g, 3, none⟩ = some (.string zt)) (first | exact ⟨d0, d1, d3⟩ | exact ⟨c0, c1, c3⟩)
      (first | (go_at_call 15; refine (Hd.wakes _).mono ?_; rintro e w4 ⟨rfl, hb⟩; have HD4 := Aside0.mk ((HD3.out.kept (Below.refl _ _).drew).kept hb); have d0 := pw_cell_below hb c0; have d1 := pw_cell_below hb c1; have d3 := pw_cell_below hb c3))
  all_goals
    go_wp2
    go_ret
    exact ⟨rfl, HD4.out.2.1⟩
theorem HdlcLong (a0 : ByteArray) (a1 : Int) (a2 : ByteArray) (w : World) (w0 : a0.size ≤ 140737488351232) (w1 : (Lit.int .i64 a1).wf = true) (w2 : a2.size ≤ 140737488351232) :
    Calls Tryd.prog 3 #[.string a0, .int .i64 a1, .string a2] w fun e w' => e = .returned (.bool true) ∧ Below w.heap.size w w' :=
  long a0 a1 a2 w w0 w2
end Go.Proofs.YtolodlnndojaiaaDoor.Wk
