/- Package ctrl at an I frame's field. Condition: the package's tables stand as they were laid (LaidC). Package frame at an I frame of the law's own: what one side puts the other one reads. Condition: package ctrl's tables stand as they were laid (LaidC). Contracts of the library at this dump, laid by the kit's own program. Octets as bits, in plain lists of octets: what Of, Good, Octets and Flip come to. No program in sight, no condition. Octets out of bits, in plain lists: what Octets comes to; it takes Of back; turned twice bits are as they were. No program in sight, no condition. bits.Good by its own text: strings.Trim at the cutset of both digits leaves nothing. The text at most 2^63 - 1 octets long. Masks and joins of machine numbers. Plain Lean, no program in sight. -/
import Derived.Shelf.Strings.BuilderK
import Derived.Shelf.Strings.SlTrimAscii
import Derived.Test.YtljnfbpplhnmfaaGreatDoorProg
import Derived.WalkKit
import Derived.BigCall
import Derived.Test.YtljnfbpplhnmfaaGreatDoorOs02
import Derived.Test.YtljnfbpplhnmfaaGreatDoorOs14
import Derived.Test.YtljnfbpplhnmfaaGreatDoorOs23
namespace Go.Proofs.YtljnfbpplhnmfaaGreatDoor.Fw
open Go Go.RowKit Go.Proofs.YtljnfbpplhnmfaaGreatDoorW.PrintWords Go.Proofs.YtljnfbpplhnmfaaGreatDoorW.PrintLast Go.Proofs.YtljnfbpplhnmfaaGreatDoorW.PrintMore Go.Proofs.YtljnfbpplhnmfaaGreatDoor.Str
set_option linter.unusedVariables false
theorem cellQ {w : World} {b : Nat} {cs : Array Value} {t : TypeId} {m : Nat × Nat} (h : w.heap[b]? = some (.cells cs t m)) (j : Nat) (u : Value) (hu : cs[j]? = some u) : w.cell? ⟨b, j, none⟩ = some u := by
  rw [Lib.cell_of_heap h]; exact hu
set_option maxHeartbeats 4000000 in
set_option maxRecDepth 100000 in
theorem putI (w : World) (hL : LaidC w) :
    Calls Tryz.prog 94 #[.agg #[.int .i64 0, .bool false, .int .i64 0, .int .i64 0]] w fun e w' => e = .returned (.tuple #[.string (strOfNums [0, 0]), .int .i64 0]) ∧ Below w.heap.size w w' := by
  have hb0 : Below w.heap.size w (w.alloc (.cells #[.int .i64 0, .bool false, .int .i64 0, .int .i64 0] 192)) := (Below.refl _ w).alloc (Nat.le_refl _) _
  have hz0 : (w.alloc (.cells #[.int .i64 0, .bool false, .int .i64 0, .int .i64 0] 192)).heap.size = w.heap.size + 1 := by show (w.heap.push _).size = _; simp
  have hn0 := heap_alloc_new w (.cells #[.int .i64 0, .bool false, .int .i64 0, .int .i64 0] 192)
  have hcell : (w.alloc (.cells #[.int .i64 0, .bool false, .int .i64 0, .int .i64 0] 192)).cell? ⟨0, 0, none⟩ = some (.int .u8 0) := (hL.below hb0).1 0 0 rfl
  clear hL
  go_enter Tryz.func94, Tryz.ntmps94
  go_wp2_with fail
  generalize w.alloc (.cells #[.int .i64 0, .bool false, .int .i64 0, .int .i64 0] 192) = w0 at hb0 hz0 hn0 hcell ⊢
  have HB0 := Aside0.mk hb0
  have HN0 := Aside0.mk hn0
  have x0 : w0.cell? ⟨w.heap.size, 0, none⟩ = some (.int .i64 0) := by rw [Lib.cell_of_heap hn0]; rfl
  have x1 : w0.cell? ⟨w.heap.size, 1, none⟩ = some (.bool false) := by rw [Lib.cell_of_heap hn0]; rfl
  have x2 : w0.cell? ⟨w.heap.size, 2, none⟩ = some (.int .i64 0) := by rw [Lib.cell_of_heap hn0]; rfl
  have x3 : w0.cell? ⟨w.heap.size, 3, none⟩ = some (.int .i64 0) := by rw [Lib.cell_of_heap hn0]; rfl
  clear hb0 hz0 hn0
  refine (goodW 0 _).mono ?_
  rintro e w1 ⟨rfl, rfl⟩
  go_wp2_with fail
  refine (numW 0 _).mono ?_
  rintro e w1 ⟨rfl, rfl⟩
  have HN := Aside0.mk (heap_alloc_new w0.drew (.cells #[.int .i64 1, .int .i64 0, .int .i64 7, .int .i64 0] 36))
  go_wp2_with fail
  go_region_law (first | (go_simp; go_at_call 133; refine (oneW false _).mono ?_; rintro e w' ⟨rfl, rfl⟩) | (go_simp; go_at_call 106; refine (pack2b _ _ _ _ HN.out).mono ?_; rintro e w1 ⟨rfl, hb1⟩; have HB1 := Aside0.mk hb1; clear hb1))
  all_goals
    have B1 : Below w.heap.size w w1 := below_step (HB0.out.drew.alloc HB0.out.size _) HB1.out
    have y0 : w1.cell? ⟨w.heap.size, 0, none⟩ = some (.int .i64 0) := pw_cell_below HB1.out (pw_cell_below ((Below.refl _ w0.drew).alloc (Nat.le_refl _) _) x0)
    have y2 : w1.cell? ⟨w.heap.size, 2, none⟩ = some (.int .i64 0) := pw_cell_below HB1.out (pw_cell_below ((Below.refl _ w0.drew).alloc (Nat.le_refl _) _) x2)
    have HB2 := Aside0.mk B1
    have HM := Aside0.mk (heap_alloc_new w1 (.cells #[.int .i64 1, .int .i64 0, .int .i64 7, .int .i64 0] 36))
    clear B1 HB1 HN HB0 HN0 x0 x1 x2 x3 hcell
    go_wp2_with fail
    refine (pack2b _ _ _ _ HM.out).mono ?_
    rintro e w2 ⟨rfl, hb2⟩
    have HB3 := Aside0.mk (below_step (HB2.out.alloc HB2.out.size _) hb2)
    have hcv := two_str w2 0 0
    clear hb2 HM HB2 y0 y2
    go_wp2
    go_ret2
    exact ⟨rfl, HB3.out.alloc HB3.out.size _⟩
set_option maxHeartbeats 4000000 in
set_option maxRecDepth 100000 in
theorem getI (s : ByteArray) (w : World) (hL : LaidC w) (hs : 2 ≤ s.size) (hs6 : s.size ≤ 9223372036854775807) (hx : ((s[0]'(by omega)).toNat : Int) = 0) (hy : ((s[1]'(by omega)).toNat : Int) = 0) :
    Calls Tryz.prog 104 #[.string s] w fun e w' => e = .returned (.tuple #[.agg #[.int .i64 0, .bool false, .int .i64 0, .int .i64 0], .int .i64 2, .int .i64 0]) ∧ Below w.heap.size w w' := by
  have hne : s.toList.isEmpty = false := by
    rw [toList_L]
    rw [size_L] at hs
    cases h : L s with
    | nil => rw [h] at hs; simp at hs
    | cons a r => rfl
  have a1 : Go.bits .and .u8 0 1 = 0 := by decide +kernel
  have a16 : Go.bits .and .u8 0 16 = 0 := by decide +kernel
  have an : Go.bits .andNot .u8 0 16 = 0 := by decide +kernel
  have h2 : ¬ (s.size : Int) < 2 := by omega
  have p0 : 0 < s.size := by omega
  have p1 : 1 < s.size := by omega
  have p2 : (1 : Int) < (s.size : Int) := by omega
  have hb0 : Below w.heap.size w (w.alloc (.cells #[.int .i64 0, .bool false, .int .i64 0, .int .i64 0] 192)) := (Below.refl _ w).alloc (Nat.le_refl _) _
  have HR := Aside0.mk (hL.below hb0).row
  have HB := Aside0.mk hb0
  clear hb0 hL
  go_enter Tryz.func104, Tryz.ntmps104
  go_wp2_with fail
  refine (indexW (some ⟨0, 1, none⟩) _ (tFirst.drop 1) 0 _ HR.out (Nat.le_refl _)).mono ?_
  rintro e w1 ⟨rfl, rfl⟩
  have hi : idxL (tFirst.drop 1) 0 = -1 := by decide +kernel
  rw [hi]
  go_wp2_with fail
  refine (indexW (some ⟨0, 1, none⟩) _ (tFirst.drop 1) 0 _ HR.out (Nat.le_refl _)).mono ?_
  rintro e w1 ⟨rfl, rfl⟩
  rw [hi]
  go_wp2_with fail
  refine (numW 0 _).mono ?_
  rintro e w1 ⟨rfl, rfl⟩
  have HK : Aside0 (((w.alloc (.cells #[.int .i64 0, .bool false, .int .i64 0, .int .i64 0] 192)).alloc (.cells #[.int .i64 0, .bool false, .int .i64 0, .int .i64 0] 192)).heap[w.heap.size]? = some (.cells #[.int .i64 0, .bool false, .int .i64 0, .int .i64 0] 192 (0, 0))) := ⟨blk_alloc (blk_new w _) _⟩
  have HM : Aside0 (((w.alloc (.cells #[.int .i64 0, .bool false, .int .i64 0, .int .i64 0] 192)).alloc (.cells #[.int .i64 0, .bool false, .int .i64 0, .int .i64 0] 192)).heap[w.heap.size + 1]? = some (.cells #[.int .i64 0, .bool false, .int .i64 0, .int .i64 0] 192 (0, 0))) := ⟨by
    have h1 := blk_new (w.alloc (.cells #[.int .i64 0, .bool false, .int .i64 0, .int .i64 0] 192)) (.cells #[.int .i64 0, .bool false, .int .i64 0, .int .i64 0] 192)
    have h2 : (w.alloc (.cells #[.int .i64 0, .bool false, .int .i64 0, .int .i64 0] 192)).heap.size = w.heap.size + 1 := by show (w.heap.push _).size = _; simp
    rw [h2] at h1
    exact h1⟩
  have HB2 := Aside0.mk (HB.out.alloc HB.out.size (.cells #[.int .i64 0, .bool false, .int .i64 0, .int .i64 0] 192))
  generalize (w.alloc (.cells #[.int .i64 0, .bool false, .int .i64 0, .int .i64 0] 192)).alloc (.cells #[.int .i64 0, .bool false, .int .i64 0, .int .i64 0] 192) = w2 at *
  clear HB HR
  go_wp2_with fail
  replace HK : Aside0 (w2.drew.heap[w.heap.size]? = some (.cells #[.int .i64 0, .bool false, .int .i64 0, .int .i64 0] 192 (0, 0))) := ⟨HK.out⟩
  replace HM : Aside0 (w2.drew.heap[w.heap.size + 1]? = some (.cells #[.int .i64 0, .bool false, .int .i64 0, .int .i64 0] 192 (0, 0))) := ⟨HM.out⟩
  replace HB2 := Aside0.mk HB2.out.drew
  go_region_held3 (fun _ => True) (trivial) ((go_at_call 139; with_reducible refine (field017 _).mono ?_; rintro e w1 ⟨rfl, hb⟩; replace HK := Aside0.mk ((hb.block _ (Array.getElem?_eq_some_iff.1 HK.out).1).trans HK.out); replace HM := Aside0.mk ((hb.block _ (Array.getElem?_eq_some_iff.1 HM.out).1).trans HM.out); replace HB2 := Aside0.mk (below_step HB2.out hb); clear hb; have c0 := cellQ HM.out 0 (.int .i64 0) rfl; have c1 := cellQ HM.out 1 (.bool false) rfl; have c2 := cellQ HM.out 2 (.int .i64 0) rfl; have c3 := cellQ HM.out 3 (.int .i64 0) rfl; have g0 := Lib.frozen_of_heap HM.out 0; have g1 := Lib.frozen_of_heap HM.out 1; have g2 := Lib.frozen_of_heap HM.out 2; have g3 := Lib.frozen_of_heap HM.out 3))
  all_goals
    go_wp2_with fail
    have HM2 : Aside0 (((w1.setCell ⟨w.heap.size + 1, 1, none⟩ (.bool false)).setCell ⟨w.heap.size + 1, 3, none⟩ (.int .i64 0)).heap[w.heap.size + 1]? = some (.cells #[.int .i64 0, .bool false, .int .i64 0, .int .i64 0] 192 (0, 0))) := ⟨blk_put (blk_put (cs' := #[.int .i64 0, .bool false, .int .i64 0, .int .i64 0]) HM.out 1 (.bool false) rfl) 3 (.int .i64 0) rfl⟩
    have HK2 : Aside0 (((w1.setCell ⟨w.heap.size + 1, 1, none⟩ (.bool false)).setCell ⟨w.heap.size + 1, 3, none⟩ (.int .i64 0)).heap[w.heap.size]? = some (.cells #[.int .i64 0, .bool false, .int .i64 0, .int .i64 0] 192 (0, 0))) := ⟨(Below.heap_setCell _ _ _ _ (by show ¬ w.heap.size = w.heap.size + 1; omega)).trans ((Below.heap_setCell _ _ _ _ (by show ¬ w.heap.size = w.heap.size + 1; omega)).trans HK.out)⟩
    have HB3 := Aside0.mk ((HB2.out.setCell (p := ⟨w.heap.size + 1, 1, none⟩) (Nat.le_succ _) (.bool false)).setCell (p := ⟨w.heap.size + 1, 3, none⟩) (Nat.le_succ _) (.int .i64 0))
    clear c0 c1 c2 c3 g0 g1 g2 g3 HK HM HB2
    generalize (w1.setCell ⟨w.heap.size + 1, 1, none⟩ (.bool false)).setCell ⟨w.heap.size + 1, 3, none⟩ (.int .i64 0) = w3 at *
    refine (field017 _).mono ?_
    rintro e w4 ⟨rfl, hb⟩
    have HK := Aside0.mk ((hb.block _ (Array.getElem?_eq_some_iff.1 HK2.out).1).trans HK2.out)
    have HM := Aside0.mk ((hb.block _ (Array.getElem?_eq_some_iff.1 HM2.out).1).trans HM2.out)
    have HB := Aside0.mk (below_step HB3.out hb)
    clear hb HK2 HM2 HB3
    have c0 := cellQ HM.out 0 (.int .i64 0) rfl
    have c1 := cellQ HM.out 1 (.bool false) rfl
    have c2 := cellQ HM.out 2 (.int .i64 0) rfl
    have c3 := cellQ HM.out 3 (.int .i64 0) rfl
    have g2 := Lib.frozen_of_heap HM.out 2
    have d0 := cellQ HK.out 0 (.int .i64 0) rfl
    have d1 := cellQ HK.out 1 (.bool false) rfl
    have d2 := cellQ HK.out 2 (.int .i64 0) rfl
    have d3 := cellQ HK.out 3 (.int .i64 0) rfl
    have e0 := Lib.frozen_of_heap HK.out 0
    have e1 := Lib.frozen_of_heap HK.out 1
    have e2 := Lib.frozen_of_heap HK.out 2
    have e3 := Lib.frozen_of_heap HK.out 3
    go_wp2_with fail
    have hkk : (((((w4.setCell ⟨w.heap.size + 1, 2, none⟩ (.int .i64 0)).setCell ⟨w.heap.size, 0, none⟩ (.int .i64 0)).setCell ⟨w.heap.size, 1, none⟩ (.bool false)).setCell ⟨w.heap.size, 2, none⟩ (.int .i64 0)).setCell ⟨w.heap.size, 3, none⟩ (.int .i64 0)).heap[w.heap.size]? = some (.cells #[.int .i64 0, .bool false, .int .i64 0, .int .i64 0] 192 (0, 0)) :=
      blk_put (blk_put (cs' := #[.int .i64 0, .bool false, .int .i64 0, .int .i64 0]) (blk_put (cs' := #[.int .i64 0, .bool false, .int .i64 0, .int .i64 0]) (blk_put (cs' := #[.int .i64 0, .bool false, .int .i64 0, .int .i64 0]) ((Below.heap_setCell _ _ _ _ (by show ¬ w.heap.size = w.heap.size + 1; omega)).trans HK.out) 0 (.int .i64 0) rfl) 1 (.bool false) rfl) 2 (.int .i64 0) rfl) 3 (.int .i64 0) rfl
    refine bodyPost_ret (results_ctt rfl _ _ w.heap.size 192 #[.int .i64 0, .bool false, .int .i64 0, .int .i64 0] (0, 0) _ rfl hkk Tryz.underlying192 rfl (by kernel_rfl)) rfl ?_
    exact ⟨rfl, ((((HB.out.setCell (p := ⟨w.heap.size + 1, 2, none⟩) (Nat.le_succ _) _).setCell (p := ⟨w.heap.size, 0, none⟩) (Nat.le_refl _) _).setCell (p := ⟨w.heap.size, 1, none⟩) (Nat.le_refl _) _).setCell (p := ⟨w.heap.size, 2, none⟩) (Nat.le_refl _) _).setCell (p := ⟨w.heap.size, 3, none⟩) (Nat.le_refl _) _⟩
end Go.Proofs.YtljnfbpplhnmfaaGreatDoor.Fw
namespace Go.Proofs.YtljnfbpplhnmfaaGreatDoor.Fw
open Go Go.RowKit Go.Proofs.YtljnfbpplhnmfaaGreatDoorW.PrintWords Go.Proofs.YtljnfbpplhnmfaaGreatDoorW.PrintLast Go.Proofs.YtljnfbpplhnmfaaGreatDoorW.PrintMore Go.Proofs.YtljnfbpplhnmfaaGreatDoor.Str
set_option linter.unusedVariables false
theorem cells8 {w : World} {g : Nat} {a0 a1 a2 a3 a4 a5 a6 a7 : Value} {T : TypeId} {fr : Nat × Nat} (h : w.heap[g]? = some (.cells #[a0, a1, a2, a3, a4, a5, a6, a7] T fr)) : w.cell? ⟨g, 0, none⟩ = some a0 ∧ w.cell? ⟨g, 1, none⟩ = some a1 ∧ w.cell? ⟨g, 2, none⟩ = some a2 ∧ w.cell? ⟨g, 3, none⟩ = some a3 ∧ w.cell? ⟨g, 4, none⟩ = some a4 ∧ w.cell? ⟨g, 5, none⟩ = some a5 ∧ w.cell? ⟨g, 6, none⟩ = some a6 ∧ w.cell? ⟨g, 7, none⟩ = some a7 := by
  refine ⟨?_, ?_, ?_, ?_, ?_, ?_, ?_, ?_⟩ <;> rw [Lib.cell_of_heap h] <;> rfl
theorem byte_of (a : Int) (h0 : 0 ≤ a) (h1 : a ≤ 255) : ((UInt8.ofNat a.toNat).toNat : Int) = a := by rw [UInt8.toNat_ofNat']; omega
def iT (i : ByteArray) : ByteArray := strOfNums [0, 129] ++ strOfNums [0, 0] ++ i
theorem iT_facts (i : ByteArray) (u : ByteArray) (hu : iT i = u) :
    ∃ (h0 : 0 < u.size) (h1 : 1 < u.size), ((u[0]'h0).toNat : Int) = 0 ∧ ((u[1]'h1).toNat : Int) = 129 ∧ u.extract 2 u.size = strOfNums [0, 0] ++ i ∧ u.extract 4 u.size = i ∧ u.size = 4 + i.size := by
  have hl : L u = UInt8.ofNat (0 : Int).toNat :: UInt8.ofNat (129 : Int).toNat :: UInt8.ofNat (0 : Int).toNat :: UInt8.ofNat (0 : Int).toNat :: L i := by
    rw [← hu]; unfold iT; rw [L_app, L_app, L_nums, L_nums]; rfl
  have hz : u.size = 4 + i.size := by rw [size_L, hl, size_L i]; simp; omega
  refine ⟨by omega, by omega, ?_, ?_, ?_, ?_, hz⟩
  · have e : (u[0]'(by omega)) = (L u)[0]'(by rw [← size_L]; omega) := rfl
    rw [e]
    simp only [hl, List.getElem_cons_zero]
    exact byte_of _ (by omega) (by omega)
  · have e : (u[1]'(by omega)) = (L u)[1]'(by rw [← size_L]; omega) := rfl
    rw [e]
    simp only [hl, List.getElem_cons_succ, List.getElem_cons_zero]
    exact byte_of _ (by omega) (by omega)
  · refine inj ?_
    rw [L_cut, L_app, L_nums, hl, List.take_of_length_le (by rw [hz, size_L i]; simp; omega)]; rfl
  · refine inj ?_
    rw [L_cut, hl, List.take_of_length_le (by rw [hz, size_L i]; simp; omega)]; rfl
set_option maxHeartbeats 1000000 in
set_option maxRecDepth 100000 in
theorem fputI (i : ByteArray) (w : World) (hL : LaidC w) (hi : i.size ≤ 260) :
    Calls Tryz.prog 58 #[.agg #[.int .i64 0, .int .i64 64, .bool true, .int .i64 0, .bool false, .int .i64 0, .int .i64 0, .string i], .bool false] w fun e w' => e = .returned (.tuple #[.string (seal_ (iT i)), .int .i64 0]) ∧ Below w.heap.size w w' := by
  have hb0 : Below w.heap.size w (w.alloc (.cells #[.int .i64 0, .int .i64 64, .bool true, .int .i64 0, .bool false, .int .i64 0, .int .i64 0, .string i] 144)) := (Below.refl _ w).alloc (Nat.le_refl _) _
  have hn0 := heap_alloc_new w (.cells #[.int .i64 0, .int .i64 64, .bool true, .int .i64 0, .bool false, .int .i64 0, .int .i64 0, .string i] 144)
  have HL := Aside0.mk hL
  have hmk := fun v => makeW 0 64 true false v
  have hap := fun v => aputR v
  have hpu := fun v hv => putI v hv
  have hz1 : (strOfNums [0, 129]).size = 2 := by rw [nums_size]; rfl
  have hz2 : (strOfNums [0, 0]).size = 2 := by rw [nums_size]; rfl
  have hz3 : (iT i).size = 4 + i.size := by unfold iT; rw [ByteArray.size_append, ByteArray.size_append, hz1, hz2]
  have hui : strOfNums [0, 129] ++ strOfNums [0, 0] ++ i = iT i := rfl
  clear hL
  generalize iT i = u at hz3 hui ⊢
  generalize strOfNums [0, 129] = v1 at hz1 hap hui
  generalize strOfNums [0, 0] = v2 at hz2 hpu hui
  rw [show (true == false) = false from rfl] at hmk
  have HMK := Aside0.mk hmk
  have HAP := Aside0.mk hap
  have HPU := Aside0.mk hpu
  have hsl := sealW u
  have HSL : Aside0 (∀ v : World, Calls Tryz.prog 97 #[.string u] v fun e w' => e = .returned (.string (seal_ u)) ∧ Below v.heap.size v w') := ⟨fun v => hsl v (by omega)⟩
  generalize seal_ u = z at HSL ⊢
  clear hmk hap hpu hsl
  go_enter Tryz.func58, Tryz.ntmps58
  go_wp2_with fail
  generalize w.alloc (.cells #[.int .i64 0, .int .i64 64, .bool true, .int .i64 0, .bool false, .int .i64 0, .int .i64 0, .string i] 144) = w0 at hb0 hn0 ⊢
  refine (HPU.out w0 (HL.out.below hb0)).mono ?_
  rintro e w1 ⟨rfl, hb1⟩
  have H1 := Aside0.mk ((hb1.block _ (Array.getElem?_eq_some_iff.1 hn0).1).trans hn0)
  have B1 := Aside0.mk (below_step hb0 hb1)
  obtain ⟨x0, x1, x2, x3, x4, x5, x6, x7⟩ := cells8 H1.out
  clear hb1 hn0 hb0
  go_wp2_with fail
  refine (Fm.may0 w1).mono ?_
  rintro e w2 ⟨rfl, rfl⟩
  go_wp2_with fail
  refine (HMK.out w1).mono ?_
  rintro e w2 ⟨rfl, hb2⟩
  have H2 := Aside0.mk ((hb2.block _ (Array.getElem?_eq_some_iff.1 H1.out).1).trans H1.out)
  have B2 := Aside0.mk (below_step B1.out hb2)
  clear x0 x1 x2 x3 x4 x5 x6 x7 hb2 H1 B1
  obtain ⟨x0, x1, x2, x3, x4, x5, x6, x7⟩ := cells8 H2.out
  go_wp2_with fail
  refine (HAP.out w2).mono ?_
  rintro e w3 ⟨rfl, hb3⟩
  have H3 := Aside0.mk ((hb3.block _ (Array.getElem?_eq_some_iff.1 H2.out).1).trans H2.out)
  have B3 := Aside0.mk (below_step B2.out hb3)
  clear x0 x1 x2 x3 x4 x5 x6 x7 hb3 H2 B2
  obtain ⟨x0, x1, x2, x3, x4, x5, x6, x7⟩ := cells8 H3.out
  go_wp2_with fail
  refine (Fm.carries0 i.size hi w3).mono ?_
  rintro e w4 ⟨rfl, rfl⟩
  have hcat : ¬ 9223372036854775807 < v1.size + v2.size := by omega
  have hcat2 : ¬ 9223372036854775807 < (v1 ++ v2).size + i.size := by rw [ByteArray.size_append]; omega
  go_wp2_with fail
  refine (HSL.out w3).mono ?_
  rintro e w4 ⟨rfl, hb4⟩
  have B4 := Aside0.mk (below_step B3.out hb4)
  clear hb4 B3 H3 x0 x1 x2 x3 x4 x5 x6 x7 hcat hcat2 hui
  go_wp2
  go_ret2
  exact ⟨rfl, B4.out⟩
theorem cells3 {w : World} {g : Nat} {a0 a1 a2 : Value} {T : TypeId} {fr : Nat × Nat} (h : w.heap[g]? = some (.cells #[a0, a1, a2] T fr)) : w.cell? ⟨g, 0, none⟩ = some a0 ∧ w.cell? ⟨g, 1, none⟩ = some a1 ∧ w.cell? ⟨g, 2, none⟩ = some a2 := by
  refine ⟨?_, ?_, ?_⟩ <;> rw [Lib.cell_of_heap h] <;> rfl
theorem cells4 {w : World} {g : Nat} {a0 a1 a2 a3 : Value} {T : TypeId} {fr : Nat × Nat} (h : w.heap[g]? = some (.cells #[a0, a1, a2, a3] T fr)) : w.cell? ⟨g, 0, none⟩ = some a0 ∧ w.cell? ⟨g, 1, none⟩ = some a1 ∧ w.cell? ⟨g, 2, none⟩ = some a2 ∧ w.cell? ⟨g, 3, none⟩ = some a3 := by
  refine ⟨?_, ?_, ?_, ?_⟩ <;> rw [Lib.cell_of_heap h] <;> rfl
theorem frozen8 {w : World} {g : Nat} {cs : Array Value} {T : TypeId} (h : w.heap[g]? = some (.cells cs T (0, 0))) : w.frozen? ⟨g, 0, none⟩ = false ∧ w.frozen? ⟨g, 1, none⟩ = false ∧ w.frozen? ⟨g, 2, none⟩ = false ∧ w.frozen? ⟨g, 3, none⟩ = false ∧ w.frozen? ⟨g, 4, none⟩ = false ∧ w.frozen? ⟨g, 5, none⟩ = false ∧ w.frozen? ⟨g, 6, none⟩ = false ∧ w.frozen? ⟨g, 7, none⟩ = false :=
  ⟨Lib.frozen_of_heap h 0, Lib.frozen_of_heap h 1, Lib.frozen_of_heap h 2, Lib.frozen_of_heap h 3, Lib.frozen_of_heap h 4, Lib.frozen_of_heap h 5, Lib.frozen_of_heap h 6, Lib.frozen_of_heap h 7⟩
theorem set8 {w : World} {g : Nat} {a0 a1 a2 a3 a4 a5 a6 a7 : Value} {T : TypeId} (h : w.heap[g]? = some (.cells #[a0, a1, a2, a3, a4, a5, a6, a7] T (0, 0))) (b0 b1 b2 b3 b4 b5 b6 b7 : Value) :
    ((((((((w.setCell ⟨g, 0, none⟩ b0).setCell ⟨g, 1, none⟩ b1).setCell ⟨g, 2, none⟩ b2).setCell ⟨g, 3, none⟩ b3).setCell ⟨g, 4, none⟩ b4).setCell ⟨g, 5, none⟩ b5).setCell ⟨g, 6, none⟩ b6).setCell ⟨g, 7, none⟩ b7).heap[g]? = some (.cells #[b0, b1, b2, b3, b4, b5, b6, b7] T (0, 0)) := (blk_put (cs := #[b0, b1, b2, b3, b4, b5, b6, a7]) (blk_put (cs := #[b0, b1, b2, b3, b4, b5, a6, a7]) (blk_put (cs := #[b0, b1, b2, b3, b4, a5, a6, a7]) (blk_put (cs := #[b0, b1, b2, b3, a4, a5, a6, a7]) (blk_put (cs := #[b0, b1, b2, a3, a4, a5, a6, a7]) (blk_put (cs := #[b0, b1, a2, a3, a4, a5, a6, a7]) (blk_put (cs := #[b0, a1, a2, a3, a4, a5, a6, a7]) (blk_put (cs := #[a0, a1, a2, a3, a4, a5, a6, a7]) h 0 _ rfl) 1 _ rfl) 2 _ rfl) 3 _ rfl) 4 _ rfl) 5 _ rfl) 6 _ rfl) 7 _ rfl)
theorem below8 {B : Nat} {w0 w : World} {g : Nat} (hb : Below B w0 w) (hg : B ≤ g) (b0 b1 b2 b3 b4 b5 b6 b7 : Value) : Below B w0 ((((((((w.setCell ⟨g, 0, none⟩ b0).setCell ⟨g, 1, none⟩ b1).setCell ⟨g, 2, none⟩ b2).setCell ⟨g, 3, none⟩ b3).setCell ⟨g, 4, none⟩ b4).setCell ⟨g, 5, none⟩ b5).setCell ⟨g, 6, none⟩ b6).setCell ⟨g, 7, none⟩ b7) := ((((((((hb.setCell (p := ⟨g, 0, none⟩) hg b0).setCell (p := ⟨g, 1, none⟩) hg b1).setCell (p := ⟨g, 2, none⟩) hg b2).setCell (p := ⟨g, 3, none⟩) hg b3).setCell (p := ⟨g, 4, none⟩) hg b4).setCell (p := ⟨g, 5, none⟩) hg b5).setCell (p := ⟨g, 6, none⟩) hg b6).setCell (p := ⟨g, 7, none⟩) hg b7)
set_option maxHeartbeats 1000000 in
set_option maxRecDepth 100000 in
theorem fgetI (i : ByteArray) (w : World) (hL : LaidC w) (hi : i.size ≤ 260) :
    Calls Tryz.prog 63 #[.string (seal_ (iT i)), .bool false] w fun e w' => e = .returned (.tuple #[.agg #[.int .i64 0, .int .i64 64, .bool true, .int .i64 0, .bool false, .int .i64 0, .int .i64 0, .string i], .int .i64 0]) ∧ Below w.heap.size w w' := by
  have HL := Aside0.mk hL
  clear hL
  have hb0 : Below w.heap.size w (w.alloc (.cells #[.int .i64 0, .int .i64 0, .bool false, .int .i64 0, .bool false, .int .i64 0, .int .i64 0, .string ⟨#[]⟩] 144)) := (Below.refl _ w).alloc (Nat.le_refl _) _
  have hn0 := heap_alloc_new w (.cells #[.int .i64 0, .int .i64 0, .bool false, .int .i64 0, .bool false, .int .i64 0, .int .i64 0, .string ⟨#[]⟩] 144)
  obtain ⟨u, hu⟩ : ∃ u, iT i = u := ⟨_, rfl⟩
  obtain ⟨p0, p1, hx0, hx1, he2, he3, hz⟩ := iT_facts i u hu
  have hck := fun v => checkW u v (by omega)
  rw [hu]
  generalize seal_ u = z at hck ⊢
  have hag := fun v => agetR u v (by omega) (by omega) hx0 hx1
  have hcm := fun v => cmdW 0 64 false false v
  rw [beq_self_eq_true] at hcm
  have hr1 : (strOfNums [0, 0] ++ i).size = 2 + i.size := by rw [ByteArray.size_append, nums_size]; rfl
  have hr0 : (((strOfNums [0, 0] ++ i)[0]'(by omega)).toNat : Int) = 0 := by
    have e : ((strOfNums [0, 0] ++ i)[0]'(by omega)) = (L (strOfNums [0, 0] ++ i))[0]'(by rw [← size_L]; omega) := rfl
    rw [e]
    have e2 : L (strOfNums [0, 0] ++ i) = UInt8.ofNat (0 : Int).toNat :: UInt8.ofNat (0 : Int).toNat :: L i := by rw [L_app, L_nums]; rfl
    simp only [e2, List.getElem_cons_zero]
    rfl
  have hr2 : (((strOfNums [0, 0] ++ i)[1]'(by omega)).toNat : Int) = 0 := by
    have e : ((strOfNums [0, 0] ++ i)[1]'(by omega)) = (L (strOfNums [0, 0] ++ i))[1]'(by rw [← size_L]; omega) := rfl
    rw [e]
    have e2 : L (strOfNums [0, 0] ++ i) = UInt8.ofNat (0 : Int).toNat :: UInt8.ofNat (0 : Int).toNat :: L i := by rw [L_app, L_nums]; rfl
    simp only [e2, List.getElem_cons_succ, List.getElem_cons_zero]
    rfl
  have hcg := fun v hv => getI (strOfNums [0, 0] ++ i) v hv (by omega) (by omega) hr0 hr2
  have HCK := Aside0.mk hck
  have HAG := Aside0.mk hag
  have HCM := Aside0.mk hcm
  have HCG := Aside0.mk hcg
  clear hck hag hcm hcg hr0 hr1 hr2 hx0 hx1 hu
  generalize strOfNums [0, 0] ++ i = r at *
  rw [hz] at he2 he3
  have hu2 : (2 : Int) ≤ (u.size : Int) := by omega
  have hu3 : (4 : Int) ≤ (u.size : Int) := by omega
  go_enter Tryz.func63, Tryz.ntmps63
  go_wp2_with fail
  have H0 := Aside0.mk hn0
  have B0 := Aside0.mk hb0
  clear hn0 hb0
  change Calls _ _ _ (w.alloc (.cells #[.int .i64 0, .int .i64 0, .bool false, .int .i64 0, .bool false, .int .i64 0, .int .i64 0, .string ⟨#[]⟩] 144)) _
  generalize w.alloc (.cells #[.int .i64 0, .int .i64 0, .bool false, .int .i64 0, .bool false, .int .i64 0, .int .i64 0, .string ⟨#[]⟩] 144) = w0 at H0 B0 ⊢
  refine (HCK.out w0).mono ?_
  rintro e w1 ⟨rfl, hb⟩
  have H1 := Aside0.mk ((hb.block _ (Array.getElem?_eq_some_iff.1 H0.out).1).trans H0.out)
  have B1 := Aside0.mk (below_step B0.out hb)
  clear hb H0 B0
  go_wp2_with fail
  refine (HAG.out w1).mono ?_
  rintro e w2 ⟨rfl, hb⟩
  have H2 := Aside0.mk ((hb.block _ (Array.getElem?_eq_some_iff.1 H1.out).1).trans H1.out)
  have B2 := Aside0.mk (below_step B1.out hb)
  clear hb H1 B1
  go_wp2_with fail
  have H3 := Aside0.mk (blk_alloc H2.out (.cells #[.int .i64 0, .int .i64 64, .bool false] 195))
  have A3 := Aside0.mk (blk_new w2 (.cells #[.int .i64 0, .int .i64 64, .bool false] 195))
  have B3 : Aside0 (Below w.heap.size w (w2.alloc (.cells #[.int .i64 0, .int .i64 64, .bool false] 195))) := ⟨B2.out.alloc B2.out.size _⟩
  generalize w2.alloc (.cells #[.int .i64 0, .int .i64 64, .bool false] 195) = w3 at H3 A3 B3 ⊢
  generalize w2.heap.size = ga at A3 ⊢
  clear H2 B2
  refine (HCG.out w3 (HL.out.below B3.out)).mono ?_
  rintro e w4 ⟨rfl, hb⟩
  have H4 := Aside0.mk ((hb.block _ (Array.getElem?_eq_some_iff.1 H3.out).1).trans H3.out)
  have A4 := Aside0.mk ((hb.block _ (Array.getElem?_eq_some_iff.1 A3.out).1).trans A3.out)
  have B4 := Aside0.mk (below_step B3.out hb)
  clear hb H3 A3 B3
  obtain ⟨a0, a1, a2⟩ := cells3 (blk_alloc A4.out (.cells #[.int .i64 0, .bool false, .int .i64 0, .int .i64 0] 192))
  go_wp2_with fail
  have H5 := Aside0.mk (blk_alloc H4.out (.cells #[.int .i64 0, .bool false, .int .i64 0, .int .i64 0] 192))
  have A5 := Aside0.mk (blk_alloc A4.out (.cells #[.int .i64 0, .bool false, .int .i64 0, .int .i64 0] 192))
  have C5 := Aside0.mk (blk_new w4 (.cells #[.int .i64 0, .bool false, .int .i64 0, .int .i64 0] 192))
  have B5 : Aside0 (Below w.heap.size w (w4.alloc (.cells #[.int .i64 0, .bool false, .int .i64 0, .int .i64 0] 192))) := ⟨B4.out.alloc B4.out.size _⟩
  clear a0 a1 a2 H4 A4 B4
  generalize w4.alloc (.cells #[.int .i64 0, .bool false, .int .i64 0, .int .i64 0] 192) = w5 at H5 A5 C5 B5 ⊢
  generalize w4.heap.size = gc at C5 ⊢
  refine (HCM.out w5).mono ?_
  rintro e w6 ⟨rfl, hb⟩
  have H6 := Aside0.mk ((hb.block _ (Array.getElem?_eq_some_iff.1 H5.out).1).trans H5.out)
  have A6 := Aside0.mk ((hb.block _ (Array.getElem?_eq_some_iff.1 A5.out).1).trans A5.out)
  have C6 := Aside0.mk ((hb.block _ (Array.getElem?_eq_some_iff.1 C5.out).1).trans C5.out)
  have B6 := Aside0.mk (below_step B5.out hb)
  clear hb H5 A5 C5 B5
  obtain ⟨a0, a1, a2⟩ := cells3 A6.out
  obtain ⟨c0, c1, c2, c3⟩ := cells4 C6.out
  obtain ⟨x0, x1, x2, x3, x4, x5, x6, x7⟩ := cells8 H6.out
  obtain ⟨f0, f1, f2, f3, f4, f5, f6, f7⟩ := frozen8 H6.out
  go_wp2_with fail
  refine (Fm.may0 w6).mono ?_
  rintro e w7 ⟨rfl, rfl⟩
  go_wp2_with fail
  refine (Fm.carries0 i.size hi w6).mono ?_
  rintro e w7 ⟨rfl, rfl⟩
  go_wp2
  refine bodyPost_ret (results_ct rfl _ _ w.heap.size 144 #[.int .i64 0, .int .i64 64, .bool true, .int .i64 0, .bool false, .int .i64 0, .int .i64 0, .string i] (0, 0) _ rfl (set8 H6.out _ _ _ _ _ _ _ _) Tryz.underlying144 rfl (by kernel_rfl)) rfl ?_
  exact ⟨rfl, below8 B6.out (Nat.le_refl _) _ _ _ _ _ _ _ _⟩
end Go.Proofs.YtljnfbpplhnmfaaGreatDoor.Fw
namespace Go.Proofs
open Go.Shelf
def Tryz.lays169_ren : Go.Shelf.Ren := ⟨fun | 169 => 138 | n => n, fun | 70 => 228 | 9 => 9 | 0 => 0 | 72 => 230 | 37 => 181 | 127 => 257 | 3 => 3 | 5 => 5 | n => n, fun | n => n⟩
theorem Tryz.lays169 : Go.Proofs.Lays.n169 Tryz.prog Tryz.lays169_ren := {
  mixed := by kernel_rfl
  f169 := Tryz.func138.trans (congrArg some (by kernel_rfl))
  t0 := Tryz.underlying0
  a0 := Tryz.isAgg0
  z0 := Tryz.sizeOf0
  v0 := Tryz.zeroValue0
  t3 := Tryz.underlying3
  a3 := Tryz.isAgg3
  z3 := Tryz.sizeOf3
  v3 := Tryz.zeroValue3
  t9 := Tryz.underlying9
  a9 := Tryz.isAgg9
  z9 := Tryz.sizeOf9
  v9 := Tryz.zeroValue9
  t37 := Tryz.underlying181
  a37 := Tryz.isAgg181
  z37 := Tryz.sizeOf181
  v37 := Tryz.zeroValue181
  t70 := Tryz.underlying228
  a70 := Tryz.isAgg228
  z70 := Tryz.sizeOf228
  v70 := Tryz.zeroValue228
  t72 := Tryz.underlying230
  a72 := Tryz.isAgg230
  z72 := Tryz.sizeOf230
  v72 := Tryz.zeroValue230
  t127 := Tryz.underlying257
  a127 := Tryz.isAgg257
  z127 := Tryz.sizeOf257
  v127 := Tryz.zeroValue257 }
theorem Tryz.Builder_Extra_169 : Builder.Extra Tryz.prog Tryz.lays169_ren := {
  sizeBuilder := by kernel_rfl
  liesBuilder := by kernel_rfl
  t5 := Tryz.underlying5
  a5 := Tryz.isAgg5
  z5 := Tryz.sizeOf5
  v5 := Tryz.zeroValue5
  infoByte := by kernel_rfl
  cellsByte := by kernel_rfl
  sizeByte := by kernel_rfl
  neB5 := by decide }
def Tryz.lays160_ren : Go.Shelf.Ren := ⟨fun | 160 => 182 | 232 => 184 | 231 => 183 | 227 => 185 | 234 => 187 | 233 => 186 | 236 => 189 | 235 => 188 | 228 => 190 | 271 => 193 | 151 => 192 | 197 => 191 | 120 => 196 | 152 => 195 | 260 => 194 | 137 => 197 | 119 => 198 | 224 => 199 | 225 => 200 | 217 => 201 | 266 => 202 | n => n, fun | 9 => 9 | 4 => 4 | 3 => 3 | 5 => 5 | 117 => 280 | 116 => 279 | 0 => 0 | 124 => 283 | 21 => 21 | 105 => 285 | 46 => 170 | 119 => 289 | 139 => 292 | 138 => 291 | n => n, fun | 3 => 2 | 4 => 3 | n => n⟩
theorem Tryz.lays160 : Go.Proofs.Lays.n160 Tryz.prog Tryz.lays160_ren := {
  mixed := by kernel_rfl
  f119 := Tryz.func198.trans (congrArg some (by kernel_rfl))
  f120 := Tryz.func196.trans (congrArg some (by kernel_rfl))
  f137 := Tryz.func197.trans (congrArg some (by kernel_rfl))
  f151 := Tryz.func192.trans (congrArg some (by kernel_rfl))
  f152 := Tryz.func195.trans (congrArg some (by kernel_rfl))
  f160 := Tryz.func182.trans (congrArg some (by kernel_rfl))
  f197 := Tryz.func191.trans (congrArg some (by kernel_rfl))
  f217 := Tryz.func201.trans (congrArg some (by kernel_rfl))
  f224 := Tryz.func199.trans (congrArg some (by kernel_rfl))
  f225 := Tryz.func200.trans (congrArg some (by kernel_rfl))
  f227 := Tryz.func185.trans (congrArg some (by kernel_rfl))
  f228 := Tryz.func190.trans (congrArg some (by kernel_rfl))
  f231 := Tryz.func183.trans (congrArg some (by kernel_rfl))
  f232 := Tryz.func184.trans (congrArg some (by kernel_rfl))
  f233 := Tryz.func186.trans (congrArg some (by kernel_rfl))
  f234 := Tryz.func187.trans (congrArg some (by kernel_rfl))
  f235 := Tryz.func188.trans (congrArg some (by kernel_rfl))
  f236 := Tryz.func189.trans (congrArg some (by kernel_rfl))
  f260 := Tryz.func194.trans (congrArg some (by kernel_rfl))
  f266 := Tryz.func202.trans (congrArg some (by kernel_rfl))
  f271 := Tryz.func193.trans (congrArg some (by kernel_rfl))
  t0 := Tryz.underlying0
  a0 := Tryz.isAgg0
  z0 := Tryz.sizeOf0
  v0 := Tryz.zeroValue0
  t3 := Tryz.underlying3
  a3 := Tryz.isAgg3
  z3 := Tryz.sizeOf3
  v3 := Tryz.zeroValue3
  t4 := Tryz.underlying4
  a4 := Tryz.isAgg4
  z4 := Tryz.sizeOf4
  v4 := Tryz.zeroValue4
  t5 := Tryz.underlying5
  a5 := Tryz.isAgg5
  z5 := Tryz.sizeOf5
  v5 := Tryz.zeroValue5
  t9 := Tryz.underlying9
  a9 := Tryz.isAgg9
  z9 := Tryz.sizeOf9
  v9 := Tryz.zeroValue9
  t21 := Tryz.underlying21
  a21 := Tryz.isAgg21
  z21 := Tryz.sizeOf21
  v21 := Tryz.zeroValue21
  t46 := Tryz.underlying170
  a46 := Tryz.isAgg170
  z46 := Tryz.sizeOf170
  v46 := Tryz.zeroValue170
  t105 := Tryz.underlying285
  a105 := Tryz.isAgg285
  z105 := Tryz.sizeOf285
  v105 := Tryz.zeroValue285
  t116 := Tryz.underlying279
  a116 := Tryz.isAgg279
  z116 := Tryz.sizeOf279
  t117 := Tryz.underlying280
  a117 := Tryz.isAgg280
  z117 := Tryz.sizeOf280
  v117 := Tryz.zeroValue280
  t119 := Tryz.underlying289
  a119 := Tryz.isAgg289
  z119 := Tryz.sizeOf289
  t124 := Tryz.underlying283
  a124 := Tryz.isAgg283
  z124 := Tryz.sizeOf283
  v124 := Tryz.zeroValue283
  t138 := Tryz.underlying291
  a138 := Tryz.isAgg291
  z138 := Tryz.sizeOf291
  v138 := Tryz.zeroValue291
  t139 := Tryz.underlying292
  a139 := Tryz.isAgg292
  z139 := Tryz.sizeOf292
  v139 := Tryz.zeroValue292
  g3 := by kernel_rfl
  g4 := by kernel_rfl }
open Go.RowKit in
theorem Tryz.Builder_String_any_k (B b : Nat) (l : List UInt8) (w : World) (h : Lib.IsBuilderF 230 5 B b (Lib.byteCells l) w) (hBw : B ≤ w.heap.size) :
    Calls Tryz.prog 138 #[.pointer (some ⟨b, 0, none⟩)] w fun e w' => e = .returned (.string ⟨l.toArray⟩) ∧ (Lib.IsBuilderF 230 5 B b (Lib.byteCells l) w' ∧ Below B w w' ∧ Lib.OthersKept 5 (some b) w w') := Any.Builder_String_any_k Tryz.lays169 Tryz.Builder_Extra_169 B b l w h hBw
end Go.Proofs
namespace Go.Proofs.YtljnfbpplhnmfaaGreatDoor.Bits
open Go.RowKit Go.Proofs.YtljnfbpplhnmfaaGreatDoor.Str
def bitB (b : UInt8) (k : Nat) : UInt8 := UInt8.ofNat (48 + b.toNat / 2 ^ k % 2)
def bitsB (b : UInt8) : List UInt8 := (List.range 8).map (bitB b)
def ofL (l : List UInt8) : List UInt8 := l.flatMap bitsB
theorem bitsB_length (b : UInt8) : (bitsB b).length = 8 := by simp [bitsB]
theorem ofL_nil : ofL [] = [] := rfl
theorem ofL_cons (b : UInt8) (l : List UInt8) : ofL (b :: l) = bitsB b ++ ofL l := rfl
theorem ofL_append (a b : List UInt8) : ofL (a ++ b) = ofL a ++ ofL b := by simp [ofL]
theorem ofL_length (l : List UInt8) : (ofL l).length = 8 * l.length := by
  induction l with
  | nil => rfl
  | cons b l ih => rw [ofL_cons, List.length_append, bitsB_length, ih, List.length_cons]; omega
theorem bitsB_take (b : UInt8) (k : Nat) (h : k < 8) : (bitsB b).take (k + 1) = (bitsB b).take k ++ [bitB b k] := by
  rw [List.take_succ_eq_append_getElem (by rw [bitsB_length]; exact h)]
  simp [bitsB]
theorem bitsB_all (b : UInt8) : (bitsB b).take 8 = bitsB b := List.take_of_length_le (by rw [bitsB_length]; exact Nat.le_refl _)
theorem ofL_take (l : List UInt8) (i : Nat) (h : i < l.length) : ofL (l.take (i + 1)) = ofL (l.take i) ++ bitsB l[i] := by
  rw [List.take_succ_eq_append_getElem h, ofL_append, ofL_cons, ofL_nil, List.append_nil]
theorem bitB_num (b : UInt8) (k : Nat) : ((bitB b k).toNat : Int) = 48 + (b.toNat : Int) / 2 ^ k % 2 := by
  have h : b.toNat / 2 ^ k % 2 < 2 := Nat.mod_lt _ (by decide)
  unfold bitB
  rw [UInt8.toNat_ofNat']
  have e : (48 + b.toNat / 2 ^ k % 2) % 2 ^ 8 = 48 + b.toNat / 2 ^ k % 2 := by omega
  rw [e]
  simp
end Go.Proofs.YtljnfbpplhnmfaaGreatDoor.Bits
namespace Go.Proofs.YtljnfbpplhnmfaaGreatDoor.Oct
open Go.RowKit Go.Proofs.YtljnfbpplhnmfaaGreatDoor.Str Go.Proofs.YtljnfbpplhnmfaaGreatDoor.Bits
def val : List UInt8 → Nat
  | [] => 0
  | c :: r => c.toNat % 2 + 2 * val r
theorem val_lt (l : List UInt8) : val l < 2 ^ l.length := by
  induction l with
  | nil => decide
  | cons c r ih => simp only [val, List.length_cons, Nat.pow_succ]; omega
theorem val_snoc (l : List UInt8) (c : UInt8) : val (l ++ [c]) = val l + c.toNat % 2 * 2 ^ l.length := by
  induction l with
  | nil => simp [val]
  | cons d r ih =>
    simp only [List.cons_append, val, ih, List.length_cons, Nat.pow_succ]
    generalize 2 ^ r.length = q
    rw [Nat.mul_add, ← Nat.mul_assoc, ← Nat.mul_assoc, Nat.mul_comm 2 (c.toNat % 2), Nat.mul_assoc (c.toNat % 2) q 2, Nat.mul_assoc (c.toNat % 2) 2 q, Nat.mul_comm 2 q]
    omega
def goodL (l : List UInt8) : Bool := l.all fun c => c == 48 || c == 49
def row (l : List UInt8) (j : Nat) : List UInt8 := (l.drop (8 * j)).take 8
def oct (l : List UInt8) (j : Nat) : UInt8 := UInt8.ofNat (val (row l j))
def octsL (l : List UInt8) : List UInt8 := (List.range (l.length / 8)).map (oct l)
def octR (l : List UInt8) : List UInt8 × Int := if goodL l = true then (if l.length % 8 = 0 then (octsL l, 0) else ([], 3)) else ([], 4)
theorem row_length (l : List UInt8) (j : Nat) : (row l j).length ≤ 8 := List.length_take_le _ _
theorem oct_num (l : List UInt8) (j : Nat) : ((oct l j).toNat : Int) = (val (row l j) : Int) := by
  have h := val_lt (row l j)
  have h2 : 2 ^ (row l j).length ≤ 2 ^ 8 := Nat.pow_le_pow_right (by decide) (row_length l j)
  unfold oct
  rw [UInt8.toNat_ofNat', Nat.mod_eq_of_lt (Nat.lt_of_lt_of_le h h2)]
def partL (l : List UInt8) (n i : Nat) : List UInt8 := (List.range n).map (oct (l.take i))
theorem partL_length (l : List UInt8) (n i : Nat) : (partL l n i).length = n := by simp [partL]
theorem partL_zero (l : List UInt8) (n : Nat) : partL l n 0 = List.replicate n 0 := by
  apply List.ext_getElem (by simp [partL])
  intro i h1 h2
  simp [partL, oct, row, val]
theorem partL_all (l : List UInt8) : partL l (l.length / 8) l.length = octsL l := by
  unfold partL octsL
  rw [List.take_of_length_le (Nat.le_refl _)]
theorem partL_get (l : List UInt8) (n i j : Nat) (h : j < n) : (partL l n i)[j]'(by rw [partL_length]; exact h) = oct (l.take i) j := by simp [partL]
theorem row_same (l : List UInt8) (i j : Nat) (hi : i < l.length) (hj : j ≠ i / 8) : row (l.take (i + 1)) j = row (l.take i) j := by
  unfold row
  rw [List.take_succ_eq_append_getElem hi]
  by_cases h : j < i / 8
  · rw [List.drop_append_of_le_length (by rw [List.length_take]; omega), List.take_append_of_le_length (by rw [List.length_drop, List.length_take]; omega)]
  · rw [List.drop_of_length_le (by simp; omega), List.drop_of_length_le (by simp; omega)]
theorem row_new (l : List UInt8) (i : Nat) (hi : i < l.length) : row (l.take (i + 1)) (i / 8) = row (l.take i) (i / 8) ++ [l[i]] ∧ (row (l.take i) (i / 8)).length = i % 8 := by
  unfold row
  have hd : (List.drop (8 * (i / 8)) (List.take i l)).length = i % 8 := by rw [List.length_drop, List.length_take]; omega
  refine ⟨?_, by rw [List.length_take, hd]; omega⟩
  have h1 : List.take 8 (List.drop (8 * (i / 8)) (List.take i l)) = List.drop (8 * (i / 8)) (List.take i l) := List.take_of_length_le (by rw [hd]; omega)
  rw [h1, List.take_succ_eq_append_getElem hi, List.drop_append_of_le_length (by rw [List.length_take]; omega)]
  exact List.take_of_length_le (by rw [List.length_append, hd]; simp; omega)
theorem partL_step (l : List UInt8) (n i : Nat) (hi : i < l.length) (_hn : i / 8 < n) (c : UInt8) (hc : (c.toNat : Int) = (val (row (l.take i) (i / 8)) : Int) + (l[i].toNat : Int) % 2 * 2 ^ (i % 8)) :
    partL l n (i + 1) = (partL l n i).set (i / 8) c := by
  apply List.ext_getElem (by simp [partL])
  intro j h1 h2
  rw [partL_length] at h1
  rw [partL_get l n _ j h1, List.getElem_set]
  by_cases h : i / 8 = j
  · rw [if_pos h]
    subst h
    obtain ⟨hr, hl⟩ := row_new l i hi
    apply UInt8.toNat_inj.1
    have h3 := oct_num (l.take (i + 1)) (i / 8)
    rw [hr, val_snoc, hl] at h3
    have : ((oct (l.take (i + 1)) (i / 8)).toNat : Int) = (c.toNat : Int) := by
      rw [h3, hc]
      simp
    omega
  · rw [if_neg h, partL_get l n i j h1]
    unfold oct
    rw [row_same l i j hi (fun e => h e.symm)]
end Go.Proofs.YtljnfbpplhnmfaaGreatDoor.Oct
namespace Go.Proofs.YtljnfbpplhnmfaaGreatDoor.Good
open Go.RowKit Go.Proofs.YtljnfbpplhnmfaaGreatDoor.Str Go.Proofs.YtljnfbpplhnmfaaGreatDoor.Bits Go.Proofs.YtljnfbpplhnmfaaGreatDoor.Oct
set_option linter.unusedVariables false
theorem mem_digits (c : UInt8) : ([48, 49] : List UInt8).contains c = (c == 48 || c == 49) := by
  simp [List.contains, List.elem]
  cases (c == 48) <;> cases (c == 49) <;> rfl
theorem drop_nil (p : UInt8 → Bool) (l : List UInt8) : (l.dropWhile p = []) ↔ l.all p = true := by
  induction l with
  | nil => simp
  | cons c l ih =>
    rw [List.dropWhile_cons, List.all_cons]
    cases h : p c <;> simp [ih]
theorem drop_all (p : UInt8 → Bool) (l : List UInt8) (h : (l.dropWhile p).all p = true) : l.dropWhile p = [] := by
  induction l with
  | nil => rfl
  | cons c l ih =>
    rw [List.dropWhile_cons] at h ⊢
    split at h
    · rename_i hc
      rw [if_pos hc]
      exact ih h
    · rename_i hc
      rw [List.all_cons] at h
      simp [hc] at h
theorem trim_good (l : List UInt8) : (Lib.trimS l [48, 49]).isEmpty = goodL l := by
  have hp : (fun c => ([48, 49] : List UInt8).contains c) = fun c => (c == 48 || c == 49) := funext mem_digits
  unfold Lib.trimS Lib.trimLeftS Lib.trimRightS goodL
  rw [hp]
  by_cases h : (l.all fun c => c == 48 || c == 49) = true
  · rw [h]
    have h2 : l.reverse.dropWhile (fun c => c == 48 || c == 49) = [] := (drop_nil _ _).2 (by rw [List.all_reverse]; exact h)
    rw [h2]; rfl
  · have h' : (l.all fun c => c == 48 || c == 49) = false := by simpa using h
    rw [h']
    cases hc : (List.dropWhile (fun c => c == 48 || c == 49) (l.reverse.dropWhile fun c => c == 48 || c == 49).reverse) with
    | cons => rfl
    | nil =>
      exfalso
      have h3 := (drop_nil _ _).1 hc
      rw [List.all_reverse] at h3
      have h4 := (drop_nil _ _).1 (drop_all _ _ h3)
      rw [List.all_reverse] at h4
      exact h h4
set_option maxHeartbeats 1000000 in
set_option maxRecDepth 100000 in
theorem walk (s : ByteArray) (w : World) (hs : s.size ≤ 9223372036854775807) :
    Calls Tryz.prog 178 #[.string s] w fun e w' => e = .returned (.bool (goodL (L s))) ∧ Below w.heap.size w w' := by
  have hg : (Lib.trimS (L s) [48, 49]).isEmpty = goodL (L s) := trim_good (L s)
  go_enter Tryz.func178, Tryz.ntmps178
  go_wp2_with (go_at_call 182; refine (Any.strings_Trim_laid Tryz.lays160 (by kernel_rfl) s ⟨#[48, 49]⟩ w hs (by decide) (ascii_of_all (by decide))).mono ?_; rintro e w1 ⟨rfl, hb⟩)
  go_ret
  exact ⟨rfl, hb⟩
end Go.Proofs.YtljnfbpplhnmfaaGreatDoor.Good
namespace Go.Proofs.YtljnfbpplhnmfaaGreatDoor.Field
open Go.RowKit Go.Proofs.YtljnfbpplhnmfaaGreatDoorW.PrintWords Go.Proofs.YtljnfbpplhnmfaaGreatDoorW.PrintLast Go.Proofs.YtljnfbpplhnmfaaGreatDoorW.PrintMore Go.Proofs.YtljnfbpplhnmfaaGreatDoor.Str
theorem mask_u8 (i : Nat) (hi : i ≤ 8) (x : Int) (h₀ : 0 ≤ x) (h₁ : x < 2 ^ 8) : Go.bits .and .u8 x (2 ^ i - 1) = x % 2 ^ i :=
  bits_mask .u8 8 (by decide) wraps_u8 i hi x h₀ h₁
theorem low_bit (x : Int) (h0 : 0 ≤ x) (h1 : x ≤ 255) : Go.bits .and .u8 x 1 = x % 2 := mask_u8 1 (by decide) x h0 (by omega)
end Go.Proofs.YtljnfbpplhnmfaaGreatDoor.Field
