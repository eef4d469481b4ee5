/- Package frame at an I frame of the law's own: what one side puts the other one reads. Condition: package ctrl's tables stand as they were laid (LaidC). Contracts of the library at this dump, laid by the kit's own program. Octets as bits, in plain lists of octets: what Of, Good, Octets and Flip come to. No program in sight, no condition. Octets out of bits, in plain lists: what Octets comes to; it takes Of back; turned twice bits are as they were. No program in sight, no condition. bits.Good by its own text: strings.Trim at the cutset of both digits leaves nothing. The text at most 2^63 - 1 octets long. Masks and joins of machine numbers. Plain Lean, no program in sight. bits.Octets by its own text: eight digits make an octet, or its error. The text at most 2^47 octets long. Frames between flags, in plain lists of octets: stuffing, and a decoder's state. No program in sight, no condition. -/
import Derived.Shelf.Strings.BuilderK
import Derived.Shelf.Strings.SlTrimAscii
import Derived.Test.YtljnfbpplhnmfaaGreatDoorProg
import Derived.WalkKit
import Derived.BigCall
import Derived.RegionTactic
import Derived.BigRegion
import Derived.Laws.OwnMore
import Derived.Test.YtljnfbpplhnmfaaGreatDoorUs01
import Derived.Test.YtljnfbpplhnmfaaGreatDoorUs02
import Derived.Test.YtljnfbpplhnmfaaGreatDoorUs14
import Derived.Test.YtljnfbpplhnmfaaGreatDoorUs23
namespace Go.Proofs.YtljnfbpplhnmfaaGreatDoor.Fw
open Go Go.RowKit Go.Proofs.YtljnfbpplhnmfaaGreatDoorW.PrintWords Go.Proofs.YtljnfbpplhnmfaaGreatDoorW.PrintLast Go.Proofs.YtljnfbpplhnmfaaGreatDoorW.PrintMore Go.Proofs.YtljnfbpplhnmfaaGreatDoor.Str
set_option linter.unusedVariables false
theorem cells8 {w : World} {g : Nat} {a0 a1 a2 a3 a4 a5 a6 a7 : Value} {T : TypeId} {fr : Nat × Nat} (h : w.heap[g]? = some (.cells #[a0, a1, a2, a3, a4, a5, a6, a7] T fr)) : w.cell? ⟨g, 0, none⟩ = some a0 ∧ w.cell? ⟨g, 1, none⟩ = some a1 ∧ w.cell? ⟨g, 2, none⟩ = some a2 ∧ w.cell? ⟨g, 3, none⟩ = some a3 ∧ w.cell? ⟨g, 4, none⟩ = some a4 ∧ w.cell? ⟨g, 5, none⟩ = some a5 ∧ w.cell? ⟨g, 6, none⟩ = some a6 ∧ w.cell? ⟨g, 7, none⟩ = some a7 := by
  refine ⟨?_, ?_, ?_, ?_, ?_, ?_, ?_, ?_⟩ <;> rw [Lib.cell_of_heap h] <;> rfl
theorem byte_of (a : Int) (h0 : 0 ≤ a) (h1 : a ≤ 255) : ((UInt8.ofNat a.toNat).toNat : Int) = a := by rw [UInt8.toNat_ofNat']; omega
def iT (i : ByteArray) : ByteArray := strOfNums [0, 129] ++ strOfNums [0, 0] ++ i
theorem iT_facts (i : ByteArray) (u : ByteArray) (hu : iT i = u) :
    ∃ (h0 : 0 < u.size) (h1 : 1 < u.size), ((u[0]'h0).toNat : Int) = 0 ∧ ((u[1]'h1).toNat : Int) = 129 ∧ u.extract 2 u.size = strOfNums [0, 0] ++ i ∧ u.extract 4 u.size = i ∧ u.size = 4 + i.size := by
  have hl : L u = UInt8.ofNat (0 : Int).toNat :: UInt8.ofNat (129 : Int).toNat :: UInt8.ofNat (0 : Int).toNat :: UInt8.ofNat (0 : Int).toNat :: L i := by
    rw [← hu]; unfold iT; rw [L_app, L_app, L_nums, L_nums]; rfl
  have hz : u.size = 4 + i.size := by rw [size_L, hl, size_L i]; simp; omega
  refine ⟨by omega, by omega, ?_, ?_, ?_, ?_, hz⟩
  · have e : (u[0]'(by omega)) = (L u)[0]'(by rw [← size_L]; omega) := rfl
    rw [e]
    simp only [hl, List.getElem_cons_zero]
    exact byte_of _ (by omega) (by omega)
  · have e : (u[1]'(by omega)) = (L u)[1]'(by rw [← size_L]; omega) := rfl
    rw [e]
    simp only [hl, List.getElem_cons_succ, List.getElem_cons_zero]
    exact byte_of _ (by omega) (by omega)
  · refine inj ?_
    rw [L_cut, L_app, L_nums, hl, List.take_of_length_le (by rw [hz, size_L i]; simp; omega)]; rfl
  · refine inj ?_
    rw [L_cut, hl, List.take_of_length_le (by rw [hz, size_L i]; simp; omega)]; rfl
set_option maxHeartbeats 1000000 in
set_option maxRecDepth 100000 in
theorem fputI (i : ByteArray) (w : World) (hL : LaidC w) (hi : i.size ≤ 260) :
    Calls Tryz.prog 58 #[.agg #[.int .i64 0, .int .i64 64, .bool true, .int .i64 0, .bool false, .int .i64 0, .int .i64 0, .string i], .bool false] w fun e w' => e = .returned (.tuple #[.string (seal_ (iT i)), .int .i64 0]) ∧ Below w.heap.size w w' := by
  have hb0 : Below w.heap.size w (w.alloc (.cells #[.int .i64 0, .int .i64 64, .bool true, .int .i64 0, .bool false, .int .i64 0, .int .i64 0, .string i] 144)) := (Below.refl _ w).alloc (Nat.le_refl _) _
  have hn0 := heap_alloc_new w (.cells #[.int .i64 0, .int .i64 64, .bool true, .int .i64 0, .bool false, .int .i64 0, .int .i64 0, .string i] 144)
  have HL := Aside0.mk hL
  have hmk := fun v => makeW 0 64 true false v
  have hap := fun v => aputR v
  have hpu := fun v hv => putI v hv
  have hz1 : (strOfNums [0, 129]).size = 2 := by rw [nums_size]; rfl
  have hz2 : (strOfNums [0, 0]).size = 2 := by rw [nums_size]; rfl
  have hz3 : (iT i).size = 4 + i.size := by unfold iT; rw [ByteArray.size_append, ByteArray.size_append, hz1, hz2]
  have hui : strOfNums [0, 129] ++ strOfNums [0, 0] ++ i = iT i := rfl
  clear hL
  generalize iT i = u at hz3 hui ⊢
  generalize strOfNums [0, 129] = v1 at hz1 hap hui
  generalize strOfNums [0, 0] = v2 at hz2 hpu hui
  rw [show (true == false) = false from rfl] at hmk
  have HMK := Aside0.mk hmk
  have HAP := Aside0.mk hap
  have HPU := Aside0.mk hpu
  have hsl := sealW u
  have HSL : Aside0 (∀ v : World, Calls Tryz.prog 97 #[.string u] v fun e w' => e = .returned (.string (seal_ u)) ∧ Below v.heap.size v w') := ⟨fun v => hsl v (by omega)⟩
  generalize seal_ u = z at HSL ⊢
  clear hmk hap hpu hsl
  go_enter Tryz.func58, Tryz.ntmps58
  go_wp2_with fail
  generalize w.alloc (.cells #[.int .i64 0, .int .i64 64, .bool true, .int .i64 0, .bool false, .int .i64 0, .int .i64 0, .string i] 144) = w0 at hb0 hn0 ⊢
  refine (HPU.out w0 (HL.out.below hb0)).mono ?_
  rintro e w1 ⟨rfl, hb1⟩
  have H1 := Aside0.mk ((hb1.block _ (Array.getElem?_eq_some_iff.1 hn0).1).trans hn0)
  have B1 := Aside0.mk (below_step hb0 hb1)
  obtain ⟨x0, x1, x2, x3, x4, x5, x6, x7⟩ := cells8 H1.out
  clear hb1 hn0 hb0
  go_wp2_with fail
  refine (Fm.may0 w1).mono ?_
  rintro e w2 ⟨rfl, rfl⟩
  go_wp2_with fail
  refine (HMK.out w1).mono ?_
  rintro e w2 ⟨rfl, hb2⟩
  have H2 := Aside0.mk ((hb2.block _ (Array.getElem?_eq_some_iff.1 H1.out).1).trans H1.out)
  have B2 := Aside0.mk (below_step B1.out hb2)
  clear x0 x1 x2 x3 x4 x5 x6 x7 hb2 H1 B1
  obtain ⟨x0, x1, x2, x3, x4, x5, x6, x7⟩ := cells8 H2.out
  go_wp2_with fail
  refine (HAP.out w2).mono ?_
  rintro e w3 ⟨rfl, hb3⟩
  have H3 := Aside0.mk ((hb3.block _ (Array.getElem?_eq_some_iff.1 H2.out).1).trans H2.out)
  have B3 := Aside0.mk (below_step B2.out hb3)
  clear x0 x1 x2 x3 x4 x5 x6 x7 hb3 H2 B2
  obtain ⟨x0, x1, x2, x3, x4, x5, x6, x7⟩ := cells8 H3.out
  go_wp2_with fail
  refine (Fm.carries0 i.size hi w3).mono ?_
  rintro e w4 ⟨rfl, rfl⟩
  have hcat : ¬ 9223372036854775807 < v1.size + v2.size := by omega
  have hcat2 : ¬ 9223372036854775807 < (v1 ++ v2).size + i.size := by rw [ByteArray.size_append]; omega
  go_wp2_with fail
  refine (HSL.out w3).mono ?_
  rintro e w4 ⟨rfl, hb4⟩
  have B4 := Aside0.mk (below_step B3.out hb4)
  clear hb4 B3 H3 x0 x1 x2 x3 x4 x5 x6 x7 hcat hcat2 hui
  go_wp2
  go_ret2
  exact ⟨rfl, B4.out⟩
theorem cells3 {w : World} {g : Nat} {a0 a1 a2 : Value} {T : TypeId} {fr : Nat × Nat} (h : w.heap[g]? = some (.cells #[a0, a1, a2] T fr)) : w.cell? ⟨g, 0, none⟩ = some a0 ∧ w.cell? ⟨g, 1, none⟩ = some a1 ∧ w.cell? ⟨g, 2, none⟩ = some a2 := by
  refine ⟨?_, ?_, ?_⟩ <;> rw [Lib.cell_of_heap h] <;> rfl
theorem cells4 {w : World} {g : Nat} {a0 a1 a2 a3 : Value} {T : TypeId} {fr : Nat × Nat} (h : w.heap[g]? = some (.cells #[a0, a1, a2, a3] T fr)) : w.cell? ⟨g, 0, none⟩ = some a0 ∧ w.cell? ⟨g, 1, none⟩ = some a1 ∧ w.cell? ⟨g, 2, none⟩ = some a2 ∧ w.cell? ⟨g, 3, none⟩ = some a3 := by
  refine ⟨?_, ?_, ?_, ?_⟩ <;> rw [Lib.cell_of_heap h] <;> rfl
theorem frozen8 {w : World} {g : Nat} {cs : Array Value} {T : TypeId} (h : w.heap[g]? = some (.cells cs T (0, 0))) : w.frozen? ⟨g, 0, none⟩ = false ∧ w.frozen? ⟨g, 1, none⟩ = false ∧ w.frozen? ⟨g, 2, none⟩ = false ∧ w.frozen? ⟨g, 3, none⟩ = false ∧ w.frozen? ⟨g, 4, none⟩ = false ∧ w.frozen? ⟨g, 5, none⟩ = false ∧ w.frozen? ⟨g, 6, none⟩ = false ∧ w.frozen? ⟨g, 7, none⟩ = false :=
  ⟨Lib.frozen_of_heap h 0, Lib.frozen_of_heap h 1, Lib.frozen_of_heap h 2, Lib.frozen_of_heap h 3, Lib.frozen_of_heap h 4, Lib.frozen_of_heap h 5, Lib.frozen_of_heap h 6, Lib.frozen_of_heap h 7⟩
theorem set8 {w : World} {g : Nat} {a0 a1 a2 a3 a4 a5 a6 a7 : Value} {T : TypeId} (h : w.heap[g]? = some (.cells #[a0, a1, a2, a3, a4, a5, a6, a7] T (0, 0))) (b0 b1 b2 b3 b4 b5 b6 b7 : Value) :
    ((((((((w.setCell ⟨g, 0, none⟩ b0).setCell ⟨g, 1, none⟩ b1).setCell ⟨g, 2, none⟩ b2).setCell ⟨g, 3, none⟩ b3).setCell ⟨g, 4, none⟩ b4).setCell ⟨g, 5, none⟩ b5).setCell ⟨g, 6, none⟩ b6).setCell ⟨g, 7, none⟩ b7).heap[g]? = some (.cells #[b0, b1, b2, b3, b4, b5, b6, b7] T (0, 0)) := (blk_put (cs := #[b0, b1, b2, b3, b4, b5, b6, a7]) (blk_put (cs := #[b0, b1, b2, b3, b4, b5, a6, a7]) (blk_put (cs := #[b0, b1, b2, b3, b4, a5, a6, a7]) (blk_put (cs := #[b0, b1, b2, b3, a4, a5, a6, a7]) (blk_put (cs := #[b0, b1, b2, a3, a4, a5, a6, a7]) (blk_put (cs := #[b0, b1, a2, a3, a4, a5, a6, a7]) (blk_put (cs := #[b0, a1, a2, a3, a4, a5, a6, a7]) (blk_put (cs := #[a0, a1, a2, a3, a4, a5, a6, a7]) h 0 _ rfl) 1 _ rfl) 2 _ rfl) 3 _ rfl) 4 _ rfl) 5 _ rfl) 6 _ rfl) 7 _ rfl)
theorem below8 {B : Nat} {w0 w : World} {g : Nat} (hb : Below B w0 w) (hg : B ≤ g) (b0 b1 b2 b3 b4 b5 b6 b7 : Value) : Below B w0 ((((((((w.setCell ⟨g, 0, none⟩ b0).setCell ⟨g, 1, none⟩ b1).setCell ⟨g, 2, none⟩ b2).setCell ⟨g, 3, none⟩ b3).setCell ⟨g, 4, none⟩ b4).setCell ⟨g, 5, none⟩ b5).setCell ⟨g, 6, none⟩ b6).setCell ⟨g, 7, none⟩ b7) := ((((((((hb.setCell (p := ⟨g, 0, none⟩) hg b0).setCell (p := ⟨g, 1, none⟩) hg b1).setCell (p := ⟨g, 2, none⟩) hg b2).setCell (p := ⟨g, 3, none⟩) hg b3).setCell (p := ⟨g, 4, none⟩) hg b4).setCell (p := ⟨g, 5, none⟩) hg b5).setCell (p := ⟨g, 6, none⟩) hg b6).setCell (p := ⟨g, 7, none⟩) hg b7)
set_option maxHeartbeats 1000000 in
set_option maxRecDepth 100000 in
theorem fgetI (i : ByteArray) (w : World) (hL : LaidC w) (hi : i.size ≤ 260) :
    Calls Tryz.prog 63 #[.string (seal_ (iT i)), .bool false] w fun e w' => e = .returned (.tuple #[.agg #[.int .i64 0, .int .i64 64, .bool true, .int .i64 0, .bool false, .int .i64 0, .int .i64 0, .string i], .int .i64 0]) ∧ Below w.heap.size w w' := by
  have HL := Aside0.mk hL
  clear hL
  have hb0 : Below w.heap.size w (w.alloc (.cells #[.int .i64 0, .int .i64 0, .bool false, .int .i64 0, .bool false, .int .i64 0, .int .i64 0, .string ⟨#[]⟩] 144)) := (Below.refl _ w).alloc (Nat.le_refl _) _
  have hn0 := heap_alloc_new w (.cells #[.int .i64 0, .int .i64 0, .bool false, .int .i64 0, .bool false, .int .i64 0, .int .i64 0, .string ⟨#[]⟩] 144)
  obtain ⟨u, hu⟩ : ∃ u, iT i = u := ⟨_, rfl⟩
  obtain ⟨p0, p1, hx0, hx1, he2, he3, hz⟩ := iT_facts i u hu
  have hck := fun v => checkW u v (by omega)
  rw [hu]
  generalize seal_ u = z at hck ⊢
  have hag := fun v => agetR u v (by omega) (by omega) hx0 hx1
  have hcm := fun v => cmdW 0 64 false false v
  rw [beq_self_eq_true] at hcm
  have hr1 : (strOfNums [0, 0] ++ i).size = 2 + i.size := by rw [ByteArray.size_append, nums_size]; rfl
  have hr0 : (((strOfNums [0, 0] ++ i)[0]'(by omega)).toNat : Int) = 0 := by
    have e : ((strOfNums [0, 0] ++ i)[0]'(by omega)) = (L (strOfNums [0, 0] ++ i))[0]'(by rw [← size_L]; omega) := rfl
    rw [e]
    have e2 : L (strOfNums [0, 0] ++ i) = UInt8.ofNat (0 : Int).toNat :: UInt8.ofNat (0 : Int).toNat :: L i := by rw [L_app, L_nums]; rfl
    simp only [e2, List.getElem_cons_zero]
    rfl
  have hr2 : (((strOfNums [0, 0] ++ i)[1]'(by omega)).toNat : Int) = 0 := by
    have e : ((strOfNums [0, 0] ++ i)[1]'(by omega)) = (L (strOfNums [0, 0] ++ i))[1]'(by rw [← size_L]; omega) := rfl
    rw [e]
    have e2 : L (strOfNums [0, 0] ++ i) = UInt8.ofNat (0 : Int).toNat :: UInt8.ofNat (0 : Int).toNat :: L i := by rw [L_app, L_nums]; rfl
    simp only [e2, List.getElem_cons_succ, List.getElem_cons_zero]
    rfl
  have hcg := fun v hv => getI (strOfNums [0, 0] ++ i) v hv (by omega) (by omega) hr0 hr2
  have HCK := Aside0.mk hck
  have HAG := Aside0.mk hag
  have HCM := Aside0.mk hcm
  have HCG := Aside0.mk hcg
  clear hck hag hcm hcg hr0 hr1 hr2 hx0 hx1 hu
  generalize strOfNums [0, 0] ++ i = r at *
  rw [hz] at he2 he3
  have hu2 : (2 : Int) ≤ (u.size : Int) := by omega
  have hu3 : (4 : Int) ≤ (u.size : Int) := by omega
  go_enter Tryz.func63, Tryz.ntmps63
  go_wp2_with fail
  have H0 := Aside0.mk hn0
  have B0 := Aside0.mk hb0
  clear hn0 hb0
  change Calls _ _ _ (w.alloc (.cells #[.int .i64 0, .int .i64 0, .bool false, .int .i64 0, .bool false, .int .i64 0, .int .i64 0, .string ⟨#[]⟩] 144)) _
  generalize w.alloc (.cells #[.int .i64 0, .int .i64 0, .bool false, .int .i64 0, .bool false, .int .i64 0, .int .i64 0, .string ⟨#[]⟩] 144) = w0 at H0 B0 ⊢
  refine (HCK.out w0).mono ?_
  rintro e w1 ⟨rfl, hb⟩
  have H1 := Aside0.mk ((hb.block _ (Array.getElem?_eq_some_iff.1 H0.out).1).trans H0.out)
  have B1 := Aside0.mk (below_step B0.out hb)
  clear hb H0 B0
  go_wp2_with fail
  refine (HAG.out w1).mono ?_
  rintro e w2 ⟨rfl, hb⟩
  have H2 := Aside0.mk ((hb.block _ (Array.getElem?_eq_some_iff.1 H1.out).1).trans H1.out)
  have B2 := Aside0.mk (below_step B1.out hb)
  clear hb H1 B1
  go_wp2_with fail
  have H3 := Aside0.mk (blk_alloc H2.out (.cells #[.int .i64 0, .int .i64 64, .bool false] 195))
  have A3 := Aside0.mk (blk_new w2 (.cells #[.int .i64 0, .int .i64 64, .bool false] 195))
  have B3 : Aside0 (Below w.heap.size w (w2.alloc (.cells #[.int .i64 0, .int .i64 64, .bool false] 195))) := ⟨B2.out.alloc B2.out.size _⟩
  generalize w2.alloc (.cells #[.int .i64 0, .int .i64 64, .bool false] 195) = w3 at H3 A3 B3 ⊢
  generalize w2.heap.size = ga at A3 ⊢
  clear H2 B2
  refine (HCG.out w3 (HL.out.below B3.out)).mono ?_
  rintro e w4 ⟨rfl, hb⟩
  have H4 := Aside0.mk ((hb.block _ (Array.getElem?_eq_some_iff.1 H3.out).1).trans H3.out)
  have A4 := Aside0.mk ((hb.block _ (Array.getElem?_eq_some_iff.1 A3.out).1).trans A3.out)
  have B4 := Aside0.mk (below_step B3.out hb)
  clear hb H3 A3 B3
  obtain ⟨a0, a1, a2⟩ := cells3 (blk_alloc A4.out (.cells #[.int .i64 0, .bool false, .int .i64 0, .int .i64 0] 192))
  go_wp2_with fail
  have H5 := Aside0.mk (blk_alloc H4.out (.cells #[.int .i64 0, .bool false, .int .i64 0, .int .i64 0] 192))
  have A5 := Aside0.mk (blk_alloc A4.out (.cells #[.int .i64 0, .bool false, .int .i64 0, .int .i64 0] 192))
  have C5 := Aside0.mk (blk_new w4 (.cells #[.int .i64 0, .bool false, .int .i64 0, .int .i64 0] 192))
  have B5 : Aside0 (Below w.heap.size w (w4.alloc (.cells #[.int .i64 0, .bool false, .int .i64 0, .int .i64 0] 192))) := ⟨B4.out.alloc B4.out.size _⟩
  clear a0 a1 a2 H4 A4 B4
  generalize w4.alloc (.cells #[.int .i64 0, .bool false, .int .i64 0, .int .i64 0] 192) = w5 at H5 A5 C5 B5 ⊢
  generalize w4.heap.size = gc at C5 ⊢
  refine (HCM.out w5).mono ?_
  rintro e w6 ⟨rfl, hb⟩
  have H6 := Aside0.mk ((hb.block _ (Array.getElem?_eq_some_iff.1 H5.out).1).trans H5.out)
  have A6 := Aside0.mk ((hb.block _ (Array.getElem?_eq_some_iff.1 A5.out).1).trans A5.out)
  have C6 := Aside0.mk ((hb.block _ (Array.getElem?_eq_some_iff.1 C5.out).1).trans C5.out)
  have B6 := Aside0.mk (below_step B5.out hb)
  clear hb H5 A5 C5 B5
  obtain ⟨a0, a1, a2⟩ := cells3 A6.out
  obtain ⟨c0, c1, c2, c3⟩ := cells4 C6.out
  obtain ⟨x0, x1, x2, x3, x4, x5, x6, x7⟩ := cells8 H6.out
  obtain ⟨f0, f1, f2, f3, f4, f5, f6, f7⟩ := frozen8 H6.out
  go_wp2_with fail
  refine (Fm.may0 w6).mono ?_
  rintro e w7 ⟨rfl, rfl⟩
  go_wp2_with fail
  refine (Fm.carries0 i.size hi w6).mono ?_
  rintro e w7 ⟨rfl, rfl⟩
  go_wp2
  refine bodyPost_ret (results_ct rfl _ _ w.heap.size 144 #[.int .i64 0, .int .i64 64, .bool true, .int .i64 0, .bool false, .int .i64 0, .int .i64 0, .string i] (0, 0) _ rfl (set8 H6.out _ _ _ _ _ _ _ _) Tryz.underlying144 rfl (by kernel_rfl)) rfl ?_
  exact ⟨rfl, below8 B6.out (Nat.le_refl _) _ _ _ _ _ _ _ _⟩
end Go.Proofs.YtljnfbpplhnmfaaGreatDoor.Fw
namespace Go.Proofs
open Go.Shelf
def Tryz.lays169_ren : Go.Shelf.Ren := ⟨fun | 169 => 138 | n => n, fun | 70 => 228 | 9 => 9 | 0 => 0 | 72 => 230 | 37 => 181 | 127 => 257 | 3 => 3 | 5 => 5 | n => n, fun | n => n⟩
theorem Tryz.lays169 : Go.Proofs.Lays.n169 Tryz.prog Tryz.lays169_ren := {
  mixed := by kernel_rfl
  f169 := Tryz.func138.trans (congrArg some (by kernel_rfl))
  t0 := Tryz.underlying0
  a0 := Tryz.isAgg0
  z0 := Tryz.sizeOf0
  v0 := Tryz.zeroValue0
  t3 := Tryz.underlying3
  a3 := Tryz.isAgg3
  z3 := Tryz.sizeOf3
  v3 := Tryz.zeroValue3
  t9 := Tryz.underlying9
  a9 := Tryz.isAgg9
  z9 := Tryz.sizeOf9
  v9 := Tryz.zeroValue9
  t37 := Tryz.underlying181
  a37 := Tryz.isAgg181
  z37 := Tryz.sizeOf181
  v37 := Tryz.zeroValue181
  t70 := Tryz.underlying228
  a70 := Tryz.isAgg228
  z70 := Tryz.sizeOf228
  v70 := Tryz.zeroValue228
  t72 := Tryz.underlying230
  a72 := Tryz.isAgg230
  z72 := Tryz.sizeOf230
  v72 := Tryz.zeroValue230
  t127 := Tryz.underlying257
  a127 := Tryz.isAgg257
  z127 := Tryz.sizeOf257
  v127 := Tryz.zeroValue257 }
theorem Tryz.Builder_Extra_169 : Builder.Extra Tryz.prog Tryz.lays169_ren := {
  sizeBuilder := by kernel_rfl
  liesBuilder := by kernel_rfl
  t5 := Tryz.underlying5
  a5 := Tryz.isAgg5
  z5 := Tryz.sizeOf5
  v5 := Tryz.zeroValue5
  infoByte := by kernel_rfl
  cellsByte := by kernel_rfl
  sizeByte := by kernel_rfl
  neB5 := by decide }
def Tryz.lays160_ren : Go.Shelf.Ren := ⟨fun | 160 => 182 | 232 => 184 | 231 => 183 | 227 => 185 | 234 => 187 | 233 => 186 | 236 => 189 | 235 => 188 | 228 => 190 | 271 => 193 | 151 => 192 | 197 => 191 | 120 => 196 | 152 => 195 | 260 => 194 | 137 => 197 | 119 => 198 | 224 => 199 | 225 => 200 | 217 => 201 | 266 => 202 | n => n, fun | 9 => 9 | 4 => 4 | 3 => 3 | 5 => 5 | 117 => 280 | 116 => 279 | 0 => 0 | 124 => 283 | 21 => 21 | 105 => 285 | 46 => 170 | 119 => 289 | 139 => 292 | 138 => 291 | n => n, fun | 3 => 2 | 4 => 3 | n => n⟩
theorem Tryz.lays160 : Go.Proofs.Lays.n160 Tryz.prog Tryz.lays160_ren := {
  mixed := by kernel_rfl
  f119 := Tryz.func198.trans (congrArg some (by kernel_rfl))
  f120 := Tryz.func196.trans (congrArg some (by kernel_rfl))
  f137 := Tryz.func197.trans (congrArg some (by kernel_rfl))
  f151 := Tryz.func192.trans (congrArg some (by kernel_rfl))
  f152 := Tryz.func195.trans (congrArg some (by kernel_rfl))
  f160 := Tryz.func182.trans (congrArg some (by kernel_rfl))
  f197 := Tryz.func191.trans (congrArg some (by kernel_rfl))
  f217 := Tryz.func201.trans (congrArg some (by kernel_rfl))
  f224 := Tryz.func199.trans (congrArg some (by kernel_rfl))
  f225 := Tryz.func200.trans (congrArg some (by kernel_rfl))
  f227 := Tryz.func185.trans (congrArg some (by kernel_rfl))
  f228 := Tryz.func190.trans (congrArg some (by kernel_rfl))
  f231 := Tryz.func183.trans (congrArg some (by kernel_rfl))
  f232 := Tryz.func184.trans (congrArg some (by kernel_rfl))
  f233 := Tryz.func186.trans (congrArg some (by kernel_rfl))
  f234 := Tryz.func187.trans (congrArg some (by kernel_rfl))
  f235 := Tryz.func188.trans (congrArg some (by kernel_rfl))
  f236 := Tryz.func189.trans (congrArg some (by kernel_rfl))
  f260 := Tryz.func194.trans (congrArg some (by kernel_rfl))
  f266 := Tryz.func202.trans (congrArg some (by kernel_rfl))
  f271 := Tryz.func193.trans (congrArg some (by kernel_rfl))
  t0 := Tryz.underlying0
  a0 := Tryz.isAgg0
  z0 := Tryz.sizeOf0
  v0 := Tryz.zeroValue0
  t3 := Tryz.underlying3
  a3 := Tryz.isAgg3
  z3 := Tryz.sizeOf3
  v3 := Tryz.zeroValue3
  t4 := Tryz.underlying4
  a4 := Tryz.isAgg4
  z4 := Tryz.sizeOf4
  v4 := Tryz.zeroValue4
  t5 := Tryz.underlying5
  a5 := Tryz.isAgg5
  z5 := Tryz.sizeOf5
  v5 := Tryz.zeroValue5
  t9 := Tryz.underlying9
  a9 := Tryz.isAgg9
  z9 := Tryz.sizeOf9
  v9 := Tryz.zeroValue9
  t21 := Tryz.underlying21
  a21 := Tryz.isAgg21
  z21 := Tryz.sizeOf21
  v21 := Tryz.zeroValue21
  t46 := Tryz.underlying170
  a46 := Tryz.isAgg170
  z46 := Tryz.sizeOf170
  v46 := Tryz.zeroValue170
  t105 := Tryz.underlying285
  a105 := Tryz.isAgg285
  z105 := Tryz.sizeOf285
  v105 := Tryz.zeroValue285
  t116 := Tryz.underlying279
  a116 := Tryz.isAgg279
  z116 := Tryz.sizeOf279
  t117 := Tryz.underlying280
  a117 := Tryz.isAgg280
  z117 := Tryz.sizeOf280
  v117 := Tryz.zeroValue280
  t119 := Tryz.underlying289
  a119 := Tryz.isAgg289
  z119 := Tryz.sizeOf289
  t124 := Tryz.underlying283
  a124 := Tryz.isAgg283
  z124 := Tryz.sizeOf283
  v124 := Tryz.zeroValue283
  t138 := Tryz.underlying291
  a138 := Tryz.isAgg291
  z138 := Tryz.sizeOf291
  v138 := Tryz.zeroValue291
  t139 := Tryz.underlying292
  a139 := Tryz.isAgg292
  z139 := Tryz.sizeOf292
  v139 := Tryz.zeroValue292
  g3 := by kernel_rfl
  g4 := by kernel_rfl }
open Go.RowKit in
theorem Tryz.Builder_String_any_k (B b : Nat) (l : List UInt8) (w : World) (h : Lib.IsBuilderF 230 5 B b (Lib.byteCells l) w) (hBw : B ≤ w.heap.size) :
    Calls Tryz.prog 138 #[.pointer (some ⟨b, 0, none⟩)] w fun e w' => e = .returned (.string ⟨l.toArray⟩) ∧ (Lib.IsBuilderF 230 5 B b (Lib.byteCells l) w' ∧ Below B w w' ∧ Lib.OthersKept 5 (some b) w w') := Any.Builder_String_any_k Tryz.lays169 Tryz.Builder_Extra_169 B b l w h hBw
end Go.Proofs
namespace Go.Proofs.YtljnfbpplhnmfaaGreatDoor.Bits
open Go.RowKit Go.Proofs.YtljnfbpplhnmfaaGreatDoor.Str
def bitB (b : UInt8) (k : Nat) : UInt8 := UInt8.ofNat (48 + b.toNat / 2 ^ k % 2)
def bitsB (b : UInt8) : List UInt8 := (List.range 8).map (bitB b)
def ofL (l : List UInt8) : List UInt8 := l.flatMap bitsB
theorem bitsB_length (b : UInt8) : (bitsB b).length = 8 := by simp [bitsB]
theorem ofL_nil : ofL [] = [] := rfl
theorem ofL_cons (b : UInt8) (l : List UInt8) : ofL (b :: l) = bitsB b ++ ofL l := rfl
theorem ofL_append (a b : List UInt8) : ofL (a ++ b) = ofL a ++ ofL b := by simp [ofL]
theorem ofL_length (l : List UInt8) : (ofL l).length = 8 * l.length := by
  induction l with
  | nil => rfl
  | cons b l ih => rw [ofL_cons, List.length_append, bitsB_length, ih, List.length_cons]; omega
theorem bitsB_take (b : UInt8) (k : Nat) (h : k < 8) : (bitsB b).take (k + 1) = (bitsB b).take k ++ [bitB b k] := by
  rw [List.take_succ_eq_append_getElem (by rw [bitsB_length]; exact h)]
  simp [bitsB]
theorem bitsB_all (b : UInt8) : (bitsB b).take 8 = bitsB b := List.take_of_length_le (by rw [bitsB_length]; exact Nat.le_refl _)
theorem ofL_take (l : List UInt8) (i : Nat) (h : i < l.length) : ofL (l.take (i + 1)) = ofL (l.take i) ++ bitsB l[i] := by
  rw [List.take_succ_eq_append_getElem h, ofL_append, ofL_cons, ofL_nil, List.append_nil]
theorem bitB_num (b : UInt8) (k : Nat) : ((bitB b k).toNat : Int) = 48 + (b.toNat : Int) / 2 ^ k % 2 := by
  have h : b.toNat / 2 ^ k % 2 < 2 := Nat.mod_lt _ (by decide)
  unfold bitB
  rw [UInt8.toNat_ofNat']
  have e : (48 + b.toNat / 2 ^ k % 2) % 2 ^ 8 = 48 + b.toNat / 2 ^ k % 2 := by omega
  rw [e]
  simp
end Go.Proofs.YtljnfbpplhnmfaaGreatDoor.Bits
namespace Go.Proofs.YtljnfbpplhnmfaaGreatDoor.Oct
open Go.RowKit Go.Proofs.YtljnfbpplhnmfaaGreatDoor.Str Go.Proofs.YtljnfbpplhnmfaaGreatDoor.Bits
def val : List UInt8 → Nat
  | [] => 0
  | c :: r => c.toNat % 2 + 2 * val r
theorem val_lt (l : List UInt8) : val l < 2 ^ l.length := by
  induction l with
  | nil => decide
  | cons c r ih => simp only [val, List.length_cons, Nat.pow_succ]; omega
theorem val_snoc (l : List UInt8) (c : UInt8) : val (l ++ [c]) = val l + c.toNat % 2 * 2 ^ l.length := by
  induction l with
  | nil => simp [val]
  | cons d r ih =>
    simp only [List.cons_append, val, ih, List.length_cons, Nat.pow_succ]
    generalize 2 ^ r.length = q
    rw [Nat.mul_add, ← Nat.mul_assoc, ← Nat.mul_assoc, Nat.mul_comm 2 (c.toNat % 2), Nat.mul_assoc (c.toNat % 2) q 2, Nat.mul_assoc (c.toNat % 2) 2 q, Nat.mul_comm 2 q]
    omega
def goodL (l : List UInt8) : Bool := l.all fun c => c == 48 || c == 49
def row (l : List UInt8) (j : Nat) : List UInt8 := (l.drop (8 * j)).take 8
def oct (l : List UInt8) (j : Nat) : UInt8 := UInt8.ofNat (val (row l j))
def octsL (l : List UInt8) : List UInt8 := (List.range (l.length / 8)).map (oct l)
def octR (l : List UInt8) : List UInt8 × Int := if goodL l = true then (if l.length % 8 = 0 then (octsL l, 0) else ([], 3)) else ([], 4)
theorem row_length (l : List UInt8) (j : Nat) : (row l j).length ≤ 8 := List.length_take_le _ _
theorem oct_num (l : List UInt8) (j : Nat) : ((oct l j).toNat : Int) = (val (row l j) : Int) := by
  have h := val_lt (row l j)
  have h2 : 2 ^ (row l j).length ≤ 2 ^ 8 := Nat.pow_le_pow_right (by decide) (row_length l j)
  unfold oct
  rw [UInt8.toNat_ofNat', Nat.mod_eq_of_lt (Nat.lt_of_lt_of_le h h2)]
def partL (l : List UInt8) (n i : Nat) : List UInt8 := (List.range n).map (oct (l.take i))
theorem partL_length (l : List UInt8) (n i : Nat) : (partL l n i).length = n := by simp [partL]
theorem partL_zero (l : List UInt8) (n : Nat) : partL l n 0 = List.replicate n 0 := by
  apply List.ext_getElem (by simp [partL])
  intro i h1 h2
  simp [partL, oct, row, val]
theorem partL_all (l : List UInt8) : partL l (l.length / 8) l.length = octsL l := by
  unfold partL octsL
  rw [List.take_of_length_le (Nat.le_refl _)]
theorem partL_get (l : List UInt8) (n i j : Nat) (h : j < n) : (partL l n i)[j]'(by rw [partL_length]; exact h) = oct (l.take i) j := by simp [partL]
theorem row_same (l : List UInt8) (i j : Nat) (hi : i < l.length) (hj : j ≠ i / 8) : row (l.take (i + 1)) j = row (l.take i) j := by
  unfold row
  rw [List.take_succ_eq_append_getElem hi]
  by_cases h : j < i / 8
  · rw [List.drop_append_of_le_length (by rw [List.length_take]; omega), List.take_append_of_le_length (by rw [List.length_drop, List.length_take]; omega)]
  · rw [List.drop_of_length_le (by simp; omega), List.drop_of_length_le (by simp; omega)]
theorem row_new (l : List UInt8) (i : Nat) (hi : i < l.length) : row (l.take (i + 1)) (i / 8) = row (l.take i) (i / 8) ++ [l[i]] ∧ (row (l.take i) (i / 8)).length = i % 8 := by
  unfold row
  have hd : (List.drop (8 * (i / 8)) (List.take i l)).length = i % 8 := by rw [List.length_drop, List.length_take]; omega
  refine ⟨?_, by rw [List.length_take, hd]; omega⟩
  have h1 : List.take 8 (List.drop (8 * (i / 8)) (List.take i l)) = List.drop (8 * (i / 8)) (List.take i l) := List.take_of_length_le (by rw [hd]; omega)
  rw [h1, List.take_succ_eq_append_getElem hi, List.drop_append_of_le_length (by rw [List.length_take]; omega)]
  exact List.take_of_length_le (by rw [List.length_append, hd]; simp; omega)
theorem partL_step (l : List UInt8) (n i : Nat) (hi : i < l.length) (_hn : i / 8 < n) (c : UInt8) (hc : (c.toNat : Int) = (val (row (l.take i) (i / 8)) : Int) + (l[i].toNat : Int) % 2 * 2 ^ (i % 8)) :
    partL l n (i + 1) = (partL l n i).set (i / 8) c := by
  apply List.ext_getElem (by simp [partL])
  intro j h1 h2
  rw [partL_length] at h1
  rw [partL_get l n _ j h1, List.getElem_set]
  by_cases h : i / 8 = j
  · rw [if_pos h]
    subst h
    obtain ⟨hr, hl⟩ := row_new l i hi
    apply UInt8.toNat_inj.1
    have h3 := oct_num (l.take (i + 1)) (i / 8)
    rw [hr, val_snoc, hl] at h3
    have : ((oct (l.take (i + 1)) (i / 8)).toNat : Int) = (c.toNat : Int) := by
      rw [h3, hc]
      simp
    omega
  · rw [if_neg h, partL_get l n i j h1]
    unfold oct
    rw [row_same l i j hi (fun e => h e.symm)]
end Go.Proofs.YtljnfbpplhnmfaaGreatDoor.Oct
namespace Go.Proofs.YtljnfbpplhnmfaaGreatDoor.Good
open Go.RowKit Go.Proofs.YtljnfbpplhnmfaaGreatDoor.Str Go.Proofs.YtljnfbpplhnmfaaGreatDoor.Bits Go.Proofs.YtljnfbpplhnmfaaGreatDoor.Oct
set_option linter.unusedVariables false
theorem mem_digits (c : UInt8) : ([48, 49] : List UInt8).contains c = (c == 48 || c == 49) := by
  simp [List.contains, List.elem]
  cases (c == 48) <;> cases (c == 49) <;> rfl
theorem drop_nil (p : UInt8 → Bool) (l : List UInt8) : (l.dropWhile p = []) ↔ l.all p = true := by
  induction l with
  | nil => simp
  | cons c l ih =>
    rw [List.dropWhile_cons, List.all_cons]
    cases h : p c <;> simp [ih]
theorem drop_all (p : UInt8 → Bool) (l : List UInt8) (h : (l.dropWhile p).all p = true) : l.dropWhile p = [] := by
  induction l with
  | nil => rfl
  | cons c l ih =>
    rw [List.dropWhile_cons] at h ⊢
    split at h
    · rename_i hc
      rw [if_pos hc]
      exact ih h
    · rename_i hc
      rw [List.all_cons] at h
      simp [hc] at h
theorem trim_good (l : List UInt8) : (Lib.trimS l [48, 49]).isEmpty = goodL l := by
  have hp : (fun c => ([48, 49] : List UInt8).contains c) = fun c => (c == 48 || c == 49) := funext mem_digits
  unfold Lib.trimS Lib.trimLeftS Lib.trimRightS goodL
  rw [hp]
  by_cases h : (l.all fun c => c == 48 || c == 49) = true
  · rw [h]
    have h2 : l.reverse.dropWhile (fun c => c == 48 || c == 49) = [] := (drop_nil _ _).2 (by rw [List.all_reverse]; exact h)
    rw [h2]; rfl
  · have h' : (l.all fun c => c == 48 || c == 49) = false := by simpa using h
    rw [h']
    cases hc : (List.dropWhile (fun c => c == 48 || c == 49) (l.reverse.dropWhile fun c => c == 48 || c == 49).reverse) with
    | cons => rfl
    | nil =>
      exfalso
      have h3 := (drop_nil _ _).1 hc
      rw [List.all_reverse] at h3
      have h4 := (drop_nil _ _).1 (drop_all _ _ h3)
      rw [List.all_reverse] at h4
      exact h h4
set_option maxHeartbeats 1000000 in
set_option maxRecDepth 100000 in
theorem walk (s : ByteArray) (w : World) (hs : s.size ≤ 9223372036854775807) :
    Calls Tryz.prog 178 #[.string s] w fun e w' => e = .returned (.bool (goodL (L s))) ∧ Below w.heap.size w w' := by
  have hg : (Lib.trimS (L s) [48, 49]).isEmpty = goodL (L s) := trim_good (L s)
  go_enter Tryz.func178, Tryz.ntmps178
  go_wp2_with (go_at_call 182; refine (Any.strings_Trim_laid Tryz.lays160 (by kernel_rfl) s ⟨#[48, 49]⟩ w hs (by decide) (ascii_of_all (by decide))).mono ?_; rintro e w1 ⟨rfl, hb⟩)
  go_ret
  exact ⟨rfl, hb⟩
end Go.Proofs.YtljnfbpplhnmfaaGreatDoor.Good
namespace Go.Proofs.YtljnfbpplhnmfaaGreatDoor.Field
open Go.RowKit Go.Proofs.YtljnfbpplhnmfaaGreatDoorW.PrintWords Go.Proofs.YtljnfbpplhnmfaaGreatDoorW.PrintLast Go.Proofs.YtljnfbpplhnmfaaGreatDoorW.PrintMore Go.Proofs.YtljnfbpplhnmfaaGreatDoor.Str
theorem mask_u8 (i : Nat) (hi : i ≤ 8) (x : Int) (h₀ : 0 ≤ x) (h₁ : x < 2 ^ 8) : Go.bits .and .u8 x (2 ^ i - 1) = x % 2 ^ i :=
  bits_mask .u8 8 (by decide) wraps_u8 i hi x h₀ h₁
theorem low_bit (x : Int) (h0 : 0 ≤ x) (h1 : x ≤ 255) : Go.bits .and .u8 x 1 = x % 2 := mask_u8 1 (by decide) x h0 (by omega)
end Go.Proofs.YtljnfbpplhnmfaaGreatDoor.Field
namespace Go.Proofs.YtljnfbpplhnmfaaGreatDoor.OctW
open Go.RowKit Go.Proofs.YtljnfbpplhnmfaaGreatDoorW.PrintWords Go.Proofs.YtljnfbpplhnmfaaGreatDoorW.PrintLast Go.Proofs.YtljnfbpplhnmfaaGreatDoorW.PrintMore Go.Proofs.YtljnfbpplhnmfaaGreatDoor.Str Go.Proofs.YtljnfbpplhnmfaaGreatDoor.Bits Go.Proofs.YtljnfbpplhnmfaaGreatDoor.Oct
set_option linter.unusedVariables false
theorem infoByte : (Tryz.prog.info? 5).map (fun i => (i.zero, i.size, i.bytes)) = some (some (.int .u8 0), 1, 1) := by kernel_rfl
def cellsOf (l : List UInt8) : List Value := l.map fun b => Value.int .u8 (b.toNat : Int)
theorem cellsOf_nums (l : List UInt8) : cellsOf l = nums .u8 (l.map fun b => (b.toNat : Int)) := by simp [cellsOf, nums]
theorem cellsOf_length (l : List UInt8) : (cellsOf l).length = l.length := by simp [cellsOf]
set_option maxHeartbeats 4000000 in
set_option maxRecDepth 1000000 in
theorem bad (s : ByteArray) (w : World) (hs : s.size ≤ 140737488351232) (hg : goodL (L s) = false) :
    Calls Tryz.prog 162 #[.string s] w fun e w' => e = .returned (.tuple #[.string ⟨#[]⟩, .int .i64 4]) ∧ Below w.heap.size w w' := by
  go_enter Tryz.func162, Tryz.ntmps162
  go_wp2_with (go_at_call 178; refine (Good.walk s w (by omega)).mono ?_; rintro e w1 ⟨he, hb⟩; rw [hg] at he; subst he)
  go_ret2
  exact ⟨rfl, hb⟩
set_option maxHeartbeats 4000000 in
set_option maxRecDepth 1000000 in
theorem odd (s : ByteArray) (w : World) (hs : s.size ≤ 140737488351232) (hg : goodL (L s) = true) (h8 : s.size % 8 ≠ 0) :
    Calls Tryz.prog 162 #[.string s] w fun e w' => e = .returned (.tuple #[.string ⟨#[]⟩, .int .i64 3]) ∧ Below w.heap.size w w' := by
  have h8' : (((s.size : Int) % 8) != 0) = true := by simpa using (by omega : ¬ (s.size : Int) % 8 = 0)
  go_enter Tryz.func162, Tryz.ntmps162
  go_wp2_with (go_at_call 178; refine (Good.walk s w (by omega)).mono ?_; rintro e w1 ⟨he, hb⟩; rw [hg] at he; subst he)
  go_ret2
  exact ⟨rfl, hb⟩
theorem sum_lt (m : Nat) (hm : m < 8) (x c : Nat) (hx : x < 2 ^ m) : x + c % 2 * 2 ^ m < 2 ^ 8 := by
  have h1 : c % 2 = 0 ∨ c % 2 = 1 := by omega
  have h2 : 2 ^ (m + 1) ≤ 2 ^ 8 := Nat.pow_le_pow_right (by decide) (by omega)
  rw [Nat.pow_succ] at h2
  rcases h1 with h | h <;> rw [h] <;> omega
theorem or_new (m : Nat) (hm : m < 8) (x c : Nat) (hx : x < 2 ^ m) (hc : c < 256) : Go.bits .or .u8 (x : Int) (Go.bits .and .u8 (c : Int) 1 * 2 ^ m % 256) = (x : Int) + (c : Int) % 2 * 2 ^ m := by
  have hs := sum_lt m hm x c hx
  have h0 : c % 2 * 2 ^ m < 2 ^ 8 := by omega
  have e1 : Go.bits .and .u8 (c : Int) 1 * 2 ^ m % 256 = ((c % 2 * 2 ^ m : Nat) : Int) := by
    rw [Field.low_bit _ (by omega) (by omega)]
    have : (c : Int) % 2 * 2 ^ m = ((c % 2 * 2 ^ m : Nat) : Int) := by simp
    rw [this]
    omega
  rw [e1, (bits_nat .u8 8 (by decide) wraps_u8 x _ (by omega) h0).2]
  rw [Nat.or_comm, Nat.mul_comm (c % 2), ← Nat.two_pow_add_eq_or_of_lt hx (c % 2)]
  simp [Int.mul_comm, Int.add_comm]
theorem partL_zero_cells (l : List UInt8) (n : Nat) : cellsOf (partL l n 0) = List.replicate n (.int .u8 0) := by
  rw [partL_zero, cellsOf, List.map_replicate]; rfl
set_option maxHeartbeats 4000000 in
set_option maxRecDepth 1000000 in
theorem good (s : ByteArray) (w : World) (hs : s.size ≤ 140737488351232) (hg : goodL (L s) = true) (h8 : s.size % 8 = 0) :
    Calls Tryz.prog 162 #[.string s] w fun e w' => e = .returned (.tuple #[.string ⟨(octsL (L s)).toArray⟩, .int .i64 0]) ∧ Below w.heap.size w w' := by
  have h8' : (((s.size : Int) % 8) != 0) = false := by simpa using (by omega : (s.size : Int) % 8 = 0)
  obtain ⟨n, hn⟩ : ∃ n, n = s.size / 8 := ⟨_, rfl⟩
  have HN := Aside0.mk hn
  have hq : (s.size : Int) / 8 = (n : Int) := by omega
  have h8n : 8 * n = s.size := by omega
  have H8 := Aside0.mk h8n
  clear h8n hn h8
  obtain ⟨i0, hi, hz0, hz1, hz2⟩ := info_parts infoByte
  go_enter Tryz.func162, Tryz.ntmps162
  go_wp2_with (first | (go_at_call 178; refine (Good.walk s w (by omega)).mono ?_; rintro e w1 ⟨he, hb⟩; rw [hg] at he; subst he) | (at_make; refine wpList_make_full _ rfl _ _ 181 rfl w.heap.size 5 i0 (.int .u8 0) 1 Tryz.underlying181 hi hz0 hz1 .i64 .i64 _ _ n rfl rfl ?m1 ?m2 ?m3 ?m4 ?m5 ?_))
  case m1 => rfl
  case m2 => rfl
  case m3 => have := H8.out; rw [hz2]; omega
  case m4 => have := H8.out; unfold maxLen; omega
  case m5 => exact hb.size
  intro w2 hown hgrow
  rw [toList_madeCells_one, ← partL_zero_cells (L s) n] at hown
  have hB := hb.grown hgrow hb.size (fun k hk => by cases hk)
  clear hgrow hb
  obtain ⟨g, HGE⟩ : ∃ g, Aside0 (g = w1.heap.size) := ⟨_, ⟨rfl⟩⟩
  rw [← HGE.out] at hown ⊢
  go_wp2
  go_loopw [21] (fun v wr => ∃ i : Nat, i ≤ s.size ∧ v = .int .i64 i ∧ wr.ownsRow w.heap.size 5 1 (.slice (some ⟨g, 0, none⟩) n n) n (cellsOf (partL (L s) n i)) ∧ Below w.heap.size w wr) (fun v _ => s.size - (intOf v).toNat)
  case atStart => exact ⟨0, Nat.zero_le _, rfl, hown, hB⟩
  case round =>
    clear hown hB
    obtain ⟨i, hi', rfl, hO, hB⟩ := hrel
    by_cases hlt : i < s.size
    · have hin : i / 8 < n := by have := H8.out; omega
      obtain ⟨x, HX⟩ : ∃ x : Int, Aside0 (x = (val (row ((L s).take i) (i / 8)) : Int)) := ⟨_, ⟨rfl⟩⟩
      have hcl : wr.cell? ⟨g, i / 8, none⟩ = some (.int .u8 x) := by
        rw [hO.cellAt (i / 8) (by omega), cellsOf, List.getElem?_map, List.getElem?_eq_getElem (by rw [partL_length]; exact hin), partL_get _ _ _ _ hin, HX.out, ← oct_num]
        rfl
      have hfr := hO.frozenAt (i / 8)
      have HO := Aside0.mk hO
      have HB := Aside0.mk hB
      have h1 : (i : Int) / 8 < (n : Int) := by omega
      have h0 : 0 ≤ (i : Int) / 8 := by omega
      have h2 : 0 ≤ (i : Int) % 8 := by omega
      have h3 : (i : Int) % 8 < 8 := by omega
      clear hO hB
      go_wp2
      go_region
      all_goals go_wp2
      have hl : i < (L s).length := by rw [← size_L]; exact hlt
      obtain ⟨_, hrl⟩ := row_new (L s) i hl
      have hv := val_lt (row ((L s).take i) (i / 8))
      rw [hrl] at hv
      have ho := or_new (i % 8) (by omega) (val (row ((L s).take i) (i / 8))) (L s)[i].toNat hv (L s)[i].toNat_lt
      rw [← HX.out] at ho
      obtain ⟨c, hc⟩ : ∃ c : UInt8, (c.toNat : Int) = x + ((L s)[i].toNat : Int) % 2 * 2 ^ (i % 8) := by
        refine ⟨UInt8.ofNat (val (row ((L s).take i) (i / 8)) + (L s)[i].toNat % 2 * 2 ^ (i % 8)), ?_⟩
        rw [UInt8.toNat_ofNat', Nat.mod_eq_of_lt (sum_lt _ (by omega) _ _ hv), HX.out]
        simp
      have hst := partL_step (L s) n i hl hin c (by rw [hc, HX.out])
      have hO2 := (HO.out.stored (i / 8) (.int .u8 (c.toNat : Int))).1
      have hB2 := HB.out.setCell (p := ⟨g, i / 8, none⟩) (HO.out.lt g rfl).1 (.int .u8 (c.toNat : Int))
      rw [hc, ← ho] at hO2 hB2
      have hst2 : cellsOf (partL (L s) n (i + 1)) = (cellsOf (partL (L s) n i)).set (i / 8) (.int .u8 (Go.bits .or .u8 x (Go.bits .and .u8 (((L s)[i].toNat : Nat) : Int) 1 * 2 ^ (i % 8) % 256))) := by
        rw [hst, cellsOf, List.map_set, ho, ← hc]; rfl
      rw [← hst2] at hO2
      go_roundw
      case rel => exact ⟨i + 1, by omega, by go_num, hO2.drew, hB2.drew⟩
      case measure => simp [intOf]; omega
    · have hil : i = s.size := by omega
      have hpa : partL (L s) n i = octsL (L s) := by
        rw [hil, HN.out, size_L, partL_all]
      rw [hpa, cellsOf_nums] at hO
      have hcv := own_string (P := Tryz.prog) Tryz.underlying181 Tryz.underlying5 Tryz.underlying9 hO
      rw [nums_of] at hcv
      clear hO hpa
      go_wp2
      go_ret2
      exact ⟨rfl, hB⟩
theorem walk (s : ByteArray) (w : World) (hs : s.size ≤ 140737488351232) :
    Calls Tryz.prog 162 #[.string s] w fun e w' => e = .returned (.tuple #[.string ⟨(octR (L s)).1.toArray⟩, .int .i64 (octR (L s)).2]) ∧ Below w.heap.size w w' := by
  unfold octR
  by_cases hg : goodL (L s) = true
  · rw [if_pos hg]
    by_cases h8 : s.size % 8 = 0
    · rw [if_pos (by rw [← size_L]; exact h8)]
      exact good s w hs hg h8
    · rw [if_neg (by rw [← size_L]; exact h8)]
      exact odd s w hs hg h8
  · rw [if_neg hg]
    exact bad s w hs (by simpa using hg)
end Go.Proofs.YtljnfbpplhnmfaaGreatDoor.OctW
namespace Go.Proofs.YtljnfbpplhnmfaaGreatDoor.Hd
open Go.RowKit Go.Proofs.YtljnfbpplhnmfaaGreatDoor.Str Go.Proofs.YtljnfbpplhnmfaaGreatDoor.Bits Go.Proofs.YtljnfbpplhnmfaaGreatDoor.Oct
set_option linter.unusedVariables false
def stS (q : List UInt8 × Nat) (x : UInt8) : List UInt8 × Nat :=
  if x = 49 then (if q.2 + 1 = 5 then (q.1 ++ [49, 48], 0) else (q.1 ++ [49], q.2 + 1)) else (q.1 ++ [48], 0)
def stF (l : List UInt8) : List UInt8 × Nat := l.foldl stS ([], 0)
def stuffL (l : List UInt8) : List UInt8 := (stF l).1
theorem stF_take (l : List UInt8) (i : Nat) (h : i < l.length) : stF (l.take (i + 1)) = stS (stF (l.take i)) l[i] := by
  unfold stF
  rw [List.take_succ_eq_append_getElem h, List.foldl_append]; rfl
theorem stS_bound (q : List UInt8 × Nat) (x : UInt8) (h : q.2 ≤ 4) : (stS q x).2 ≤ 4 ∧ (stS q x).1.length ≤ q.1.length + 2 := by
  unfold stS
  split
  · split
    · simp
    · simp; omega
  · simp
theorem stF_bound (l : List UInt8) (i : Nat) (h : i ≤ l.length) : (stF (l.take i)).2 ≤ 4 ∧ (stF (l.take i)).1.length ≤ 2 * i := by
  induction i with
  | zero => simp [stF]
  | succ i ih =>
    obtain ⟨h1, h2⟩ := ih (by omega)
    rw [stF_take l i (by omega)]
    have := stS_bound (stF (l.take i)) l[i] h1
    omega
theorem stuffL_length (l : List UInt8) : (stuffL l).length ≤ 2 * l.length := by
  have := (stF_bound l l.length (Nat.le_refl _)).2
  rwa [List.take_of_length_le (Nat.le_refl _)] at this
def flagL : List UInt8 := [48, 49, 49, 49, 49, 49, 49, 48]
def encL (l : List UInt8) : List UInt8 := flagL ++ stuffL (ofL l) ++ flagL
structure St where
  c : List UInt8
  within : Bool
  ones : Nat
def St.new : St := ⟨[], false, 0⟩
abbrev Ev := Int × List UInt8
def flagS (c : List UInt8) (was : Bool) : Option Ev :=
  if was = false ∨ c.length ≤ 6 then none else if c.length - 6 > 2128 ∨ (c.length - 6) % 8 ≠ 0 then some (2, []) else some (0, (octR (c.take (c.length - 6))).1)
def push (s : St) (x : UInt8) : St := if s.within = true ∧ s.ones ≤ 5 ∧ s.c.length ≤ 2134 then ⟨s.c ++ [x], s.within, s.ones⟩ else s
def stepS (s : St) (x : UInt8) : St × Option Ev :=
  if x = 49 then
    (if s.ones + 1 = 7 ∧ s.within = true then (⟨[], false, s.ones + 1⟩, some (1, [])) else (push ⟨s.c, s.within, s.ones + 1⟩ x, none))
  else if s.ones ≥ 5 then
    (if s.ones = 6 then (⟨[], true, 0⟩, flagS s.c s.within) else (⟨s.c, s.within, 0⟩, none))
  else (push ⟨s.c, s.within, 0⟩ x, none)
def isDig (x : UInt8) : Bool := x == 48 || x == 49
def feed1 (q : St × List Ev) (x : UInt8) : St × List Ev := if isDig x = true then ((stepS q.1 x).1, q.2 ++ (stepS q.1 x).2.toList) else q
def feedL (s : St) (l : List UInt8) : St × List Ev := l.foldl feed1 (s, [])
theorem feed_acc (l : List UInt8) (s : St) (e : List Ev) : l.foldl feed1 (s, e) = ((feedL s l).1, e ++ (feedL s l).2) := by
  unfold feedL
  induction l generalizing s e with
  | nil => simp
  | cons x l ih =>
    rw [List.foldl_cons, List.foldl_cons, ih (feed1 (s, e) x).1 (feed1 (s, e) x).2, ih (feed1 (s, []) x).1 (feed1 (s, []) x).2]
    unfold feed1
    split <;> simp
theorem feedL_append (s : St) (a b : List UInt8) : feedL s (a ++ b) = ((feedL (feedL s a).1 b).1, (feedL s a).2 ++ (feedL (feedL s a).1 b).2) := by
  show (a ++ b).foldl feed1 (s, []) = _
  rw [List.foldl_append]
  have e : a.foldl feed1 (s, []) = ((feedL s a).1, (feedL s a).2) := rfl
  rw [e, feed_acc]
theorem feedL_cons (s : St) (x : UInt8) (l : List UInt8) (h : isDig x = true) : feedL s (x :: l) = ((feedL (stepS s x).1 l).1, (stepS s x).2.toList ++ (feedL (stepS s x).1 l).2) := by
  have := feedL_append s [x] l
  rw [List.singleton_append] at this
  rw [this]
  have e : feedL s [x] = ((stepS s x).1, (stepS s x).2.toList) := by
    show feed1 (s, []) x = _
    unfold feed1
    rw [if_pos h]; rfl
  rw [e]
theorem feedL_take (s : St) (l : List UInt8) (i : Nat) (h : i < l.length) : feedL s (l.take (i + 1)) = feed1 (feedL s (l.take i)) l[i] := by
  unfold feedL
  rw [List.take_succ_eq_append_getElem h, List.foldl_append]; rfl
theorem feedL_len (s : St) (l : List UInt8) (i : Nat) (h : i ≤ l.length) : (feedL s (l.take i)).2.length ≤ i := by
  induction i with
  | zero => simp [feedL]
  | succ i ih =>
    rw [feedL_take s l i (by omega)]
    unfold feed1
    have := ih (by omega)
    split
    · simp only [List.length_append]
      have : ((stepS (feedL s (List.take i l)).1 l[i]).2.toList).length ≤ 1 := by cases (stepS (feedL s (List.take i l)).1 l[i]).2 <;> simp
      omega
    · omega
def St.ok (s : St) : Prop := s.c.length ≤ 2135
theorem push_ok (s : St) (x : UInt8) (h : s.ok) : (push s x).ok := by
  unfold push St.ok at *
  split
  · rename_i h2
    simp; omega
  · exact h
theorem stepS_ok (s : St) (x : UInt8) (h : s.ok) : (stepS s x).1.ok ∧ (stepS s x).1.ones ≤ s.ones + 1 := by
  have hp : ∀ s x, (push s x).ones = s.ones := fun s x => by unfold push; split <;> rfl
  unfold stepS
  split
  · split
    · exact ⟨Nat.zero_le _, Nat.le_refl _⟩
    · exact ⟨push_ok _ _ h, by rw [hp]; exact Nat.le_refl _⟩
  · split
    · split
      · exact ⟨Nat.zero_le _, Nat.zero_le _⟩
      · exact ⟨h, Nat.zero_le _⟩
    · exact ⟨push_ok _ _ h, by rw [hp]; exact Nat.zero_le _⟩
theorem feedL_ok (s : St) (l : List UInt8) (h : s.ok) : (feedL s l).1.ok ∧ (feedL s l).1.ones ≤ s.ones + l.length := by
  induction l generalizing s with
  | nil => exact ⟨h, Nat.le_refl _⟩
  | cons x l ih =>
    cases hd : isDig x with
    | true =>
      rw [feedL_cons s x l hd]
      have h1 := stepS_ok s x h
      have h2 := ih _ h1.1
      exact ⟨h2.1, by simp only [List.length_cons]; omega⟩
    | false =>
      have e : feedL s (x :: l) = feedL s l := by
        unfold feedL
        rw [List.foldl_cons]
        unfold feed1
        rw [if_neg (by rw [hd]; decide)]
      rw [e]
      have h2 := ih s h
      exact ⟨h2.1, by simp only [List.length_cons]; omega⟩
end Go.Proofs.YtljnfbpplhnmfaaGreatDoor.Hd
