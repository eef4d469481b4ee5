/- Package frame by its own text, as far as a UI goes: what one side puts it reads back. Condition: package ctrl's tables stand as they were laid (LaidC). -/
import Derived.Test.YtmgiolpooamkkaaDoorCtlG
import Derived.Test.YtmgiolpooamkkaaDoorAddrW
namespace Go.Proofs.YtmgiolpooamkkaaDoor.Fw
open Go Go.RowKit Go.Proofs.YtmgiolpooamkkaaDoorW.PrintWords Go.Proofs.YtmgiolpooamkkaaDoorW.PrintLast Go.Proofs.YtmgiolpooamkkaaDoorW.PrintMore Go.Proofs.YtmgiolpooamkkaaDoor.Str Go.Proofs.YtmgiolpooamkkaaDoor.Field
set_option linter.unusedVariables false
theorem ia0 (w : World) : (Instr.index 90 (.agg #[.int .i64 0, .int .i64 4, .int .i64 6, .int .i64 7]) (.int .i64 0)).run Tryd.prog w = .ok (.int .i64 0) w := by kernel_rfl
theorem ia1 (w : World) : (Instr.index 90 (.agg #[.int .i64 0, .int .i64 4, .int .i64 6, .int .i64 7]) (.int .i64 1)).run Tryd.prog w = .ok (.int .i64 4) w := by kernel_rfl
theorem ia2 (w : World) : (Instr.index 90 (.agg #[.int .i64 0, .int .i64 4, .int .i64 6, .int .i64 7]) (.int .i64 2)).run Tryd.prog w = .ok (.int .i64 6) w := by kernel_rfl
set_option maxRecDepth 100000 in
theorem mayUI (w : World) : Calls Tryd.prog 27 #[.int .i64 6, .bool true] w fun e w' => e = .returned (.bool true) ∧ w = w' := by
  go_enter Tryd.func27, Tryd.ntmps27
  have i0 := ia0
  have i1 := ia1
  have i2 := ia2
  go_wp2_with fail
  refine wp_loop_rounds 3 ?_
  rw [rounds_succ]
  go_wp2
  rw [rounds_succ]
  go_wp2
  rw [rounds_succ]
  go_wp2
  go_ret
  trivial
theorem carriesUI (n : Nat) (hn : n ≤ 260) (w : World) : Calls Tryd.prog 30 #[.int .i64 6, .int .i64 n] w fun e w' => e = .returned (.bool true) ∧ w = w' := by
  have hn2 : (n : Int) ≤ 260 := by omega
  go_enter Tryd.func30, Tryd.ntmps30
  go_wp2
  go_ret
  trivial
theorem cells8 {w : World} {g : Nat} {a0 a1 a2 a3 a4 a5 a6 a7 : Value} {T : TypeId} {fr : Nat × Nat} (h : w.heap[g]? = some (.cells #[a0, a1, a2, a3, a4, a5, a6, a7] T fr)) : w.cell? ⟨g, 0, none⟩ = some a0 ∧ w.cell? ⟨g, 1, none⟩ = some a1 ∧ w.cell? ⟨g, 2, none⟩ = some a2 ∧ w.cell? ⟨g, 3, none⟩ = some a3 ∧ w.cell? ⟨g, 4, none⟩ = some a4 ∧ w.cell? ⟨g, 5, none⟩ = some a5 ∧ w.cell? ⟨g, 6, none⟩ = some a6 ∧ w.cell? ⟨g, 7, none⟩ = some a7 := by
  refine ⟨?_, ?_, ?_, ?_, ?_, ?_, ?_, ?_⟩ <;> rw [Lib.cell_of_heap h] <;> rfl
/-- A UI's octets, sealed. -/
def uiT (s t : Int) (cr : Bool) (i : ByteArray) : ByteArray := strOfNums [4 * s + 2 * (if cr = true then 1 else 0), 2 * t + 1] ++ strOfNums [3] ++ i
set_option maxHeartbeats 1000000 in
set_option maxRecDepth 100000 in
theorem fputUI (s t : Int) (n : Bool) (i : ByteArray) (w : World) (hL : LaidC w) (hs : 0 ≤ s ∧ s < 64) (ht : 0 ≤ t ∧ t < 128) (hi : i.size ≤ 260) :
    Calls Tryd.prog 21 #[.agg #[.int .i64 s, .int .i64 t, .bool true, .int .i64 6, .bool false, .int .i64 0, .int .i64 0, .string i], .bool n] w fun e w' => e = .returned (.tuple #[.string (seal_ (uiT s t (true == n) i)), .int .i64 0]) ∧ Below w.heap.size w w' := by
  have hb0 : Below w.heap.size w (w.alloc (.cells #[.int .i64 s, .int .i64 t, .bool true, .int .i64 6, .bool false, .int .i64 0, .int .i64 0, .string i] 38)) := (Below.refl _ w).alloc (Nat.le_refl _) _
  have hn0 := heap_alloc_new w (.cells #[.int .i64 s, .int .i64 t, .bool true, .int .i64 6, .bool false, .int .i64 0, .int .i64 0, .string i] 38)
  have HL := Aside0.mk hL
  have hmk := fun v => makeW s t true n v
  have hap := fun v => aputW s t (true == n) v hs ht
  have hpu := fun v hv => putUI v hv
  have hz1 : (strOfNums [4 * s + 2 * (if (true == n) = true then 1 else 0), 2 * t + 1]).size = 2 := by rw [nums_size]; rfl
  have hz2 : (strOfNums [3]).size = 1 := by rw [nums_size]; rfl
  have hz3 : (uiT s t (true == n) i).size = 3 + i.size := by unfold uiT; rw [ByteArray.size_append, ByteArray.size_append, hz1, hz2]
  have hui : strOfNums [4 * s + 2 * (if (true == n) = true then 1 else 0), 2 * t + 1] ++ strOfNums [3] ++ i = uiT s t (true == n) i := rfl
  clear hL hs ht
  generalize uiT s t (true == n) i = u at hz3 hui ⊢
  generalize strOfNums [4 * s + 2 * (if (true == n) = true then 1 else 0), 2 * t + 1] = v1 at hz1 hap hui
  generalize strOfNums [3] = v2 at hz2 hpu hui
  generalize (true == n) = b at hmk hap
  have HMK := Aside0.mk hmk
  have HAP := Aside0.mk hap
  have HPU := Aside0.mk hpu
  have hsl := sealW u
  have HSL : Aside0 (∀ v : World, Calls Tryd.prog 31 #[.string u] v fun e w' => e = .returned (.string (seal_ u)) ∧ Below v.heap.size v w') := ⟨fun v => hsl v (by omega)⟩
  generalize seal_ u = z at HSL ⊢
  clear hmk hap hpu hsl
  go_enter Tryd.func21, Tryd.ntmps21
  go_wp2_with fail
  generalize w.alloc (.cells #[.int .i64 s, .int .i64 t, .bool true, .int .i64 6, .bool false, .int .i64 0, .int .i64 0, .string i] 38) = w0 at hb0 hn0 ⊢
  refine (HPU.out w0 (HL.out.below hb0)).mono ?_
  rintro e w1 ⟨rfl, hb1⟩
  have H1 := Aside0.mk ((hb1.block _ (Array.getElem?_eq_some_iff.1 hn0).1).trans hn0)
  have B1 := Aside0.mk (below_step hb0 hb1)
  obtain ⟨x0, x1, x2, x3, x4, x5, x6, x7⟩ := cells8 H1.out
  clear hb1 hn0 hb0
  go_wp2_with fail
  refine (mayUI w1).mono ?_
  rintro e w2 ⟨rfl, rfl⟩
  go_wp2_with fail
  refine (HMK.out w1).mono ?_
  rintro e w2 ⟨rfl, hb2⟩
  have H2 := Aside0.mk ((hb2.block _ (Array.getElem?_eq_some_iff.1 H1.out).1).trans H1.out)
  have B2 := Aside0.mk (below_step B1.out hb2)
  clear x0 x1 x2 x3 x4 x5 x6 x7 hb2 H1 B1
  obtain ⟨x0, x1, x2, x3, x4, x5, x6, x7⟩ := cells8 H2.out
  go_wp2_with fail
  refine (HAP.out w2).mono ?_
  rintro e w3 ⟨rfl, hb3⟩
  have H3 := Aside0.mk ((hb3.block _ (Array.getElem?_eq_some_iff.1 H2.out).1).trans H2.out)
  have B3 := Aside0.mk (below_step B2.out hb3)
  clear x0 x1 x2 x3 x4 x5 x6 x7 hb3 H2 B2
  obtain ⟨x0, x1, x2, x3, x4, x5, x6, x7⟩ := cells8 H3.out
  go_wp2_with fail
  refine (carriesUI i.size hi w3).mono ?_
  rintro e w4 ⟨rfl, rfl⟩
  have hcat : ¬ 9223372036854775807 < v1.size + v2.size := by omega
  have hcat2 : ¬ 9223372036854775807 < (v1 ++ v2).size + i.size := by rw [ByteArray.size_append]; omega
  go_wp2_with fail
  refine (HSL.out w3).mono ?_
  rintro e w4 ⟨rfl, hb4⟩
  have B4 := Aside0.mk (below_step B3.out hb4)
  clear hb4 B3 H3 x0 x1 x2 x3 x4 x5 x6 x7 hcat hcat2 hui
  go_wp2
  go_ret2
  exact ⟨rfl, B4.out⟩
theorem cells3 {w : World} {g : Nat} {a0 a1 a2 : Value} {T : TypeId} {fr : Nat × Nat} (h : w.heap[g]? = some (.cells #[a0, a1, a2] T fr)) : w.cell? ⟨g, 0, none⟩ = some a0 ∧ w.cell? ⟨g, 1, none⟩ = some a1 ∧ w.cell? ⟨g, 2, none⟩ = some a2 := by
  refine ⟨?_, ?_, ?_⟩ <;> rw [Lib.cell_of_heap h] <;> rfl
theorem cells4 {w : World} {g : Nat} {a0 a1 a2 a3 : Value} {T : TypeId} {fr : Nat × Nat} (h : w.heap[g]? = some (.cells #[a0, a1, a2, a3] T fr)) : w.cell? ⟨g, 0, none⟩ = some a0 ∧ w.cell? ⟨g, 1, none⟩ = some a1 ∧ w.cell? ⟨g, 2, none⟩ = some a2 ∧ w.cell? ⟨g, 3, none⟩ = some a3 := by
  refine ⟨?_, ?_, ?_, ?_⟩ <;> rw [Lib.cell_of_heap h] <;> rfl
theorem frozen8 {w : World} {g : Nat} {cs : Array Value} {T : TypeId} (h : w.heap[g]? = some (.cells cs T (0, 0))) : w.frozen? ⟨g, 0, none⟩ = false ∧ w.frozen? ⟨g, 1, none⟩ = false ∧ w.frozen? ⟨g, 2, none⟩ = false ∧ w.frozen? ⟨g, 3, none⟩ = false ∧ w.frozen? ⟨g, 4, none⟩ = false ∧ w.frozen? ⟨g, 5, none⟩ = false ∧ w.frozen? ⟨g, 6, none⟩ = false ∧ w.frozen? ⟨g, 7, none⟩ = false :=
  ⟨Lib.frozen_of_heap h 0, Lib.frozen_of_heap h 1, Lib.frozen_of_heap h 2, Lib.frozen_of_heap h 3, Lib.frozen_of_heap h 4, Lib.frozen_of_heap h 5, Lib.frozen_of_heap h 6, Lib.frozen_of_heap h 7⟩
theorem set8 {w : World} {g : Nat} {a0 a1 a2 a3 a4 a5 a6 a7 : Value} {T : TypeId} (h : w.heap[g]? = some (.cells #[a0, a1, a2, a3, a4, a5, a6, a7] T (0, 0))) (b0 b1 b2 b3 b4 b5 b6 b7 : Value) :
    ((((((((w.setCell ⟨g, 0, none⟩ b0).setCell ⟨g, 1, none⟩ b1).setCell ⟨g, 2, none⟩ b2).setCell ⟨g, 3, none⟩ b3).setCell ⟨g, 4, none⟩ b4).setCell ⟨g, 5, none⟩ b5).setCell ⟨g, 6, none⟩ b6).setCell ⟨g, 7, none⟩ b7).heap[g]? = some (.cells #[b0, b1, b2, b3, b4, b5, b6, b7] T (0, 0)) := (blk_put (cs := #[b0, b1, b2, b3, b4, b5, b6, a7]) (blk_put (cs := #[b0, b1, b2, b3, b4, b5, a6, a7]) (blk_put (cs := #[b0, b1, b2, b3, b4, a5, a6, a7]) (blk_put (cs := #[b0, b1, b2, b3, a4, a5, a6, a7]) (blk_put (cs := #[b0, b1, b2, a3, a4, a5, a6, a7]) (blk_put (cs := #[b0, b1, a2, a3, a4, a5, a6, a7]) (blk_put (cs := #[b0, a1, a2, a3, a4, a5, a6, a7]) (blk_put (cs := #[a0, a1, a2, a3, a4, a5, a6, a7]) h 0 _ rfl) 1 _ rfl) 2 _ rfl) 3 _ rfl) 4 _ rfl) 5 _ rfl) 6 _ rfl) 7 _ rfl)
theorem below8 {B : Nat} {w0 w : World} {g : Nat} (hb : Below B w0 w) (hg : B ≤ g) (b0 b1 b2 b3 b4 b5 b6 b7 : Value) : Below B w0 ((((((((w.setCell ⟨g, 0, none⟩ b0).setCell ⟨g, 1, none⟩ b1).setCell ⟨g, 2, none⟩ b2).setCell ⟨g, 3, none⟩ b3).setCell ⟨g, 4, none⟩ b4).setCell ⟨g, 5, none⟩ b5).setCell ⟨g, 6, none⟩ b6).setCell ⟨g, 7, none⟩ b7) := ((((((((hb.setCell (p := ⟨g, 0, none⟩) hg b0).setCell (p := ⟨g, 1, none⟩) hg b1).setCell (p := ⟨g, 2, none⟩) hg b2).setCell (p := ⟨g, 3, none⟩) hg b3).setCell (p := ⟨g, 4, none⟩) hg b4).setCell (p := ⟨g, 5, none⟩) hg b5).setCell (p := ⟨g, 6, none⟩) hg b6).setCell (p := ⟨g, 7, none⟩) hg b7)
theorem byte_of (a : Int) (h0 : 0 ≤ a) (h1 : a ≤ 255) : ((UInt8.ofNat a.toNat).toNat : Int) = a := by rw [UInt8.toNat_ofNat']; omega
/-- What a UI's octets begin with. -/
theorem uiT_facts (s t : Int) (cr : Bool) (i : ByteArray) (hs : 0 ≤ s ∧ s < 64) (ht : 0 ≤ t ∧ t < 128) (u : ByteArray) (hu : uiT s t cr i = u) :
    ∃ (h0 : 0 < u.size) (h1 : 1 < u.size), ((u[0]'h0).toNat : Int) = 4 * s + 2 * (if cr = true then 1 else 0) ∧ ((u[1]'h1).toNat : Int) = 2 * t + 1 ∧ u.extract 2 u.size = strOfNums [3] ++ i ∧ u.extract 3 u.size = i ∧ u.size = 3 + i.size := by
  have hc : 0 ≤ (if cr = true then (1 : Int) else 0) ∧ (if cr = true then (1 : Int) else 0) ≤ 1 := by split <;> omega
  have hl : L u = UInt8.ofNat (4 * s + 2 * (if cr = true then 1 else 0)).toNat :: UInt8.ofNat (2 * t + 1).toNat :: UInt8.ofNat (3 : Int).toNat :: L i := by
    rw [← hu]; unfold uiT; rw [L_app, L_app, L_nums, L_nums]; rfl
  have hz : u.size = 3 + i.size := by rw [size_L, hl, size_L i]; simp; omega
  refine ⟨by omega, by omega, ?_, ?_, ?_, ?_, hz⟩
  · have e : (u[0]'(by omega)) = (L u)[0]'(by rw [← size_L]; omega) := rfl
    rw [e]
    simp only [hl, List.getElem_cons_zero]
    exact byte_of _ (by omega) (by omega)
  · have e : (u[1]'(by omega)) = (L u)[1]'(by rw [← size_L]; omega) := rfl
    rw [e]
    simp only [hl, List.getElem_cons_succ, List.getElem_cons_zero]
    exact byte_of _ (by omega) (by omega)
  · refine inj ?_
    rw [L_cut, L_app, L_nums, hl, List.take_of_length_le (by rw [hz, size_L i]; simp; omega)]; rfl
  · refine inj ?_
    rw [L_cut, hl, List.take_of_length_le (by rw [hz, size_L i]; simp; omega)]; rfl
set_option maxHeartbeats 1000000 in
set_option maxRecDepth 100000 in
theorem fgetUI (s t : Int) (n : Bool) (i : ByteArray) (w : World) (hL : LaidC w) (hs : 0 ≤ s ∧ s < 64) (ht : 0 ≤ t ∧ t < 128) (hi : i.size ≤ 260) :
    Calls Tryd.prog 22 #[.string (seal_ (uiT s t (true == n) i)), .bool n] w fun e w' => e = .returned (.tuple #[.agg #[.int .i64 s, .int .i64 t, .bool true, .int .i64 6, .bool false, .int .i64 0, .int .i64 0, .string i], .int .i64 0]) ∧ Below w.heap.size w w' := by
  have HL := Aside0.mk hL
  clear hL
  have hb0 : Below w.heap.size w (w.alloc (.cells #[.int .i64 0, .int .i64 0, .bool false, .int .i64 0, .bool false, .int .i64 0, .int .i64 0, .string ⟨#[]⟩] 38)) := (Below.refl _ w).alloc (Nat.le_refl _) _
  have hn0 := heap_alloc_new w (.cells #[.int .i64 0, .int .i64 0, .bool false, .int .i64 0, .bool false, .int .i64 0, .int .i64 0, .string ⟨#[]⟩] 38)
  obtain ⟨u, hu⟩ : ∃ u, uiT s t (true == n) i = u := ⟨_, rfl⟩
  obtain ⟨p0, p1, hx0, hx1, he2, he3, hz⟩ := uiT_facts s t _ i hs ht u hu
  have hck := fun v => checkW u v (by omega)
  rw [hu]
  generalize seal_ u = z at hck ⊢
  have hag := fun v => agetW u _ _ v (by omega) (by omega) hx0 hx1 (by split <;> omega) (by omega)
  have q1 : (4 * s + 2 * (if (true == n) = true then 1 else 0)) / 2 ^ 2 % 2 ^ 6 = s := by split <;> omega
  have q2 : (2 * t + 1) / 2 ^ 1 % 2 ^ 7 = t := by omega
  have q3 : ((4 * s + 2 * (if (true == n) = true then 1 else 0)) / 2 ^ 1 % 2 ^ 1 == 1) = n := by cases n <;> simp <;> omega
  rw [q1, q2, q3] at hag
  have hcm := fun v => cmdW s t n n v
  rw [beq_self_eq_true] at hcm
  have hr1 : (strOfNums [3] ++ i).size = 1 + i.size := by rw [ByteArray.size_append, nums_size]; rfl
  have hr0 : (((strOfNums [3] ++ i)[0]'(by omega)).toNat : Int) = 3 := by
    have e : ((strOfNums [3] ++ i)[0]'(by omega)) = (L (strOfNums [3] ++ i))[0]'(by rw [← size_L]; omega) := rfl
    rw [e]
    have e2 : L (strOfNums [3] ++ i) = UInt8.ofNat (3 : Int).toNat :: L i := by rw [L_app, L_nums]; rfl
    simp only [e2, List.getElem_cons_zero]
    rfl
  have hcg := fun v hv => getUI (strOfNums [3] ++ i) v hv (by omega) (by omega) hr0
  have HCK := Aside0.mk hck
  have HAG := Aside0.mk hag
  have HCM := Aside0.mk hcm
  have HCG := Aside0.mk hcg
  clear hck hag hcm hcg q1 q2 q3 hr0 hr1 hx0 hx1 hu hs ht
  generalize strOfNums [3] ++ i = r at *
  rw [hz] at he2 he3
  have hu2 : (2 : Int) ≤ (u.size : Int) := by omega
  have hu3 : (3 : Int) ≤ (u.size : Int) := by omega
  go_enter Tryd.func22, Tryd.ntmps22
  go_wp2_with fail
  have H0 := Aside0.mk hn0
  have B0 := Aside0.mk hb0
  clear hn0 hb0
  change Calls _ _ _ (w.alloc (.cells #[.int .i64 0, .int .i64 0, .bool false, .int .i64 0, .bool false, .int .i64 0, .int .i64 0, .string ⟨#[]⟩] 38)) _
  generalize w.alloc (.cells #[.int .i64 0, .int .i64 0, .bool false, .int .i64 0, .bool false, .int .i64 0, .int .i64 0, .string ⟨#[]⟩] 38) = w0 at H0 B0 ⊢
  refine (HCK.out w0).mono ?_
  rintro e w1 ⟨rfl, hb⟩
  have H1 := Aside0.mk ((hb.block _ (Array.getElem?_eq_some_iff.1 H0.out).1).trans H0.out)
  have B1 := Aside0.mk (below_step B0.out hb)
  clear hb H0 B0
  go_wp2_with fail
  refine (HAG.out w1).mono ?_
  rintro e w2 ⟨rfl, hb⟩
  have H2 := Aside0.mk ((hb.block _ (Array.getElem?_eq_some_iff.1 H1.out).1).trans H1.out)
  have B2 := Aside0.mk (below_step B1.out hb)
  clear hb H1 B1
  go_wp2_with fail
  have H3 := Aside0.mk (blk_alloc H2.out (.cells #[.int .i64 s, .int .i64 t, .bool n] 77))
  have A3 := Aside0.mk (blk_new w2 (.cells #[.int .i64 s, .int .i64 t, .bool n] 77))
  have B3 : Aside0 (Below w.heap.size w (w2.alloc (.cells #[.int .i64 s, .int .i64 t, .bool n] 77))) := ⟨B2.out.alloc B2.out.size _⟩
  generalize w2.alloc (.cells #[.int .i64 s, .int .i64 t, .bool n] 77) = w3 at H3 A3 B3 ⊢
  generalize w2.heap.size = ga at A3 ⊢
  clear H2 B2
  refine (HCG.out w3 (HL.out.below B3.out)).mono ?_
  rintro e w4 ⟨rfl, hb⟩
  have H4 := Aside0.mk ((hb.block _ (Array.getElem?_eq_some_iff.1 H3.out).1).trans H3.out)
  have A4 := Aside0.mk ((hb.block _ (Array.getElem?_eq_some_iff.1 A3.out).1).trans A3.out)
  have B4 := Aside0.mk (below_step B3.out hb)
  clear hb H3 A3 B3
  obtain ⟨a0, a1, a2⟩ := cells3 (blk_alloc A4.out (.cells #[.int .i64 6, .bool false, .int .i64 0, .int .i64 0] 73))
  go_wp2_with fail
  have H5 := Aside0.mk (blk_alloc H4.out (.cells #[.int .i64 6, .bool false, .int .i64 0, .int .i64 0] 73))
  have A5 := Aside0.mk (blk_alloc A4.out (.cells #[.int .i64 6, .bool false, .int .i64 0, .int .i64 0] 73))
  have C5 := Aside0.mk (blk_new w4 (.cells #[.int .i64 6, .bool false, .int .i64 0, .int .i64 0] 73))
  have B5 : Aside0 (Below w.heap.size w (w4.alloc (.cells #[.int .i64 6, .bool false, .int .i64 0, .int .i64 0] 73))) := ⟨B4.out.alloc B4.out.size _⟩
  clear a0 a1 a2 H4 A4 B4
  generalize w4.alloc (.cells #[.int .i64 6, .bool false, .int .i64 0, .int .i64 0] 73) = w5 at H5 A5 C5 B5 ⊢
  generalize w4.heap.size = gc at C5 ⊢
  refine (HCM.out w5).mono ?_
  rintro e w6 ⟨rfl, hb⟩
  have H6 := Aside0.mk ((hb.block _ (Array.getElem?_eq_some_iff.1 H5.out).1).trans H5.out)
  have A6 := Aside0.mk ((hb.block _ (Array.getElem?_eq_some_iff.1 A5.out).1).trans A5.out)
  have C6 := Aside0.mk ((hb.block _ (Array.getElem?_eq_some_iff.1 C5.out).1).trans C5.out)
  have B6 := Aside0.mk (below_step B5.out hb)
  clear hb H5 A5 C5 B5
  obtain ⟨a0, a1, a2⟩ := cells3 A6.out
  obtain ⟨c0, c1, c2, c3⟩ := cells4 C6.out
  obtain ⟨x0, x1, x2, x3, x4, x5, x6, x7⟩ := cells8 H6.out
  obtain ⟨f0, f1, f2, f3, f4, f5, f6, f7⟩ := frozen8 H6.out
  go_wp2_with fail
  refine (mayUI w6).mono ?_
  rintro e w7 ⟨rfl, rfl⟩
  go_wp2_with fail
  refine (carriesUI i.size hi w6).mono ?_
  rintro e w7 ⟨rfl, rfl⟩
  go_wp2
  refine bodyPost_ret (results_ct rfl _ _ w.heap.size 38 #[.int .i64 s, .int .i64 t, .bool true, .int .i64 6, .bool false, .int .i64 0, .int .i64 0, .string i] (0, 0) _ rfl (set8 H6.out _ _ _ _ _ _ _ _) Tryd.underlying38 rfl (by kernel_rfl)) rfl ?_
  exact ⟨rfl, below8 B6.out (Nat.le_refl _) _ _ _ _ _ _ _ _⟩
end Go.Proofs.YtmgiolpooamkkaaDoor.Fw
