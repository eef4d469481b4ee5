/- The law TeimsgBack by its own text: it answers true. Condition: the packages' tables stand as they were laid. -/
import Derived.Test.YtmgiolpooamkkaaDoorFrmW
import Derived.Test.YtmgiolpooamkkaaDoorTeimsgOnlyO
import Derived.Test.YtmgiolpooamkkaaDoorWEqStruct
import Derived.Test.YtmgiolpooamkkaaDoorLaidBack
namespace Go.Proofs.YtmgiolpooamkkaaDoor.Wk
open Go Go.RowKit Go.Proofs.YtmgiolpooamkkaaDoorW.PrintWords Go.Proofs.YtmgiolpooamkkaaDoorW.PrintLast Go.Proofs.YtmgiolpooamkkaaDoorW.PrintMore Go.Proofs.YtmgiolpooamkkaaDoor.Str Go.Proofs.YtmgiolpooamkkaaDoor.Fw Go.Proofs.YtmgiolpooamkkaaDoor.Only Go.Proofs.YtmgiolpooamkkaaDoor.TeiO
set_option linter.unusedVariables false
theorem keep {v v' : World} {g : Nat} {o : Obj} (hb : Below v.heap.size v v') (h : v.heap[g]? = some o) : v'.heap[g]? = some o := (hb.block _ (Array.getElem?_eq_some_iff.1 h).1).trans h
set_option maxHeartbeats 1000000 in
set_option maxRecDepth 100000 in
theorem backW (t r a : Int) (w : World) (hL : Go.Proofs.YtmgiolpooamkkaaDoorX.Laid w) (hC : LaidC w) :
    Calls Tryd.prog 6 #[.agg #[.int .i64 t, .int .i64 r, .int .i64 a]] w fun e w' => e = .returned (.bool true) ∧ Below w.heap.size w w' := by
  have HL := Aside0.mk hL
  have HC := Aside0.mk hC
  clear hL hC
  have hmd := fun v => lapwinglaw07_made.calls t r a t r a v rfl
  have hwk := fun v => lapwinglaw07_wakes.calls 10 true v (wakes_eq 10 (by decide))
  have HMD := Aside0.mk hmd
  have HWK := Aside0.mk hwk
  clear hmd hwk
  by_cases hok : (putT t r a).2 = 0
  · have hrg : 1 ≤ t ∧ t ≤ 7 ∧ 0 ≤ r ∧ r < 65536 ∧ 0 ≤ a ∧ a < 128 := by
      unfold putT at hok
      split at hok
      · cases hok
      · split at hok
        · cases hok
        · split at hok
          · omega
          · cases hok
    have hpt : putT t r a = (strOfNums [15, r / 256, r % 256, t, 2 * a + 1], 0) := by
      unfold putT
      rw [if_neg (by omega), if_neg (by omega), if_pos (by omega)]
    have hgt := get_put t r a hrg.1 hrg.2.1 hrg.2.2.1 hrg.2.2.2.1 hrg.2.2.2.2.1 hrg.2.2.2.2.2
    have hsz : (strOfNums [15, r / 256, r % 256, t, 2 * a + 1]).size = 5 := by rw [nums_size]; rfl
    generalize strOfNums [15, r / 256, r % 256, t, 2 * a + 1] = S at hpt hgt hsz
    have hput := fun v => teimsg_Put.calls 10 t r a S 0 v (by rw [put_eq 10 (by decide), hpt])
    have hget := fun v => teimsg_Get.calls S t r a 0 v (by rw [get_eq, hgt])
    have hfrm := fun v hv => teimsg_Frame.calls 10 t r a 63 127 true 6 false 0 0 S 0 v hv (by rw [frame_eq 10 (by decide)]; unfold frameT; rw [hpt]; rfl)
    have hfrom := fun v => (teimsg_Type_FromNetwork.calls t (fromT t) v (from_eq t)).mono (fun e w' h => (⟨h.1, h.2.below⟩ : e = _ ∧ Below v.heap.size v w'))
    have hof1 := fun v hv => teimsg_Of.calls 63 127 true 6 false 0 0 S (fromT t) t r a true v hv (by rw [of_eq]; unfold ofT; rw [hgt, if_pos ⟨rfl, rfl, rfl, rfl, rfl, rfl⟩])
    have hof2 := fun v hv => teimsg_Of.calls 63 127 true 6 false 0 0 S (!(fromT t)) 0 0 0 false v hv (by rw [of_eq]; unfold ofT; rw [hgt, if_neg (by rintro ⟨_, _, _, _, _, h⟩; simp at h)])
    have hfp := fun v hv => fputUI 63 127 (fromT t) S v hv (by decide) (by decide) (by omega)
    have hfg := fun v hv => fgetUI 63 127 (fromT t) S v hv (by decide) (by decide) (by omega)
    generalize seal_ (uiT 63 127 (true == fromT t) S) = z at hfp hfg
    generalize fromT t = f at *
    have HPUT := Aside0.mk hput
    have HGET := Aside0.mk hget
    have HFRM := Aside0.mk hfrm
    have HFROM := Aside0.mk hfrom
    have HOF1 := Aside0.mk hof1
    have HOF2 := Aside0.mk hof2
    have HFP := Aside0.mk hfp
    have HFG := Aside0.mk hfg
    clear hput hget hfrm hfrom hof1 hof2 hfp hfg hgt hpt hok hrg hsz
    go_enter Tryd.func6, Tryd.ntmps6
    go_wp2_with fail
    have B0 : Aside0 (Below w.heap.size w (w.alloc (.cells #[.int .i64 t, .int .i64 r, .int .i64 a] 23))) := ⟨(Below.refl _ w).alloc (Nat.le_refl _) _⟩
    generalize w.alloc (.cells #[.int .i64 t, .int .i64 r, .int .i64 a] 23) = w0 at B0 ⊢
    refine (HMD.out w0).mono ?_
    rintro e w1 ⟨rfl, hb⟩
    have B1 := Aside0.mk (below_step B0.out hb)
    clear hb B0
    go_wp2_with fail
    have M2 := Aside0.mk (blk_new w1 (.cells #[.int .i64 t, .int .i64 r, .int .i64 a] 29))
    have B2 : Aside0 (Below w.heap.size w (w1.alloc (.cells #[.int .i64 t, .int .i64 r, .int .i64 a] 29))) := ⟨B1.out.alloc B1.out.size _⟩
    generalize w1.alloc (.cells #[.int .i64 t, .int .i64 r, .int .i64 a] 29) = w2 at M2 B2 ⊢
    generalize w1.heap.size = g3 at M2 ⊢
    clear B1
    refine (HPUT.out w2).mono ?_
    rintro e w3 ⟨rfl, hb⟩
    have M3 := Aside0.mk (keep hb M2.out)
    have B3 := Aside0.mk (below_step B2.out hb)
    clear hb M2 B2
    go_wp2_with fail
    refine (HWK.out w3).mono ?_
    rintro e w4 ⟨rfl, hb⟩
    have M4 := Aside0.mk (keep hb M3.out)
    have B4 := Aside0.mk (below_step B3.out hb)
    clear hb M3 B3
    go_wp2_with fail
    refine (HGET.out w4).mono ?_
    rintro e w5 ⟨rfl, hb⟩
    have M5 := Aside0.mk (keep hb M4.out)
    have B5 := Aside0.mk (below_step B4.out hb)
    clear hb M4 B4
    obtain ⟨a0, a1, a2⟩ := cells3 (blk_alloc M5.out (.cells #[.int .i64 t, .int .i64 r, .int .i64 a] 29))
    go_wp2_with fail
    have M6 := Aside0.mk (blk_alloc M5.out (.cells #[.int .i64 t, .int .i64 r, .int .i64 a] 29))
    have N6 := Aside0.mk (blk_new w5 (.cells #[.int .i64 t, .int .i64 r, .int .i64 a] 29))
    have B6 : Aside0 (Below w.heap.size w (w5.alloc (.cells #[.int .i64 t, .int .i64 r, .int .i64 a] 29))) := ⟨B5.out.alloc B5.out.size _⟩
    clear a0 a1 a2 M5 B5
    generalize w5.alloc (.cells #[.int .i64 t, .int .i64 r, .int .i64 a] 29) = w6 at M6 N6 B6 ⊢
    generalize w5.heap.size = g6 at N6 ⊢
    refine (HFRM.out w6 (Go.Proofs.YtmgiolpooamkkaaDoorX.Laid_below HL.out B6.out)).mono ?_
    rintro e w7 ⟨rfl, hb⟩
    have M7 := Aside0.mk (keep hb M6.out)
    have N7 := Aside0.mk (keep hb N6.out)
    have B7 := Aside0.mk (below_step B6.out hb)
    clear hb M6 N6 B6
    obtain ⟨a0, a1, a2⟩ := cells3 (blk_alloc M7.out (.cells #[.int .i64 63, .int .i64 127, .bool true, .int .i64 6, .bool false, .int .i64 0, .int .i64 0, .string S] 38))
    go_wp2_with fail
    have M8 := Aside0.mk (blk_alloc M7.out (.cells #[.int .i64 63, .int .i64 127, .bool true, .int .i64 6, .bool false, .int .i64 0, .int .i64 0, .string S] 38))
    have N8 := Aside0.mk (blk_alloc N7.out (.cells #[.int .i64 63, .int .i64 127, .bool true, .int .i64 6, .bool false, .int .i64 0, .int .i64 0, .string S] 38))
    have F8 := Aside0.mk (blk_new w7 (.cells #[.int .i64 63, .int .i64 127, .bool true, .int .i64 6, .bool false, .int .i64 0, .int .i64 0, .string S] 38))
    have B8 : Aside0 (Below w.heap.size w (w7.alloc (.cells #[.int .i64 63, .int .i64 127, .bool true, .int .i64 6, .bool false, .int .i64 0, .int .i64 0, .string S] 38))) := ⟨B7.out.alloc B7.out.size _⟩
    clear a0 a1 a2 M7 N7 B7
    generalize w7.alloc (.cells #[.int .i64 63, .int .i64 127, .bool true, .int .i64 6, .bool false, .int .i64 0, .int .i64 0, .string S] 38) = w8 at M8 N8 F8 B8 ⊢
    generalize w7.heap.size = g8 at F8 ⊢
    refine (HFROM.out w8).mono ?_
    rintro e w9 ⟨rfl, hb⟩
    have M9 := Aside0.mk (keep hb M8.out)
    have N9 := Aside0.mk (keep hb N8.out)
    have F9 := Aside0.mk (keep hb F8.out)
    have B9 := Aside0.mk (below_step B8.out hb)
    clear hb M8 N8 F8 B8
    obtain ⟨x0, x1, x2, x3, x4, x5, x6, x7⟩ := cells8 F9.out
    go_wp2_with fail
    clear x0 x1 x2 x3 x4 x5 x6 x7 F9
    refine (HFP.out w9 (HC.out.below B9.out)).mono ?_
    rintro e w10 ⟨rfl, hb⟩
    have M10 := Aside0.mk (keep hb M9.out)
    have N10 := Aside0.mk (keep hb N9.out)
    have B10 := Aside0.mk (below_step B9.out hb)
    clear hb M9 N9 B9
    go_wp2_with fail
    refine (HFG.out w10 (HC.out.below B10.out)).mono ?_
    rintro e w11 ⟨rfl, hb⟩
    have M11 := Aside0.mk (keep hb M10.out)
    have N11 := Aside0.mk (keep hb N10.out)
    have B11 := Aside0.mk (below_step B10.out hb)
    clear hb M10 N10 B10
    go_wp2_with fail
    have M12 := Aside0.mk (blk_alloc M11.out (.cells #[.int .i64 63, .int .i64 127, .bool true, .int .i64 6, .bool false, .int .i64 0, .int .i64 0, .string S] 38))
    have N12 := Aside0.mk (blk_alloc N11.out (.cells #[.int .i64 63, .int .i64 127, .bool true, .int .i64 6, .bool false, .int .i64 0, .int .i64 0, .string S] 38))
    have F12 := Aside0.mk (blk_new w11 (.cells #[.int .i64 63, .int .i64 127, .bool true, .int .i64 6, .bool false, .int .i64 0, .int .i64 0, .string S] 38))
    have B12 : Aside0 (Below w.heap.size w (w11.alloc (.cells #[.int .i64 63, .int .i64 127, .bool true, .int .i64 6, .bool false, .int .i64 0, .int .i64 0, .string S] 38))) := ⟨B11.out.alloc B11.out.size _⟩
    clear M11 N11 B11
    generalize w11.alloc (.cells #[.int .i64 63, .int .i64 127, .bool true, .int .i64 6, .bool false, .int .i64 0, .int .i64 0, .string S] 38) = w12 at M12 N12 F12 B12 ⊢
    generalize w11.heap.size = g13 at F12 ⊢
    refine (HOF1.out w12 (Go.Proofs.YtmgiolpooamkkaaDoorX.Laid_below HL.out B12.out)).mono ?_
    rintro e w13 ⟨rfl, hb⟩
    have M13 := Aside0.mk (keep hb M12.out)
    have N13 := Aside0.mk (keep hb N12.out)
    have F13 := Aside0.mk (keep hb F12.out)
    have B13 := Aside0.mk (below_step B12.out hb)
    clear hb M12 N12 F12 B12
    obtain ⟨x0, x1, x2, x3, x4, x5, x6, x7⟩ := cells8 (blk_alloc F13.out (.cells #[.int .i64 t, .int .i64 r, .int .i64 a] 29))
    go_wp2_with fail
    clear x0 x1 x2 x3 x4 x5 x6 x7 F13
    have M14 := Aside0.mk (blk_alloc M13.out (.cells #[.int .i64 t, .int .i64 r, .int .i64 a] 29))
    have N14 := Aside0.mk (blk_alloc N13.out (.cells #[.int .i64 t, .int .i64 r, .int .i64 a] 29))
    have O14 := Aside0.mk (blk_new w13 (.cells #[.int .i64 t, .int .i64 r, .int .i64 a] 29))
    have B14 : Aside0 (Below w.heap.size w (w13.alloc (.cells #[.int .i64 t, .int .i64 r, .int .i64 a] 29))) := ⟨B13.out.alloc B13.out.size _⟩
    clear M13 N13 B13
    generalize w13.alloc (.cells #[.int .i64 t, .int .i64 r, .int .i64 a] 29) = w14 at M14 N14 O14 B14 ⊢
    generalize w13.heap.size = g15 at O14 ⊢
    refine (HOF2.out w14 (Go.Proofs.YtmgiolpooamkkaaDoorX.Laid_below HL.out B14.out)).mono ?_
    rintro e w15 ⟨rfl, hb⟩
    have M15 := Aside0.mk (keep hb M14.out)
    have N15 := Aside0.mk (keep hb N14.out)
    have O15 := Aside0.mk (keep hb O14.out)
    have B15 := Aside0.mk (below_step B14.out hb)
    clear hb M14 N14 O14 B14
    obtain ⟨a0, a1, a2⟩ := cells3 (blk_alloc M15.out (.cells #[.int .i64 0, .int .i64 0, .int .i64 0] 29))
    obtain ⟨b0, b1, b2⟩ := cells3 (blk_alloc N15.out (.cells #[.int .i64 0, .int .i64 0, .int .i64 0] 29))
    obtain ⟨c0, c1, c2⟩ := cells3 (blk_alloc O15.out (.cells #[.int .i64 0, .int .i64 0, .int .i64 0] 29))
    go_wp2
    go_ret
    exact ⟨rfl, B15.out.alloc B15.out.size _⟩
  · have hpt : putT t r a = (⟨#[]⟩, (putT t r a).2) := by
      unfold putT at hok ⊢
      split
      · rfl
      · rename_i h1
        rw [if_neg h1] at hok
        split
        · rfl
        · rename_i h2
          rw [if_neg h2] at hok
          split
          · rename_i h3
            rw [if_pos h3] at hok
            exact absurd rfl hok
          · rfl
    generalize (putT t r a).2 = e0 at hok hpt
    have hput := fun v => teimsg_Put.calls 10 t r a ⟨#[]⟩ e0 v (by rw [put_eq 10 (by decide), hpt])
    have HPUT := Aside0.mk hput
    have he0 : (e0 == 0) = false := by rw [beq_eq_false_iff_ne]; exact hok
    clear hput hpt
    go_enter Tryd.func6, Tryd.ntmps6
    go_wp2_with fail
    have B0 : Aside0 (Below w.heap.size w (w.alloc (.cells #[.int .i64 t, .int .i64 r, .int .i64 a] 23))) := ⟨(Below.refl _ w).alloc (Nat.le_refl _) _⟩
    generalize w.alloc (.cells #[.int .i64 t, .int .i64 r, .int .i64 a] 23) = w0 at B0 ⊢
    refine (HMD.out w0).mono ?_
    rintro e w1 ⟨rfl, hb⟩
    have B1 := Aside0.mk (below_step B0.out hb)
    clear hb B0
    go_wp2_with fail
    have B2 : Aside0 (Below w.heap.size w (w1.alloc (.cells #[.int .i64 t, .int .i64 r, .int .i64 a] 29))) := ⟨B1.out.alloc B1.out.size _⟩
    generalize w1.alloc (.cells #[.int .i64 t, .int .i64 r, .int .i64 a] 29) = w2 at B2 ⊢
    clear B1
    refine (HPUT.out w2).mono ?_
    rintro e w3 ⟨rfl, hb⟩
    have B3 := Aside0.mk (below_step B2.out hb)
    clear hb B2
    go_wp2_with fail
    refine (HWK.out w3).mono ?_
    rintro e w4 ⟨rfl, hb⟩
    have B4 := Aside0.mk (below_step B3.out hb)
    clear hb B3
    go_wp2_with fail
    refine (HWK.out w4).mono ?_
    rintro e w5 ⟨rfl, hb⟩
    have B5 := Aside0.mk (below_step B4.out hb)
    clear hb B4
    go_wp2
    go_ret
    exact ⟨rfl, B5.out⟩
theorem TeimsgBack (a0_0 a0_1 a0_2 : Int) (w : World) (hL : Go.Proofs.YtmgiolpooamkkaaDoorX.LaidB w) (h0 : (Lit.int .i64 a0_0).wf = true) (h1 : (Lit.int .i64 a0_1).wf = true) (h2 : (Lit.int .i64 a0_2).wf = true) :
    Calls Tryd.prog 6 #[.agg #[.int .i64 a0_0, .int .i64 a0_1, .int .i64 a0_2]] w fun e w' => e = .returned (.bool true) ∧ Below w.heap.size w w' :=
  backW a0_0 a0_1 a0_2 w hL.1 hL.2
end Go.Proofs.YtmgiolpooamkkaaDoor.Wk
