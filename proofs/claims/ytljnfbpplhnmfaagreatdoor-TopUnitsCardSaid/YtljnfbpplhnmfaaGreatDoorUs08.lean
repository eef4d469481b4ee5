/- queue.Done by its own text. Package flow by its own text: Ack. Conditions: sizes. -/
import Derived.Test.YtljnfbpplhnmfaaGreatDoorUs02
import Derived.Test.YtljnfbpplhnmfaaGreatDoorUs03
namespace Go.Proofs.YtljnfbpplhnmfaaGreatDoor.Qu
open Go Go.RowKit Go.Proofs.YtljnfbpplhnmfaaGreatDoorW.PrintWords Go.Proofs.YtljnfbpplhnmfaaGreatDoorW.PrintLast Go.Proofs.YtljnfbpplhnmfaaGreatDoorW.PrintMore Go.Proofs.YtljnfbpplhnmfaaGreatDoor.Str Go.Proofs.YtljnfbpplhnmfaaGreatDoor.Mp Go.Proofs.YtljnfbpplhnmfaaGreatDoor.Ra Go.Proofs.YtljnfbpplhnmfaaGreatDoor.Sl Go.Proofs.YtljnfbpplhnmfaaGreatDoor.Md
set_option linter.unusedVariables false
theorem row_cut {P : Program} {e : TypeId} {size n : Nat} {v v' : Value} {xs : List Value} {T : Nat → Prop} {w : World} (t : TypeId) (i : TypeInfo) (ht : P.underlying t = some (.slice e)) (hi : P.info? e = some i) (hsize : i.size = size) (k : Nat) (hk : k ≤ n)
    (h : (row e size v n xs).h T w) (hcut : ∀ w0 : World, (Instr.slice t v (some (.int .i64 k)) (some (.int .i64 n)) (some (.int .i64 n))).run P w0 = .ok v' w0) : Went (row e size v' (n - k) (xs.drop (k * size))) T w w := by
  obtain ⟨v2, hc2, ho, hob⟩ := run_cut T t i ht hi hsize k hk h.2
  have he : v2 = v' := by
    have h1 := (hc2 w).symm.trans (hcut w)
    injection h1
  subst he
  exact ⟨T, ⟨fun j => (h.1 j).trans (by rw [hob]), ho⟩, Kb.refl _ _, fun _ h => Or.inl h⟩
theorem done_close {b : Nat} {q : Q} {v : Value} {T : Nat → Prop} {w w1 : World} (h : Went (all (qparts b q v)) T w w1) : Went (quAt b q) T w w1 := h.imp fun T1 h1 => ⟨v, h1⟩
set_option maxHeartbeats 20000000 in
set_option maxRecDepth 100000 in
theorem doneC (b : Nat) (q : Q) (n : Nat) (hn : n ≤ q.sent) (T : Nat → Prop) (w : World) (h : (quAt b q).h T w) :
    Calls Tryz.prog 177 #[.pointer (some ⟨b, 0, none⟩), .int .i64 n] w fun e w' => e = .returned (.bool true) ∧ Went (quAt b { q with list := q.list.drop n, sent := q.sent - n }) T w w' := by
  obtain ⟨A, c, HW, hok, hc, hm, hb⟩ := quAt.opened h
  have HOK := Aside0.mk hok
  have h1 := hok.len
  have h2 := hok.sent
  have HW := Aside0.mk HW
  have HWd := Aside0.mk HW.out.drew
  obtain ⟨T3, hr⟩ := HWd.out.get 2 rfl
  obtain ⟨i0, hi0, hz0, hz1, hz2⟩ := info_parts infoStr
  obtain ⟨v', hcut, hown, hob⟩ := run_cut (P := Tryz.prog) T3 30 i0 Tryz.underlying30 hi0 hz1 n (by omega) hr.2
  obtain ⟨A2, k2, rfl, _, _⟩ := hown.shape
  have HR := Aside0.mk hr
  have HI := Aside0.mk hi0
  have HZ := Aside0.mk hz1
  obtain ⟨c0, c1, c2, f0, f1, f2⟩ := cells3 (HW.out.heap 1 rfl)
  have hn0 : ¬ (n : Int) < 0 := by omega
  have hns : ¬ (q.sent : Int) < (n : Int) := by omega
  have hw2 : IntKind.i64.wrap ((q.sent : Int) - n) = ((q.sent - n : Nat) : Int) := by rw [IntKind.wrap_i64]; omega
  have HF : Aside0 (Went (all (qparts b { most := q.most, list := q.list.drop n, sent := q.sent - n } (.slice A2 (q.list.length - n) k2))) T w ((w.drew.setCell ⟨b, 1, none⟩ (.slice A2 (q.list.length - n) k2)).setCell ⟨b, 2, none⟩ (.int .i64 ((q.sent - n : Nat) : Int)))) := ⟨by
    have h3 := (((HW.out.drew.set 1 rfl 1 (.slice A2 (q.list.length - n) k2)).set 1 rfl 2 (.int .i64 ((q.sent - n : Nat) : Int))).at_ 2 rfl (fun T1 h1 => row_cut (n := q.list.length) 30 i0 Tryz.underlying30 HI.out HZ.out n (by omega) h1 hcut)).at_ 0 rfl (B := fact (QOk { most := q.most, list := q.list.drop n, sent := q.sent - n })) fun T1 h1 => Went.refl ⟨h1.1, HOK.out.most, by simp; have := HOK.out.len; omega, by simp; have := HOK.out.sent; omega, fun s hs => HOK.out.sizes s (List.mem_of_mem_drop hs)⟩
    rw [show q.list.length - n = (q.list.drop n).length from by simp] at h3 ⊢
    refine h3.same ?_
    simp [qparts, srow, strs]⟩
  have HF2 : Aside0 (Went (all (qparts b { most := q.most, list := q.list.drop n, sent := q.sent - n } (.slice A2 (q.list.length - n) k2))) T w ((w.setCell ⟨b, 1, none⟩ (.slice A2 (q.list.length - n) k2)).setCell ⟨b, 2, none⟩ (.int .i64 ((q.sent - n : Nat) : Int))).drew) := ⟨HF.out⟩
  clear h hok hb hr hown hob hi0 hz0 hz1 hz2
  go_enter Tryz.func177, Tryz.ntmps177
  go_wp2_with fail
  go_region_law (fail)
  all_goals
    go_wp2
    go_ret
    first
      | exact ⟨rfl, done_close HF2.out⟩
      | (rw [hw2]; exact ⟨rfl, done_close HF2.out⟩)
      | exact ⟨rfl, done_close HF.out⟩
end Go.Proofs.YtljnfbpplhnmfaaGreatDoor.Qu
namespace Go.Proofs.YtljnfbpplhnmfaaGreatDoor.Fl
open Go Go.RowKit Go.Proofs.YtljnfbpplhnmfaaGreatDoorW.PrintWords Go.Proofs.YtljnfbpplhnmfaaGreatDoorW.PrintLast Go.Proofs.YtljnfbpplhnmfaaGreatDoorW.PrintMore Go.Proofs.YtljnfbpplhnmfaaGreatDoor.Str Go.Proofs.YtljnfbpplhnmfaaGreatDoor.Mp Go.Proofs.YtljnfbpplhnmfaaGreatDoor.Ra Go.Proofs.YtljnfbpplhnmfaaGreatDoor.Sl Go.Proofs.YtljnfbpplhnmfaaGreatDoor.Qu Go.Proofs.YtljnfbpplhnmfaaGreatDoor.Sq Go.Proofs.YtljnfbpplhnmfaaGreatDoor.Md
set_option linter.unusedVariables false
theorem ackN_le {f : F} {nr : Int} (h : FOk f) (ha : ackOk f nr) : (ackN f nr : Int) = (nr - f.va) % 128 ∧ ackN f nr ≤ f.q.sent := by
  have h1 := h.win
  unfold ackOk at ha
  unfold ackN
  omega
set_option maxRecDepth 1000000 in
theorem ackC (b : Nat) (f : F) (nr : Int) (T : Nat → Prop) (w : World) (h : (flAt b f).h T w) :
    Calls Tryz.prog 157 #[.pointer (some ⟨b, 0, none⟩), .int .i64 nr] w fun e w' => e = .returned (if ackOk f nr then .tuple #[.int .i64 (ackN f nr : Int), .int .i64 0] else .tuple #[.int .i64 0, .int .i64 2]) ∧ Went (flAt b (if ackOk f nr then ackF f nr else f)) T w w' := by
  obtain ⟨qb, HW, hok⟩ := flAt.opened h
  have HOK := Aside0.mk hok
  obtain ⟨⟨c0, c1, c2, c3, c4, c5, c6, c7⟩, f0, f1, f2, f3, f4, f5⟩ := cells8 (HW.heap 1 rfl)
  have HV : Aside0 (∀ m, Calls Tryz.prog 175 #[.int .i64 f.va, .int .i64 nr, .int .i64 f.vs] (w.drewN m) fun e w' => e = .returned (.bool (decide (ackOk f nr))) ∧ w' = w.drewN m) := ⟨fun m => (validC f.va nr f.vs (w.drewN m)).mono (fun e w' h => ⟨h.1, h.2.symm⟩)⟩
  have HH := Aside0.mk h
  have HW := Aside0.mk HW
  clear h hok
  by_cases ha : ackOk f nr
  · rw [if_pos ha, if_pos ha]
    obtain ⟨hn, hle⟩ := ackN_le HOK.out ha
    obtain ⟨n, hnn⟩ : ∃ n, ackN f nr = n := ⟨_, rfl⟩
    have HF : Aside0 (ackF f nr = { f with va := nr % 128, q := { f.q with list := f.q.list.drop n, sent := f.q.sent - n } }) := ⟨by unfold ackF; rw [hnn]⟩
    rw [hnn] at hn hle ⊢
    have HV2 := HV.out
    rw [decide_eq_true ha] at HV2
    have HV3 := Aside0.mk HV2
    have hn' := Aside0.mk hn
    have HLE := Aside0.mk hle
    clear ha HV HV2 hn hnn hle
    go_enter Tryz.func157, Tryz.ntmps157
    go_wp2_with fail
    go_quiet ((go_at_call 175; refine Calls.quiet_of_same (HV3.out _)))
    have HW1 := Aside0.mk (HW.out.drewN nq)
    obtain ⟨⟨c0, c1, c2, c3, c4, c5, c6, c7⟩, f0, f1, f2, f3, f4, f5⟩ := cells8 (HW1.out.heap 1 rfl)
    generalize w.drewN nq = w1 at *
    go_wp2_with fail
    refine (subC nr f.va w1).mono ?_
    rintro e w2 ⟨rfl, rfl⟩
    rw [← hn'.out]
    have HC := Aside0.mk (HW1.out.call_at 2 rfl (fun T1 h1 => Qu.doneC qb f.q n HLE.out T1 _ h1))
    go_wp2_with fail
    refine HC.out.mono ?_
    rintro e w3 ⟨rfl, hw⟩
    have HW2 := Aside0.mk hw
    obtain ⟨⟨c0, c1, c2, c3, c4, c5, c6, c7⟩, f0, f1, f2, f3, f4, f5⟩ := cells8 (hw.heap 1 rfl)
    clear hw HC
    go_wp2_with fail
    refine (normC nr w3).mono ?_
    rintro e w4 ⟨rfl, rfl⟩
    go_wp2
    go_ret2
    refine ⟨rfl, ?_⟩
    rw [HF.out]
    exact flAt.close (f := { f with va := nr % 128, q := { f.q with list := f.q.list.drop n, sent := f.q.sent - n } }) (HW2.out.set 1 rfl 1 (.int .i64 (nr % 128))) ⟨HOK.out.vs, by show 0 ≤ nr % 128 ∧ nr % 128 < 128; omega, HOK.out.vr, by
      have h1 := hn'.out; have h2 := HLE.out; have h3 := HOK.out.win; have h4 := HOK.out.vs; have h5 := HOK.out.va; show (f.vs - nr % 128) % 128 = ((f.q.sent - n : Nat) : Int); omega⟩
  · rw [if_neg ha, if_neg ha]
    have HV2 := HV.out
    rw [decide_eq_false ha] at HV2
    have HV3 := Aside0.mk HV2
    clear ha HV HV2
    go_enter Tryz.func157, Tryz.ntmps157
    go_wp2_with fail
    go_quiet ((go_at_call 175; refine Calls.quiet_of_same (HV3.out _)))
    go_wp2
    go_ret2
    exact ⟨rfl, (Went.refl HH.out).drewN nq⟩
end Go.Proofs.YtljnfbpplhnmfaaGreatDoor.Fl
