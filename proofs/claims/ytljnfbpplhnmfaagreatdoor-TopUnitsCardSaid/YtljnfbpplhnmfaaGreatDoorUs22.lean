/- Both ends of a link, in memory: the timers are over. Conditions: sizes. Both ends of a link, in memory: all settles. Conditions: sizes. Both ends of a link, in memory: an act. Conditions: sizes. Package fcs by its own text: what was sealed is found right. No condition but sizes. -/
import Derived.Lib.MinMax
import Derived.Test.YtljnfbpplhnmfaaGreatDoorProg
import Derived.WalkKit
import Derived.BigCall
import Derived.Lib.Builder
import Derived.Test.YtljnfbpplhnmfaaGreatDoorUs02
import Derived.Test.YtljnfbpplhnmfaaGreatDoorUs21
namespace Go.Proofs.YtljnfbpplhnmfaaGreatDoor.Pa
open Go Go.RowKit Go.Proofs.YtljnfbpplhnmfaaGreatDoorW.PrintWords Go.Proofs.YtljnfbpplhnmfaaGreatDoorW.PrintLast Go.Proofs.YtljnfbpplhnmfaaGreatDoorW.PrintMore Go.Proofs.YtljnfbpplhnmfaaGreatDoor.Str Go.Proofs.YtljnfbpplhnmfaaGreatDoor.Mp Go.Proofs.YtljnfbpplhnmfaaGreatDoor.Ra Go.Proofs.YtljnfbpplhnmfaaGreatDoor.Sl Go.Proofs.YtljnfbpplhnmfaaGreatDoor.Qu Go.Proofs.YtljnfbpplhnmfaaGreatDoor.Ru Go.Proofs.YtljnfbpplhnmfaaGreatDoor.Md
open Go.Proofs.YtljnfbpplhnmfaaGreatDoor.En (frCells efCells efs efs_app efs_one orow entAt)
set_option linter.unusedVariables false
set_option linter.unusedSimpArgs false
set_option maxRecDepth 1000000
set_option maxHeartbeats 8000000
theorem over0C (I : PI) (c : Nat) (p : Pr) (hc : c + 1000 ≤ 100000000000) (T : Nat → Prop) (w0 w : World) (h : Went (pairAt I c p) T w0 w) :
    Calls Tryz.prog 32 #[.pointer (some ⟨I.g, 0, none⟩), .int .i64 0] w fun r w' => r = .returned (.tuple #[]) ∧ Went (pairAt I (c + 1000) (overP false p)) T w0 w' := by
  have HH := Aside0.mk h
  have HC0 := Aside0.mk hc
  obtain ⟨A0, c0, A1, c1, A2, c2, A3, c3, A4, c4, A5, c5, A6, c6, A7, c7, A8, c8, A9, c9, HO1, hok⟩ := pairAt.opened h
  have HO := Aside0.mk HO1
  have HOK := Aside0.mk hok
  obtain ⟨cr0, cf0⟩ := cellAt (HO1.heap 1 rfl) 2 (.slice A0 p.a.way.length c0) rfl
  obtain ⟨cr1, cf1⟩ := cellAt (HO1.heap 1 rfl) 3 (.slice A1 p.b.way.length c1) rfl
  by_cases hq : quiet p
  · obtain ⟨hqa, hqb⟩ := hq
    have HQP : Aside0 (quiet p) := ⟨⟨hqa, hqb⟩⟩
    rw [hqa] at cr0
    rw [hqb] at cr1
    simp only [List.length_nil] at cr0 cr1
    obtain ⟨ce0, cfe0⟩ := cellAt (HO1.heap 1 rfl) 0 (.pointer (some ⟨I.b0, 0, none⟩)) rfl
    clear h hc HO1 hok hqa hqb
    go_enter Tryz.func32, Tryz.ntmps32
    go_wp2_with fail
    go_quiet (fail)
    have HO0 := Aside0.mk (HO.out.drewN nq)
    have HH0 := Aside0.mk (HH.out.drewN nq)
    clear HO HH ce0 cfe0 cr0 cf0 cr1 cf1
    generalize w.drewN nq = wq at *
    obtain ⟨ce0, cfe0⟩ := cellAt (HO0.out.heap 1 rfl) 0 (.pointer (some ⟨I.b0, 0, none⟩)) rfl
    have HV : Aside0 (Calls Tryz.prog 13 #[.pointer (some ⟨I.b0, 0, none⟩)] wq fun r w' => r = .returned (.agg (En.viewOf p.a.e)) ∧ Below wq.heap.size wq w') := ⟨by
      obtain ⟨T1, h1⟩ := HO0.out.get 2 rfl
      exact En.eviewC I.b0 I.m0 I.f0 p.a.e T1 wq wq (Went.refl h1)⟩
    go_wp2_with fail
    refine HV.out.mono ?_
    rintro r w1 ⟨rfl, hb⟩
    have HO2 := Aside0.mk ((HO0.out.below hb).alloc (.cells (En.viewOf p.a.e) 49 (0, 0)))
    have HHA := Aside0.mk ((HH0.out.below hb).alloc (.cells (En.viewOf p.a.e) 49 (0, 0)))
    have hbx := heap_alloc_new w1 (.cells (En.viewOf p.a.e) 49 (0, 0))
    clear ce0 cfe0 HV hb HO0 HH0
    obtain ⟨ce0, cfe0⟩ := cellAt (HO2.out.heap 1 rfl) 0 (.pointer (some ⟨I.b0, 0, none⟩)) rfl
    obtain ⟨b4, _⟩ := cellAt hbx 4 (.bool p.a.e.r200) rfl
    obtain ⟨b5, _⟩ := cellAt hbx 5 (.bool p.a.e.r203) rfl
    obtain ⟨z2, HZ2⟩ : ∃ z, Aside0 (p.a.e.r200 = z) := ⟨_, ⟨rfl⟩⟩
    obtain ⟨z3, HZ3⟩ : ∃ z, Aside0 (p.a.e.r203 = z) := ⟨_, ⟨rfl⟩⟩
    rw [HZ2.out] at b4
    rw [HZ3.out] at b5
    unfold En.viewOf at hbx b4 b5 HO2 HHA ce0 cfe0 ⊢
    clear hbx
    cases z2 with
    | true =>
      obtain ⟨_, he⟩ := HO2.out.get 2 rfl
      obtain ⟨hgo, _⟩ := go_of he HOK.out.a.out
      have hg := go_over200 hgo
      obtain ⟨e2, HE2⟩ : ∃ e2, Aside0 (over200 p.a.e = e2) := ⟨_, ⟨rfl⟩⟩
      have HG : Aside0 (GO 800 e2) := ⟨by rw [← HE2.out]; exact hg.mono (by omega)⟩
      have HZ : Aside0 (p.a.e.out.length ≤ 6900) := ⟨by rw [HOK.out.a.out]; exact Nat.zero_le _⟩
      obtain ⟨q2, HQ2⟩ : ∃ q2 : Pr, Aside0 (({ p with a := { p.a with e := emptied e2 } } : Pr) = q2) := ⟨_, ⟨rfl⟩⟩
      obtain ⟨l2, HLL⟩ : ∃ l2, Aside0 (e2.out = l2) := ⟨_, ⟨rfl⟩⟩
      have HB : Aside0 (l2.length ≤ 800 ∧ ∀ x ∈ l2, x.kind = 0 → FrOk x.fr) := ⟨by rw [← HLL.out]; exact ⟨HG.out.len, HG.out.fr⟩⟩
      have HE : Aside0 (overP false p = effs false q2 l2) := ⟨by
        rw [← HQ2.out, ← HLL.out, ← HE2.out]
        unfold overP
        rw [if_pos HQP.out]
        rw [if_pos (show (p.at false).e.r200 = true from HZ2.out)]
        rfl⟩
      clear he hgo hg
      go_wp2_with fail
      generalize w1.alloc (.cells #[.int .i64 p.a.e.state, .int .i64 70, .int .i64 p.a.e.tries, .bool p.a.e.asked, .bool p.a.e.r200, .bool p.a.e.r203, .int .i64 0, .int .i64 p.a.e.fl.vs, .int .i64 p.a.e.fl.va, .int .i64 p.a.e.fl.vr, .bool p.a.e.fl.peer, .bool p.a.e.fl.own, .bool p.a.e.fl.ref, .int .i64 p.a.e.fl.q.sent, .int .i64 ((p.a.e.fl.q.list.length : Int) - p.a.e.fl.q.sent)] 49 (0, 0)) = w4 at *
      have HCL4 : Aside0 (Calls Tryz.prog 54 #[.pointer (some ⟨I.b0, 0, none⟩), .int .i64 200] w4 fun r w2 => ∃ v, r = .returned v ∧ Went (all [orow v l2, pairAt I c q2]) T w0 w2) := ⟨by
        have hcl := HO2.out.call_ex 2 rfl (fun T1 h1 => En.timeout200C I.b0 I.m0 I.f0 p.a.e HZ2.out HZ.out T1 _ _ (Went.refl h1))
        rw [HE2.out] at hcl
        exact hcl.mono fun r w2 ⟨v, hr, hw2⟩ => ⟨v, hr, by
          have hq := taken0 hw2 HOK.out rfl
          rw [HQ2.out, HLL.out] at hq
          exact hq⟩⟩
      clear HHA HO2 b4 b5
      refine HCL4.out.mono ?_
      rintro r w2 ⟨v, rfl, hw2⟩
      have HP := Aside0.mk hw2
      clear hw2
      go_wp2_with fail
      refine (effects0C I c _ _ l2 (Nat.le_trans HB.out.1 (by decide)) (by have := HC0.out; have := HB.out.1; omega) HB.out.2 T w0 _ HP.out).mono ?_
      rintro r w9 ⟨rfl, hw9⟩
      have HW9 := Aside0.mk hw9
      clear hw9 HP
      go_wp2
      go_end0
      refine ⟨rfl, ?_⟩
      rw [HE.out]
      exact grow1 HW9.out (by have := HB.out.1; omega) HC0.out
    | false =>
      cases z3 with
      | true =>
        obtain ⟨_, he⟩ := HO2.out.get 2 rfl
        obtain ⟨hgo, _⟩ := go_of he HOK.out.a.out
        have hg := go_over203 hgo
        obtain ⟨e2, HE2⟩ : ∃ e2, Aside0 (over203 p.a.e = e2) := ⟨_, ⟨rfl⟩⟩
        have HG : Aside0 (GO 800 e2) := ⟨by rw [← HE2.out]; exact hg.mono (by omega)⟩
        have HZ : Aside0 (p.a.e.out.length ≤ 6900) := ⟨by rw [HOK.out.a.out]; exact Nat.zero_le _⟩
        obtain ⟨q2, HQ2⟩ : ∃ q2 : Pr, Aside0 (({ p with a := { p.a with e := emptied e2 } } : Pr) = q2) := ⟨_, ⟨rfl⟩⟩
        obtain ⟨l2, HLL⟩ : ∃ l2, Aside0 (e2.out = l2) := ⟨_, ⟨rfl⟩⟩
        have HB : Aside0 (l2.length ≤ 800 ∧ ∀ x ∈ l2, x.kind = 0 → FrOk x.fr) := ⟨by rw [← HLL.out]; exact ⟨HG.out.len, HG.out.fr⟩⟩
        have HE : Aside0 (overP false p = effs false q2 l2) := ⟨by
          rw [← HQ2.out, ← HLL.out, ← HE2.out]
          unfold overP
          rw [if_pos HQP.out]
          rw [if_neg (show ¬ (p.at false).e.r200 = true from by rw [show (p.at false).e.r200 = false from HZ2.out]; decide), if_pos (show (p.at false).e.r203 = true from HZ3.out)]
          rfl⟩
        clear he hgo hg
        go_wp2_with fail
        generalize w1.alloc (.cells #[.int .i64 p.a.e.state, .int .i64 70, .int .i64 p.a.e.tries, .bool p.a.e.asked, .bool p.a.e.r200, .bool p.a.e.r203, .int .i64 0, .int .i64 p.a.e.fl.vs, .int .i64 p.a.e.fl.va, .int .i64 p.a.e.fl.vr, .bool p.a.e.fl.peer, .bool p.a.e.fl.own, .bool p.a.e.fl.ref, .int .i64 p.a.e.fl.q.sent, .int .i64 ((p.a.e.fl.q.list.length : Int) - p.a.e.fl.q.sent)] 49 (0, 0)) = w4 at *
        have HCL4 : Aside0 (Calls Tryz.prog 54 #[.pointer (some ⟨I.b0, 0, none⟩), .int .i64 203] w4 fun r w2 => ∃ v, r = .returned v ∧ Went (all [orow v l2, pairAt I c q2]) T w0 w2) := ⟨by
          have hcl := HO2.out.call_ex 2 rfl (fun T1 h1 => En.timeout203C I.b0 I.m0 I.f0 p.a.e HZ3.out HZ.out T1 _ _ (Went.refl h1))
          rw [HE2.out] at hcl
          exact hcl.mono fun r w2 ⟨v, hr, hw2⟩ => ⟨v, hr, by
            have hq := taken0 hw2 HOK.out rfl
            rw [HQ2.out, HLL.out] at hq
            exact hq⟩⟩
        clear HHA HO2 b4 b5
        refine HCL4.out.mono ?_
        rintro r w2 ⟨v, rfl, hw2⟩
        have HP := Aside0.mk hw2
        clear hw2
        go_wp2_with fail
        refine (effects0C I c _ _ l2 (Nat.le_trans HB.out.1 (by decide)) (by have := HC0.out; have := HB.out.1; omega) HB.out.2 T w0 _ HP.out).mono ?_
        rintro r w9 ⟨rfl, hw9⟩
        have HW9 := Aside0.mk hw9
        clear hw9 HP
        go_wp2
        go_end0
        refine ⟨rfl, ?_⟩
        rw [HE.out]
        exact grow1 HW9.out (by have := HB.out.1; omega) HC0.out
      | false =>
        have HE : Aside0 (overP false p = p) := ⟨by
          unfold overP
          rw [if_pos HQP.out, if_neg (show ¬ (p.at false).e.r200 = true from by rw [show (p.at false).e.r200 = false from HZ2.out]; decide), if_neg (show ¬ (p.at false).e.r203 = true from by rw [show (p.at false).e.r203 = false from HZ3.out]; decide)]⟩
        clear HO2
        go_wp2
        go_end0
        refine ⟨rfl, ?_⟩
        rw [HE.out]
        exact growP HHA.out (by omega) HC0.out
  · have HE : Aside0 (overP false p = p) := ⟨by unfold overP; rw [if_neg hq]⟩
    have hne : ¬ (p.a.way.length + p.b.way.length = 0) := fun h0 => hq ⟨List.eq_nil_of_length_eq_zero (by omega), List.eq_nil_of_length_eq_zero (by omega)⟩
    have hla := Nat.le_trans hok.a.way hok.cap
    have hlb := Nat.le_trans hok.b.way hok.cap
    generalize p.a.way.length = n0 at cr0 hne hla
    generalize p.b.way.length = n1 at cr1 hne hlb
    have hz : ((n0 : Int) + n1 == 0) = false := by rw [beq_eq_false_iff_ne]; omega
    have hwr : IntKind.i64.wrap ((n0 : Int) + n1) = (n0 : Int) + n1 := by simp [IntKind.wrap, IntKind.bits, IntKind.signed]; omega
    clear h hc HO1 hok hq HO hne
    go_enter Tryz.func32, Tryz.ntmps32
    go_wp2_with fail
    go_quiet (fail)
    have HH0 := Aside0.mk (HH.out.drewN nq)
    generalize w.drewN nq = wq at *
    go_wp2
    go_end0
    refine ⟨rfl, ?_⟩
    rw [HE.out]
    exact growP HH0.out (by omega) HC0.out
theorem over1C (I : PI) (c : Nat) (p : Pr) (hc : c + 1000 ≤ 100000000000) (T : Nat → Prop) (w0 w : World) (h : Went (pairAt I c p) T w0 w) :
    Calls Tryz.prog 32 #[.pointer (some ⟨I.g, 0, none⟩), .int .i64 1] w fun r w' => r = .returned (.tuple #[]) ∧ Went (pairAt I (c + 1000) (overP true p)) T w0 w' := by
  have HH := Aside0.mk h
  have HC0 := Aside0.mk hc
  obtain ⟨A0, c0, A1, c1, A2, c2, A3, c3, A4, c4, A5, c5, A6, c6, A7, c7, A8, c8, A9, c9, HO1, hok⟩ := pairAt.opened h
  have HO := Aside0.mk HO1
  have HOK := Aside0.mk hok
  obtain ⟨cr0, cf0⟩ := cellAt (HO1.heap 1 rfl) 2 (.slice A0 p.a.way.length c0) rfl
  obtain ⟨cr1, cf1⟩ := cellAt (HO1.heap 1 rfl) 3 (.slice A1 p.b.way.length c1) rfl
  by_cases hq : quiet p
  · obtain ⟨hqa, hqb⟩ := hq
    have HQP : Aside0 (quiet p) := ⟨⟨hqa, hqb⟩⟩
    rw [hqa] at cr0
    rw [hqb] at cr1
    simp only [List.length_nil] at cr0 cr1
    obtain ⟨ce0, cfe0⟩ := cellAt (HO1.heap 1 rfl) 1 (.pointer (some ⟨I.b1, 0, none⟩)) rfl
    clear h hc HO1 hok hqa hqb
    go_enter Tryz.func32, Tryz.ntmps32
    go_wp2_with fail
    go_quiet (fail)
    have HO0 := Aside0.mk (HO.out.drewN nq)
    have HH0 := Aside0.mk (HH.out.drewN nq)
    clear HO HH ce0 cfe0 cr0 cf0 cr1 cf1
    generalize w.drewN nq = wq at *
    obtain ⟨ce0, cfe0⟩ := cellAt (HO0.out.heap 1 rfl) 1 (.pointer (some ⟨I.b1, 0, none⟩)) rfl
    have HV : Aside0 (Calls Tryz.prog 13 #[.pointer (some ⟨I.b1, 0, none⟩)] wq fun r w' => r = .returned (.agg (En.viewOf p.b.e)) ∧ Below wq.heap.size wq w') := ⟨by
      obtain ⟨T1, h1⟩ := HO0.out.get 3 rfl
      exact En.eviewC I.b1 I.m1 I.f1 p.b.e T1 wq wq (Went.refl h1)⟩
    go_wp2_with fail
    refine HV.out.mono ?_
    rintro r w1 ⟨rfl, hb⟩
    have HO2 := Aside0.mk ((HO0.out.below hb).alloc (.cells (En.viewOf p.b.e) 49 (0, 0)))
    have HHA := Aside0.mk ((HH0.out.below hb).alloc (.cells (En.viewOf p.b.e) 49 (0, 0)))
    have hbx := heap_alloc_new w1 (.cells (En.viewOf p.b.e) 49 (0, 0))
    clear ce0 cfe0 HV hb HO0 HH0
    obtain ⟨ce0, cfe0⟩ := cellAt (HO2.out.heap 1 rfl) 1 (.pointer (some ⟨I.b1, 0, none⟩)) rfl
    obtain ⟨b4, _⟩ := cellAt hbx 4 (.bool p.b.e.r200) rfl
    obtain ⟨b5, _⟩ := cellAt hbx 5 (.bool p.b.e.r203) rfl
    obtain ⟨z2, HZ2⟩ : ∃ z, Aside0 (p.b.e.r200 = z) := ⟨_, ⟨rfl⟩⟩
    obtain ⟨z3, HZ3⟩ : ∃ z, Aside0 (p.b.e.r203 = z) := ⟨_, ⟨rfl⟩⟩
    rw [HZ2.out] at b4
    rw [HZ3.out] at b5
    unfold En.viewOf at hbx b4 b5 HO2 HHA ce0 cfe0 ⊢
    clear hbx
    cases z2 with
    | true =>
      obtain ⟨_, he⟩ := HO2.out.get 3 rfl
      obtain ⟨hgo, _⟩ := go_of he HOK.out.b.out
      have hg := go_over200 hgo
      obtain ⟨e2, HE2⟩ : ∃ e2, Aside0 (over200 p.b.e = e2) := ⟨_, ⟨rfl⟩⟩
      have HG : Aside0 (GO 800 e2) := ⟨by rw [← HE2.out]; exact hg.mono (by omega)⟩
      have HZ : Aside0 (p.b.e.out.length ≤ 6900) := ⟨by rw [HOK.out.b.out]; exact Nat.zero_le _⟩
      obtain ⟨q2, HQ2⟩ : ∃ q2 : Pr, Aside0 (({ p with b := { p.b with e := emptied e2 } } : Pr) = q2) := ⟨_, ⟨rfl⟩⟩
      obtain ⟨l2, HLL⟩ : ∃ l2, Aside0 (e2.out = l2) := ⟨_, ⟨rfl⟩⟩
      have HB : Aside0 (l2.length ≤ 800 ∧ ∀ x ∈ l2, x.kind = 0 → FrOk x.fr) := ⟨by rw [← HLL.out]; exact ⟨HG.out.len, HG.out.fr⟩⟩
      have HE : Aside0 (overP true p = effs true q2 l2) := ⟨by
        rw [← HQ2.out, ← HLL.out, ← HE2.out]
        unfold overP
        rw [if_pos HQP.out]
        rw [if_pos (show (p.at true).e.r200 = true from HZ2.out)]
        rfl⟩
      clear he hgo hg
      go_wp2_with fail
      generalize w1.alloc (.cells #[.int .i64 p.b.e.state, .int .i64 70, .int .i64 p.b.e.tries, .bool p.b.e.asked, .bool p.b.e.r200, .bool p.b.e.r203, .int .i64 0, .int .i64 p.b.e.fl.vs, .int .i64 p.b.e.fl.va, .int .i64 p.b.e.fl.vr, .bool p.b.e.fl.peer, .bool p.b.e.fl.own, .bool p.b.e.fl.ref, .int .i64 p.b.e.fl.q.sent, .int .i64 ((p.b.e.fl.q.list.length : Int) - p.b.e.fl.q.sent)] 49 (0, 0)) = w4 at *
      have HCL4 : Aside0 (Calls Tryz.prog 54 #[.pointer (some ⟨I.b1, 0, none⟩), .int .i64 200] w4 fun r w2 => ∃ v, r = .returned v ∧ Went (all [orow v l2, pairAt I c q2]) T w0 w2) := ⟨by
        have hcl := HO2.out.call_ex 3 rfl (fun T1 h1 => En.timeout200C I.b1 I.m1 I.f1 p.b.e HZ2.out HZ.out T1 _ _ (Went.refl h1))
        rw [HE2.out] at hcl
        exact hcl.mono fun r w2 ⟨v, hr, hw2⟩ => ⟨v, hr, by
          have hq := taken1 hw2 HOK.out rfl
          rw [HQ2.out, HLL.out] at hq
          exact hq⟩⟩
      clear HHA HO2 b4 b5
      refine HCL4.out.mono ?_
      rintro r w2 ⟨v, rfl, hw2⟩
      have HP := Aside0.mk hw2
      clear hw2
      go_wp2_with fail
      refine (effects1C I c _ _ l2 (Nat.le_trans HB.out.1 (by decide)) (by have := HC0.out; have := HB.out.1; omega) HB.out.2 T w0 _ HP.out).mono ?_
      rintro r w9 ⟨rfl, hw9⟩
      have HW9 := Aside0.mk hw9
      clear hw9 HP
      go_wp2
      go_end0
      refine ⟨rfl, ?_⟩
      rw [HE.out]
      exact grow1 HW9.out (by have := HB.out.1; omega) HC0.out
    | false =>
      cases z3 with
      | true =>
        obtain ⟨_, he⟩ := HO2.out.get 3 rfl
        obtain ⟨hgo, _⟩ := go_of he HOK.out.b.out
        have hg := go_over203 hgo
        obtain ⟨e2, HE2⟩ : ∃ e2, Aside0 (over203 p.b.e = e2) := ⟨_, ⟨rfl⟩⟩
        have HG : Aside0 (GO 800 e2) := ⟨by rw [← HE2.out]; exact hg.mono (by omega)⟩
        have HZ : Aside0 (p.b.e.out.length ≤ 6900) := ⟨by rw [HOK.out.b.out]; exact Nat.zero_le _⟩
        obtain ⟨q2, HQ2⟩ : ∃ q2 : Pr, Aside0 (({ p with b := { p.b with e := emptied e2 } } : Pr) = q2) := ⟨_, ⟨rfl⟩⟩
        obtain ⟨l2, HLL⟩ : ∃ l2, Aside0 (e2.out = l2) := ⟨_, ⟨rfl⟩⟩
        have HB : Aside0 (l2.length ≤ 800 ∧ ∀ x ∈ l2, x.kind = 0 → FrOk x.fr) := ⟨by rw [← HLL.out]; exact ⟨HG.out.len, HG.out.fr⟩⟩
        have HE : Aside0 (overP true p = effs true q2 l2) := ⟨by
          rw [← HQ2.out, ← HLL.out, ← HE2.out]
          unfold overP
          rw [if_pos HQP.out]
          rw [if_neg (show ¬ (p.at true).e.r200 = true from by rw [show (p.at true).e.r200 = false from HZ2.out]; decide), if_pos (show (p.at true).e.r203 = true from HZ3.out)]
          rfl⟩
        clear he hgo hg
        go_wp2_with fail
        generalize w1.alloc (.cells #[.int .i64 p.b.e.state, .int .i64 70, .int .i64 p.b.e.tries, .bool p.b.e.asked, .bool p.b.e.r200, .bool p.b.e.r203, .int .i64 0, .int .i64 p.b.e.fl.vs, .int .i64 p.b.e.fl.va, .int .i64 p.b.e.fl.vr, .bool p.b.e.fl.peer, .bool p.b.e.fl.own, .bool p.b.e.fl.ref, .int .i64 p.b.e.fl.q.sent, .int .i64 ((p.b.e.fl.q.list.length : Int) - p.b.e.fl.q.sent)] 49 (0, 0)) = w4 at *
        have HCL4 : Aside0 (Calls Tryz.prog 54 #[.pointer (some ⟨I.b1, 0, none⟩), .int .i64 203] w4 fun r w2 => ∃ v, r = .returned v ∧ Went (all [orow v l2, pairAt I c q2]) T w0 w2) := ⟨by
          have hcl := HO2.out.call_ex 3 rfl (fun T1 h1 => En.timeout203C I.b1 I.m1 I.f1 p.b.e HZ3.out HZ.out T1 _ _ (Went.refl h1))
          rw [HE2.out] at hcl
          exact hcl.mono fun r w2 ⟨v, hr, hw2⟩ => ⟨v, hr, by
            have hq := taken1 hw2 HOK.out rfl
            rw [HQ2.out, HLL.out] at hq
            exact hq⟩⟩
        clear HHA HO2 b4 b5
        refine HCL4.out.mono ?_
        rintro r w2 ⟨v, rfl, hw2⟩
        have HP := Aside0.mk hw2
        clear hw2
        go_wp2_with fail
        refine (effects1C I c _ _ l2 (Nat.le_trans HB.out.1 (by decide)) (by have := HC0.out; have := HB.out.1; omega) HB.out.2 T w0 _ HP.out).mono ?_
        rintro r w9 ⟨rfl, hw9⟩
        have HW9 := Aside0.mk hw9
        clear hw9 HP
        go_wp2
        go_end0
        refine ⟨rfl, ?_⟩
        rw [HE.out]
        exact grow1 HW9.out (by have := HB.out.1; omega) HC0.out
      | false =>
        have HE : Aside0 (overP true p = p) := ⟨by
          unfold overP
          rw [if_pos HQP.out, if_neg (show ¬ (p.at true).e.r200 = true from by rw [show (p.at true).e.r200 = false from HZ2.out]; decide), if_neg (show ¬ (p.at true).e.r203 = true from by rw [show (p.at true).e.r203 = false from HZ3.out]; decide)]⟩
        clear HO2
        go_wp2
        go_end0
        refine ⟨rfl, ?_⟩
        rw [HE.out]
        exact growP HHA.out (by omega) HC0.out
  · have HE : Aside0 (overP true p = p) := ⟨by unfold overP; rw [if_neg hq]⟩
    have hne : ¬ (p.a.way.length + p.b.way.length = 0) := fun h0 => hq ⟨List.eq_nil_of_length_eq_zero (by omega), List.eq_nil_of_length_eq_zero (by omega)⟩
    have hla := Nat.le_trans hok.a.way hok.cap
    have hlb := Nat.le_trans hok.b.way hok.cap
    generalize p.a.way.length = n0 at cr0 hne hla
    generalize p.b.way.length = n1 at cr1 hne hlb
    have hz : ((n0 : Int) + n1 == 0) = false := by rw [beq_eq_false_iff_ne]; omega
    have hwr : IntKind.i64.wrap ((n0 : Int) + n1) = (n0 : Int) + n1 := by simp [IntKind.wrap, IntKind.bits, IntKind.signed]; omega
    clear h hc HO1 hok hq HO hne
    go_enter Tryz.func32, Tryz.ntmps32
    go_wp2_with fail
    go_quiet (fail)
    have HH0 := Aside0.mk (HH.out.drewN nq)
    generalize w.drewN nq = wq at *
    go_wp2
    go_end0
    refine ⟨rfl, ?_⟩
    rw [HE.out]
    exact growP HH0.out (by omega) HC0.out
end Go.Proofs.YtljnfbpplhnmfaaGreatDoor.Pa
namespace Go.Proofs.YtljnfbpplhnmfaaGreatDoor.Pa
open Go Go.RowKit Go.Proofs.YtljnfbpplhnmfaaGreatDoorW.PrintWords Go.Proofs.YtljnfbpplhnmfaaGreatDoorW.PrintLast Go.Proofs.YtljnfbpplhnmfaaGreatDoorW.PrintMore Go.Proofs.YtljnfbpplhnmfaaGreatDoor.Str Go.Proofs.YtljnfbpplhnmfaaGreatDoor.Mp Go.Proofs.YtljnfbpplhnmfaaGreatDoor.Ra Go.Proofs.YtljnfbpplhnmfaaGreatDoor.Sl Go.Proofs.YtljnfbpplhnmfaaGreatDoor.Qu Go.Proofs.YtljnfbpplhnmfaaGreatDoor.Ru Go.Proofs.YtljnfbpplhnmfaaGreatDoor.Md
open Go.Proofs.YtljnfbpplhnmfaaGreatDoor.En (frCells efCells efs efs_app efs_one orow entAt)
set_option linter.unusedVariables false
set_option linter.unusedSimpArgs false
set_option maxRecDepth 1000000
set_option maxHeartbeats 8000000
theorem ends_at {I : PI} {c : Nat} {p : Pr} {T : Nat → Prop} {w0 w : World} (h : Went (pairAt I c p) T w0 w) : w.cell? ⟨I.g, 0, none⟩ = some (.pointer (some ⟨I.b0, 0, none⟩)) ∧ w.cell? ⟨I.g, 1, none⟩ = some (.pointer (some ⟨I.b1, 0, none⟩)) ∧ PB c p := by
  obtain ⟨A0, c0, A1, c1, A2, c2, A3, c3, A4, c4, A5, c5, A6, c6, A7, c7, A8, c8, A9, c9, HO1, hok⟩ := pairAt.opened h
  exact ⟨(cellAt (HO1.heap 1 rfl) 0 _ rfl).1, (cellAt (HO1.heap 1 rfl) 1 _ rfl).1, hok⟩
theorem view0C {I : PI} {c : Nat} {p : Pr} {T : Nat → Prop} {w0 w : World} (h : Went (pairAt I c p) T w0 w) :
    Calls Tryz.prog 13 #[.pointer (some ⟨I.b0, 0, none⟩)] w fun r w' => r = .returned (.agg (En.viewOf p.a.e)) ∧ Went (pairAt I c p) T w0 w' := by
  obtain ⟨A0, c0, A1, c1, A2, c2, A3, c3, A4, c4, A5, c5, A6, c6, A7, c7, A8, c8, A9, c9, HO1, hok⟩ := pairAt.opened h
  obtain ⟨T1, h1⟩ := HO1.get 2 rfl
  exact (En.eviewC I.b0 I.m0 I.f0 p.a.e T1 w w (Went.refl h1)).mono fun r w' ⟨a, b⟩ => ⟨a, h.below b⟩
theorem view1C {I : PI} {c : Nat} {p : Pr} {T : Nat → Prop} {w0 w : World} (h : Went (pairAt I c p) T w0 w) :
    Calls Tryz.prog 13 #[.pointer (some ⟨I.b1, 0, none⟩)] w fun r w' => r = .returned (.agg (En.viewOf p.b.e)) ∧ Went (pairAt I c p) T w0 w' := by
  obtain ⟨A0, c0, A1, c1, A2, c2, A3, c3, A4, c4, A5, c5, A6, c6, A7, c7, A8, c8, A9, c9, HO1, hok⟩ := pairAt.opened h
  obtain ⟨T1, h1⟩ := HO1.get 3 rfl
  exact (En.eviewC I.b1 I.m1 I.f1 p.b.e T1 w w (Went.refl h1)).mono fun r w' ⟨a, b⟩ => ⟨a, h.below b⟩
end Go.Proofs.YtljnfbpplhnmfaaGreatDoor.Pa
namespace Go.Proofs.YtljnfbpplhnmfaaGreatDoor.Pa
open Go Go.RowKit Go.Proofs.YtljnfbpplhnmfaaGreatDoorW.PrintWords Go.Proofs.YtljnfbpplhnmfaaGreatDoorW.PrintLast Go.Proofs.YtljnfbpplhnmfaaGreatDoorW.PrintMore Go.Proofs.YtljnfbpplhnmfaaGreatDoor.Str Go.Proofs.YtljnfbpplhnmfaaGreatDoor.Mp Go.Proofs.YtljnfbpplhnmfaaGreatDoor.Ra Go.Proofs.YtljnfbpplhnmfaaGreatDoor.Sl Go.Proofs.YtljnfbpplhnmfaaGreatDoor.Qu Go.Proofs.YtljnfbpplhnmfaaGreatDoor.Ru Go.Proofs.YtljnfbpplhnmfaaGreatDoor.Md
open Go.Proofs.YtljnfbpplhnmfaaGreatDoor.En (frCells efCells efs efs_app efs_one orow entAt)
set_option linter.unusedVariables false
set_option linter.unusedSimpArgs false
set_option maxRecDepth 1000000
set_option maxHeartbeats 8000000
theorem askZ (I : PI) (c : Nat) (p : Pr) (z : Int) (hz : z = 0 ∨ z = 1) (a : Int) (ha : a = 0 ∨ a = 1 ∨ a = 4 ∨ a = 5) (hc : c + 1000 ≤ 100000000000) (T : Nat → Prop) (w0 w : World) (h : Went (pairAt I c p) T w0 w) :
    Calls Tryz.prog 30 #[.pointer (some ⟨I.g, 0, none⟩), .int .i64 z, .int .i64 a] w fun r w' => r = .returned (.tuple #[]) ∧ Went (pairAt I (c + 1000) (askP (decide (z = 1)) p a)) T w0 w' := by
  rcases hz with rfl | rfl <;> rcases ha with rfl | rfl | rfl | rfl
  · exact ask00C I c p hc T w0 w h
  · exact ask01C I c p hc T w0 w h
  · exact ask04C I c p hc T w0 w h
  · exact ask05C I c p hc T w0 w h
  · exact ask10C I c p hc T w0 w h
  · exact ask11C I c p hc T w0 w h
  · exact ask14C I c p hc T w0 w h
  · exact ask15C I c p hc T w0 w h
theorem sendZ (I : PI) (c : Nat) (p : Pr) (z : Int) (hz : z = 0 ∨ z = 1) (a : Int) (ha : a = 2 ∨ a = 3) (hc : c + 1000 ≤ 100000000000) (T : Nat → Prop) (w0 w : World) (h : Went (pairAt I c p) T w0 w) :
    Calls Tryz.prog 53 #[.pointer (some ⟨I.g, 0, none⟩), .int .i64 z, .int .i64 a] w fun r w' => (∃ z : Bool, r = .returned (.bool z)) ∧ Went (pairAt I (c + 1000) (sendP (decide (z = 1)) p a)) T w0 w' := by
  rcases hz with rfl | rfl <;> rcases ha with rfl | rfl
  · exact send02C I c p hc T w0 w h
  · exact send03C I c p hc T w0 w h
  · exact send12C I c p hc T w0 w h
  · exact send13C I c p hc T w0 w h
theorem overZ (I : PI) (c : Nat) (p : Pr) (z : Int) (hz : z = 0 ∨ z = 1) (hc : c + 1000 ≤ 100000000000) (T : Nat → Prop) (w0 w : World) (h : Went (pairAt I c p) T w0 w) :
    Calls Tryz.prog 32 #[.pointer (some ⟨I.g, 0, none⟩), .int .i64 z] w fun r w' => r = .returned (.tuple #[]) ∧ Went (pairAt I (c + 1000) (overP (decide (z = 1)) p)) T w0 w' := by
  rcases hz with rfl | rfl
  · exact over0C I c p hc T w0 w h
  · exact over1C I c p hc T w0 w h
theorem come_nil {i : Bool} {p : Pr} (h : (p.at i).way = []) (l : Bool) : comeP i p l = p := by unfold comeP; rw [h]
theorem comeZ (I : PI) (c : Nat) (p : Pr) (z : Int) (hz : z = 0 ∨ z = 1) (l : Bool) (hc : c + 1000 ≤ 100000000000) (T : Nat → Prop) (w0 w : World) (hN : LN T w0) (h : Went (pairAt I c p) T w0 w) :
    Calls Tryz.prog 34 #[.pointer (some ⟨I.g, 0, none⟩), .int .i64 z, .bool l] w fun r w' => r = .returned (.bool (decide ((p.at (decide (z = 1))).way ≠ []))) ∧ Went (pairAt I (c + 1000) (comeP (decide (z = 1)) p l)) T w0 w' := by
  rcases hz with rfl | rfl <;> cases l
  · exact come00C I c p hc T w0 w hN h
  · exact come01C I c p hc T w0 w hN h
  · exact come10C I c p hc T w0 w hN h
  · exact come11C I c p hc T w0 w hN h
theorem comeOr_eq (i : Bool) (p : Pr) (l : Bool) : comeOr i p l = if (p.at i).way = [] then overP i p else comeP i p l := rfl
theorem do3 {x y : Int} {p : Pr} {clean : Bool} (hd : max 0 x % 10 = 3) : doP p ⟨x, y⟩ clean = sendP (sideOf y) p 3 := by
  unfold doP
  simp only
  rw [if_pos hd]
theorem do4n {x y : Int} {p : Pr} (hd : max 0 x % 10 = 4) : doP p ⟨x, y⟩ false = askP (sideOf y) p 0 := by
  unfold doP
  simp only
  rw [if_neg (by omega), if_pos hd, if_neg (by decide)]
theorem do4y {x y : Int} {p : Pr} (hd : max 0 x % 10 = 4) : doP p ⟨x, y⟩ true = p := by
  unfold doP
  simp only
  rw [if_neg (by omega), if_pos hd, if_pos trivial]
theorem do5n {x y : Int} {p : Pr} (hd : max 0 x % 10 = 5) : doP p ⟨x, y⟩ false = askP (sideOf y) p 1 := by
  unfold doP
  simp only
  rw [if_neg (by omega), if_neg (by omega), if_pos hd, if_neg (by decide)]
theorem do5y {x y : Int} {p : Pr} (hd : max 0 x % 10 = 5) : doP p ⟨x, y⟩ true = p := by
  unfold doP
  simp only
  rw [if_neg (by omega), if_neg (by omega), if_pos hd, if_pos trivial]
theorem do6 {x y : Int} {p : Pr} {clean : Bool} (hd : max 0 x % 10 = 6) : doP p ⟨x, y⟩ clean = askP (sideOf y) p 4 := by
  unfold doP
  simp only
  rw [if_neg (by omega), if_neg (by omega), if_neg (by omega), if_pos hd]
theorem do7 {x y : Int} {p : Pr} {clean : Bool} (hd : max 0 x % 10 = 7) : doP p ⟨x, y⟩ clean = askP (sideOf y) p 5 := by
  unfold doP
  simp only
  rw [if_neg (by omega), if_neg (by omega), if_neg (by omega), if_neg (by omega), if_pos hd]
theorem do8 {x y : Int} {p : Pr} {clean : Bool} (hd : max 0 x % 10 = 8) : doP p ⟨x, y⟩ clean = comeOr (sideOf y) p false := by
  unfold doP
  simp only
  rw [if_neg (by omega), if_neg (by omega), if_neg (by omega), if_neg (by omega), if_neg (by omega), if_pos hd]
theorem do9 {x y : Int} {p : Pr} {clean : Bool} (hd : max 0 x % 10 = 9) : doP p ⟨x, y⟩ clean = comeOr (sideOf y) p (!clean) := by
  unfold doP
  simp only
  rw [if_neg (by omega), if_neg (by omega), if_neg (by omega), if_neg (by omega), if_neg (by omega), if_neg (by omega), if_pos hd]
theorem do2 {x y : Int} {p : Pr} {clean : Bool} (h3 : ¬ max 0 x % 10 = 3) (h4 : ¬ max 0 x % 10 = 4) (h5 : ¬ max 0 x % 10 = 5) (h6 : ¬ max 0 x % 10 = 6) (h7 : ¬ max 0 x % 10 = 7) (h8 : ¬ max 0 x % 10 = 8) (h9 : ¬ max 0 x % 10 = 9) : doP p ⟨x, y⟩ clean = sendP (sideOf y) p 2 := by
  unfold doP
  simp only
  rw [if_neg h3, if_neg h4, if_neg h5, if_neg h6, if_neg h7, if_neg h8, if_neg h9]
theorem doC (I : PI) (c : Nat) (p : Pr) (a : Ac) (clean : Bool) (hc : c + 2000 ≤ 100000000000) (T : Nat → Prop) (w0 w : World) (hN : LN T w0) (h : Went (pairAt I c p) T w0 w) :
    Calls Tryz.prog 31 #[.pointer (some ⟨I.g, 0, none⟩), .agg #[.int .i64 a.act, .int .i64 a.side], .bool clean] w fun r w' => r = .returned (.tuple #[]) ∧ Went (pairAt I (c + 2000) (doP p a clean)) T w0 w' := by
  obtain ⟨x, y⟩ := a
  have HC0 : Aside0 (c + 1000 ≤ 100000000000 ∧ c + 2000 ≤ 100000000000) := ⟨by omega, hc⟩
  have hz : max 0 y % 2 = 0 ∨ max 0 y % 2 = 1 := by omega
  have HNN := Aside0.mk hN
  have hb := h.alloc (.cells #[.int .i64 x, .int .i64 y] 86 (0, 0))
  have hbx := heap_alloc_new w (.cells #[.int .i64 x, .int .i64 y] 86 (0, 0))
  obtain ⟨k0, _⟩ := cellAt hbx 0 (.int .i64 x) rfl
  obtain ⟨k1, _⟩ := cellAt hbx 1 (.int .i64 y) rfl
  have HP := Aside0.mk hb
  clear h hc hN hbx hb
  go_enter Tryz.func31, Tryz.ntmps31
  go_wp2_with fail
  · have hd : max 0 x % 10 = 3 := by simpa using ‹(max 0 x % 10 == 3) = true›
    have HE := Aside0.mk (do3 (p := p) (y := y) (clean := clean) hd)
    refine (sendZ I c p _ hz 3 (by decide) HC0.out.1 T w0 _ HP.out).mono ?_
    rintro r w1 ⟨⟨zz, rfl⟩, hw1⟩
    have HW := Aside0.mk hw1
    clear hw1 HP k0 k1
    go_wp2
    go_end0
    refine ⟨rfl, ?_⟩
    rw [HE.out]
    exact growP HW.out (by omega) HC0.out.2
  · have hd : max 0 x % 10 = 4 := by simpa using ‹(max 0 x % 10 == 4) = true›
    have hcl : clean = false := by simpa using ‹(!clean) = true›
    subst hcl
    have HE := Aside0.mk (do4n (p := p) (y := y) hd)
    refine (askZ I c p _ hz 0 (by decide) HC0.out.1 T w0 _ HP.out).mono ?_
    rintro r w1 ⟨rfl, hw1⟩
    have HW := Aside0.mk hw1
    clear hw1 HP k0 k1
    go_wp2
    go_end0
    refine ⟨rfl, ?_⟩
    rw [HE.out]
    exact growP HW.out (by omega) HC0.out.2
  · have hd : max 0 x % 10 = 4 := by simpa using ‹(max 0 x % 10 == 4) = true›
    have hcl : clean = true := by simpa using ‹(!clean) = false›
    subst hcl
    have HE := Aside0.mk (do4y (p := p) (y := y) hd)
    go_end0
    refine ⟨rfl, ?_⟩
    rw [HE.out]
    exact growP HP.out (by omega) HC0.out.2
  · have hd : max 0 x % 10 = 5 := by simpa using ‹(max 0 x % 10 == 5) = true›
    have hcl : clean = false := by simpa using ‹(!clean) = true›
    subst hcl
    have HE := Aside0.mk (do5n (p := p) (y := y) hd)
    refine (askZ I c p _ hz 1 (by decide) HC0.out.1 T w0 _ HP.out).mono ?_
    rintro r w1 ⟨rfl, hw1⟩
    have HW := Aside0.mk hw1
    clear hw1 HP k0 k1
    go_wp2
    go_end0
    refine ⟨rfl, ?_⟩
    rw [HE.out]
    exact growP HW.out (by omega) HC0.out.2
  · have hd : max 0 x % 10 = 5 := by simpa using ‹(max 0 x % 10 == 5) = true›
    have hcl : clean = true := by simpa using ‹(!clean) = false›
    subst hcl
    have HE := Aside0.mk (do5y (p := p) (y := y) hd)
    go_end0
    refine ⟨rfl, ?_⟩
    rw [HE.out]
    exact growP HP.out (by omega) HC0.out.2
  · have hd : max 0 x % 10 = 6 := by simpa using ‹(max 0 x % 10 == 6) = true›
    have HE := Aside0.mk (do6 (p := p) (y := y) (clean := clean) hd)
    refine (askZ I c p _ hz 4 (by decide) HC0.out.1 T w0 _ HP.out).mono ?_
    rintro r w1 ⟨rfl, hw1⟩
    have HW := Aside0.mk hw1
    clear hw1 HP k0 k1
    go_wp2
    go_end0
    refine ⟨rfl, ?_⟩
    rw [HE.out]
    exact growP HW.out (by omega) HC0.out.2
  · have hd : max 0 x % 10 = 7 := by simpa using ‹(max 0 x % 10 == 7) = true›
    have HE := Aside0.mk (do7 (p := p) (y := y) (clean := clean) hd)
    refine (askZ I c p _ hz 5 (by decide) HC0.out.1 T w0 _ HP.out).mono ?_
    rintro r w1 ⟨rfl, hw1⟩
    have HW := Aside0.mk hw1
    clear hw1 HP k0 k1
    go_wp2
    go_end0
    refine ⟨rfl, ?_⟩
    rw [HE.out]
    exact growP HW.out (by omega) HC0.out.2
  · have hd : max 0 x % 10 = 8 := by simpa using ‹(max 0 x % 10 == 8) = true›
    have HE := Aside0.mk (do8 (p := p) (y := y) (clean := clean) hd)
    refine (comeZ I c p _ hz false HC0.out.1 T w0 _ HNN.out HP.out).mono ?_
    rintro r w1 ⟨rfl, hw1⟩
    have HW := Aside0.mk hw1
    clear hw1 HP k0 k1
    by_cases hn : (p.at (sideOf y)).way = []
    · have HX : Aside0 (Went (pairAt I (c + 1000) p) T w0 w1) := ⟨by rw [← come_nil hn false]; exact HW.out⟩
      have HEE : Aside0 (doP p ⟨x, y⟩ clean = overP (sideOf y) p) := ⟨by rw [HE.out, comeOr_eq, if_pos hn]⟩
      rw [show decide ((p.at (decide (max 0 y % 2 = 1))).way ≠ []) = false from decide_eq_false (fun h => h hn)]
      clear HW HE
      go_wp2_with fail
      refine (overZ I (c + 1000) p _ hz (by have := HC0.out.2; omega) T w0 _ HX.out).mono ?_
      rintro r w2 ⟨rfl, hw2⟩
      have HW := Aside0.mk hw2
      clear hw2 HX
      go_wp2
      go_end0
      refine ⟨rfl, ?_⟩
      rw [HEE.out]
      exact HW.out
    · have HEE : Aside0 (doP p ⟨x, y⟩ clean = comeP (sideOf y) p false) := ⟨by rw [HE.out, comeOr_eq, if_neg hn]⟩
      rw [show decide ((p.at (decide (max 0 y % 2 = 1))).way ≠ []) = true from decide_eq_true hn]
      clear HE
      go_wp2
      go_end0
      refine ⟨rfl, ?_⟩
      rw [HEE.out]
      exact growP HW.out (by omega) HC0.out.2
  · have hd : max 0 x % 10 = 9 := by simpa using ‹(max 0 x % 10 == 9) = true›
    have HE := Aside0.mk (do9 (p := p) (y := y) (clean := clean) hd)
    refine (comeZ I c p _ hz (!clean) HC0.out.1 T w0 _ HNN.out HP.out).mono ?_
    rintro r w1 ⟨rfl, hw1⟩
    have HW := Aside0.mk hw1
    clear hw1 HP k0 k1
    by_cases hn : (p.at (sideOf y)).way = []
    · have HX : Aside0 (Went (pairAt I (c + 1000) p) T w0 w1) := ⟨by rw [← come_nil hn (!clean)]; exact HW.out⟩
      have HEE : Aside0 (doP p ⟨x, y⟩ clean = overP (sideOf y) p) := ⟨by rw [HE.out, comeOr_eq, if_pos hn]⟩
      rw [show decide ((p.at (decide (max 0 y % 2 = 1))).way ≠ []) = false from decide_eq_false (fun h => h hn)]
      clear HW HE
      go_wp2_with fail
      refine (overZ I (c + 1000) p _ hz (by have := HC0.out.2; omega) T w0 _ HX.out).mono ?_
      rintro r w2 ⟨rfl, hw2⟩
      have HW := Aside0.mk hw2
      clear hw2 HX
      go_wp2
      go_end0
      refine ⟨rfl, ?_⟩
      rw [HEE.out]
      exact HW.out
    · have HEE : Aside0 (doP p ⟨x, y⟩ clean = comeP (sideOf y) p (!clean)) := ⟨by rw [HE.out, comeOr_eq, if_neg hn]⟩
      rw [show decide ((p.at (decide (max 0 y % 2 = 1))).way ≠ []) = true from decide_eq_true hn]
      clear HE
      go_wp2
      go_end0
      refine ⟨rfl, ?_⟩
      rw [HEE.out]
      exact growP HW.out (by omega) HC0.out.2
  · have HE := Aside0.mk (do2 (p := p) (y := y) (clean := clean) (by simpa using ‹(max 0 x % 10 == 3) = false›) (by simpa using ‹(max 0 x % 10 == 4) = false›) (by simpa using ‹(max 0 x % 10 == 5) = false›) (by simpa using ‹(max 0 x % 10 == 6) = false›) (by simpa using ‹(max 0 x % 10 == 7) = false›) (by simpa using ‹(max 0 x % 10 == 8) = false›) (by simpa using ‹(max 0 x % 10 == 9) = false›))
    refine (sendZ I c p _ hz 2 (by decide) HC0.out.1 T w0 _ HP.out).mono ?_
    rintro r w1 ⟨⟨zz, rfl⟩, hw1⟩
    have HW := Aside0.mk hw1
    clear hw1 HP k0 k1
    go_wp2
    go_end0
    refine ⟨rfl, ?_⟩
    rw [HE.out]
    exact growP HW.out (by omega) HC0.out.2
end Go.Proofs.YtljnfbpplhnmfaaGreatDoor.Pa
namespace Go.Proofs.YtljnfbpplhnmfaaGreatDoor.Fw
open Go Go.RowKit Go.Proofs.YtljnfbpplhnmfaaGreatDoorW.PrintWords Go.Proofs.YtljnfbpplhnmfaaGreatDoorW.PrintLast Go.Proofs.YtljnfbpplhnmfaaGreatDoorW.PrintMore Go.Proofs.YtljnfbpplhnmfaaGreatDoor.Str
set_option linter.unusedVariables false
theorem two_bytes (w : World) (a b : Int) : (Kd.int .u8).C (w.alloc (.cells #[.int .u8 a, .int .u8 b] 5)) (some ⟨w.heap.size, 0, none⟩) 2 [a, b] := by
  have hn := heap_alloc_new w (.cells #[.int .u8 a, .int .u8 b] 5)
  refine ⟨rfl, by decide, fun _ => ⟨_, rfl, fun j p hj => ⟨[.int .u8 p], rfl, rfl, fun i u hu => ?_⟩⟩⟩
  cases i with
  | zero =>
    simp at hu; subst hu; rw [add_plain, Lib.cell_of_heap hn]
    match j with
    | 0 => simp at hj; subst hj; rfl
    | 1 => simp at hj; subst hj; rfl
    | j + 2 => simp at hj
  | succ i => simp at hu
theorem two_str (w : World) (a b : Int) : (convert 181 9 (.slice (some ⟨w.heap.size, 0, none⟩) 2 2)).run Tryz.prog (w.alloc (.cells #[.int .u8 a, .int .u8 b] 5)) = .ok (.string (strOfNums [a, b])) (w.alloc (.cells #[.int .u8 a, .int .u8 b] 5)) :=
  Kd.C_string Tryz.underlying181 Tryz.underlying5 Tryz.underlying9 (two_bytes w a b)
def rnd (r : Int) : Int := Go.bits .xor .u16 (r / 2) (IntKind.u16.wrap (Go.bits .and .u16 r 1 * 33800))
def rnds : Nat → Int → Int
  | 0, r => r
  | k + 1, r => rnd (rnds k r)
def stepI (r o : Int) : Int := rnds 8 (Go.bits .xor .u16 r o)
set_option maxRecDepth 100000 in
theorem stepW (r o : Int) (w : World) (h0 : 0 ≤ o) (h1 : o ≤ 255) :
    Calls Tryz.prog 161 #[.int .u16 r, .int .u8 o] w fun e w' => e = .returned (.int .u16 (stepI r o)) ∧ w = w' := by
  go_enter Tryz.func161, Tryz.ntmps161
  go_wp2_with fail
  go_loopw [0, 10] (fun x i wr => ∃ k : Nat, k ≤ 8 ∧ i = .int .i64 k ∧ x = .int .u16 (rnds k (Go.bits .xor .u16 r o)) ∧ w = wr) (fun _ i _ => 8 - (intOf i).toNat)
  case atStart => exact ⟨0, by omega, rfl, rfl, rfl⟩
  case round =>
    obtain ⟨k, hk, rfl, rfl, rfl⟩ := hrel
    by_cases hlt : k < 8
    · obtain ⟨q, hq⟩ : ∃ q, rnds k (Go.bits .xor .u16 r o) = q := ⟨_, rfl⟩
      rw [hq]
      go_wp2
      refine ⟨⟨k + 1, by omega, by go_num, ?_, trivial⟩, by simp [intOf]; omega⟩
      rw [show rnds (k + 1) (Go.bits .xor .u16 r o) = rnd q from by rw [← hq]; rfl]
      rfl
    · obtain rfl : k = 8 := by omega
      go_wp2
      go_ret
      exact ⟨rfl, rfl⟩
def regs (l : List UInt8) : Int := l.foldl (fun r o => stepI r (o.toNat : Int)) 65535
theorem regs_take (l : List UInt8) (k : Nat) (h : k < l.length) : regs (l.take (k + 1)) = stepI (regs (l.take k)) ((l[k]).toNat : Int) := by
  unfold regs
  rw [List.take_succ_eq_append_getElem h, List.foldl_append]; rfl
def sumI (s : ByteArray) : Int := Go.bits .xor .u16 IntKind.u16.max (regs (L s))
theorem sumI_range (s : ByteArray) : 0 ≤ sumI s ∧ sumI s < 65536 := by
  unfold sumI
  show 0 ≤ IntKind.u16.wrap _ ∧ IntKind.u16.wrap _ < 65536
  have : ∀ n : Int, IntKind.u16.wrap n = n % 65536 := fun n => by simp [IntKind.wrap, IntKind.bits, IntKind.signed]
  rw [this]
  omega
set_option maxRecDepth 100000 in
theorem sumW (s : ByteArray) (w : World) (hs : s.size ≤ 9223372036854775807) :
    Calls Tryz.prog 135 #[.string s] w fun e w' => e = .returned (.int .u16 (sumI s)) ∧ w = w' := by
  go_enter Tryz.func135, Tryz.ntmps135
  go_wp2_with fail
  go_loopw [3, 7] (fun x i wr => ∃ k : Nat, k ≤ s.size ∧ i = .int .i64 k ∧ x = .int .u16 (regs ((L s).take k)) ∧ w = wr) (fun _ i _ => s.size - (intOf i).toNat)
  case atStart => exact ⟨0, by omega, rfl, rfl, rfl⟩
  case round =>
    obtain ⟨k, hk, rfl, rfl, rfl⟩ := hrel
    by_cases hlt : k < s.size
    · have hl : k < (L s).length := by rw [← size_L]; exact hlt
      have ht := regs_take (L s) k hl
      obtain ⟨q, hq⟩ : ∃ q, regs ((L s).take k) = q := ⟨_, rfl⟩
      rw [hq] at ht
      rw [hq]
      go_wp2_with fail
      have hb := ((L s)[k]'hl).toNat_lt
      refine (stepW q (((L s)[k]'hl).toNat : Int) w (by omega) (by omega)).mono ?_
      rintro e w1 ⟨rfl, rfl⟩
      rw [← ht]
      clear ht hb
      go_wp2
      exact ⟨⟨k + 1, by omega, by go_num, rfl, trivial⟩, by simp [intOf]; omega⟩
    · obtain rfl : k = s.size := by omega
      have hsg : ¬ IntKind.u16.signed = true := by decide
      have hq : Go.bits .xor .u16 IntKind.u16.max (regs (L s)) = sumI s := rfl
      rw [size_L, List.take_length]
      generalize regs (L s) = q at hq
      go_wp2
      go_ret
      trivial
def seal_ (s : ByteArray) : ByteArray := s ++ strOfNums [sumI s % 256, sumI s / 256]
set_option maxRecDepth 100000 in
theorem sealW (s : ByteArray) (w : World) (hs : s.size ≤ 9223372036854775) :
    Calls Tryz.prog 97 #[.string s] w fun e w' => e = .returned (.string (seal_ s)) ∧ Below w.heap.size w w' := by
  go_enter Tryz.func97, Tryz.ntmps97
  go_wp2_with fail
  refine (sumW s w (by omega)).mono ?_
  rintro e w1 ⟨rfl, rfl⟩
  have hz := sumI_range s
  have hse : s ++ strOfNums [sumI s % 256, sumI s / 256] = seal_ s := rfl
  generalize sumI s = z at *
  have hcv := two_str w (z % 256) (z / 256)
  have hcat : ¬ 9223372036854775807 < s.size + (strOfNums [z % 256, z / 256]).size := by rw [nums_size]; simp; omega
  go_wp2_with fail
  have hb : Below w.heap.size w (w.alloc (.cells #[.int .u8 (z % 256), .int .u8 (z / 256)] 5)) := (Below.refl _ w).alloc (Nat.le_refl _) _
  have HB := Aside0.mk hb
  clear hb hcv hcat hse hz
  go_wp2
  go_ret
  exact ⟨rfl, HB.out⟩
theorem seal_size (s : ByteArray) : (seal_ s).size = s.size + 2 := by unfold seal_; rw [ByteArray.size_append, nums_size]; rfl
theorem seal_body (s : ByteArray) : (seal_ s).extract 0 s.size = s := by
  refine inj ?_
  rw [L_take, seal_, L_app, size_L, List.take_left]
set_option maxRecDepth 100000 in
theorem checkW (s : ByteArray) (w : World) (hs : s.size ≤ 9223372036854775) :
    Calls Tryz.prog 102 #[.string (seal_ s)] w fun e w' => e = .returned (.tuple #[.string s, .int .i64 0]) ∧ Below w.heap.size w w' := by
  have hz := seal_size s
  have hbd := seal_body s
  have hsl := sealW s w hs
  generalize seal_ s = t at *
  have h2 : ¬ (t.size : Int) < 2 := by omega
  have h3 : (t.size : Int) - 2 = (s.size : Int) := by omega
  have hst : s.size ≤ t.size := by omega
  go_enter Tryz.func102, Tryz.ntmps102
  go_wp2_with fail
  refine hsl.mono ?_
  rintro e w1 ⟨rfl, hb⟩
  have HB := Aside0.mk hb
  clear hb
  go_wp2
  go_ret2
  exact ⟨rfl, HB.out⟩
end Go.Proofs.YtljnfbpplhnmfaaGreatDoor.Fw
