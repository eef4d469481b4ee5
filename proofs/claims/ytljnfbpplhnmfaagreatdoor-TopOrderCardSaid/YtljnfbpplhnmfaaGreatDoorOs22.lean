/- Both ends of a link, in memory: the timers are over. Conditions: sizes. Both ends of a link, in memory: all settles. Conditions: sizes. -/
import Derived.Test.YtljnfbpplhnmfaaGreatDoorOs21
namespace Go.Proofs.YtljnfbpplhnmfaaGreatDoor.Pa
open Go Go.RowKit Go.Proofs.YtljnfbpplhnmfaaGreatDoorW.PrintWords Go.Proofs.YtljnfbpplhnmfaaGreatDoorW.PrintLast Go.Proofs.YtljnfbpplhnmfaaGreatDoorW.PrintMore Go.Proofs.YtljnfbpplhnmfaaGreatDoor.Str Go.Proofs.YtljnfbpplhnmfaaGreatDoor.Mp Go.Proofs.YtljnfbpplhnmfaaGreatDoor.Ra Go.Proofs.YtljnfbpplhnmfaaGreatDoor.Sl Go.Proofs.YtljnfbpplhnmfaaGreatDoor.Qu Go.Proofs.YtljnfbpplhnmfaaGreatDoor.Ru Go.Proofs.YtljnfbpplhnmfaaGreatDoor.Md
open Go.Proofs.YtljnfbpplhnmfaaGreatDoor.En (frCells efCells efs efs_app efs_one orow entAt)
set_option linter.unusedVariables false
set_option linter.unusedSimpArgs false
set_option maxRecDepth 1000000
set_option maxHeartbeats 8000000
theorem over0C (I : PI) (c : Nat) (p : Pr) (hc : c + 1000 ≤ 100000000000) (T : Nat → Prop) (w0 w : World) (h : Went (pairAt I c p) T w0 w) :
    Calls Tryz.prog 32 #[.pointer (some ⟨I.g, 0, none⟩), .int .i64 0] w fun r w' => r = .returned (.tuple #[]) ∧ Went (pairAt I (c + 1000) (overP false p)) T w0 w' := by
  have HH := Aside0.mk h
  have HC0 := Aside0.mk hc
  obtain ⟨A0, c0, A1, c1, A2, c2, A3, c3, A4, c4, A5, c5, A6, c6, A7, c7, A8, c8, A9, c9, HO1, hok⟩ := pairAt.opened h
  have HO := Aside0.mk HO1
  have HOK := Aside0.mk hok
  obtain ⟨cr0, cf0⟩ := cellAt (HO1.heap 1 rfl) 2 (.slice A0 p.a.way.length c0) rfl
  obtain ⟨cr1, cf1⟩ := cellAt (HO1.heap 1 rfl) 3 (.slice A1 p.b.way.length c1) rfl
  by_cases hq : quiet p
  · obtain ⟨hqa, hqb⟩ := hq
    have HQP : Aside0 (quiet p) := ⟨⟨hqa, hqb⟩⟩
    rw [hqa] at cr0
    rw [hqb] at cr1
    simp only [List.length_nil] at cr0 cr1
    obtain ⟨ce0, cfe0⟩ := cellAt (HO1.heap 1 rfl) 0 (.pointer (some ⟨I.b0, 0, none⟩)) rfl
    clear h hc HO1 hok hqa hqb
    go_enter Tryz.func32, Tryz.ntmps32
    go_wp2_with fail
    go_quiet (fail)
    have HO0 := Aside0.mk (HO.out.drewN nq)
    have HH0 := Aside0.mk (HH.out.drewN nq)
    clear HO HH ce0 cfe0 cr0 cf0 cr1 cf1
    generalize w.drewN nq = wq at *
    obtain ⟨ce0, cfe0⟩ := cellAt (HO0.out.heap 1 rfl) 0 (.pointer (some ⟨I.b0, 0, none⟩)) rfl
    have HV : Aside0 (Calls Tryz.prog 13 #[.pointer (some ⟨I.b0, 0, none⟩)] wq fun r w' => r = .returned (.agg (En.viewOf p.a.e)) ∧ Below wq.heap.size wq w') := ⟨by
      obtain ⟨T1, h1⟩ := HO0.out.get 2 rfl
      exact En.eviewC I.b0 I.m0 I.f0 p.a.e T1 wq wq (Went.refl h1)⟩
    go_wp2_with fail
    refine HV.out.mono ?_
    rintro r w1 ⟨rfl, hb⟩
    have HO2 := Aside0.mk ((HO0.out.below hb).alloc (.cells (En.viewOf p.a.e) 49 (0, 0)))
    have HHA := Aside0.mk ((HH0.out.below hb).alloc (.cells (En.viewOf p.a.e) 49 (0, 0)))
    have hbx := heap_alloc_new w1 (.cells (En.viewOf p.a.e) 49 (0, 0))
    clear ce0 cfe0 HV hb HO0 HH0
    obtain ⟨ce0, cfe0⟩ := cellAt (HO2.out.heap 1 rfl) 0 (.pointer (some ⟨I.b0, 0, none⟩)) rfl
    obtain ⟨b4, _⟩ := cellAt hbx 4 (.bool p.a.e.r200) rfl
    obtain ⟨b5, _⟩ := cellAt hbx 5 (.bool p.a.e.r203) rfl
    obtain ⟨z2, HZ2⟩ : ∃ z, Aside0 (p.a.e.r200 = z) := ⟨_, ⟨rfl⟩⟩
    obtain ⟨z3, HZ3⟩ : ∃ z, Aside0 (p.a.e.r203 = z) := ⟨_, ⟨rfl⟩⟩
    rw [HZ2.out] at b4
    rw [HZ3.out] at b5
    unfold En.viewOf at hbx b4 b5 HO2 HHA ce0 cfe0 ⊢
    clear hbx
    cases z2 with
    | true =>
      obtain ⟨_, he⟩ := HO2.out.get 2 rfl
      obtain ⟨hgo, _⟩ := go_of he HOK.out.a.out
      have hg := go_over200 hgo
      obtain ⟨e2, HE2⟩ : ∃ e2, Aside0 (over200 p.a.e = e2) := ⟨_, ⟨rfl⟩⟩
      have HG : Aside0 (GO 800 e2) := ⟨by rw [← HE2.out]; exact hg.mono (by omega)⟩
      have HZ : Aside0 (p.a.e.out.length ≤ 6900) := ⟨by rw [HOK.out.a.out]; exact Nat.zero_le _⟩
      obtain ⟨q2, HQ2⟩ : ∃ q2 : Pr, Aside0 (({ p with a := { p.a with e := emptied e2 } } : Pr) = q2) := ⟨_, ⟨rfl⟩⟩
      obtain ⟨l2, HLL⟩ : ∃ l2, Aside0 (e2.out = l2) := ⟨_, ⟨rfl⟩⟩
      have HB : Aside0 (l2.length ≤ 800 ∧ ∀ x ∈ l2, x.kind = 0 → FrOk x.fr) := ⟨by rw [← HLL.out]; exact ⟨HG.out.len, HG.out.fr⟩⟩
      have HE : Aside0 (overP false p = effs false q2 l2) := ⟨by
        rw [← HQ2.out, ← HLL.out, ← HE2.out]
        unfold overP
        rw [if_pos HQP.out]
        rw [if_pos (show (p.at false).e.r200 = true from HZ2.out)]
        rfl⟩
      clear he hgo hg
      go_wp2_with fail
      generalize w1.alloc (.cells #[.int .i64 p.a.e.state, .int .i64 70, .int .i64 p.a.e.tries, .bool p.a.e.asked, .bool p.a.e.r200, .bool p.a.e.r203, .int .i64 0, .int .i64 p.a.e.fl.vs, .int .i64 p.a.e.fl.va, .int .i64 p.a.e.fl.vr, .bool p.a.e.fl.peer, .bool p.a.e.fl.own, .bool p.a.e.fl.ref, .int .i64 p.a.e.fl.q.sent, .int .i64 ((p.a.e.fl.q.list.length : Int) - p.a.e.fl.q.sent)] 49 (0, 0)) = w4 at *
      have HCL4 : Aside0 (Calls Tryz.prog 54 #[.pointer (some ⟨I.b0, 0, none⟩), .int .i64 200] w4 fun r w2 => ∃ v, r = .returned v ∧ Went (all [orow v l2, pairAt I c q2]) T w0 w2) := ⟨by
        have hcl := HO2.out.call_ex 2 rfl (fun T1 h1 => En.timeout200C I.b0 I.m0 I.f0 p.a.e HZ2.out HZ.out T1 _ _ (Went.refl h1))
        rw [HE2.out] at hcl
        exact hcl.mono fun r w2 ⟨v, hr, hw2⟩ => ⟨v, hr, by
          have hq := taken0 hw2 HOK.out rfl
          rw [HQ2.out, HLL.out] at hq
          exact hq⟩⟩
      clear HHA HO2 b4 b5
      refine HCL4.out.mono ?_
      rintro r w2 ⟨v, rfl, hw2⟩
      have HP := Aside0.mk hw2
      clear hw2
      go_wp2_with fail
      refine (effects0C I c _ _ l2 (Nat.le_trans HB.out.1 (by decide)) (by have := HC0.out; have := HB.out.1; omega) HB.out.2 T w0 _ HP.out).mono ?_
      rintro r w9 ⟨rfl, hw9⟩
      have HW9 := Aside0.mk hw9
      clear hw9 HP
      go_wp2
      go_end0
      refine ⟨rfl, ?_⟩
      rw [HE.out]
      exact grow1 HW9.out (by have := HB.out.1; omega) HC0.out
    | false =>
      cases z3 with
      | true =>
        obtain ⟨_, he⟩ := HO2.out.get 2 rfl
        obtain ⟨hgo, _⟩ := go_of he HOK.out.a.out
        have hg := go_over203 hgo
        obtain ⟨e2, HE2⟩ : ∃ e2, Aside0 (over203 p.a.e = e2) := ⟨_, ⟨rfl⟩⟩
        have HG : Aside0 (GO 800 e2) := ⟨by rw [← HE2.out]; exact hg.mono (by omega)⟩
        have HZ : Aside0 (p.a.e.out.length ≤ 6900) := ⟨by rw [HOK.out.a.out]; exact Nat.zero_le _⟩
        obtain ⟨q2, HQ2⟩ : ∃ q2 : Pr, Aside0 (({ p with a := { p.a with e := emptied e2 } } : Pr) = q2) := ⟨_, ⟨rfl⟩⟩
        obtain ⟨l2, HLL⟩ : ∃ l2, Aside0 (e2.out = l2) := ⟨_, ⟨rfl⟩⟩
        have HB : Aside0 (l2.length ≤ 800 ∧ ∀ x ∈ l2, x.kind = 0 → FrOk x.fr) := ⟨by rw [← HLL.out]; exact ⟨HG.out.len, HG.out.fr⟩⟩
        have HE : Aside0 (overP false p = effs false q2 l2) := ⟨by
          rw [← HQ2.out, ← HLL.out, ← HE2.out]
          unfold overP
          rw [if_pos HQP.out]
          rw [if_neg (show ¬ (p.at false).e.r200 = true from by rw [show (p.at false).e.r200 = false from HZ2.out]; decide), if_pos (show (p.at false).e.r203 = true from HZ3.out)]
          rfl⟩
        clear he hgo hg
        go_wp2_with fail
        generalize w1.alloc (.cells #[.int .i64 p.a.e.state, .int .i64 70, .int .i64 p.a.e.tries, .bool p.a.e.asked, .bool p.a.e.r200, .bool p.a.e.r203, .int .i64 0, .int .i64 p.a.e.fl.vs, .int .i64 p.a.e.fl.va, .int .i64 p.a.e.fl.vr, .bool p.a.e.fl.peer, .bool p.a.e.fl.own, .bool p.a.e.fl.ref, .int .i64 p.a.e.fl.q.sent, .int .i64 ((p.a.e.fl.q.list.length : Int) - p.a.e.fl.q.sent)] 49 (0, 0)) = w4 at *
        have HCL4 : Aside0 (Calls Tryz.prog 54 #[.pointer (some ⟨I.b0, 0, none⟩), .int .i64 203] w4 fun r w2 => ∃ v, r = .returned v ∧ Went (all [orow v l2, pairAt I c q2]) T w0 w2) := ⟨by
          have hcl := HO2.out.call_ex 2 rfl (fun T1 h1 => En.timeout203C I.b0 I.m0 I.f0 p.a.e HZ3.out HZ.out T1 _ _ (Went.refl h1))
          rw [HE2.out] at hcl
          exact hcl.mono fun r w2 ⟨v, hr, hw2⟩ => ⟨v, hr, by
            have hq := taken0 hw2 HOK.out rfl
            rw [HQ2.out, HLL.out] at hq
            exact hq⟩⟩
        clear HHA HO2 b4 b5
        refine HCL4.out.mono ?_
        rintro r w2 ⟨v, rfl, hw2⟩
        have HP := Aside0.mk hw2
        clear hw2
        go_wp2_with fail
        refine (effects0C I c _ _ l2 (Nat.le_trans HB.out.1 (by decide)) (by have := HC0.out; have := HB.out.1; omega) HB.out.2 T w0 _ HP.out).mono ?_
        rintro r w9 ⟨rfl, hw9⟩
        have HW9 := Aside0.mk hw9
        clear hw9 HP
        go_wp2
        go_end0
        refine ⟨rfl, ?_⟩
        rw [HE.out]
        exact grow1 HW9.out (by have := HB.out.1; omega) HC0.out
      | false =>
        have HE : Aside0 (overP false p = p) := ⟨by
          unfold overP
          rw [if_pos HQP.out, if_neg (show ¬ (p.at false).e.r200 = true from by rw [show (p.at false).e.r200 = false from HZ2.out]; decide), if_neg (show ¬ (p.at false).e.r203 = true from by rw [show (p.at false).e.r203 = false from HZ3.out]; decide)]⟩
        clear HO2
        go_wp2
        go_end0
        refine ⟨rfl, ?_⟩
        rw [HE.out]
        exact growP HHA.out (by omega) HC0.out
  · have HE : Aside0 (overP false p = p) := ⟨by unfold overP; rw [if_neg hq]⟩
    have hne : ¬ (p.a.way.length + p.b.way.length = 0) := fun h0 => hq ⟨List.eq_nil_of_length_eq_zero (by omega), List.eq_nil_of_length_eq_zero (by omega)⟩
    have hla := Nat.le_trans hok.a.way hok.cap
    have hlb := Nat.le_trans hok.b.way hok.cap
    generalize p.a.way.length = n0 at cr0 hne hla
    generalize p.b.way.length = n1 at cr1 hne hlb
    have hz : ((n0 : Int) + n1 == 0) = false := by rw [beq_eq_false_iff_ne]; omega
    have hwr : IntKind.i64.wrap ((n0 : Int) + n1) = (n0 : Int) + n1 := by simp [IntKind.wrap, IntKind.bits, IntKind.signed]; omega
    clear h hc HO1 hok hq HO hne
    go_enter Tryz.func32, Tryz.ntmps32
    go_wp2_with fail
    go_quiet (fail)
    have HH0 := Aside0.mk (HH.out.drewN nq)
    generalize w.drewN nq = wq at *
    go_wp2
    go_end0
    refine ⟨rfl, ?_⟩
    rw [HE.out]
    exact growP HH0.out (by omega) HC0.out
theorem over1C (I : PI) (c : Nat) (p : Pr) (hc : c + 1000 ≤ 100000000000) (T : Nat → Prop) (w0 w : World) (h : Went (pairAt I c p) T w0 w) :
    Calls Tryz.prog 32 #[.pointer (some ⟨I.g, 0, none⟩), .int .i64 1] w fun r w' => r = .returned (.tuple #[]) ∧ Went (pairAt I (c + 1000) (overP true p)) T w0 w' := by
  have HH := Aside0.mk h
  have HC0 := Aside0.mk hc
  obtain ⟨A0, c0, A1, c1, A2, c2, A3, c3, A4, c4, A5, c5, A6, c6, A7, c7, A8, c8, A9, c9, HO1, hok⟩ := pairAt.opened h
  have HO := Aside0.mk HO1
  have HOK := Aside0.mk hok
  obtain ⟨cr0, cf0⟩ := cellAt (HO1.heap 1 rfl) 2 (.slice A0 p.a.way.length c0) rfl
  obtain ⟨cr1, cf1⟩ := cellAt (HO1.heap 1 rfl) 3 (.slice A1 p.b.way.length c1) rfl
  by_cases hq : quiet p
  · obtain ⟨hqa, hqb⟩ := hq
    have HQP : Aside0 (quiet p) := ⟨⟨hqa, hqb⟩⟩
    rw [hqa] at cr0
    rw [hqb] at cr1
    simp only [List.length_nil] at cr0 cr1
    obtain ⟨ce0, cfe0⟩ := cellAt (HO1.heap 1 rfl) 1 (.pointer (some ⟨I.b1, 0, none⟩)) rfl
    clear h hc HO1 hok hqa hqb
    go_enter Tryz.func32, Tryz.ntmps32
    go_wp2_with fail
    go_quiet (fail)
    have HO0 := Aside0.mk (HO.out.drewN nq)
    have HH0 := Aside0.mk (HH.out.drewN nq)
    clear HO HH ce0 cfe0 cr0 cf0 cr1 cf1
    generalize w.drewN nq = wq at *
    obtain ⟨ce0, cfe0⟩ := cellAt (HO0.out.heap 1 rfl) 1 (.pointer (some ⟨I.b1, 0, none⟩)) rfl
    have HV : Aside0 (Calls Tryz.prog 13 #[.pointer (some ⟨I.b1, 0, none⟩)] wq fun r w' => r = .returned (.agg (En.viewOf p.b.e)) ∧ Below wq.heap.size wq w') := ⟨by
      obtain ⟨T1, h1⟩ := HO0.out.get 3 rfl
      exact En.eviewC I.b1 I.m1 I.f1 p.b.e T1 wq wq (Went.refl h1)⟩
    go_wp2_with fail
    refine HV.out.mono ?_
    rintro r w1 ⟨rfl, hb⟩
    have HO2 := Aside0.mk ((HO0.out.below hb).alloc (.cells (En.viewOf p.b.e) 49 (0, 0)))
    have HHA := Aside0.mk ((HH0.out.below hb).alloc (.cells (En.viewOf p.b.e) 49 (0, 0)))
    have hbx := heap_alloc_new w1 (.cells (En.viewOf p.b.e) 49 (0, 0))
    clear ce0 cfe0 HV hb HO0 HH0
    obtain ⟨ce0, cfe0⟩ := cellAt (HO2.out.heap 1 rfl) 1 (.pointer (some ⟨I.b1, 0, none⟩)) rfl
    obtain ⟨b4, _⟩ := cellAt hbx 4 (.bool p.b.e.r200) rfl
    obtain ⟨b5, _⟩ := cellAt hbx 5 (.bool p.b.e.r203) rfl
    obtain ⟨z2, HZ2⟩ : ∃ z, Aside0 (p.b.e.r200 = z) := ⟨_, ⟨rfl⟩⟩
    obtain ⟨z3, HZ3⟩ : ∃ z, Aside0 (p.b.e.r203 = z) := ⟨_, ⟨rfl⟩⟩
    rw [HZ2.out] at b4
    rw [HZ3.out] at b5
    unfold En.viewOf at hbx b4 b5 HO2 HHA ce0 cfe0 ⊢
    clear hbx
    cases z2 with
    | true =>
      obtain ⟨_, he⟩ := HO2.out.get 3 rfl
      obtain ⟨hgo, _⟩ := go_of he HOK.out.b.out
      have hg := go_over200 hgo
      obtain ⟨e2, HE2⟩ : ∃ e2, Aside0 (over200 p.b.e = e2) := ⟨_, ⟨rfl⟩⟩
      have HG : Aside0 (GO 800 e2) := ⟨by rw [← HE2.out]; exact hg.mono (by omega)⟩
      have HZ : Aside0 (p.b.e.out.length ≤ 6900) := ⟨by rw [HOK.out.b.out]; exact Nat.zero_le _⟩
      obtain ⟨q2, HQ2⟩ : ∃ q2 : Pr, Aside0 (({ p with b := { p.b with e := emptied e2 } } : Pr) = q2) := ⟨_, ⟨rfl⟩⟩
      obtain ⟨l2, HLL⟩ : ∃ l2, Aside0 (e2.out = l2) := ⟨_, ⟨rfl⟩⟩
      have HB : Aside0 (l2.length ≤ 800 ∧ ∀ x ∈ l2, x.kind = 0 → FrOk x.fr) := ⟨by rw [← HLL.out]; exact ⟨HG.out.len, HG.out.fr⟩⟩
      have HE : Aside0 (overP true p = effs true q2 l2) := ⟨by
        rw [← HQ2.out, ← HLL.out, ← HE2.out]
        unfold overP
        rw [if_pos HQP.out]
        rw [if_pos (show (p.at true).e.r200 = true from HZ2.out)]
        rfl⟩
      clear he hgo hg
      go_wp2_with fail
      generalize w1.alloc (.cells #[.int .i64 p.b.e.state, .int .i64 70, .int .i64 p.b.e.tries, .bool p.b.e.asked, .bool p.b.e.r200, .bool p.b.e.r203, .int .i64 0, .int .i64 p.b.e.fl.vs, .int .i64 p.b.e.fl.va, .int .i64 p.b.e.fl.vr, .bool p.b.e.fl.peer, .bool p.b.e.fl.own, .bool p.b.e.fl.ref, .int .i64 p.b.e.fl.q.sent, .int .i64 ((p.b.e.fl.q.list.length : Int) - p.b.e.fl.q.sent)] 49 (0, 0)) = w4 at *
      have HCL4 : Aside0 (Calls Tryz.prog 54 #[.pointer (some ⟨I.b1, 0, none⟩), .int .i64 200] w4 fun r w2 => ∃ v, r = .returned v ∧ Went (all [orow v l2, pairAt I c q2]) T w0 w2) := ⟨by
        have hcl := HO2.out.call_ex 3 rfl (fun T1 h1 => En.timeout200C I.b1 I.m1 I.f1 p.b.e HZ2.out HZ.out T1 _ _ (Went.refl h1))
        rw [HE2.out] at hcl
        exact hcl.mono fun r w2 ⟨v, hr, hw2⟩ => ⟨v, hr, by
          have hq := taken1 hw2 HOK.out rfl
          rw [HQ2.out, HLL.out] at hq
          exact hq⟩⟩
      clear HHA HO2 b4 b5
      refine HCL4.out.mono ?_
      rintro r w2 ⟨v, rfl, hw2⟩
      have HP := Aside0.mk hw2
      clear hw2
      go_wp2_with fail
      refine (effects1C I c _ _ l2 (Nat.le_trans HB.out.1 (by decide)) (by have := HC0.out; have := HB.out.1; omega) HB.out.2 T w0 _ HP.out).mono ?_
      rintro r w9 ⟨rfl, hw9⟩
      have HW9 := Aside0.mk hw9
      clear hw9 HP
      go_wp2
      go_end0
      refine ⟨rfl, ?_⟩
      rw [HE.out]
      exact grow1 HW9.out (by have := HB.out.1; omega) HC0.out
    | false =>
      cases z3 with
      | true =>
        obtain ⟨_, he⟩ := HO2.out.get 3 rfl
        obtain ⟨hgo, _⟩ := go_of he HOK.out.b.out
        have hg := go_over203 hgo
        obtain ⟨e2, HE2⟩ : ∃ e2, Aside0 (over203 p.b.e = e2) := ⟨_, ⟨rfl⟩⟩
        have HG : Aside0 (GO 800 e2) := ⟨by rw [← HE2.out]; exact hg.mono (by omega)⟩
        have HZ : Aside0 (p.b.e.out.length ≤ 6900) := ⟨by rw [HOK.out.b.out]; exact Nat.zero_le _⟩
        obtain ⟨q2, HQ2⟩ : ∃ q2 : Pr, Aside0 (({ p with b := { p.b with e := emptied e2 } } : Pr) = q2) := ⟨_, ⟨rfl⟩⟩
        obtain ⟨l2, HLL⟩ : ∃ l2, Aside0 (e2.out = l2) := ⟨_, ⟨rfl⟩⟩
        have HB : Aside0 (l2.length ≤ 800 ∧ ∀ x ∈ l2, x.kind = 0 → FrOk x.fr) := ⟨by rw [← HLL.out]; exact ⟨HG.out.len, HG.out.fr⟩⟩
        have HE : Aside0 (overP true p = effs true q2 l2) := ⟨by
          rw [← HQ2.out, ← HLL.out, ← HE2.out]
          unfold overP
          rw [if_pos HQP.out]
          rw [if_neg (show ¬ (p.at true).e.r200 = true from by rw [show (p.at true).e.r200 = false from HZ2.out]; decide), if_pos (show (p.at true).e.r203 = true from HZ3.out)]
          rfl⟩
        clear he hgo hg
        go_wp2_with fail
        generalize w1.alloc (.cells #[.int .i64 p.b.e.state, .int .i64 70, .int .i64 p.b.e.tries, .bool p.b.e.asked, .bool p.b.e.r200, .bool p.b.e.r203, .int .i64 0, .int .i64 p.b.e.fl.vs, .int .i64 p.b.e.fl.va, .int .i64 p.b.e.fl.vr, .bool p.b.e.fl.peer, .bool p.b.e.fl.own, .bool p.b.e.fl.ref, .int .i64 p.b.e.fl.q.sent, .int .i64 ((p.b.e.fl.q.list.length : Int) - p.b.e.fl.q.sent)] 49 (0, 0)) = w4 at *
        have HCL4 : Aside0 (Calls Tryz.prog 54 #[.pointer (some ⟨I.b1, 0, none⟩), .int .i64 203] w4 fun r w2 => ∃ v, r = .returned v ∧ Went (all [orow v l2, pairAt I c q2]) T w0 w2) := ⟨by
          have hcl := HO2.out.call_ex 3 rfl (fun T1 h1 => En.timeout203C I.b1 I.m1 I.f1 p.b.e HZ3.out HZ.out T1 _ _ (Went.refl h1))
          rw [HE2.out] at hcl
          exact hcl.mono fun r w2 ⟨v, hr, hw2⟩ => ⟨v, hr, by
            have hq := taken1 hw2 HOK.out rfl
            rw [HQ2.out, HLL.out] at hq
            exact hq⟩⟩
        clear HHA HO2 b4 b5
        refine HCL4.out.mono ?_
        rintro r w2 ⟨v, rfl, hw2⟩
        have HP := Aside0.mk hw2
        clear hw2
        go_wp2_with fail
        refine (effects1C I c _ _ l2 (Nat.le_trans HB.out.1 (by decide)) (by have := HC0.out; have := HB.out.1; omega) HB.out.2 T w0 _ HP.out).mono ?_
        rintro r w9 ⟨rfl, hw9⟩
        have HW9 := Aside0.mk hw9
        clear hw9 HP
        go_wp2
        go_end0
        refine ⟨rfl, ?_⟩
        rw [HE.out]
        exact grow1 HW9.out (by have := HB.out.1; omega) HC0.out
      | false =>
        have HE : Aside0 (overP true p = p) := ⟨by
          unfold overP
          rw [if_pos HQP.out, if_neg (show ¬ (p.at true).e.r200 = true from by rw [show (p.at true).e.r200 = false from HZ2.out]; decide), if_neg (show ¬ (p.at true).e.r203 = true from by rw [show (p.at true).e.r203 = false from HZ3.out]; decide)]⟩
        clear HO2
        go_wp2
        go_end0
        refine ⟨rfl, ?_⟩
        rw [HE.out]
        exact growP HHA.out (by omega) HC0.out
  · have HE : Aside0 (overP true p = p) := ⟨by unfold overP; rw [if_neg hq]⟩
    have hne : ¬ (p.a.way.length + p.b.way.length = 0) := fun h0 => hq ⟨List.eq_nil_of_length_eq_zero (by omega), List.eq_nil_of_length_eq_zero (by omega)⟩
    have hla := Nat.le_trans hok.a.way hok.cap
    have hlb := Nat.le_trans hok.b.way hok.cap
    generalize p.a.way.length = n0 at cr0 hne hla
    generalize p.b.way.length = n1 at cr1 hne hlb
    have hz : ((n0 : Int) + n1 == 0) = false := by rw [beq_eq_false_iff_ne]; omega
    have hwr : IntKind.i64.wrap ((n0 : Int) + n1) = (n0 : Int) + n1 := by simp [IntKind.wrap, IntKind.bits, IntKind.signed]; omega
    clear h hc HO1 hok hq HO hne
    go_enter Tryz.func32, Tryz.ntmps32
    go_wp2_with fail
    go_quiet (fail)
    have HH0 := Aside0.mk (HH.out.drewN nq)
    generalize w.drewN nq = wq at *
    go_wp2
    go_end0
    refine ⟨rfl, ?_⟩
    rw [HE.out]
    exact growP HH0.out (by omega) HC0.out
end Go.Proofs.YtljnfbpplhnmfaaGreatDoor.Pa
namespace Go.Proofs.YtljnfbpplhnmfaaGreatDoor.Pa
open Go Go.RowKit Go.Proofs.YtljnfbpplhnmfaaGreatDoorW.PrintWords Go.Proofs.YtljnfbpplhnmfaaGreatDoorW.PrintLast Go.Proofs.YtljnfbpplhnmfaaGreatDoorW.PrintMore Go.Proofs.YtljnfbpplhnmfaaGreatDoor.Str Go.Proofs.YtljnfbpplhnmfaaGreatDoor.Mp Go.Proofs.YtljnfbpplhnmfaaGreatDoor.Ra Go.Proofs.YtljnfbpplhnmfaaGreatDoor.Sl Go.Proofs.YtljnfbpplhnmfaaGreatDoor.Qu Go.Proofs.YtljnfbpplhnmfaaGreatDoor.Ru Go.Proofs.YtljnfbpplhnmfaaGreatDoor.Md
open Go.Proofs.YtljnfbpplhnmfaaGreatDoor.En (frCells efCells efs efs_app efs_one orow entAt)
set_option linter.unusedVariables false
set_option linter.unusedSimpArgs false
set_option maxRecDepth 1000000
set_option maxHeartbeats 8000000
theorem ends_at {I : PI} {c : Nat} {p : Pr} {T : Nat → Prop} {w0 w : World} (h : Went (pairAt I c p) T w0 w) : w.cell? ⟨I.g, 0, none⟩ = some (.pointer (some ⟨I.b0, 0, none⟩)) ∧ w.cell? ⟨I.g, 1, none⟩ = some (.pointer (some ⟨I.b1, 0, none⟩)) ∧ PB c p := by
  obtain ⟨A0, c0, A1, c1, A2, c2, A3, c3, A4, c4, A5, c5, A6, c6, A7, c7, A8, c8, A9, c9, HO1, hok⟩ := pairAt.opened h
  exact ⟨(cellAt (HO1.heap 1 rfl) 0 _ rfl).1, (cellAt (HO1.heap 1 rfl) 1 _ rfl).1, hok⟩
theorem view0C {I : PI} {c : Nat} {p : Pr} {T : Nat → Prop} {w0 w : World} (h : Went (pairAt I c p) T w0 w) :
    Calls Tryz.prog 13 #[.pointer (some ⟨I.b0, 0, none⟩)] w fun r w' => r = .returned (.agg (En.viewOf p.a.e)) ∧ Went (pairAt I c p) T w0 w' := by
  obtain ⟨A0, c0, A1, c1, A2, c2, A3, c3, A4, c4, A5, c5, A6, c6, A7, c7, A8, c8, A9, c9, HO1, hok⟩ := pairAt.opened h
  obtain ⟨T1, h1⟩ := HO1.get 2 rfl
  exact (En.eviewC I.b0 I.m0 I.f0 p.a.e T1 w w (Went.refl h1)).mono fun r w' ⟨a, b⟩ => ⟨a, h.below b⟩
theorem view1C {I : PI} {c : Nat} {p : Pr} {T : Nat → Prop} {w0 w : World} (h : Went (pairAt I c p) T w0 w) :
    Calls Tryz.prog 13 #[.pointer (some ⟨I.b1, 0, none⟩)] w fun r w' => r = .returned (.agg (En.viewOf p.b.e)) ∧ Went (pairAt I c p) T w0 w' := by
  obtain ⟨A0, c0, A1, c1, A2, c2, A3, c3, A4, c4, A5, c5, A6, c6, A7, c7, A8, c8, A9, c9, HO1, hok⟩ := pairAt.opened h
  obtain ⟨T1, h1⟩ := HO1.get 3 rfl
  exact (En.eviewC I.b1 I.m1 I.f1 p.b.e T1 w w (Went.refl h1)).mono fun r w' ⟨a, b⟩ => ⟨a, h.below b⟩
theorem viewFld (a0 a1 a2 a6 a7 a8 a9 a13 a14 : Int) (a3 a4 a5 a10 a11 a12 : Bool) (w : World) : Sem.run Tryz.prog (Instr.field 49 (Value.agg #[.int .i64 a0, .int .i64 a1, .int .i64 a2, .bool a3, .bool a4, .bool a5, .int .i64 a6, .int .i64 a7, .int .i64 a8, .int .i64 a9, .bool a10, .bool a11, .bool a12, .int .i64 a13, .int .i64 a14]) 4) w = Result.ok (.bool a4) w := by kernel_rfl
attribute [local go_sem high] viewFld
theorem settleC (I : PI) (c n : Nat) (hn : n ≤ 100) (p : Pr) (hc : c + 2000 + n * 30010000 ≤ 100000000000) (T : Nat → Prop) (w0 w : World) (hN : LN T w0) (h : Went (pairAt I c p) T w0 w) :
    Calls Tryz.prog 10 #[.pointer (some ⟨I.g, 0, none⟩), .int .i64 n] w fun r w' => r = .returned (.tuple #[]) ∧ Went (pairAt I (c + 2000 + n * 30010000) (Md.settle n p)) T w0 w' := by
  have HC0 := Aside0.mk hc
  have HNN := Aside0.mk hN
  obtain ⟨d, HD⟩ : ∃ d, Aside0 (Md.settle n p = d) := ⟨_, ⟨rfl⟩⟩
  obtain ⟨p1, HP1⟩ : ∃ q, Aside0 (askP false p 5 = q) := ⟨_, ⟨rfl⟩⟩
  obtain ⟨p2, HP2⟩ : ∃ q, Aside0 (askP true p1 5 = q) := ⟨_, ⟨rfl⟩⟩
  have HS : Aside0 (settleN n p2 = d) := ⟨by rw [← HP2.out, ← HP1.out]; exact HD.out⟩
  rw [HD.out]
  have HP := Aside0.mk h
  clear h hc hN HD
  go_enter Tryz.func10, Tryz.ntmps10
  go_wp2_with fail
  go_loopw [6] (fun x wr => x = .int .i64 0 ∧ Aside0 (Went (pairAt I c p) T w0 wr) ∨ x = .int .i64 1 ∧ Aside0 (Went (pairAt I (c + 1000) p1) T w0 wr) ∨ x = .int .i64 2 ∧ Aside0 (Went (pairAt I (c + 2000) p2) T w0 wr)) (fun x _ => 2 - (intOf x).toNat)
  case atStart => exact Or.inl ⟨rfl, HP⟩
  case round =>
    clear HP
    rcases hrel with ⟨rfl, HP⟩ | ⟨rfl, HP⟩ | ⟨rfl, HP⟩
    · have HA : Aside0 (Calls Tryz.prog 30 #[.pointer (some ⟨I.g, 0, none⟩), .int .i64 0, .int .i64 5] wr fun r w' => r = .returned (.tuple #[]) ∧ Went (pairAt I (c + 1000) p1) T w0 w') := ⟨by
        rw [← HP1.out]; exact ask05C I c p (by have := HC0.out; omega) T w0 _ HP.out⟩
      go_wp2_with fail
      refine HA.out.mono ?_
      rintro r w1 ⟨rfl, hw1⟩
      have HW := Aside0.mk hw1
      clear hw1 HA HP
      go_wp2_with fail
      exact ⟨Or.inr (Or.inl ⟨by go_num, HW⟩), by simp [intOf]⟩
    · have HA : Aside0 (Calls Tryz.prog 30 #[.pointer (some ⟨I.g, 0, none⟩), .int .i64 1, .int .i64 5] wr fun r w' => r = .returned (.tuple #[]) ∧ Went (pairAt I (c + 1000 + 1000) p2) T w0 w') := ⟨by
        rw [← HP2.out]; exact ask15C I (c + 1000) p1 (by have := HC0.out; omega) T w0 _ HP.out⟩
      go_wp2_with fail
      refine HA.out.mono ?_
      rintro r w1 ⟨rfl, hw1⟩
      have HW := Aside0.mk hw1
      clear hw1 HA HP
      go_wp2_with fail
      exact ⟨Or.inr (Or.inr ⟨by go_num, HW⟩), by simp [intOf]⟩
    · go_wp2_with fail
      go_loopw [14] (fun x wr => ∃ k : Nat, k ≤ n ∧ x = .int .i64 k ∧ ∃ q : Pr, Aside0 (settleN (n - k) q = d ∧ Went (pairAt I (c + 2000 + k * 30010000) q) T w0 wr)) (fun x _ => n - (intOf x).toNat)
      case atStart => exact ⟨0, Nat.zero_le _, rfl, p2, ⟨HS.out, by have := HP.out; simpa using this⟩⟩
      case round =>
        clear HP
        obtain ⟨k, hk, rfl, q, HP⟩ := hrel
        by_cases hlt : k < n
        · have hk2 : (k : Int) < n := by omega
          have HKB : Aside0 (c + 2000 + k * 30010000 + 30010000 ≤ c + 2000 + n * 30010000) := ⟨by omega⟩
          obtain ⟨C, HC⟩ : ∃ C : Nat, Aside0 (c + 2000 + k * 30010000 = C) := ⟨_, ⟨rfl⟩⟩
          obtain ⟨q0, HG0⟩ : ∃ q', Aside0 (Md.drain q = q') := ⟨_, ⟨rfl⟩⟩
          obtain ⟨q1, HG1⟩ : ∃ q', Aside0 (Md.settle1 false q0 = q') := ⟨_, ⟨rfl⟩⟩
          obtain ⟨q2, HG2⟩ : ∃ q', Aside0 (Md.settle1 true q1 = q') := ⟨_, ⟨rfl⟩⟩
          have HE : Aside0 (settleN (n - (k + 1)) q2 = d) := ⟨by
            have h1 := HP.out.1
            rw [show n - k = (n - (k + 1)) + 1 by omega] at h1
            rw [← HG2.out, ← HG1.out, ← HG0.out]
            exact h1⟩
          have HKC : Aside0 (C + 30010000 = c + 2000 + (k + 1) * 30010000 ∧ c + 2000 + (k + 1) * 30010000 ≤ 100000000000) := ⟨by have := HKB.out; have := HC.out; have := HC0.out; omega⟩
          have HPC : Aside0 (Went (pairAt I C q) T w0 wr) := ⟨by rw [← HC.out]; exact HP.out.2⟩
          have HB0 : Aside0 (C + 30010000 ≤ 100000000000) := ⟨by have := HKB.out; have := HC.out; have := HC0.out; omega⟩
          have HD : Aside0 (Calls Tryz.prog 14 #[.pointer (some ⟨I.g, 0, none⟩)] wr fun r w' => r = .returned (.tuple #[]) ∧ Went (pairAt I (C + 10000000) q0) T w0 w') := ⟨by
            rw [← HG0.out]
            exact drainC I C q (by have := HB0.out; omega) T w0 _ HNN.out HPC.out⟩
          clear HP HPC
          go_wp2_with fail
          refine HD.out.mono ?_
          rintro r w1 ⟨rfl, hw1⟩
          obtain ⟨C0, HC1⟩ : ∃ C' : Nat, Aside0 (C + 10000000 = C') := ⟨_, ⟨rfl⟩⟩
          rw [HC1.out] at hw1
          have HQ := Aside0.mk hw1
          clear hw1 HD
          obtain ⟨C1, HC2⟩ : ∃ C' : Nat, Aside0 (C0 + 10001000 = C') := ⟨_, ⟨rfl⟩⟩
          have HB : Aside0 (C0 + 10001000 = C1 ∧ C1 + 10001000 ≤ 100000000000) := ⟨by have := HB0.out; have := HC1.out; have := HC2.out; omega⟩
          go_wp2_with fail
          go_loopw [18] (fun x wr => x = .int .i64 0 ∧ Aside0 (Went (pairAt I C0 q0) T w0 wr) ∨ x = .int .i64 1 ∧ Aside0 (Went (pairAt I C1 q1) T w0 wr) ∨ x = .int .i64 2 ∧ Aside0 (Went (pairAt I (C1 + 10001000) q2) T w0 wr)) (fun x _ => 2 - (intOf x).toNat)
          case atStart => exact Or.inl ⟨rfl, HQ⟩
          case round =>
          clear HQ
          rcases hrel with ⟨rfl, HQ⟩ | ⟨rfl, HQ⟩ | ⟨rfl, HQ⟩
          · skip
            obtain ⟨e0, e1, HOKq⟩ := ends_at HQ.out
            have HOK := Aside0.mk HOKq
            clear HOKq
            have HV : Aside0 (Calls Tryz.prog 13 #[.pointer (some ⟨I.b0, 0, none⟩)] wr fun r w' => r = .returned (.agg (En.viewOf q0.a.e)) ∧ Went (pairAt I C0 q0) T w0 w') := ⟨view0C HQ.out⟩
            obtain ⟨z, HZ⟩ : ∃ z, Aside0 (q0.a.e.r200 = z) := ⟨_, ⟨rfl⟩⟩
            have hvw : (En.viewOf q0.a.e)[4]? = some (.bool z) := by rw [← HZ.out]; rfl
            have hs1 : ¬ z = true → settle1 false q0 = q0 := fun hz => by
              unfold Md.settle1
              rw [if_neg (by rw [show (q0.at false).e.r200 = z from HZ.out]; exact hz)]
            have hs2 : z = true → settle1 false q0 = Md.drain (overP false q0) := fun hz => by
              unfold Md.settle1
              rw [if_pos (by rw [show (q0.at false).e.r200 = z from HZ.out]; exact hz)]
            have HS1 := Aside0.mk hs1
            have HS2 := Aside0.mk hs2
            clear hs1 hs2 hvw
            generalize hvv : q0.a.e = ee at HV HZ
            have hz4 : ee.r200 = z := HZ.out
            unfold En.viewOf at HV
            rw [hz4] at HV
            clear hz4
            go_wp2_with fail
            refine HV.out.mono ?_
            rintro r w1 ⟨rfl, hw1⟩
            have HQ1 := Aside0.mk hw1
            clear hw1 HV HQ e0 e1
            cases z with
            | false =>
              go_wp2_with fail
              exact ⟨Or.inr (Or.inl ⟨by go_num, ⟨by rw [← HG1.out, HS1.out (by decide)]; exact growP HQ1.out (by have := HB.out; omega) (by have := HB.out; omega)⟩⟩), by simp [intOf]⟩
            | true =>
              have HO : Aside0 (Calls Tryz.prog 32 #[.pointer (some ⟨I.g, 0, none⟩), .int .i64 0] w1 fun r w' => r = .returned (.tuple #[]) ∧ Went (pairAt I (C0 + 1000) (overP false q0)) T w0 w') := ⟨over0C I C0 q0 (by have := HB.out; omega) T w0 _ HQ1.out⟩
              go_wp2_with fail
              refine HO.out.mono ?_
              rintro r w2 ⟨rfl, hw2⟩
              have HQ2 := Aside0.mk hw2
              clear hw2 HO HQ1
              have HD : Aside0 (Calls Tryz.prog 14 #[.pointer (some ⟨I.g, 0, none⟩)] w2 fun r w' => r = .returned (.tuple #[]) ∧ Went (pairAt I (C0 + 1000 + 10000000) (Md.drain (overP false q0))) T w0 w') := ⟨drainC I (C0 + 1000) (overP false q0) (by have := HB.out; omega) T w0 _ HNN.out HQ2.out⟩
              go_wp2_with fail
              refine HD.out.mono ?_
              rintro r w3 ⟨rfl, hw3⟩
              have HQ3 := Aside0.mk hw3
              clear hw3 HD HQ2
              go_wp2_with fail
              exact ⟨Or.inr (Or.inl ⟨by go_num, ⟨by rw [← HG1.out, HS2.out (by trivial)]; exact growP HQ3.out (by have := HB.out; omega) (by have := HB.out; omega)⟩⟩), by simp [intOf]⟩
          · skip
            obtain ⟨e0, e1, HOKq⟩ := ends_at HQ.out
            have HOK := Aside0.mk HOKq
            clear HOKq
            have HV : Aside0 (Calls Tryz.prog 13 #[.pointer (some ⟨I.b1, 0, none⟩)] wr fun r w' => r = .returned (.agg (En.viewOf q1.b.e)) ∧ Went (pairAt I C1 q1) T w0 w') := ⟨view1C HQ.out⟩
            obtain ⟨z, HZ⟩ : ∃ z, Aside0 (q1.b.e.r200 = z) := ⟨_, ⟨rfl⟩⟩
            have hvw : (En.viewOf q1.b.e)[4]? = some (.bool z) := by rw [← HZ.out]; rfl
            have hs1 : ¬ z = true → settle1 true q1 = q1 := fun hz => by
              unfold Md.settle1
              rw [if_neg (by rw [show (q1.at true).e.r200 = z from HZ.out]; exact hz)]
            have hs2 : z = true → settle1 true q1 = Md.drain (overP true q1) := fun hz => by
              unfold Md.settle1
              rw [if_pos (by rw [show (q1.at true).e.r200 = z from HZ.out]; exact hz)]
            have HS1 := Aside0.mk hs1
            have HS2 := Aside0.mk hs2
            clear hs1 hs2 hvw
            generalize hvv : q1.b.e = ee at HV HZ
            have hz4 : ee.r200 = z := HZ.out
            unfold En.viewOf at HV
            rw [hz4] at HV
            clear hz4
            go_wp2_with fail
            refine HV.out.mono ?_
            rintro r w1 ⟨rfl, hw1⟩
            have HQ1 := Aside0.mk hw1
            clear hw1 HV HQ e0 e1
            cases z with
            | false =>
              go_wp2_with fail
              exact ⟨Or.inr (Or.inr ⟨by go_num, ⟨by rw [← HG2.out, HS1.out (by decide)]; exact growP HQ1.out (by have := HB.out; omega) (by have := HB.out; omega)⟩⟩), by simp [intOf]⟩
            | true =>
              have HO : Aside0 (Calls Tryz.prog 32 #[.pointer (some ⟨I.g, 0, none⟩), .int .i64 1] w1 fun r w' => r = .returned (.tuple #[]) ∧ Went (pairAt I (C1 + 1000) (overP true q1)) T w0 w') := ⟨over1C I C1 q1 (by have := HB.out; omega) T w0 _ HQ1.out⟩
              go_wp2_with fail
              refine HO.out.mono ?_
              rintro r w2 ⟨rfl, hw2⟩
              have HQ2 := Aside0.mk hw2
              clear hw2 HO HQ1
              have HD : Aside0 (Calls Tryz.prog 14 #[.pointer (some ⟨I.g, 0, none⟩)] w2 fun r w' => r = .returned (.tuple #[]) ∧ Went (pairAt I (C1 + 1000 + 10000000) (Md.drain (overP true q1))) T w0 w') := ⟨drainC I (C1 + 1000) (overP true q1) (by have := HB.out; omega) T w0 _ HNN.out HQ2.out⟩
              go_wp2_with fail
              refine HD.out.mono ?_
              rintro r w3 ⟨rfl, hw3⟩
              have HQ3 := Aside0.mk hw3
              clear hw3 HD HQ2
              go_wp2_with fail
              exact ⟨Or.inr (Or.inr ⟨by go_num, ⟨by rw [← HG2.out, HS2.out (by trivial)]; exact growP HQ3.out (by have := HB.out; omega) (by have := HB.out; omega)⟩⟩), by simp [intOf]⟩
          · have HQ9 : Aside0 (Went (pairAt I (c + 2000 + (k + 1) * 30010000) q2) T w0 wr) := ⟨growP (c := C1 + 10001000) (d := c + 2000 + (k + 1) * 30010000) HQ.out (by rw [← HKC.out.1]; have := HB.out; have := HC1.out; omega) HKC.out.2⟩
            go_wp2_with fail
            exact ⟨⟨k + 1, by omega, by go_num, q2, ⟨HE.out, HQ9.out⟩⟩, by simp [intOf]; omega⟩
        · have hk2 : ¬ (k : Int) < n := by omega
          obtain rfl : k = n := by omega
          have HF : Aside0 (Went (pairAt I (c + 2000 + k * 30010000) d) T w0 wr) := ⟨by
            rw [← HP.out.1, Nat.sub_self]
            exact HP.out.2⟩
          go_wp2
          go_end0
          exact ⟨rfl, HF.out⟩
end Go.Proofs.YtljnfbpplhnmfaaGreatDoor.Pa
