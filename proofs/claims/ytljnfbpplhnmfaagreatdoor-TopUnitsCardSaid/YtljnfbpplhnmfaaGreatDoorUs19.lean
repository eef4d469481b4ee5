/- Both ends of a link, in memory: what a user asks. Conditions: sizes. -/
import Derived.Test.YtljnfbpplhnmfaaGreatDoorUs16
import Derived.Test.YtljnfbpplhnmfaaGreatDoorUs17
import Derived.Test.YtljnfbpplhnmfaaGreatDoorUs18
namespace Go.Proofs.YtljnfbpplhnmfaaGreatDoor.Pa
open Go Go.RowKit Go.Proofs.YtljnfbpplhnmfaaGreatDoorW.PrintWords Go.Proofs.YtljnfbpplhnmfaaGreatDoorW.PrintLast Go.Proofs.YtljnfbpplhnmfaaGreatDoorW.PrintMore Go.Proofs.YtljnfbpplhnmfaaGreatDoor.Str Go.Proofs.YtljnfbpplhnmfaaGreatDoor.Mp Go.Proofs.YtljnfbpplhnmfaaGreatDoor.Ra Go.Proofs.YtljnfbpplhnmfaaGreatDoor.Sl Go.Proofs.YtljnfbpplhnmfaaGreatDoor.Qu Go.Proofs.YtljnfbpplhnmfaaGreatDoor.Ru Go.Proofs.YtljnfbpplhnmfaaGreatDoor.Md
open Go.Proofs.YtljnfbpplhnmfaaGreatDoor.En (frCells efCells efs efs_app efs_one orow entAt)
set_option linter.unusedVariables false
set_option linter.unusedSimpArgs false
set_option maxRecDepth 1000000
set_option maxHeartbeats 8000000
theorem grow1 {I : PI} {c d : Nat} {p : Pr} {A : SP} {T : Nat → Prop} {w0 w : World} (h : Went (all [A, pairAt I c p]) T w0 w) (hd : c ≤ d) (hc : d ≤ 100000000000) : Went (pairAt I d p) T w0 w := by
  refine (Went.only h.drop).imp fun T1 h1 => ?_
  obtain ⟨V, Tf, Tr, hf, hr, d2, e3⟩ := h1
  exact ⟨V, Tf, Tr, ⟨hf.1, hf.2.mono hd hc⟩, hr, d2, e3⟩
theorem ask00C (I : PI) (c : Nat) (p : Pr) (hc : c + 1000 ≤ 100000000000) (T : Nat → Prop) (w0 w : World) (h : Went (pairAt I c p) T w0 w) :
    Calls Tryz.prog 30 #[.pointer (some ⟨I.g, 0, none⟩), .int .i64 0, .int .i64 0] w fun r w' => r = .returned (.tuple #[]) ∧ Went (pairAt I (c + 1000) (askP false p 0)) T w0 w' := by
  obtain ⟨A0, c0, A1, c1, A2, c2, A3, c3, A4, c4, A5, c5, A6, c6, A7, c7, A8, c8, A9, c9, HO1, hok⟩ := pairAt.opened h
  have HO := Aside0.mk HO1
  have HOK0 := Aside0.mk hok
  obtain ⟨_, he⟩ := HO1.get 2 rfl
  obtain ⟨hgo, hmost⟩ := go_of he hok.a.out
  have hg := go_ask1 hgo 0 nil8 (by decide) hmost
  obtain ⟨e2, HE2⟩ : ∃ e2, Aside0 ((establish p.a.e).2 = e2) := ⟨_, ⟨rfl⟩⟩
  obtain ⟨er, HER⟩ : ∃ er, Aside0 ((establish p.a.e).1 = er) := ⟨_, ⟨rfl⟩⟩
  have HG : Aside0 (GO 800 e2) := ⟨by rw [← HE2.out]; exact hg.mono (by omega)⟩
  have HC0 := Aside0.mk hc
  have hzero : p.a.e.out.length ≤ 6900 := by rw [hok.a.out]; exact Nat.zero_le _
  have HZ := Aside0.mk hzero
  obtain ⟨c0, cf0⟩ := cellAt (HO.out.heap 1 rfl) 0 (.pointer (some ⟨I.b0, 0, none⟩)) rfl
  have HCL := Aside0.mk (HO.out.call_ex 2 rfl (fun T1 h1 => En.ask0C I.b0 I.m0 I.f0 p.a.e nil8 (by decide) HZ.out T1 _ _ (Went.refl h1)))
  have HCL2 := HCL.out
  rw [HE2.out, HER.out] at HCL2
  have HCL3 := Aside0.mk HCL2
  clear h HO1 hok he hgo hmost hg hc hzero HCL HCL2
  go_enter Tryz.func30, Tryz.ntmps30
  go_wp2_with fail
  refine HCL3.out.mono ?_
  rintro r w1 ⟨v, rfl, hw⟩
  have hq := taken0 hw HOK0.out rfl
  obtain ⟨q, HQ⟩ : ∃ q : Pr, Aside0 (({ p with a := { p.a with e := emptied e2 } } : Pr) = q) := ⟨_, ⟨rfl⟩⟩
  rw [HQ.out] at hq
  have HP := Aside0.mk hq
  obtain ⟨l, HLL⟩ : ∃ l, Aside0 (e2.out = l) := ⟨_, ⟨rfl⟩⟩
  rw [HLL.out] at HP
  clear hw hq HCL3 HO c0 cf0
  by_cases her : er = 0
  · subst her
    have HC1 : Aside0 (c + 1 ≤ 100000000000) := ⟨by have := HC0.out; omega⟩
    go_wp2_with fail
    have hwz : ∃ wz, Aside0 (wz = w1) := ⟨_, ⟨rfl⟩⟩
    clear hwz
    obtain ⟨A0, c0, A1, c1, A2, c2, A3, c3, A4, c4, A5, c5, A6, c6, A7, c7, A8, c8, A9, c9, HO2, hok2⟩ := pairAt.opened2 HP.out
    have HL := Aside0.mk HO2
    have HOK := Aside0.mk hok2
    clear HO2 hok2 HP
    obtain ⟨cr, fr⟩ := cellAt (HL.out.heap 2 rfl) 4 (.slice A2 q.a.taken.length c2) rfl
    have HL2 := Aside0.mk (HL.out.new (.cells #[.string nil8, .bool false] 42 (0, 0)))
    obtain ⟨cr2, fr2⟩ := cellAt (HL2.out.heap 3 rfl) 4 (.slice A2 q.a.taken.length c2) rfl
    have hn2 := HL2.out.heap 0 rfl
    obtain ⟨i0, hi0, hz0, hz1, hz2⟩ := info_parts infoEv
    obtain ⟨T3, hr⟩ := HL2.out.drew.get 8 rfl
    have HR := Aside0.mk hr.2
    have HI0 := Aside0.mk hi0
    have HZ0 := Aside0.mk hz0
    have HZ1 := Aside0.mk hz1
    have HZ2 := Aside0.mk hz2
    have hlen : q.a.taken.length ≤ 100000000000 := Nat.le_trans HOK.out.a.taken HOK.out.cap
    have HNW : Aside0 (∀ (j : Nat) (u : Value), ([.string nil8, .bool false] : List Value)[j]? = some u → (w1.alloc (.cells #[.string nil8, .bool false] 42 (0, 0))).cell? ((⟨w1.heap.size, 0, none⟩ : Addr).add j) = some u) := ⟨fun j u hu => by
      rw [add_plain, Lib.cell_of_heap hn2, ← hu]
      simp⟩
    clear hn2 hi0 hz0 hz1 hz2 hr
    have hw1 : IntKind.i64.wrap 1 = 1 := by decide
    have hw0 : IntKind.i64.wrap 0 = 0 := by decide
    go_region_law (refine step_append_at _ rfl _ _ 33 rfl T3 42 i0 (.agg #[.string nil8, .bool false]) 2 24 Tryz.underlying33 HI0.out HZ0.out HZ1.out HZ2.out rfl (by decide) _ _ _ rfl HR.out ⟨w1.heap.size, 0, none⟩ 1 1 [.string nil8, .bool false] rfl rfl HNW.out (by intro u hu; simp at hu; rcases hu with rfl | rfl <;> rfl) (by decide) (by unfold maxLen; omega) (by omega) ?_; intro v' w2 hown2 hg2 hloc; obtain ⟨B2, k2, rfl, _, _⟩ := hown2.shape; have hw3 := Aside0.mk (HL2.out.drew.at_ 8 rfl (fun T1 h1 => row_grown (n := q.a.taken.length) (v := .slice A2 q.a.taken.length c2) h1 hown2 hg2 hloc)); clear hown2 hg2 hloc HL2 HNW HR HI0 HZ0 HZ1 HZ2 cr cr2 fr fr2; obtain ⟨cr, fr⟩ := cellAt (hw3.out.heap 3 rfl) 4 (.slice A2 q.a.taken.length c2) rfl)
    all_goals
      have HP2 : Aside0 (Went (all [orow v l, pairAt I (c + 1) ({ q with a := { q.a with taken := q.a.taken ++ [⟨nil8, false⟩] } } : Pr)]) T w0 (w2.setCell ⟨I.g, 4, none⟩ (.slice B2 (q.a.taken.length + 1) k2))) := ⟨pairAt.close2 (p := ({ q with a := { q.a with taken := q.a.taken ++ [⟨nil8, false⟩] } } : Pr)) (V := ⟨.slice A0 q.a.way.length c0, .slice A1 q.b.way.length c1, .slice B2 (q.a.taken.length + 1) k2, .slice A3 q.b.taken.length c3, .slice A4 q.a.told.length c4, .slice A5 q.b.told.length c5, .slice A6 q.a.units.length c6, .slice A7 q.b.units.length c7, .slice A8 q.a.unit.length c8, .slice A9 q.b.unit.length c9⟩) (hw3.out.set 3 rfl 4 (.slice B2 (q.a.taken.length + 1) k2)).drop ⟨HC1.out, HOK.out.a.effTaken ⟨nil8, false⟩, HOK.out.b.mono (Nat.le_succ _), ⟨HOK.out.errors.1, by have := HOK.out.errors; show q.errors ≤ ((c + 1 : Nat) : Int); omega⟩, ⟨HOK.out.next.1, by have := HOK.out.next; show q.next ≤ ((c + 1 : Nat) : Int); omega⟩⟩ rfl rfl rfl rfl (by simp) (by simp [evs_app, evs]) rfl rfl rfl rfl rfl rfl rfl rfl rfl rfl rfl rfl rfl rfl⟩
      have HB : Aside0 (l.length ≤ 800 ∧ ∀ x ∈ l, x.kind = 0 → FrOk x.fr) := ⟨by rw [← HLL.out]; exact ⟨HG.out.len, HG.out.fr⟩⟩
      go_wp2_with fail
      refine (effects0C I (c + 1) _ v l (Nat.le_trans HB.out.1 (by decide)) (by have := HC0.out; have := HB.out.1; omega) HB.out.2 T w0 _ HP2.out).mono ?_
      rintro r w9 ⟨rfl, hw9⟩
      have HW9 := Aside0.mk hw9
      clear hw9 HP2
      go_wp2
      go_end0
      refine ⟨rfl, ?_⟩
      have hE : askP false p 0 = effs false (({ q with a := { q.a with taken := q.a.taken ++ [⟨nil8, false⟩] } } : Pr)) l := by
        rw [← HQ.out, ← HLL.out, ← HE2.out]
        have h1 : (establish p.a.e).1 = 0 := HER.out
        unfold askP become
        rw [show ask1 (p.at false).e 0 nil8 = establish p.a.e from rfl]
        simp only [h1]
        rfl
      rw [hE]
      exact grow1 HW9.out (by have := HB.out.1; omega) (by have := HC0.out; omega)
  · have hb0 : (er == 0) = false := by rw [beq_eq_false_iff_ne]; exact her
    have HB : Aside0 (l.length ≤ 800 ∧ ∀ x ∈ l, x.kind = 0 → FrOk x.fr) := ⟨by rw [← HLL.out]; exact ⟨HG.out.len, HG.out.fr⟩⟩
    go_wp2_with fail
    refine (effects0C I (c) _ v l (Nat.le_trans HB.out.1 (by decide)) (by have := HC0.out; have := HB.out.1; omega) HB.out.2 T w0 _ HP.out).mono ?_
    rintro r w9 ⟨rfl, hw9⟩
    have HW9 := Aside0.mk hw9
    clear hw9 HP
    go_wp2
    go_end0
    refine ⟨rfl, ?_⟩
    have hE : askP false p 0 = effs false (q) l := by
      rw [← HQ.out, ← HLL.out, ← HE2.out]
      have h1 : ((establish p.a.e).1 = 0) = False := eq_false (fun h => her (HER.out.symm.trans h))
      unfold askP become
      rw [show ask1 (p.at false).e 0 nil8 = establish p.a.e from rfl]
      simp only [h1, false_and, if_false]
      rfl
    rw [hE]
    exact grow1 HW9.out (by have := HB.out.1; omega) (by have := HC0.out; omega)
theorem ask01C (I : PI) (c : Nat) (p : Pr) (hc : c + 1000 ≤ 100000000000) (T : Nat → Prop) (w0 w : World) (h : Went (pairAt I c p) T w0 w) :
    Calls Tryz.prog 30 #[.pointer (some ⟨I.g, 0, none⟩), .int .i64 0, .int .i64 1] w fun r w' => r = .returned (.tuple #[]) ∧ Went (pairAt I (c + 1000) (askP false p 1)) T w0 w' := by
  obtain ⟨A0, c0, A1, c1, A2, c2, A3, c3, A4, c4, A5, c5, A6, c6, A7, c7, A8, c8, A9, c9, HO1, hok⟩ := pairAt.opened h
  have HO := Aside0.mk HO1
  have HOK0 := Aside0.mk hok
  obtain ⟨_, he⟩ := HO1.get 2 rfl
  obtain ⟨hgo, hmost⟩ := go_of he hok.a.out
  have hg := go_ask1 hgo 1 nil8 (by decide) hmost
  obtain ⟨e2, HE2⟩ : ∃ e2, Aside0 ((release p.a.e).2 = e2) := ⟨_, ⟨rfl⟩⟩
  obtain ⟨er, HER⟩ : ∃ er, Aside0 ((release p.a.e).1 = er) := ⟨_, ⟨rfl⟩⟩
  have HG : Aside0 (GO 800 e2) := ⟨by rw [← HE2.out]; exact hg.mono (by omega)⟩
  have HC0 := Aside0.mk hc
  have hzero : p.a.e.out.length ≤ 6900 := by rw [hok.a.out]; exact Nat.zero_le _
  have HZ := Aside0.mk hzero
  obtain ⟨c0, cf0⟩ := cellAt (HO.out.heap 1 rfl) 0 (.pointer (some ⟨I.b0, 0, none⟩)) rfl
  have HCL := Aside0.mk (HO.out.call_ex 2 rfl (fun T1 h1 => En.ask1C I.b0 I.m0 I.f0 p.a.e nil8 (by decide) HZ.out T1 _ _ (Went.refl h1)))
  have HCL2 := HCL.out
  rw [HE2.out, HER.out] at HCL2
  have HCL3 := Aside0.mk HCL2
  clear h HO1 hok he hgo hmost hg hc hzero HCL HCL2
  go_enter Tryz.func30, Tryz.ntmps30
  go_wp2_with fail
  refine HCL3.out.mono ?_
  rintro r w1 ⟨v, rfl, hw⟩
  have hq := taken0 hw HOK0.out rfl
  obtain ⟨q, HQ⟩ : ∃ q : Pr, Aside0 (({ p with a := { p.a with e := emptied e2 } } : Pr) = q) := ⟨_, ⟨rfl⟩⟩
  rw [HQ.out] at hq
  have HP := Aside0.mk hq
  obtain ⟨l, HLL⟩ : ∃ l, Aside0 (e2.out = l) := ⟨_, ⟨rfl⟩⟩
  rw [HLL.out] at HP
  clear hw hq HCL3 HO c0 cf0
  by_cases her : er = 0
  · subst her
    have HC1 : Aside0 (c + 1 ≤ 100000000000) := ⟨by have := HC0.out; omega⟩
    go_wp2_with fail
    have hwz : ∃ wz, Aside0 (wz = w1) := ⟨_, ⟨rfl⟩⟩
    clear hwz
    obtain ⟨A0, c0, A1, c1, A2, c2, A3, c3, A4, c4, A5, c5, A6, c6, A7, c7, A8, c8, A9, c9, HO2, hok2⟩ := pairAt.opened2 HP.out
    have HL := Aside0.mk HO2
    have HOK := Aside0.mk hok2
    clear HO2 hok2 HP
    obtain ⟨cr, fr⟩ := cellAt (HL.out.heap 2 rfl) 4 (.slice A2 q.a.taken.length c2) rfl
    have HL2 := Aside0.mk (HL.out.new (.cells #[.string nil8, .bool false] 42 (0, 0)))
    obtain ⟨cr2, fr2⟩ := cellAt (HL2.out.heap 3 rfl) 4 (.slice A2 q.a.taken.length c2) rfl
    have hn2 := HL2.out.heap 0 rfl
    obtain ⟨i0, hi0, hz0, hz1, hz2⟩ := info_parts infoEv
    obtain ⟨T3, hr⟩ := HL2.out.drew.get 8 rfl
    have HR := Aside0.mk hr.2
    have HI0 := Aside0.mk hi0
    have HZ0 := Aside0.mk hz0
    have HZ1 := Aside0.mk hz1
    have HZ2 := Aside0.mk hz2
    have hlen : q.a.taken.length ≤ 100000000000 := Nat.le_trans HOK.out.a.taken HOK.out.cap
    have HNW : Aside0 (∀ (j : Nat) (u : Value), ([.string nil8, .bool false] : List Value)[j]? = some u → (w1.alloc (.cells #[.string nil8, .bool false] 42 (0, 0))).cell? ((⟨w1.heap.size, 0, none⟩ : Addr).add j) = some u) := ⟨fun j u hu => by
      rw [add_plain, Lib.cell_of_heap hn2, ← hu]
      simp⟩
    clear hn2 hi0 hz0 hz1 hz2 hr
    have hw1 : IntKind.i64.wrap 1 = 1 := by decide
    have hw0 : IntKind.i64.wrap 0 = 0 := by decide
    go_region_law (refine step_append_at _ rfl _ _ 33 rfl T3 42 i0 (.agg #[.string nil8, .bool false]) 2 24 Tryz.underlying33 HI0.out HZ0.out HZ1.out HZ2.out rfl (by decide) _ _ _ rfl HR.out ⟨w1.heap.size, 0, none⟩ 1 1 [.string nil8, .bool false] rfl rfl HNW.out (by intro u hu; simp at hu; rcases hu with rfl | rfl <;> rfl) (by decide) (by unfold maxLen; omega) (by omega) ?_; intro v' w2 hown2 hg2 hloc; obtain ⟨B2, k2, rfl, _, _⟩ := hown2.shape; have hw3 := Aside0.mk (HL2.out.drew.at_ 8 rfl (fun T1 h1 => row_grown (n := q.a.taken.length) (v := .slice A2 q.a.taken.length c2) h1 hown2 hg2 hloc)); clear hown2 hg2 hloc HL2 HNW HR HI0 HZ0 HZ1 HZ2 cr cr2 fr fr2; obtain ⟨cr, fr⟩ := cellAt (hw3.out.heap 3 rfl) 4 (.slice A2 q.a.taken.length c2) rfl)
    all_goals
      have HP2 : Aside0 (Went (all [orow v l, pairAt I (c + 1) ({ q with a := { q.a with taken := q.a.taken ++ [⟨nil8, false⟩] } } : Pr)]) T w0 (w2.setCell ⟨I.g, 4, none⟩ (.slice B2 (q.a.taken.length + 1) k2))) := ⟨pairAt.close2 (p := ({ q with a := { q.a with taken := q.a.taken ++ [⟨nil8, false⟩] } } : Pr)) (V := ⟨.slice A0 q.a.way.length c0, .slice A1 q.b.way.length c1, .slice B2 (q.a.taken.length + 1) k2, .slice A3 q.b.taken.length c3, .slice A4 q.a.told.length c4, .slice A5 q.b.told.length c5, .slice A6 q.a.units.length c6, .slice A7 q.b.units.length c7, .slice A8 q.a.unit.length c8, .slice A9 q.b.unit.length c9⟩) (hw3.out.set 3 rfl 4 (.slice B2 (q.a.taken.length + 1) k2)).drop ⟨HC1.out, HOK.out.a.effTaken ⟨nil8, false⟩, HOK.out.b.mono (Nat.le_succ _), ⟨HOK.out.errors.1, by have := HOK.out.errors; show q.errors ≤ ((c + 1 : Nat) : Int); omega⟩, ⟨HOK.out.next.1, by have := HOK.out.next; show q.next ≤ ((c + 1 : Nat) : Int); omega⟩⟩ rfl rfl rfl rfl (by simp) (by simp [evs_app, evs]) rfl rfl rfl rfl rfl rfl rfl rfl rfl rfl rfl rfl rfl rfl⟩
      have HB : Aside0 (l.length ≤ 800 ∧ ∀ x ∈ l, x.kind = 0 → FrOk x.fr) := ⟨by rw [← HLL.out]; exact ⟨HG.out.len, HG.out.fr⟩⟩
      go_wp2_with fail
      refine (effects0C I (c + 1) _ v l (Nat.le_trans HB.out.1 (by decide)) (by have := HC0.out; have := HB.out.1; omega) HB.out.2 T w0 _ HP2.out).mono ?_
      rintro r w9 ⟨rfl, hw9⟩
      have HW9 := Aside0.mk hw9
      clear hw9 HP2
      go_wp2
      go_end0
      refine ⟨rfl, ?_⟩
      have hE : askP false p 1 = effs false (({ q with a := { q.a with taken := q.a.taken ++ [⟨nil8, false⟩] } } : Pr)) l := by
        rw [← HQ.out, ← HLL.out, ← HE2.out]
        have h1 : (release p.a.e).1 = 0 := HER.out
        unfold askP become
        rw [show ask1 (p.at false).e 1 nil8 = release p.a.e from rfl]
        simp only [h1]
        rfl
      rw [hE]
      exact grow1 HW9.out (by have := HB.out.1; omega) (by have := HC0.out; omega)
  · have hb0 : (er == 0) = false := by rw [beq_eq_false_iff_ne]; exact her
    have HB : Aside0 (l.length ≤ 800 ∧ ∀ x ∈ l, x.kind = 0 → FrOk x.fr) := ⟨by rw [← HLL.out]; exact ⟨HG.out.len, HG.out.fr⟩⟩
    go_wp2_with fail
    refine (effects0C I (c) _ v l (Nat.le_trans HB.out.1 (by decide)) (by have := HC0.out; have := HB.out.1; omega) HB.out.2 T w0 _ HP.out).mono ?_
    rintro r w9 ⟨rfl, hw9⟩
    have HW9 := Aside0.mk hw9
    clear hw9 HP
    go_wp2
    go_end0
    refine ⟨rfl, ?_⟩
    have hE : askP false p 1 = effs false (q) l := by
      rw [← HQ.out, ← HLL.out, ← HE2.out]
      have h1 : ((release p.a.e).1 = 0) = False := eq_false (fun h => her (HER.out.symm.trans h))
      unfold askP become
      rw [show ask1 (p.at false).e 1 nil8 = release p.a.e from rfl]
      simp only [h1, false_and, if_false]
      rfl
    rw [hE]
    exact grow1 HW9.out (by have := HB.out.1; omega) (by have := HC0.out; omega)
theorem ask04C (I : PI) (c : Nat) (p : Pr) (hc : c + 1000 ≤ 100000000000) (T : Nat → Prop) (w0 w : World) (h : Went (pairAt I c p) T w0 w) :
    Calls Tryz.prog 30 #[.pointer (some ⟨I.g, 0, none⟩), .int .i64 0, .int .i64 4] w fun r w' => r = .returned (.tuple #[]) ∧ Went (pairAt I (c + 1000) (askP false p 4)) T w0 w' := by
  obtain ⟨A0, c0, A1, c1, A2, c2, A3, c3, A4, c4, A5, c5, A6, c6, A7, c7, A8, c8, A9, c9, HO1, hok⟩ := pairAt.opened h
  have HO := Aside0.mk HO1
  have HOK0 := Aside0.mk hok
  obtain ⟨_, he⟩ := HO1.get 2 rfl
  obtain ⟨hgo, hmost⟩ := go_of he hok.a.out
  have hg := go_ask1 hgo 4 nil8 (by decide) hmost
  obtain ⟨e2, HE2⟩ : ∃ e2, Aside0 ((own p.a.e true).2 = e2) := ⟨_, ⟨rfl⟩⟩
  obtain ⟨er, HER⟩ : ∃ er, Aside0 ((own p.a.e true).1 = er) := ⟨_, ⟨rfl⟩⟩
  have HG : Aside0 (GO 800 e2) := ⟨by rw [← HE2.out]; exact hg.mono (by omega)⟩
  have HC0 := Aside0.mk hc
  have hzero : p.a.e.out.length ≤ 6900 := by rw [hok.a.out]; exact Nat.zero_le _
  have HZ := Aside0.mk hzero
  obtain ⟨c0, cf0⟩ := cellAt (HO.out.heap 1 rfl) 0 (.pointer (some ⟨I.b0, 0, none⟩)) rfl
  have HCL := Aside0.mk (HO.out.call_ex 2 rfl (fun T1 h1 => En.ask4C I.b0 I.m0 I.f0 p.a.e nil8 (by decide) HZ.out T1 _ _ (Went.refl h1)))
  have HCL2 := HCL.out
  rw [HE2.out, HER.out] at HCL2
  have HCL3 := Aside0.mk HCL2
  clear h HO1 hok he hgo hmost hg hc hzero HCL HCL2
  go_enter Tryz.func30, Tryz.ntmps30
  go_wp2_with fail
  refine HCL3.out.mono ?_
  rintro r w1 ⟨v, rfl, hw⟩
  have hq := taken0 hw HOK0.out rfl
  obtain ⟨q, HQ⟩ : ∃ q : Pr, Aside0 (({ p with a := { p.a with e := emptied e2 } } : Pr) = q) := ⟨_, ⟨rfl⟩⟩
  rw [HQ.out] at hq
  have HP := Aside0.mk hq
  obtain ⟨l, HLL⟩ : ∃ l, Aside0 (e2.out = l) := ⟨_, ⟨rfl⟩⟩
  rw [HLL.out] at HP
  clear hw hq HCL3 HO c0 cf0
  have hbs : ∀ z : Bool, (z && false) = false := fun z => by cases z <;> rfl
  cases hz : (er == 0) with
  | true =>
    have HB : Aside0 (l.length ≤ 800 ∧ ∀ x ∈ l, x.kind = 0 → FrOk x.fr) := ⟨by rw [← HLL.out]; exact ⟨HG.out.len, HG.out.fr⟩⟩
    go_wp2_with fail
    refine (effects0C I (c) _ v l (Nat.le_trans HB.out.1 (by decide)) (by have := HC0.out; have := HB.out.1; omega) HB.out.2 T w0 _ HP.out).mono ?_
    rintro r w9 ⟨rfl, hw9⟩
    have HW9 := Aside0.mk hw9
    clear hw9 HP
    go_wp2
    go_end0
    refine ⟨rfl, ?_⟩
    have hE : askP false p 4 = effs false (q) l := by
      rw [← HQ.out, ← HLL.out, ← HE2.out]
      show effs _ (Pr.upd (if (own p.a.e true).1 = 0 ∧ ((4 : Int) = 0 ∨ (4 : Int) = 1) then _ else p) _ _) _ = _
      rw [if_neg (fun h => by rcases h.2 with h | h <;> exact absurd h (by decide))]
      rfl
    rw [hE]
    exact grow1 HW9.out (by have := HB.out.1; omega) (by have := HC0.out; omega)
  | false =>
    have HB : Aside0 (l.length ≤ 800 ∧ ∀ x ∈ l, x.kind = 0 → FrOk x.fr) := ⟨by rw [← HLL.out]; exact ⟨HG.out.len, HG.out.fr⟩⟩
    go_wp2_with fail
    refine (effects0C I (c) _ v l (Nat.le_trans HB.out.1 (by decide)) (by have := HC0.out; have := HB.out.1; omega) HB.out.2 T w0 _ HP.out).mono ?_
    rintro r w9 ⟨rfl, hw9⟩
    have HW9 := Aside0.mk hw9
    clear hw9 HP
    go_wp2
    go_end0
    refine ⟨rfl, ?_⟩
    have hE : askP false p 4 = effs false (q) l := by
      rw [← HQ.out, ← HLL.out, ← HE2.out]
      show effs _ (Pr.upd (if (own p.a.e true).1 = 0 ∧ ((4 : Int) = 0 ∨ (4 : Int) = 1) then _ else p) _ _) _ = _
      rw [if_neg (fun h => by rcases h.2 with h | h <;> exact absurd h (by decide))]
      rfl
    rw [hE]
    exact grow1 HW9.out (by have := HB.out.1; omega) (by have := HC0.out; omega)
theorem ask05C (I : PI) (c : Nat) (p : Pr) (hc : c + 1000 ≤ 100000000000) (T : Nat → Prop) (w0 w : World) (h : Went (pairAt I c p) T w0 w) :
    Calls Tryz.prog 30 #[.pointer (some ⟨I.g, 0, none⟩), .int .i64 0, .int .i64 5] w fun r w' => r = .returned (.tuple #[]) ∧ Went (pairAt I (c + 1000) (askP false p 5)) T w0 w' := by
  obtain ⟨A0, c0, A1, c1, A2, c2, A3, c3, A4, c4, A5, c5, A6, c6, A7, c7, A8, c8, A9, c9, HO1, hok⟩ := pairAt.opened h
  have HO := Aside0.mk HO1
  have HOK0 := Aside0.mk hok
  obtain ⟨_, he⟩ := HO1.get 2 rfl
  obtain ⟨hgo, hmost⟩ := go_of he hok.a.out
  have hg := go_ask1 hgo 5 nil8 (by decide) hmost
  obtain ⟨e2, HE2⟩ : ∃ e2, Aside0 ((own p.a.e false).2 = e2) := ⟨_, ⟨rfl⟩⟩
  obtain ⟨er, HER⟩ : ∃ er, Aside0 ((own p.a.e false).1 = er) := ⟨_, ⟨rfl⟩⟩
  have HG : Aside0 (GO 800 e2) := ⟨by rw [← HE2.out]; exact hg.mono (by omega)⟩
  have HC0 := Aside0.mk hc
  have hzero : p.a.e.out.length ≤ 6900 := by rw [hok.a.out]; exact Nat.zero_le _
  have HZ := Aside0.mk hzero
  obtain ⟨c0, cf0⟩ := cellAt (HO.out.heap 1 rfl) 0 (.pointer (some ⟨I.b0, 0, none⟩)) rfl
  have HCL := Aside0.mk (HO.out.call_ex 2 rfl (fun T1 h1 => En.ask5C I.b0 I.m0 I.f0 p.a.e nil8 (by decide) HZ.out T1 _ _ (Went.refl h1)))
  have HCL2 := HCL.out
  rw [HE2.out, HER.out] at HCL2
  have HCL3 := Aside0.mk HCL2
  clear h HO1 hok he hgo hmost hg hc hzero HCL HCL2
  go_enter Tryz.func30, Tryz.ntmps30
  go_wp2_with fail
  refine HCL3.out.mono ?_
  rintro r w1 ⟨v, rfl, hw⟩
  have hq := taken0 hw HOK0.out rfl
  obtain ⟨q, HQ⟩ : ∃ q : Pr, Aside0 (({ p with a := { p.a with e := emptied e2 } } : Pr) = q) := ⟨_, ⟨rfl⟩⟩
  rw [HQ.out] at hq
  have HP := Aside0.mk hq
  obtain ⟨l, HLL⟩ : ∃ l, Aside0 (e2.out = l) := ⟨_, ⟨rfl⟩⟩
  rw [HLL.out] at HP
  clear hw hq HCL3 HO c0 cf0
  have hbs : ∀ z : Bool, (z && false) = false := fun z => by cases z <;> rfl
  cases hz : (er == 0) with
  | true =>
    have HB : Aside0 (l.length ≤ 800 ∧ ∀ x ∈ l, x.kind = 0 → FrOk x.fr) := ⟨by rw [← HLL.out]; exact ⟨HG.out.len, HG.out.fr⟩⟩
    go_wp2_with fail
    refine (effects0C I (c) _ v l (Nat.le_trans HB.out.1 (by decide)) (by have := HC0.out; have := HB.out.1; omega) HB.out.2 T w0 _ HP.out).mono ?_
    rintro r w9 ⟨rfl, hw9⟩
    have HW9 := Aside0.mk hw9
    clear hw9 HP
    go_wp2
    go_end0
    refine ⟨rfl, ?_⟩
    have hE : askP false p 5 = effs false (q) l := by
      rw [← HQ.out, ← HLL.out, ← HE2.out]
      show effs _ (Pr.upd (if (own p.a.e false).1 = 0 ∧ ((5 : Int) = 0 ∨ (5 : Int) = 1) then _ else p) _ _) _ = _
      rw [if_neg (fun h => by rcases h.2 with h | h <;> exact absurd h (by decide))]
      rfl
    rw [hE]
    exact grow1 HW9.out (by have := HB.out.1; omega) (by have := HC0.out; omega)
  | false =>
    have HB : Aside0 (l.length ≤ 800 ∧ ∀ x ∈ l, x.kind = 0 → FrOk x.fr) := ⟨by rw [← HLL.out]; exact ⟨HG.out.len, HG.out.fr⟩⟩
    go_wp2_with fail
    refine (effects0C I (c) _ v l (Nat.le_trans HB.out.1 (by decide)) (by have := HC0.out; have := HB.out.1; omega) HB.out.2 T w0 _ HP.out).mono ?_
    rintro r w9 ⟨rfl, hw9⟩
    have HW9 := Aside0.mk hw9
    clear hw9 HP
    go_wp2
    go_end0
    refine ⟨rfl, ?_⟩
    have hE : askP false p 5 = effs false (q) l := by
      rw [← HQ.out, ← HLL.out, ← HE2.out]
      show effs _ (Pr.upd (if (own p.a.e false).1 = 0 ∧ ((5 : Int) = 0 ∨ (5 : Int) = 1) then _ else p) _ _) _ = _
      rw [if_neg (fun h => by rcases h.2 with h | h <;> exact absurd h (by decide))]
      rfl
    rw [hE]
    exact grow1 HW9.out (by have := HB.out.1; omega) (by have := HC0.out; omega)
theorem ask10C (I : PI) (c : Nat) (p : Pr) (hc : c + 1000 ≤ 100000000000) (T : Nat → Prop) (w0 w : World) (h : Went (pairAt I c p) T w0 w) :
    Calls Tryz.prog 30 #[.pointer (some ⟨I.g, 0, none⟩), .int .i64 1, .int .i64 0] w fun r w' => r = .returned (.tuple #[]) ∧ Went (pairAt I (c + 1000) (askP true p 0)) T w0 w' := by
  obtain ⟨A0, c0, A1, c1, A2, c2, A3, c3, A4, c4, A5, c5, A6, c6, A7, c7, A8, c8, A9, c9, HO1, hok⟩ := pairAt.opened h
  have HO := Aside0.mk HO1
  have HOK0 := Aside0.mk hok
  obtain ⟨_, he⟩ := HO1.get 3 rfl
  obtain ⟨hgo, hmost⟩ := go_of he hok.b.out
  have hg := go_ask1 hgo 0 nil8 (by decide) hmost
  obtain ⟨e2, HE2⟩ : ∃ e2, Aside0 ((establish p.b.e).2 = e2) := ⟨_, ⟨rfl⟩⟩
  obtain ⟨er, HER⟩ : ∃ er, Aside0 ((establish p.b.e).1 = er) := ⟨_, ⟨rfl⟩⟩
  have HG : Aside0 (GO 800 e2) := ⟨by rw [← HE2.out]; exact hg.mono (by omega)⟩
  have HC0 := Aside0.mk hc
  have hzero : p.b.e.out.length ≤ 6900 := by rw [hok.b.out]; exact Nat.zero_le _
  have HZ := Aside0.mk hzero
  obtain ⟨c1, cf1⟩ := cellAt (HO.out.heap 1 rfl) 1 (.pointer (some ⟨I.b1, 0, none⟩)) rfl
  have HCL := Aside0.mk (HO.out.call_ex 3 rfl (fun T1 h1 => En.ask0C I.b1 I.m1 I.f1 p.b.e nil8 (by decide) HZ.out T1 _ _ (Went.refl h1)))
  have HCL2 := HCL.out
  rw [HE2.out, HER.out] at HCL2
  have HCL3 := Aside0.mk HCL2
  clear h HO1 hok he hgo hmost hg hc hzero HCL HCL2
  go_enter Tryz.func30, Tryz.ntmps30
  go_wp2_with fail
  refine HCL3.out.mono ?_
  rintro r w1 ⟨v, rfl, hw⟩
  have hq := taken1 hw HOK0.out rfl
  obtain ⟨q, HQ⟩ : ∃ q : Pr, Aside0 (({ p with b := { p.b with e := emptied e2 } } : Pr) = q) := ⟨_, ⟨rfl⟩⟩
  rw [HQ.out] at hq
  have HP := Aside0.mk hq
  obtain ⟨l, HLL⟩ : ∃ l, Aside0 (e2.out = l) := ⟨_, ⟨rfl⟩⟩
  rw [HLL.out] at HP
  clear hw hq HCL3 HO c1 cf1
  by_cases her : er = 0
  · subst her
    have HC1 : Aside0 (c + 1 ≤ 100000000000) := ⟨by have := HC0.out; omega⟩
    go_wp2_with fail
    have hwz : ∃ wz, Aside0 (wz = w1) := ⟨_, ⟨rfl⟩⟩
    clear hwz
    obtain ⟨A0, c0, A1, c1, A2, c2, A3, c3, A4, c4, A5, c5, A6, c6, A7, c7, A8, c8, A9, c9, HO2, hok2⟩ := pairAt.opened2 HP.out
    have HL := Aside0.mk HO2
    have HOK := Aside0.mk hok2
    clear HO2 hok2 HP
    obtain ⟨cr, fr⟩ := cellAt (HL.out.heap 2 rfl) 5 (.slice A3 q.b.taken.length c3) rfl
    have HL2 := Aside0.mk (HL.out.new (.cells #[.string nil8, .bool false] 42 (0, 0)))
    obtain ⟨cr2, fr2⟩ := cellAt (HL2.out.heap 3 rfl) 5 (.slice A3 q.b.taken.length c3) rfl
    have hn2 := HL2.out.heap 0 rfl
    obtain ⟨i0, hi0, hz0, hz1, hz2⟩ := info_parts infoEv
    obtain ⟨T3, hr⟩ := HL2.out.drew.get 9 rfl
    have HR := Aside0.mk hr.2
    have HI0 := Aside0.mk hi0
    have HZ0 := Aside0.mk hz0
    have HZ1 := Aside0.mk hz1
    have HZ2 := Aside0.mk hz2
    have hlen : q.b.taken.length ≤ 100000000000 := Nat.le_trans HOK.out.b.taken HOK.out.cap
    have HNW : Aside0 (∀ (j : Nat) (u : Value), ([.string nil8, .bool false] : List Value)[j]? = some u → (w1.alloc (.cells #[.string nil8, .bool false] 42 (0, 0))).cell? ((⟨w1.heap.size, 0, none⟩ : Addr).add j) = some u) := ⟨fun j u hu => by
      rw [add_plain, Lib.cell_of_heap hn2, ← hu]
      simp⟩
    clear hn2 hi0 hz0 hz1 hz2 hr
    have hw1 : IntKind.i64.wrap 1 = 1 := by decide
    have hw0 : IntKind.i64.wrap 0 = 0 := by decide
    go_region_law (refine step_append_at _ rfl _ _ 33 rfl T3 42 i0 (.agg #[.string nil8, .bool false]) 2 24 Tryz.underlying33 HI0.out HZ0.out HZ1.out HZ2.out rfl (by decide) _ _ _ rfl HR.out ⟨w1.heap.size, 0, none⟩ 1 1 [.string nil8, .bool false] rfl rfl HNW.out (by intro u hu; simp at hu; rcases hu with rfl | rfl <;> rfl) (by decide) (by unfold maxLen; omega) (by omega) ?_; intro v' w2 hown2 hg2 hloc; obtain ⟨B2, k2, rfl, _, _⟩ := hown2.shape; have hw3 := Aside0.mk (HL2.out.drew.at_ 9 rfl (fun T1 h1 => row_grown (n := q.b.taken.length) (v := .slice A3 q.b.taken.length c3) h1 hown2 hg2 hloc)); clear hown2 hg2 hloc HL2 HNW HR HI0 HZ0 HZ1 HZ2 cr cr2 fr fr2; obtain ⟨cr, fr⟩ := cellAt (hw3.out.heap 3 rfl) 5 (.slice A3 q.b.taken.length c3) rfl)
    all_goals
      have HP2 : Aside0 (Went (all [orow v l, pairAt I (c + 1) ({ q with b := { q.b with taken := q.b.taken ++ [⟨nil8, false⟩] } } : Pr)]) T w0 (w2.setCell ⟨I.g, 5, none⟩ (.slice B2 (q.b.taken.length + 1) k2))) := ⟨pairAt.close2 (p := ({ q with b := { q.b with taken := q.b.taken ++ [⟨nil8, false⟩] } } : Pr)) (V := ⟨.slice A0 q.a.way.length c0, .slice A1 q.b.way.length c1, .slice A2 q.a.taken.length c2, .slice B2 (q.b.taken.length + 1) k2, .slice A4 q.a.told.length c4, .slice A5 q.b.told.length c5, .slice A6 q.a.units.length c6, .slice A7 q.b.units.length c7, .slice A8 q.a.unit.length c8, .slice A9 q.b.unit.length c9⟩) (hw3.out.set 3 rfl 5 (.slice B2 (q.b.taken.length + 1) k2)).drop ⟨HC1.out, HOK.out.a.mono (Nat.le_succ _), HOK.out.b.effTaken ⟨nil8, false⟩, ⟨HOK.out.errors.1, by have := HOK.out.errors; show q.errors ≤ ((c + 1 : Nat) : Int); omega⟩, ⟨HOK.out.next.1, by have := HOK.out.next; show q.next ≤ ((c + 1 : Nat) : Int); omega⟩⟩ rfl rfl rfl rfl rfl rfl (by simp) (by simp [evs_app, evs]) rfl rfl rfl rfl rfl rfl rfl rfl rfl rfl rfl rfl⟩
      have HB : Aside0 (l.length ≤ 800 ∧ ∀ x ∈ l, x.kind = 0 → FrOk x.fr) := ⟨by rw [← HLL.out]; exact ⟨HG.out.len, HG.out.fr⟩⟩
      go_wp2_with fail
      refine (effects1C I (c + 1) _ v l (Nat.le_trans HB.out.1 (by decide)) (by have := HC0.out; have := HB.out.1; omega) HB.out.2 T w0 _ HP2.out).mono ?_
      rintro r w9 ⟨rfl, hw9⟩
      have HW9 := Aside0.mk hw9
      clear hw9 HP2
      go_wp2
      go_end0
      refine ⟨rfl, ?_⟩
      have hE : askP true p 0 = effs true (({ q with b := { q.b with taken := q.b.taken ++ [⟨nil8, false⟩] } } : Pr)) l := by
        rw [← HQ.out, ← HLL.out, ← HE2.out]
        have h1 : (establish p.b.e).1 = 0 := HER.out
        unfold askP become
        rw [show ask1 (p.at true).e 0 nil8 = establish p.b.e from rfl]
        simp only [h1]
        rfl
      rw [hE]
      exact grow1 HW9.out (by have := HB.out.1; omega) (by have := HC0.out; omega)
  · have hb0 : (er == 0) = false := by rw [beq_eq_false_iff_ne]; exact her
    have HB : Aside0 (l.length ≤ 800 ∧ ∀ x ∈ l, x.kind = 0 → FrOk x.fr) := ⟨by rw [← HLL.out]; exact ⟨HG.out.len, HG.out.fr⟩⟩
    go_wp2_with fail
    refine (effects1C I (c) _ v l (Nat.le_trans HB.out.1 (by decide)) (by have := HC0.out; have := HB.out.1; omega) HB.out.2 T w0 _ HP.out).mono ?_
    rintro r w9 ⟨rfl, hw9⟩
    have HW9 := Aside0.mk hw9
    clear hw9 HP
    go_wp2
    go_end0
    refine ⟨rfl, ?_⟩
    have hE : askP true p 0 = effs true (q) l := by
      rw [← HQ.out, ← HLL.out, ← HE2.out]
      have h1 : ((establish p.b.e).1 = 0) = False := eq_false (fun h => her (HER.out.symm.trans h))
      unfold askP become
      rw [show ask1 (p.at true).e 0 nil8 = establish p.b.e from rfl]
      simp only [h1, false_and, if_false]
      rfl
    rw [hE]
    exact grow1 HW9.out (by have := HB.out.1; omega) (by have := HC0.out; omega)
theorem ask11C (I : PI) (c : Nat) (p : Pr) (hc : c + 1000 ≤ 100000000000) (T : Nat → Prop) (w0 w : World) (h : Went (pairAt I c p) T w0 w) :
    Calls Tryz.prog 30 #[.pointer (some ⟨I.g, 0, none⟩), .int .i64 1, .int .i64 1] w fun r w' => r = .returned (.tuple #[]) ∧ Went (pairAt I (c + 1000) (askP true p 1)) T w0 w' := by
  obtain ⟨A0, c0, A1, c1, A2, c2, A3, c3, A4, c4, A5, c5, A6, c6, A7, c7, A8, c8, A9, c9, HO1, hok⟩ := pairAt.opened h
  have HO := Aside0.mk HO1
  have HOK0 := Aside0.mk hok
  obtain ⟨_, he⟩ := HO1.get 3 rfl
  obtain ⟨hgo, hmost⟩ := go_of he hok.b.out
  have hg := go_ask1 hgo 1 nil8 (by decide) hmost
  obtain ⟨e2, HE2⟩ : ∃ e2, Aside0 ((release p.b.e).2 = e2) := ⟨_, ⟨rfl⟩⟩
  obtain ⟨er, HER⟩ : ∃ er, Aside0 ((release p.b.e).1 = er) := ⟨_, ⟨rfl⟩⟩
  have HG : Aside0 (GO 800 e2) := ⟨by rw [← HE2.out]; exact hg.mono (by omega)⟩
  have HC0 := Aside0.mk hc
  have hzero : p.b.e.out.length ≤ 6900 := by rw [hok.b.out]; exact Nat.zero_le _
  have HZ := Aside0.mk hzero
  obtain ⟨c1, cf1⟩ := cellAt (HO.out.heap 1 rfl) 1 (.pointer (some ⟨I.b1, 0, none⟩)) rfl
  have HCL := Aside0.mk (HO.out.call_ex 3 rfl (fun T1 h1 => En.ask1C I.b1 I.m1 I.f1 p.b.e nil8 (by decide) HZ.out T1 _ _ (Went.refl h1)))
  have HCL2 := HCL.out
  rw [HE2.out, HER.out] at HCL2
  have HCL3 := Aside0.mk HCL2
  clear h HO1 hok he hgo hmost hg hc hzero HCL HCL2
  go_enter Tryz.func30, Tryz.ntmps30
  go_wp2_with fail
  refine HCL3.out.mono ?_
  rintro r w1 ⟨v, rfl, hw⟩
  have hq := taken1 hw HOK0.out rfl
  obtain ⟨q, HQ⟩ : ∃ q : Pr, Aside0 (({ p with b := { p.b with e := emptied e2 } } : Pr) = q) := ⟨_, ⟨rfl⟩⟩
  rw [HQ.out] at hq
  have HP := Aside0.mk hq
  obtain ⟨l, HLL⟩ : ∃ l, Aside0 (e2.out = l) := ⟨_, ⟨rfl⟩⟩
  rw [HLL.out] at HP
  clear hw hq HCL3 HO c1 cf1
  by_cases her : er = 0
  · subst her
    have HC1 : Aside0 (c + 1 ≤ 100000000000) := ⟨by have := HC0.out; omega⟩
    go_wp2_with fail
    have hwz : ∃ wz, Aside0 (wz = w1) := ⟨_, ⟨rfl⟩⟩
    clear hwz
    obtain ⟨A0, c0, A1, c1, A2, c2, A3, c3, A4, c4, A5, c5, A6, c6, A7, c7, A8, c8, A9, c9, HO2, hok2⟩ := pairAt.opened2 HP.out
    have HL := Aside0.mk HO2
    have HOK := Aside0.mk hok2
    clear HO2 hok2 HP
    obtain ⟨cr, fr⟩ := cellAt (HL.out.heap 2 rfl) 5 (.slice A3 q.b.taken.length c3) rfl
    have HL2 := Aside0.mk (HL.out.new (.cells #[.string nil8, .bool false] 42 (0, 0)))
    obtain ⟨cr2, fr2⟩ := cellAt (HL2.out.heap 3 rfl) 5 (.slice A3 q.b.taken.length c3) rfl
    have hn2 := HL2.out.heap 0 rfl
    obtain ⟨i0, hi0, hz0, hz1, hz2⟩ := info_parts infoEv
    obtain ⟨T3, hr⟩ := HL2.out.drew.get 9 rfl
    have HR := Aside0.mk hr.2
    have HI0 := Aside0.mk hi0
    have HZ0 := Aside0.mk hz0
    have HZ1 := Aside0.mk hz1
    have HZ2 := Aside0.mk hz2
    have hlen : q.b.taken.length ≤ 100000000000 := Nat.le_trans HOK.out.b.taken HOK.out.cap
    have HNW : Aside0 (∀ (j : Nat) (u : Value), ([.string nil8, .bool false] : List Value)[j]? = some u → (w1.alloc (.cells #[.string nil8, .bool false] 42 (0, 0))).cell? ((⟨w1.heap.size, 0, none⟩ : Addr).add j) = some u) := ⟨fun j u hu => by
      rw [add_plain, Lib.cell_of_heap hn2, ← hu]
      simp⟩
    clear hn2 hi0 hz0 hz1 hz2 hr
    have hw1 : IntKind.i64.wrap 1 = 1 := by decide
    have hw0 : IntKind.i64.wrap 0 = 0 := by decide
    go_region_law (refine step_append_at _ rfl _ _ 33 rfl T3 42 i0 (.agg #[.string nil8, .bool false]) 2 24 Tryz.underlying33 HI0.out HZ0.out HZ1.out HZ2.out rfl (by decide) _ _ _ rfl HR.out ⟨w1.heap.size, 0, none⟩ 1 1 [.string nil8, .bool false] rfl rfl HNW.out (by intro u hu; simp at hu; rcases hu with rfl | rfl <;> rfl) (by decide) (by unfold maxLen; omega) (by omega) ?_; intro v' w2 hown2 hg2 hloc; obtain ⟨B2, k2, rfl, _, _⟩ := hown2.shape; have hw3 := Aside0.mk (HL2.out.drew.at_ 9 rfl (fun T1 h1 => row_grown (n := q.b.taken.length) (v := .slice A3 q.b.taken.length c3) h1 hown2 hg2 hloc)); clear hown2 hg2 hloc HL2 HNW HR HI0 HZ0 HZ1 HZ2 cr cr2 fr fr2; obtain ⟨cr, fr⟩ := cellAt (hw3.out.heap 3 rfl) 5 (.slice A3 q.b.taken.length c3) rfl)
    all_goals
      have HP2 : Aside0 (Went (all [orow v l, pairAt I (c + 1) ({ q with b := { q.b with taken := q.b.taken ++ [⟨nil8, false⟩] } } : Pr)]) T w0 (w2.setCell ⟨I.g, 5, none⟩ (.slice B2 (q.b.taken.length + 1) k2))) := ⟨pairAt.close2 (p := ({ q with b := { q.b with taken := q.b.taken ++ [⟨nil8, false⟩] } } : Pr)) (V := ⟨.slice A0 q.a.way.length c0, .slice A1 q.b.way.length c1, .slice A2 q.a.taken.length c2, .slice B2 (q.b.taken.length + 1) k2, .slice A4 q.a.told.length c4, .slice A5 q.b.told.length c5, .slice A6 q.a.units.length c6, .slice A7 q.b.units.length c7, .slice A8 q.a.unit.length c8, .slice A9 q.b.unit.length c9⟩) (hw3.out.set 3 rfl 5 (.slice B2 (q.b.taken.length + 1) k2)).drop ⟨HC1.out, HOK.out.a.mono (Nat.le_succ _), HOK.out.b.effTaken ⟨nil8, false⟩, ⟨HOK.out.errors.1, by have := HOK.out.errors; show q.errors ≤ ((c + 1 : Nat) : Int); omega⟩, ⟨HOK.out.next.1, by have := HOK.out.next; show q.next ≤ ((c + 1 : Nat) : Int); omega⟩⟩ rfl rfl rfl rfl rfl rfl (by simp) (by simp [evs_app, evs]) rfl rfl rfl rfl rfl rfl rfl rfl rfl rfl rfl rfl⟩
      have HB : Aside0 (l.length ≤ 800 ∧ ∀ x ∈ l, x.kind = 0 → FrOk x.fr) := ⟨by rw [← HLL.out]; exact ⟨HG.out.len, HG.out.fr⟩⟩
      go_wp2_with fail
      refine (effects1C I (c + 1) _ v l (Nat.le_trans HB.out.1 (by decide)) (by have := HC0.out; have := HB.out.1; omega) HB.out.2 T w0 _ HP2.out).mono ?_
      rintro r w9 ⟨rfl, hw9⟩
      have HW9 := Aside0.mk hw9
      clear hw9 HP2
      go_wp2
      go_end0
      refine ⟨rfl, ?_⟩
      have hE : askP true p 1 = effs true (({ q with b := { q.b with taken := q.b.taken ++ [⟨nil8, false⟩] } } : Pr)) l := by
        rw [← HQ.out, ← HLL.out, ← HE2.out]
        have h1 : (release p.b.e).1 = 0 := HER.out
        unfold askP become
        rw [show ask1 (p.at true).e 1 nil8 = release p.b.e from rfl]
        simp only [h1]
        rfl
      rw [hE]
      exact grow1 HW9.out (by have := HB.out.1; omega) (by have := HC0.out; omega)
  · have hb0 : (er == 0) = false := by rw [beq_eq_false_iff_ne]; exact her
    have HB : Aside0 (l.length ≤ 800 ∧ ∀ x ∈ l, x.kind = 0 → FrOk x.fr) := ⟨by rw [← HLL.out]; exact ⟨HG.out.len, HG.out.fr⟩⟩
    go_wp2_with fail
    refine (effects1C I (c) _ v l (Nat.le_trans HB.out.1 (by decide)) (by have := HC0.out; have := HB.out.1; omega) HB.out.2 T w0 _ HP.out).mono ?_
    rintro r w9 ⟨rfl, hw9⟩
    have HW9 := Aside0.mk hw9
    clear hw9 HP
    go_wp2
    go_end0
    refine ⟨rfl, ?_⟩
    have hE : askP true p 1 = effs true (q) l := by
      rw [← HQ.out, ← HLL.out, ← HE2.out]
      have h1 : ((release p.b.e).1 = 0) = False := eq_false (fun h => her (HER.out.symm.trans h))
      unfold askP become
      rw [show ask1 (p.at true).e 1 nil8 = release p.b.e from rfl]
      simp only [h1, false_and, if_false]
      rfl
    rw [hE]
    exact grow1 HW9.out (by have := HB.out.1; omega) (by have := HC0.out; omega)
theorem ask14C (I : PI) (c : Nat) (p : Pr) (hc : c + 1000 ≤ 100000000000) (T : Nat → Prop) (w0 w : World) (h : Went (pairAt I c p) T w0 w) :
    Calls Tryz.prog 30 #[.pointer (some ⟨I.g, 0, none⟩), .int .i64 1, .int .i64 4] w fun r w' => r = .returned (.tuple #[]) ∧ Went (pairAt I (c + 1000) (askP true p 4)) T w0 w' := by
  obtain ⟨A0, c0, A1, c1, A2, c2, A3, c3, A4, c4, A5, c5, A6, c6, A7, c7, A8, c8, A9, c9, HO1, hok⟩ := pairAt.opened h
  have HO := Aside0.mk HO1
  have HOK0 := Aside0.mk hok
  obtain ⟨_, he⟩ := HO1.get 3 rfl
  obtain ⟨hgo, hmost⟩ := go_of he hok.b.out
  have hg := go_ask1 hgo 4 nil8 (by decide) hmost
  obtain ⟨e2, HE2⟩ : ∃ e2, Aside0 ((own p.b.e true).2 = e2) := ⟨_, ⟨rfl⟩⟩
  obtain ⟨er, HER⟩ : ∃ er, Aside0 ((own p.b.e true).1 = er) := ⟨_, ⟨rfl⟩⟩
  have HG : Aside0 (GO 800 e2) := ⟨by rw [← HE2.out]; exact hg.mono (by omega)⟩
  have HC0 := Aside0.mk hc
  have hzero : p.b.e.out.length ≤ 6900 := by rw [hok.b.out]; exact Nat.zero_le _
  have HZ := Aside0.mk hzero
  obtain ⟨c1, cf1⟩ := cellAt (HO.out.heap 1 rfl) 1 (.pointer (some ⟨I.b1, 0, none⟩)) rfl
  have HCL := Aside0.mk (HO.out.call_ex 3 rfl (fun T1 h1 => En.ask4C I.b1 I.m1 I.f1 p.b.e nil8 (by decide) HZ.out T1 _ _ (Went.refl h1)))
  have HCL2 := HCL.out
  rw [HE2.out, HER.out] at HCL2
  have HCL3 := Aside0.mk HCL2
  clear h HO1 hok he hgo hmost hg hc hzero HCL HCL2
  go_enter Tryz.func30, Tryz.ntmps30
  go_wp2_with fail
  refine HCL3.out.mono ?_
  rintro r w1 ⟨v, rfl, hw⟩
  have hq := taken1 hw HOK0.out rfl
  obtain ⟨q, HQ⟩ : ∃ q : Pr, Aside0 (({ p with b := { p.b with e := emptied e2 } } : Pr) = q) := ⟨_, ⟨rfl⟩⟩
  rw [HQ.out] at hq
  have HP := Aside0.mk hq
  obtain ⟨l, HLL⟩ : ∃ l, Aside0 (e2.out = l) := ⟨_, ⟨rfl⟩⟩
  rw [HLL.out] at HP
  clear hw hq HCL3 HO c1 cf1
  have hbs : ∀ z : Bool, (z && false) = false := fun z => by cases z <;> rfl
  cases hz : (er == 0) with
  | true =>
    have HB : Aside0 (l.length ≤ 800 ∧ ∀ x ∈ l, x.kind = 0 → FrOk x.fr) := ⟨by rw [← HLL.out]; exact ⟨HG.out.len, HG.out.fr⟩⟩
    go_wp2_with fail
    refine (effects1C I (c) _ v l (Nat.le_trans HB.out.1 (by decide)) (by have := HC0.out; have := HB.out.1; omega) HB.out.2 T w0 _ HP.out).mono ?_
    rintro r w9 ⟨rfl, hw9⟩
    have HW9 := Aside0.mk hw9
    clear hw9 HP
    go_wp2
    go_end0
    refine ⟨rfl, ?_⟩
    have hE : askP true p 4 = effs true (q) l := by
      rw [← HQ.out, ← HLL.out, ← HE2.out]
      show effs _ (Pr.upd (if (own p.b.e true).1 = 0 ∧ ((4 : Int) = 0 ∨ (4 : Int) = 1) then _ else p) _ _) _ = _
      rw [if_neg (fun h => by rcases h.2 with h | h <;> exact absurd h (by decide))]
      rfl
    rw [hE]
    exact grow1 HW9.out (by have := HB.out.1; omega) (by have := HC0.out; omega)
  | false =>
    have HB : Aside0 (l.length ≤ 800 ∧ ∀ x ∈ l, x.kind = 0 → FrOk x.fr) := ⟨by rw [← HLL.out]; exact ⟨HG.out.len, HG.out.fr⟩⟩
    go_wp2_with fail
    refine (effects1C I (c) _ v l (Nat.le_trans HB.out.1 (by decide)) (by have := HC0.out; have := HB.out.1; omega) HB.out.2 T w0 _ HP.out).mono ?_
    rintro r w9 ⟨rfl, hw9⟩
    have HW9 := Aside0.mk hw9
    clear hw9 HP
    go_wp2
    go_end0
    refine ⟨rfl, ?_⟩
    have hE : askP true p 4 = effs true (q) l := by
      rw [← HQ.out, ← HLL.out, ← HE2.out]
      show effs _ (Pr.upd (if (own p.b.e true).1 = 0 ∧ ((4 : Int) = 0 ∨ (4 : Int) = 1) then _ else p) _ _) _ = _
      rw [if_neg (fun h => by rcases h.2 with h | h <;> exact absurd h (by decide))]
      rfl
    rw [hE]
    exact grow1 HW9.out (by have := HB.out.1; omega) (by have := HC0.out; omega)
theorem ask15C (I : PI) (c : Nat) (p : Pr) (hc : c + 1000 ≤ 100000000000) (T : Nat → Prop) (w0 w : World) (h : Went (pairAt I c p) T w0 w) :
    Calls Tryz.prog 30 #[.pointer (some ⟨I.g, 0, none⟩), .int .i64 1, .int .i64 5] w fun r w' => r = .returned (.tuple #[]) ∧ Went (pairAt I (c + 1000) (askP true p 5)) T w0 w' := by
  obtain ⟨A0, c0, A1, c1, A2, c2, A3, c3, A4, c4, A5, c5, A6, c6, A7, c7, A8, c8, A9, c9, HO1, hok⟩ := pairAt.opened h
  have HO := Aside0.mk HO1
  have HOK0 := Aside0.mk hok
  obtain ⟨_, he⟩ := HO1.get 3 rfl
  obtain ⟨hgo, hmost⟩ := go_of he hok.b.out
  have hg := go_ask1 hgo 5 nil8 (by decide) hmost
  obtain ⟨e2, HE2⟩ : ∃ e2, Aside0 ((own p.b.e false).2 = e2) := ⟨_, ⟨rfl⟩⟩
  obtain ⟨er, HER⟩ : ∃ er, Aside0 ((own p.b.e false).1 = er) := ⟨_, ⟨rfl⟩⟩
  have HG : Aside0 (GO 800 e2) := ⟨by rw [← HE2.out]; exact hg.mono (by omega)⟩
  have HC0 := Aside0.mk hc
  have hzero : p.b.e.out.length ≤ 6900 := by rw [hok.b.out]; exact Nat.zero_le _
  have HZ := Aside0.mk hzero
  obtain ⟨c1, cf1⟩ := cellAt (HO.out.heap 1 rfl) 1 (.pointer (some ⟨I.b1, 0, none⟩)) rfl
  have HCL := Aside0.mk (HO.out.call_ex 3 rfl (fun T1 h1 => En.ask5C I.b1 I.m1 I.f1 p.b.e nil8 (by decide) HZ.out T1 _ _ (Went.refl h1)))
  have HCL2 := HCL.out
  rw [HE2.out, HER.out] at HCL2
  have HCL3 := Aside0.mk HCL2
  clear h HO1 hok he hgo hmost hg hc hzero HCL HCL2
  go_enter Tryz.func30, Tryz.ntmps30
  go_wp2_with fail
  refine HCL3.out.mono ?_
  rintro r w1 ⟨v, rfl, hw⟩
  have hq := taken1 hw HOK0.out rfl
  obtain ⟨q, HQ⟩ : ∃ q : Pr, Aside0 (({ p with b := { p.b with e := emptied e2 } } : Pr) = q) := ⟨_, ⟨rfl⟩⟩
  rw [HQ.out] at hq
  have HP := Aside0.mk hq
  obtain ⟨l, HLL⟩ : ∃ l, Aside0 (e2.out = l) := ⟨_, ⟨rfl⟩⟩
  rw [HLL.out] at HP
  clear hw hq HCL3 HO c1 cf1
  have hbs : ∀ z : Bool, (z && false) = false := fun z => by cases z <;> rfl
  cases hz : (er == 0) with
  | true =>
    have HB : Aside0 (l.length ≤ 800 ∧ ∀ x ∈ l, x.kind = 0 → FrOk x.fr) := ⟨by rw [← HLL.out]; exact ⟨HG.out.len, HG.out.fr⟩⟩
    go_wp2_with fail
    refine (effects1C I (c) _ v l (Nat.le_trans HB.out.1 (by decide)) (by have := HC0.out; have := HB.out.1; omega) HB.out.2 T w0 _ HP.out).mono ?_
    rintro r w9 ⟨rfl, hw9⟩
    have HW9 := Aside0.mk hw9
    clear hw9 HP
    go_wp2
    go_end0
    refine ⟨rfl, ?_⟩
    have hE : askP true p 5 = effs true (q) l := by
      rw [← HQ.out, ← HLL.out, ← HE2.out]
      show effs _ (Pr.upd (if (own p.b.e false).1 = 0 ∧ ((5 : Int) = 0 ∨ (5 : Int) = 1) then _ else p) _ _) _ = _
      rw [if_neg (fun h => by rcases h.2 with h | h <;> exact absurd h (by decide))]
      rfl
    rw [hE]
    exact grow1 HW9.out (by have := HB.out.1; omega) (by have := HC0.out; omega)
  | false =>
    have HB : Aside0 (l.length ≤ 800 ∧ ∀ x ∈ l, x.kind = 0 → FrOk x.fr) := ⟨by rw [← HLL.out]; exact ⟨HG.out.len, HG.out.fr⟩⟩
    go_wp2_with fail
    refine (effects1C I (c) _ v l (Nat.le_trans HB.out.1 (by decide)) (by have := HC0.out; have := HB.out.1; omega) HB.out.2 T w0 _ HP.out).mono ?_
    rintro r w9 ⟨rfl, hw9⟩
    have HW9 := Aside0.mk hw9
    clear hw9 HP
    go_wp2
    go_end0
    refine ⟨rfl, ?_⟩
    have hE : askP true p 5 = effs true (q) l := by
      rw [← HQ.out, ← HLL.out, ← HE2.out]
      show effs _ (Pr.upd (if (own p.b.e false).1 = 0 ∧ ((5 : Int) = 0 ∨ (5 : Int) = 1) then _ else p) _ _) _ = _
      rw [if_neg (fun h => by rcases h.2 with h | h <;> exact absurd h (by decide))]
      rfl
    rw [hE]
    exact grow1 HW9.out (by have := HB.out.1; omega) (by have := HC0.out; omega)
end Go.Proofs.YtljnfbpplhnmfaaGreatDoor.Pa
