/- Both ends of a link, in memory: a user sends. Conditions: sizes. -/
import Derived.StillTailTactics
import Derived.Test.YtljnfbpplhnmfaaGreatDoorUs20
namespace Go.Proofs.YtljnfbpplhnmfaaGreatDoor.Pa
open Go Go.RowKit Go.Proofs.YtljnfbpplhnmfaaGreatDoorW.PrintWords Go.Proofs.YtljnfbpplhnmfaaGreatDoorW.PrintLast Go.Proofs.YtljnfbpplhnmfaaGreatDoorW.PrintMore Go.Proofs.YtljnfbpplhnmfaaGreatDoor.Str Go.Proofs.YtljnfbpplhnmfaaGreatDoor.Mp Go.Proofs.YtljnfbpplhnmfaaGreatDoor.Ra Go.Proofs.YtljnfbpplhnmfaaGreatDoor.Sl Go.Proofs.YtljnfbpplhnmfaaGreatDoor.Qu Go.Proofs.YtljnfbpplhnmfaaGreatDoor.Ru Go.Proofs.YtljnfbpplhnmfaaGreatDoor.Md
open Go.Proofs.YtljnfbpplhnmfaaGreatDoor.En (frCells efCells efs efs_app efs_one orow entAt)
set_option linter.unusedVariables false
set_option linter.unusedSimpArgs false
set_option maxRecDepth 1000000
set_option maxHeartbeats 8000000
theorem two_bytes (w : World) (a b : Int) : (Kd.int .u8).C (w.alloc (.cells #[.int .u8 a, .int .u8 b] 5 (0, 0))) (some ⟨w.heap.size, 0, none⟩) 2 [a, b] := by
  have hn := heap_alloc_new w (.cells #[.int .u8 a, .int .u8 b] 5 (0, 0))
  refine ⟨rfl, by decide, fun _ => ⟨_, rfl, fun j p hj => ⟨[.int .u8 p], rfl, rfl, fun i u hu => ?_⟩⟩⟩
  cases i with
  | zero =>
    simp at hu; subst hu; rw [add_plain, Lib.cell_of_heap hn]
    match j with
    | 0 => simp at hj; subst hj; rfl
    | 1 => simp at hj; subst hj; rfl
    | j + 2 => simp at hj
  | succ i => simp at hu
theorem two_str (w : World) (a b : Int) : (convert 181 9 (.slice (some ⟨w.heap.size, 0, none⟩) 2 2)).run Tryz.prog (w.alloc (.cells #[.int .u8 a, .int .u8 b] 5 (0, 0))).drew = .ok (.string (strOfNums [a, b])) (w.alloc (.cells #[.int .u8 a, .int .u8 b] 5 (0, 0))).drew :=
  Kd.C_string (w := (w.alloc (.cells #[.int .u8 a, .int .u8 b] 5 (0, 0))).drew) Tryz.underlying181 Tryz.underlying5 Tryz.underlying9 (two_bytes w a b)
theorem send02C (I : PI) (c : Nat) (p : Pr) (hc : c + 1000 ≤ 100000000000) (T : Nat → Prop) (w0 w : World) (h : Went (pairAt I c p) T w0 w) :
    Calls Tryz.prog 53 #[.pointer (some ⟨I.g, 0, none⟩), .int .i64 0, .int .i64 2] w fun r w' => (∃ z : Bool, r = .returned (.bool z)) ∧ Went (pairAt I (c + 1000) (sendP false p 2)) T w0 w' := by
  obtain ⟨A0, c0, A1, c1, A2, c2, A3, c3, A4, c4, A5, c5, A6, c6, A7, c7, A8, c8, A9, c9, HO1, hok⟩ := pairAt.opened h
  have HO := Aside0.mk HO1
  have HOK0 := Aside0.mk hok
  have HC0 := Aside0.mk hc
  obtain ⟨x, HX⟩ : ∃ x : Int, Aside0 (p.next = x) := ⟨_, ⟨rfl⟩⟩
  have hx0 : 0 ≤ x ∧ x ≤ 100000000000 := by rw [← HX.out]; have h1 := hok.next; have h2 := hok.cap; omega
  obtain ⟨cn, cf⟩ := cellAt (HO.out.heap 1 rfl) 17 (.int .i64 p.next) rfl
  rw [HX.out] at cn
  have hcv := two_str w (x % 256) (x / 256 % 256)
  have hd : strOfNums [x % 256, x / 256 % 256] = payload x := rfl
  rw [hd] at hcv
  have hx1 : IntKind.i64.wrap (x + 1) = x + 1 := by simp [IntKind.wrap, IntKind.bits, IntKind.signed]; omega
  have HOa := Aside0.mk (HO.out.alloc (.cells #[.int .u8 (x % 256), .int .u8 (x / 256 % 256)] 5 (0, 0)))
  obtain ⟨cn2, cf2⟩ := cellAt (HOa.out.heap 1 rfl) 17 (.int .i64 p.next) rfl
  obtain ⟨ce2, cfe2⟩ := cellAt (HOa.out.heap 1 rfl) 0 (.pointer (some ⟨I.b0, 0, none⟩)) rfl
  rw [HX.out] at cn2
  have HM : Aside0 (Went (pairAt I (c + 1) ({ p with next := p.next + 1 } : Pr)) T w0 (((w.alloc (.cells #[.int .u8 (x % 256), .int .u8 (x / 256 % 256)] 5 (0, 0))).setCell ⟨I.g, 17, none⟩ (.int .i64 (x + 1))).drew)) := ⟨by
    have hm := (HOa.out.set 1 rfl 17 (.int .i64 (x + 1))).drew
    rw [← HX.out] at hm ⊢
    exact pairAt.close (p := ({ p with next := p.next + 1 } : Pr)) (V := ⟨.slice A0 p.a.way.length c0, .slice A1 p.b.way.length c1, .slice A2 p.a.taken.length c2, .slice A3 p.b.taken.length c3, .slice A4 p.a.told.length c4, .slice A5 p.b.told.length c5, .slice A6 p.a.units.length c6, .slice A7 p.b.units.length c7, .slice A8 p.a.unit.length c8, .slice A9 p.b.unit.length c9⟩) hm ⟨by have := HC0.out; omega, hok.a.mono (Nat.le_succ _), hok.b.mono (Nat.le_succ _), ⟨hok.errors.1, by have := hok.errors; show p.errors ≤ ((c + 1 : Nat) : Int); omega⟩, ⟨by have := hok.next; show 0 ≤ p.next + 1; omega, by have := hok.next; show p.next + 1 ≤ ((c + 1 : Nat) : Int); omega⟩⟩ rfl rfl rfl rfl rfl rfl rfl rfl rfl rfl rfl rfl rfl rfl rfl rfl rfl rfl rfl rfl⟩
  have hds : (payload x).size = 2 := rfl
  obtain ⟨d, HD⟩ : ∃ d, Aside0 (payload x = d) := ⟨_, ⟨rfl⟩⟩
  rw [HD.out] at hcv hds
  have HPD : Aside0 (payload p.next = d) := ⟨by rw [HX.out]; exact HD.out⟩
  obtain ⟨_, he⟩ := HO1.get 2 rfl
  obtain ⟨hgo, hmost⟩ := go_of he hok.a.out
  have hg := go_ask1 hgo 2 d (by rw [hds]; decide) hmost
  obtain ⟨e2, HE2⟩ : ∃ e2, Aside0 ((data p.a.e d).2 = e2) := ⟨_, ⟨rfl⟩⟩
  obtain ⟨er, HER⟩ : ∃ er, Aside0 ((data p.a.e d).1 = er) := ⟨_, ⟨rfl⟩⟩
  have HG : Aside0 (GO 800 e2) := ⟨by rw [← HE2.out]; exact hg.mono (by omega)⟩
  have hzero : p.a.e.out.length ≤ 6900 := by rw [hok.a.out]; exact Nat.zero_le _
  have HZ := Aside0.mk hzero
  obtain ⟨B0, d0, B1, d1, B2, d2, B3, d3, B4, d4, B5, d5, B6, d6, B7, d7, B8, d8, B9, d9, HN1, hokn⟩ := pairAt.opened HM.out
  have HN := Aside0.mk HN1
  have HOKN := Aside0.mk hokn
  have HCL := Aside0.mk (HN.out.call_ex 2 rfl (fun T1 h1 => En.ask2C I.b0 I.m0 I.f0 p.a.e d (by rw [hds]; decide) HZ.out T1 _ _ (Went.refl h1)))
  have HCL2 := HCL.out
  rw [HE2.out, HER.out] at HCL2
  have HCL3 := Aside0.mk HCL2
  clear h HO1 hok he hgo hmost hg hc hzero HCL HCL2 HN1 hokn hd hds HM HN
  go_enter Tryz.func53, Tryz.ntmps53
  go_wp2_with fail
  go_still_tail 11, (by kernel_rfl)
  change wpList _ _ _ _ _ (World.drew _)
  go_wp2_with fail
  refine HCL3.out.mono ?_
  rintro r w1 ⟨v, rfl, hw⟩
  have hq := taken0 hw HOKN.out rfl
  obtain ⟨q, HQ⟩ : ∃ q : Pr, Aside0 (({ ({ p with next := p.next + 1 } : Pr) with a := { p.a with e := emptied e2 } } : Pr) = q) := ⟨_, ⟨rfl⟩⟩
  rw [HQ.out] at hq
  have HP := Aside0.mk hq
  obtain ⟨l, HLL⟩ : ∃ l, Aside0 (e2.out = l) := ⟨_, ⟨rfl⟩⟩
  rw [HLL.out] at HP
  clear hw hq HCL3 HO HOa cn cf cn2 cf2 ce2 cfe2 hcv hx1
  by_cases her : er = 0
  · subst her
    have HC1 : Aside0 (c + 1 + 1 ≤ 100000000000) := ⟨by have := HC0.out; omega⟩
    go_wp2_with fail
    obtain ⟨A0, c0, A1, c1, A2, c2, A3, c3, A4, c4, A5, c5, A6, c6, A7, c7, A8, c8, A9, c9, HO2, hok2⟩ := pairAt.opened2 HP.out
    have HL := Aside0.mk HO2
    have HOK := Aside0.mk hok2
    clear HO2 hok2 HP
    obtain ⟨cr, fr⟩ := cellAt (HL.out.heap 2 rfl) 4 (.slice A2 q.a.taken.length c2) rfl
    have HL2 := Aside0.mk (HL.out.new (.cells #[.string d, .bool true] 42 (0, 0)))
    obtain ⟨cr2, fr2⟩ := cellAt (HL2.out.heap 3 rfl) 4 (.slice A2 q.a.taken.length c2) rfl
    have hn2 := HL2.out.heap 0 rfl
    obtain ⟨i0, hi0, hz0, hz1, hz2⟩ := info_parts infoEv
    obtain ⟨T3, hr⟩ := HL2.out.drew.get 8 rfl
    have HR := Aside0.mk hr.2
    have HI0 := Aside0.mk hi0
    have HZ0 := Aside0.mk hz0
    have HZ1 := Aside0.mk hz1
    have HZ2 := Aside0.mk hz2
    have hlen : q.a.taken.length ≤ 100000000000 := Nat.le_trans HOK.out.a.taken HOK.out.cap
    have HNW : Aside0 (∀ (j : Nat) (u : Value), ([.string d, .bool true] : List Value)[j]? = some u → (w1.alloc (.cells #[.string d, .bool true] 42 (0, 0))).cell? ((⟨w1.heap.size, 0, none⟩ : Addr).add j) = some u) := ⟨fun j u hu => by
      rw [add_plain, Lib.cell_of_heap hn2, ← hu]
      simp⟩
    clear hn2 hi0 hz0 hz1 hz2 hr
    have hw1 : IntKind.i64.wrap 1 = 1 := by decide
    have hw0 : IntKind.i64.wrap 0 = 0 := by decide
    go_region_law (refine step_append_at _ rfl _ _ 33 rfl T3 42 i0 (.agg #[.string nil8, .bool false]) 2 24 Tryz.underlying33 HI0.out HZ0.out HZ1.out HZ2.out rfl (by decide) _ _ _ rfl HR.out ⟨w1.heap.size, 0, none⟩ 1 1 [.string d, .bool true] rfl rfl HNW.out (by intro u hu; simp at hu; rcases hu with rfl | rfl <;> rfl) (by decide) (by unfold maxLen; omega) (by omega) ?_; intro v' w2 hown2 hg2 hloc; obtain ⟨B2, k2, rfl, _, _⟩ := hown2.shape; have hw3 := Aside0.mk (HL2.out.drew.at_ 8 rfl (fun T1 h1 => row_grown (n := q.a.taken.length) (v := .slice A2 q.a.taken.length c2) h1 hown2 hg2 hloc)); clear hown2 hg2 hloc HL2 HNW HR HI0 HZ0 HZ1 HZ2 cr cr2 fr fr2; obtain ⟨cr, fr⟩ := cellAt (hw3.out.heap 3 rfl) 4 (.slice A2 q.a.taken.length c2) rfl)
    all_goals
      have HP2 : Aside0 (Went (all [orow v l, pairAt I (c + 1 + 1) ({ q with a := { q.a with taken := q.a.taken ++ [⟨d, true⟩] } } : Pr)]) T w0 (w2.setCell ⟨I.g, 4, none⟩ (.slice B2 (q.a.taken.length + 1) k2))) := ⟨pairAt.close2 (p := ({ q with a := { q.a with taken := q.a.taken ++ [⟨d, true⟩] } } : Pr)) (V := ⟨.slice A0 q.a.way.length c0, .slice A1 q.b.way.length c1, .slice B2 (q.a.taken.length + 1) k2, .slice A3 q.b.taken.length c3, .slice A4 q.a.told.length c4, .slice A5 q.b.told.length c5, .slice A6 q.a.units.length c6, .slice A7 q.b.units.length c7, .slice A8 q.a.unit.length c8, .slice A9 q.b.unit.length c9⟩) (hw3.out.set 3 rfl 4 (.slice B2 (q.a.taken.length + 1) k2)).drop ⟨HC1.out, HOK.out.a.effTaken ⟨d, true⟩, HOK.out.b.mono (Nat.le_succ _), ⟨HOK.out.errors.1, by have := HOK.out.errors; show q.errors ≤ ((c + 1 + 1 : Nat) : Int); omega⟩, ⟨HOK.out.next.1, by have := HOK.out.next; show q.next ≤ ((c + 1 + 1 : Nat) : Int); omega⟩⟩ rfl rfl rfl rfl (by simp) (by simp [evs_app, evs]) rfl rfl rfl rfl rfl rfl rfl rfl rfl rfl rfl rfl rfl rfl⟩
      have HB : Aside0 (l.length ≤ 800 ∧ ∀ x ∈ l, x.kind = 0 → FrOk x.fr) := ⟨by rw [← HLL.out]; exact ⟨HG.out.len, HG.out.fr⟩⟩
      go_wp2_with fail
      refine (effects0C I (c + 1 + 1) _ v l (Nat.le_trans HB.out.1 (by decide)) (by have := HC0.out; have := HB.out.1; omega) HB.out.2 T w0 _ HP2.out).mono ?_
      rintro r w9 ⟨rfl, hw9⟩
      have HW9 := Aside0.mk hw9
      clear hw9 HP2
      go_wp2
      go_ret
      refine ⟨⟨_, rfl⟩, ?_⟩
      have hE : sendP false p 2 = effs false (({ q with a := { q.a with taken := q.a.taken ++ [⟨d, true⟩] } } : Pr)) l := by
        rw [← HQ.out, ← HLL.out, ← HE2.out]
        have h1 : (data p.a.e (payload p.next)).1 = 0 := by rw [HPD.out]; exact HER.out
        unfold sendP become
        simp only [show ask1 (p.at false).e 2 (payload p.next) = data p.a.e (payload p.next) from rfl, h1, true_and, if_true, show ((2 : Int) = 3) = False from eq_false (by decide), if_false]
        rw [HPD.out]
        rfl
      rw [hE]
      exact grow1 HW9.out (by have := HB.out.1; omega) (by have := HC0.out; omega)
  · have hb0 : (er == 0) = false := by rw [beq_eq_false_iff_ne]; exact her
    have HB : Aside0 (l.length ≤ 800 ∧ ∀ x ∈ l, x.kind = 0 → FrOk x.fr) := ⟨by rw [← HLL.out]; exact ⟨HG.out.len, HG.out.fr⟩⟩
    go_wp2_with fail
    refine (effects0C I (c + 1) _ v l (Nat.le_trans HB.out.1 (by decide)) (by have := HC0.out; have := HB.out.1; omega) HB.out.2 T w0 _ HP.out).mono ?_
    rintro r w9 ⟨rfl, hw9⟩
    have HW9 := Aside0.mk hw9
    clear hw9 HP
    go_wp2
    go_ret
    refine ⟨⟨_, rfl⟩, ?_⟩
    have hE : sendP false p 2 = effs false (q) l := by
      rw [← HQ.out, ← HLL.out, ← HE2.out]
      have h1 : ((data p.a.e (payload p.next)).1 = 0) = False := eq_false (fun h => her (HER.out.symm.trans (by rw [← HPD.out]; exact h)))
      unfold sendP become
      simp only [show ask1 (p.at false).e 2 (payload p.next) = data p.a.e (payload p.next) from rfl, h1, false_and, if_false]
      rw [HPD.out]
      rfl
    rw [hE]
    exact grow1 HW9.out (by have := HB.out.1; omega) (by have := HC0.out; omega)
theorem send03C (I : PI) (c : Nat) (p : Pr) (hc : c + 1000 ≤ 100000000000) (T : Nat → Prop) (w0 w : World) (h : Went (pairAt I c p) T w0 w) :
    Calls Tryz.prog 53 #[.pointer (some ⟨I.g, 0, none⟩), .int .i64 0, .int .i64 3] w fun r w' => (∃ z : Bool, r = .returned (.bool z)) ∧ Went (pairAt I (c + 1000) (sendP false p 3)) T w0 w' := by
  obtain ⟨A0, c0, A1, c1, A2, c2, A3, c3, A4, c4, A5, c5, A6, c6, A7, c7, A8, c8, A9, c9, HO1, hok⟩ := pairAt.opened h
  have HO := Aside0.mk HO1
  have HOK0 := Aside0.mk hok
  have HC0 := Aside0.mk hc
  obtain ⟨x, HX⟩ : ∃ x : Int, Aside0 (p.next = x) := ⟨_, ⟨rfl⟩⟩
  have hx0 : 0 ≤ x ∧ x ≤ 100000000000 := by rw [← HX.out]; have h1 := hok.next; have h2 := hok.cap; omega
  obtain ⟨cn, cf⟩ := cellAt (HO.out.heap 1 rfl) 17 (.int .i64 p.next) rfl
  rw [HX.out] at cn
  have hcv := two_str w (x % 256) (x / 256 % 256)
  have hd : strOfNums [x % 256, x / 256 % 256] = payload x := rfl
  rw [hd] at hcv
  have hx1 : IntKind.i64.wrap (x + 1) = x + 1 := by simp [IntKind.wrap, IntKind.bits, IntKind.signed]; omega
  have HOa := Aside0.mk (HO.out.alloc (.cells #[.int .u8 (x % 256), .int .u8 (x / 256 % 256)] 5 (0, 0)))
  obtain ⟨cn2, cf2⟩ := cellAt (HOa.out.heap 1 rfl) 17 (.int .i64 p.next) rfl
  obtain ⟨ce2, cfe2⟩ := cellAt (HOa.out.heap 1 rfl) 0 (.pointer (some ⟨I.b0, 0, none⟩)) rfl
  rw [HX.out] at cn2
  have HM : Aside0 (Went (pairAt I (c + 1) ({ p with next := p.next + 1 } : Pr)) T w0 (((w.alloc (.cells #[.int .u8 (x % 256), .int .u8 (x / 256 % 256)] 5 (0, 0))).setCell ⟨I.g, 17, none⟩ (.int .i64 (x + 1))).drew)) := ⟨by
    have hm := (HOa.out.set 1 rfl 17 (.int .i64 (x + 1))).drew
    rw [← HX.out] at hm ⊢
    exact pairAt.close (p := ({ p with next := p.next + 1 } : Pr)) (V := ⟨.slice A0 p.a.way.length c0, .slice A1 p.b.way.length c1, .slice A2 p.a.taken.length c2, .slice A3 p.b.taken.length c3, .slice A4 p.a.told.length c4, .slice A5 p.b.told.length c5, .slice A6 p.a.units.length c6, .slice A7 p.b.units.length c7, .slice A8 p.a.unit.length c8, .slice A9 p.b.unit.length c9⟩) hm ⟨by have := HC0.out; omega, hok.a.mono (Nat.le_succ _), hok.b.mono (Nat.le_succ _), ⟨hok.errors.1, by have := hok.errors; show p.errors ≤ ((c + 1 : Nat) : Int); omega⟩, ⟨by have := hok.next; show 0 ≤ p.next + 1; omega, by have := hok.next; show p.next + 1 ≤ ((c + 1 : Nat) : Int); omega⟩⟩ rfl rfl rfl rfl rfl rfl rfl rfl rfl rfl rfl rfl rfl rfl rfl rfl rfl rfl rfl rfl⟩
  have hds : (payload x).size = 2 := rfl
  obtain ⟨d, HD⟩ : ∃ d, Aside0 (payload x = d) := ⟨_, ⟨rfl⟩⟩
  rw [HD.out] at hcv hds
  have HPD : Aside0 (payload p.next = d) := ⟨by rw [HX.out]; exact HD.out⟩
  obtain ⟨_, he⟩ := HO1.get 2 rfl
  obtain ⟨hgo, hmost⟩ := go_of he hok.a.out
  have hg := go_ask1 hgo 3 d (by rw [hds]; decide) hmost
  obtain ⟨e2, HE2⟩ : ∃ e2, Aside0 ((Md.unit p.a.e d).2 = e2) := ⟨_, ⟨rfl⟩⟩
  obtain ⟨er, HER⟩ : ∃ er, Aside0 ((Md.unit p.a.e d).1 = er) := ⟨_, ⟨rfl⟩⟩
  have HG : Aside0 (GO 800 e2) := ⟨by rw [← HE2.out]; exact hg.mono (by omega)⟩
  have hzero : p.a.e.out.length ≤ 6900 := by rw [hok.a.out]; exact Nat.zero_le _
  have HZ := Aside0.mk hzero
  obtain ⟨B0, d0, B1, d1, B2, d2, B3, d3, B4, d4, B5, d5, B6, d6, B7, d7, B8, d8, B9, d9, HN1, hokn⟩ := pairAt.opened HM.out
  have HN := Aside0.mk HN1
  have HOKN := Aside0.mk hokn
  have HCL := Aside0.mk (HN.out.call_ex 2 rfl (fun T1 h1 => En.ask3C I.b0 I.m0 I.f0 p.a.e d (by rw [hds]; decide) HZ.out T1 _ _ (Went.refl h1)))
  have HCL2 := HCL.out
  rw [HE2.out, HER.out] at HCL2
  have HCL3 := Aside0.mk HCL2
  clear h HO1 hok he hgo hmost hg hc hzero HCL HCL2 HN1 hokn hd hds HM HN
  go_enter Tryz.func53, Tryz.ntmps53
  go_wp2_with fail
  go_still_tail 11, (by kernel_rfl)
  change wpList _ _ _ _ _ (World.drew _)
  go_wp2_with fail
  refine HCL3.out.mono ?_
  rintro r w1 ⟨v, rfl, hw⟩
  have hq := taken0 hw HOKN.out rfl
  obtain ⟨q, HQ⟩ : ∃ q : Pr, Aside0 (({ ({ p with next := p.next + 1 } : Pr) with a := { p.a with e := emptied e2 } } : Pr) = q) := ⟨_, ⟨rfl⟩⟩
  rw [HQ.out] at hq
  have HP := Aside0.mk hq
  obtain ⟨l, HLL⟩ : ∃ l, Aside0 (e2.out = l) := ⟨_, ⟨rfl⟩⟩
  rw [HLL.out] at HP
  clear hw hq HCL3 HO HOa cn cf cn2 cf2 ce2 cfe2 hcv hx1
  have her : er = 0 := HER.out.symm
  subst her
  have HC1 : Aside0 (c + 1 + 1 ≤ 100000000000) := ⟨by have := HC0.out; omega⟩
  go_wp2_with fail
  obtain ⟨A0, c0, A1, c1, A2, c2, A3, c3, A4, c4, A5, c5, A6, c6, A7, c7, A8, c8, A9, c9, HO2, hok2⟩ := pairAt.opened2 HP.out
  have HL := Aside0.mk HO2
  have HOK := Aside0.mk hok2
  clear HO2 hok2 HP
  obtain ⟨cr, fr⟩ := cellAt (HL.out.heap 2 rfl) 10 (.slice A8 q.a.unit.length c8) rfl
  have HL2 := Aside0.mk (HL.out.new (.cells #[.string d] 9 (0, 0)))
  obtain ⟨cr2, fr2⟩ := cellAt (HL2.out.heap 3 rfl) 10 (.slice A8 q.a.unit.length c8) rfl
  have hn2 := HL2.out.heap 0 rfl
  obtain ⟨i0, hi0, hz0, hz1, hz2⟩ := info_parts infoStr
  obtain ⟨T3, hr⟩ := HL2.out.drew.get 14 rfl
  have HR := Aside0.mk hr.2
  have HI0 := Aside0.mk hi0
  have HZ0 := Aside0.mk hz0
  have HZ1 := Aside0.mk hz1
  have HZ2 := Aside0.mk hz2
  have hlen : q.a.unit.length ≤ 100000000000 := Nat.le_trans HOK.out.a.unit HOK.out.cap
  have HNW : Aside0 (∀ (j : Nat) (u : Value), ([.string d] : List Value)[j]? = some u → (w1.alloc (.cells #[.string d] 9 (0, 0))).cell? ((⟨w1.heap.size, 0, none⟩ : Addr).add j) = some u) := ⟨fun j u hu => by
    rw [add_plain, Lib.cell_of_heap hn2, ← hu]
    simp⟩
  clear hn2 hi0 hz0 hz1 hz2 hr
  have hw1 : IntKind.i64.wrap 1 = 1 := by decide
  have hw0 : IntKind.i64.wrap 0 = 0 := by decide
  go_region_law (refine step_append_at _ rfl _ _ 30 rfl T3 9 i0 (.string ByteArray.empty) 1 16 Tryz.underlying30 HI0.out HZ0.out HZ1.out HZ2.out rfl (by decide) _ _ _ rfl HR.out ⟨w1.heap.size, 0, none⟩ 1 1 [.string d] rfl rfl HNW.out (by intro u hu; simp at hu; subst hu; rfl) (by decide) (by unfold maxLen; omega) (by omega) ?_; intro v' w2 hown2 hg2 hloc; obtain ⟨B2, k2, rfl, _, _⟩ := hown2.shape; have hw3 := Aside0.mk (HL2.out.drew.at_ 14 rfl (fun T1 h1 => row_grown (n := q.a.unit.length) (v := .slice A8 q.a.unit.length c8) h1 hown2 hg2 hloc)); clear hown2 hg2 hloc HL2 HNW HR HI0 HZ0 HZ1 HZ2 cr cr2 fr fr2; obtain ⟨cr, fr⟩ := cellAt (hw3.out.heap 3 rfl) 10 (.slice A8 q.a.unit.length c8) rfl)
  all_goals
    have HP2 : Aside0 (Went (all [orow v l, pairAt I (c + 1 + 1) ({ q with a := { q.a with unit := q.a.unit ++ [d] } } : Pr)]) T w0 (w2.setCell ⟨I.g, 10, none⟩ (.slice B2 (q.a.unit.length + 1) k2))) := ⟨pairAt.close2 (p := ({ q with a := { q.a with unit := q.a.unit ++ [d] } } : Pr)) (V := ⟨.slice A0 q.a.way.length c0, .slice A1 q.b.way.length c1, .slice A2 q.a.taken.length c2, .slice A3 q.b.taken.length c3, .slice A4 q.a.told.length c4, .slice A5 q.b.told.length c5, .slice A6 q.a.units.length c6, .slice A7 q.b.units.length c7, .slice B2 (q.a.unit.length + 1) k2, .slice A9 q.b.unit.length c9⟩) (hw3.out.set 3 rfl 10 (.slice B2 (q.a.unit.length + 1) k2)).drop ⟨HC1.out, HOK.out.a.effUnit d, HOK.out.b.mono (Nat.le_succ _), ⟨HOK.out.errors.1, by have := HOK.out.errors; show q.errors ≤ ((c + 1 + 1 : Nat) : Int); omega⟩, ⟨HOK.out.next.1, by have := HOK.out.next; show q.next ≤ ((c + 1 + 1 : Nat) : Int); omega⟩⟩ rfl rfl rfl rfl rfl rfl rfl rfl rfl rfl rfl rfl rfl rfl rfl rfl (by simp) (by simp [strs]) rfl rfl⟩
    have HB : Aside0 (l.length ≤ 800 ∧ ∀ x ∈ l, x.kind = 0 → FrOk x.fr) := ⟨by rw [← HLL.out]; exact ⟨HG.out.len, HG.out.fr⟩⟩
    go_wp2_with fail
    refine (effects0C I (c + 1 + 1) _ v l (Nat.le_trans HB.out.1 (by decide)) (by have := HC0.out; have := HB.out.1; omega) HB.out.2 T w0 _ HP2.out).mono ?_
    rintro r w9 ⟨rfl, hw9⟩
    have HW9 := Aside0.mk hw9
    clear hw9 HP2
    go_wp2
    go_ret
    refine ⟨⟨_, rfl⟩, ?_⟩
    have hE : sendP false p 3 = effs false (({ q with a := { q.a with unit := q.a.unit ++ [d] } } : Pr)) l := by
      rw [← HQ.out, ← HLL.out, ← HE2.out]
      have h1 : (Md.unit p.a.e (payload p.next)).1 = 0 := rfl
      unfold sendP become
      simp only [show ask1 (p.at false).e 3 (payload p.next) = Md.unit p.a.e (payload p.next) from rfl, h1, true_and, if_true, show ((3 : Int) = 2) = False from eq_false (by decide), if_false]
      rw [HPD.out]
      rfl
    rw [hE]
    exact grow1 HW9.out (by have := HB.out.1; omega) (by have := HC0.out; omega)
theorem send12C (I : PI) (c : Nat) (p : Pr) (hc : c + 1000 ≤ 100000000000) (T : Nat → Prop) (w0 w : World) (h : Went (pairAt I c p) T w0 w) :
    Calls Tryz.prog 53 #[.pointer (some ⟨I.g, 0, none⟩), .int .i64 1, .int .i64 2] w fun r w' => (∃ z : Bool, r = .returned (.bool z)) ∧ Went (pairAt I (c + 1000) (sendP true p 2)) T w0 w' := by
  obtain ⟨A0, c0, A1, c1, A2, c2, A3, c3, A4, c4, A5, c5, A6, c6, A7, c7, A8, c8, A9, c9, HO1, hok⟩ := pairAt.opened h
  have HO := Aside0.mk HO1
  have HOK0 := Aside0.mk hok
  have HC0 := Aside0.mk hc
  obtain ⟨x, HX⟩ : ∃ x : Int, Aside0 (p.next = x) := ⟨_, ⟨rfl⟩⟩
  have hx0 : 0 ≤ x ∧ x ≤ 100000000000 := by rw [← HX.out]; have h1 := hok.next; have h2 := hok.cap; omega
  obtain ⟨cn, cf⟩ := cellAt (HO.out.heap 1 rfl) 17 (.int .i64 p.next) rfl
  rw [HX.out] at cn
  have hcv := two_str w (x % 256) (x / 256 % 256)
  have hd : strOfNums [x % 256, x / 256 % 256] = payload x := rfl
  rw [hd] at hcv
  have hx1 : IntKind.i64.wrap (x + 1) = x + 1 := by simp [IntKind.wrap, IntKind.bits, IntKind.signed]; omega
  have HOa := Aside0.mk (HO.out.alloc (.cells #[.int .u8 (x % 256), .int .u8 (x / 256 % 256)] 5 (0, 0)))
  obtain ⟨cn2, cf2⟩ := cellAt (HOa.out.heap 1 rfl) 17 (.int .i64 p.next) rfl
  obtain ⟨ce2, cfe2⟩ := cellAt (HOa.out.heap 1 rfl) 1 (.pointer (some ⟨I.b1, 0, none⟩)) rfl
  rw [HX.out] at cn2
  have HM : Aside0 (Went (pairAt I (c + 1) ({ p with next := p.next + 1 } : Pr)) T w0 (((w.alloc (.cells #[.int .u8 (x % 256), .int .u8 (x / 256 % 256)] 5 (0, 0))).setCell ⟨I.g, 17, none⟩ (.int .i64 (x + 1))).drew)) := ⟨by
    have hm := (HOa.out.set 1 rfl 17 (.int .i64 (x + 1))).drew
    rw [← HX.out] at hm ⊢
    exact pairAt.close (p := ({ p with next := p.next + 1 } : Pr)) (V := ⟨.slice A0 p.a.way.length c0, .slice A1 p.b.way.length c1, .slice A2 p.a.taken.length c2, .slice A3 p.b.taken.length c3, .slice A4 p.a.told.length c4, .slice A5 p.b.told.length c5, .slice A6 p.a.units.length c6, .slice A7 p.b.units.length c7, .slice A8 p.a.unit.length c8, .slice A9 p.b.unit.length c9⟩) hm ⟨by have := HC0.out; omega, hok.a.mono (Nat.le_succ _), hok.b.mono (Nat.le_succ _), ⟨hok.errors.1, by have := hok.errors; show p.errors ≤ ((c + 1 : Nat) : Int); omega⟩, ⟨by have := hok.next; show 0 ≤ p.next + 1; omega, by have := hok.next; show p.next + 1 ≤ ((c + 1 : Nat) : Int); omega⟩⟩ rfl rfl rfl rfl rfl rfl rfl rfl rfl rfl rfl rfl rfl rfl rfl rfl rfl rfl rfl rfl⟩
  have hds : (payload x).size = 2 := rfl
  obtain ⟨d, HD⟩ : ∃ d, Aside0 (payload x = d) := ⟨_, ⟨rfl⟩⟩
  rw [HD.out] at hcv hds
  have HPD : Aside0 (payload p.next = d) := ⟨by rw [HX.out]; exact HD.out⟩
  obtain ⟨_, he⟩ := HO1.get 3 rfl
  obtain ⟨hgo, hmost⟩ := go_of he hok.b.out
  have hg := go_ask1 hgo 2 d (by rw [hds]; decide) hmost
  obtain ⟨e2, HE2⟩ : ∃ e2, Aside0 ((data p.b.e d).2 = e2) := ⟨_, ⟨rfl⟩⟩
  obtain ⟨er, HER⟩ : ∃ er, Aside0 ((data p.b.e d).1 = er) := ⟨_, ⟨rfl⟩⟩
  have HG : Aside0 (GO 800 e2) := ⟨by rw [← HE2.out]; exact hg.mono (by omega)⟩
  have hzero : p.b.e.out.length ≤ 6900 := by rw [hok.b.out]; exact Nat.zero_le _
  have HZ := Aside0.mk hzero
  obtain ⟨B0, d0, B1, d1, B2, d2, B3, d3, B4, d4, B5, d5, B6, d6, B7, d7, B8, d8, B9, d9, HN1, hokn⟩ := pairAt.opened HM.out
  have HN := Aside0.mk HN1
  have HOKN := Aside0.mk hokn
  have HCL := Aside0.mk (HN.out.call_ex 3 rfl (fun T1 h1 => En.ask2C I.b1 I.m1 I.f1 p.b.e d (by rw [hds]; decide) HZ.out T1 _ _ (Went.refl h1)))
  have HCL2 := HCL.out
  rw [HE2.out, HER.out] at HCL2
  have HCL3 := Aside0.mk HCL2
  clear h HO1 hok he hgo hmost hg hc hzero HCL HCL2 HN1 hokn hd hds HM HN
  go_enter Tryz.func53, Tryz.ntmps53
  go_wp2_with fail
  go_still_tail 11, (by kernel_rfl)
  change wpList _ _ _ _ _ (World.drew _)
  go_wp2_with fail
  refine HCL3.out.mono ?_
  rintro r w1 ⟨v, rfl, hw⟩
  have hq := taken1 hw HOKN.out rfl
  obtain ⟨q, HQ⟩ : ∃ q : Pr, Aside0 (({ ({ p with next := p.next + 1 } : Pr) with b := { p.b with e := emptied e2 } } : Pr) = q) := ⟨_, ⟨rfl⟩⟩
  rw [HQ.out] at hq
  have HP := Aside0.mk hq
  obtain ⟨l, HLL⟩ : ∃ l, Aside0 (e2.out = l) := ⟨_, ⟨rfl⟩⟩
  rw [HLL.out] at HP
  clear hw hq HCL3 HO HOa cn cf cn2 cf2 ce2 cfe2 hcv hx1
  by_cases her : er = 0
  · subst her
    have HC1 : Aside0 (c + 1 + 1 ≤ 100000000000) := ⟨by have := HC0.out; omega⟩
    go_wp2_with fail
    obtain ⟨A0, c0, A1, c1, A2, c2, A3, c3, A4, c4, A5, c5, A6, c6, A7, c7, A8, c8, A9, c9, HO2, hok2⟩ := pairAt.opened2 HP.out
    have HL := Aside0.mk HO2
    have HOK := Aside0.mk hok2
    clear HO2 hok2 HP
    obtain ⟨cr, fr⟩ := cellAt (HL.out.heap 2 rfl) 5 (.slice A3 q.b.taken.length c3) rfl
    have HL2 := Aside0.mk (HL.out.new (.cells #[.string d, .bool true] 42 (0, 0)))
    obtain ⟨cr2, fr2⟩ := cellAt (HL2.out.heap 3 rfl) 5 (.slice A3 q.b.taken.length c3) rfl
    have hn2 := HL2.out.heap 0 rfl
    obtain ⟨i0, hi0, hz0, hz1, hz2⟩ := info_parts infoEv
    obtain ⟨T3, hr⟩ := HL2.out.drew.get 9 rfl
    have HR := Aside0.mk hr.2
    have HI0 := Aside0.mk hi0
    have HZ0 := Aside0.mk hz0
    have HZ1 := Aside0.mk hz1
    have HZ2 := Aside0.mk hz2
    have hlen : q.b.taken.length ≤ 100000000000 := Nat.le_trans HOK.out.b.taken HOK.out.cap
    have HNW : Aside0 (∀ (j : Nat) (u : Value), ([.string d, .bool true] : List Value)[j]? = some u → (w1.alloc (.cells #[.string d, .bool true] 42 (0, 0))).cell? ((⟨w1.heap.size, 0, none⟩ : Addr).add j) = some u) := ⟨fun j u hu => by
      rw [add_plain, Lib.cell_of_heap hn2, ← hu]
      simp⟩
    clear hn2 hi0 hz0 hz1 hz2 hr
    have hw1 : IntKind.i64.wrap 1 = 1 := by decide
    have hw0 : IntKind.i64.wrap 0 = 0 := by decide
    go_region_law (refine step_append_at _ rfl _ _ 33 rfl T3 42 i0 (.agg #[.string nil8, .bool false]) 2 24 Tryz.underlying33 HI0.out HZ0.out HZ1.out HZ2.out rfl (by decide) _ _ _ rfl HR.out ⟨w1.heap.size, 0, none⟩ 1 1 [.string d, .bool true] rfl rfl HNW.out (by intro u hu; simp at hu; rcases hu with rfl | rfl <;> rfl) (by decide) (by unfold maxLen; omega) (by omega) ?_; intro v' w2 hown2 hg2 hloc; obtain ⟨B2, k2, rfl, _, _⟩ := hown2.shape; have hw3 := Aside0.mk (HL2.out.drew.at_ 9 rfl (fun T1 h1 => row_grown (n := q.b.taken.length) (v := .slice A3 q.b.taken.length c3) h1 hown2 hg2 hloc)); clear hown2 hg2 hloc HL2 HNW HR HI0 HZ0 HZ1 HZ2 cr cr2 fr fr2; obtain ⟨cr, fr⟩ := cellAt (hw3.out.heap 3 rfl) 5 (.slice A3 q.b.taken.length c3) rfl)
    all_goals
      have HP2 : Aside0 (Went (all [orow v l, pairAt I (c + 1 + 1) ({ q with b := { q.b with taken := q.b.taken ++ [⟨d, true⟩] } } : Pr)]) T w0 (w2.setCell ⟨I.g, 5, none⟩ (.slice B2 (q.b.taken.length + 1) k2))) := ⟨pairAt.close2 (p := ({ q with b := { q.b with taken := q.b.taken ++ [⟨d, true⟩] } } : Pr)) (V := ⟨.slice A0 q.a.way.length c0, .slice A1 q.b.way.length c1, .slice A2 q.a.taken.length c2, .slice B2 (q.b.taken.length + 1) k2, .slice A4 q.a.told.length c4, .slice A5 q.b.told.length c5, .slice A6 q.a.units.length c6, .slice A7 q.b.units.length c7, .slice A8 q.a.unit.length c8, .slice A9 q.b.unit.length c9⟩) (hw3.out.set 3 rfl 5 (.slice B2 (q.b.taken.length + 1) k2)).drop ⟨HC1.out, HOK.out.a.mono (Nat.le_succ _), HOK.out.b.effTaken ⟨d, true⟩, ⟨HOK.out.errors.1, by have := HOK.out.errors; show q.errors ≤ ((c + 1 + 1 : Nat) : Int); omega⟩, ⟨HOK.out.next.1, by have := HOK.out.next; show q.next ≤ ((c + 1 + 1 : Nat) : Int); omega⟩⟩ rfl rfl rfl rfl rfl rfl (by simp) (by simp [evs_app, evs]) rfl rfl rfl rfl rfl rfl rfl rfl rfl rfl rfl rfl⟩
      have HB : Aside0 (l.length ≤ 800 ∧ ∀ x ∈ l, x.kind = 0 → FrOk x.fr) := ⟨by rw [← HLL.out]; exact ⟨HG.out.len, HG.out.fr⟩⟩
      go_wp2_with fail
      refine (effects1C I (c + 1 + 1) _ v l (Nat.le_trans HB.out.1 (by decide)) (by have := HC0.out; have := HB.out.1; omega) HB.out.2 T w0 _ HP2.out).mono ?_
      rintro r w9 ⟨rfl, hw9⟩
      have HW9 := Aside0.mk hw9
      clear hw9 HP2
      go_wp2
      go_ret
      refine ⟨⟨_, rfl⟩, ?_⟩
      have hE : sendP true p 2 = effs true (({ q with b := { q.b with taken := q.b.taken ++ [⟨d, true⟩] } } : Pr)) l := by
        rw [← HQ.out, ← HLL.out, ← HE2.out]
        have h1 : (data p.b.e (payload p.next)).1 = 0 := by rw [HPD.out]; exact HER.out
        unfold sendP become
        simp only [show ask1 (p.at true).e 2 (payload p.next) = data p.b.e (payload p.next) from rfl, h1, true_and, if_true, show ((2 : Int) = 3) = False from eq_false (by decide), if_false]
        rw [HPD.out]
        rfl
      rw [hE]
      exact grow1 HW9.out (by have := HB.out.1; omega) (by have := HC0.out; omega)
  · have hb0 : (er == 0) = false := by rw [beq_eq_false_iff_ne]; exact her
    have HB : Aside0 (l.length ≤ 800 ∧ ∀ x ∈ l, x.kind = 0 → FrOk x.fr) := ⟨by rw [← HLL.out]; exact ⟨HG.out.len, HG.out.fr⟩⟩
    go_wp2_with fail
    refine (effects1C I (c + 1) _ v l (Nat.le_trans HB.out.1 (by decide)) (by have := HC0.out; have := HB.out.1; omega) HB.out.2 T w0 _ HP.out).mono ?_
    rintro r w9 ⟨rfl, hw9⟩
    have HW9 := Aside0.mk hw9
    clear hw9 HP
    go_wp2
    go_ret
    refine ⟨⟨_, rfl⟩, ?_⟩
    have hE : sendP true p 2 = effs true (q) l := by
      rw [← HQ.out, ← HLL.out, ← HE2.out]
      have h1 : ((data p.b.e (payload p.next)).1 = 0) = False := eq_false (fun h => her (HER.out.symm.trans (by rw [← HPD.out]; exact h)))
      unfold sendP become
      simp only [show ask1 (p.at true).e 2 (payload p.next) = data p.b.e (payload p.next) from rfl, h1, false_and, if_false]
      rw [HPD.out]
      rfl
    rw [hE]
    exact grow1 HW9.out (by have := HB.out.1; omega) (by have := HC0.out; omega)
theorem send13C (I : PI) (c : Nat) (p : Pr) (hc : c + 1000 ≤ 100000000000) (T : Nat → Prop) (w0 w : World) (h : Went (pairAt I c p) T w0 w) :
    Calls Tryz.prog 53 #[.pointer (some ⟨I.g, 0, none⟩), .int .i64 1, .int .i64 3] w fun r w' => (∃ z : Bool, r = .returned (.bool z)) ∧ Went (pairAt I (c + 1000) (sendP true p 3)) T w0 w' := by
  obtain ⟨A0, c0, A1, c1, A2, c2, A3, c3, A4, c4, A5, c5, A6, c6, A7, c7, A8, c8, A9, c9, HO1, hok⟩ := pairAt.opened h
  have HO := Aside0.mk HO1
  have HOK0 := Aside0.mk hok
  have HC0 := Aside0.mk hc
  obtain ⟨x, HX⟩ : ∃ x : Int, Aside0 (p.next = x) := ⟨_, ⟨rfl⟩⟩
  have hx0 : 0 ≤ x ∧ x ≤ 100000000000 := by rw [← HX.out]; have h1 := hok.next; have h2 := hok.cap; omega
  obtain ⟨cn, cf⟩ := cellAt (HO.out.heap 1 rfl) 17 (.int .i64 p.next) rfl
  rw [HX.out] at cn
  have hcv := two_str w (x % 256) (x / 256 % 256)
  have hd : strOfNums [x % 256, x / 256 % 256] = payload x := rfl
  rw [hd] at hcv
  have hx1 : IntKind.i64.wrap (x + 1) = x + 1 := by simp [IntKind.wrap, IntKind.bits, IntKind.signed]; omega
  have HOa := Aside0.mk (HO.out.alloc (.cells #[.int .u8 (x % 256), .int .u8 (x / 256 % 256)] 5 (0, 0)))
  obtain ⟨cn2, cf2⟩ := cellAt (HOa.out.heap 1 rfl) 17 (.int .i64 p.next) rfl
  obtain ⟨ce2, cfe2⟩ := cellAt (HOa.out.heap 1 rfl) 1 (.pointer (some ⟨I.b1, 0, none⟩)) rfl
  rw [HX.out] at cn2
  have HM : Aside0 (Went (pairAt I (c + 1) ({ p with next := p.next + 1 } : Pr)) T w0 (((w.alloc (.cells #[.int .u8 (x % 256), .int .u8 (x / 256 % 256)] 5 (0, 0))).setCell ⟨I.g, 17, none⟩ (.int .i64 (x + 1))).drew)) := ⟨by
    have hm := (HOa.out.set 1 rfl 17 (.int .i64 (x + 1))).drew
    rw [← HX.out] at hm ⊢
    exact pairAt.close (p := ({ p with next := p.next + 1 } : Pr)) (V := ⟨.slice A0 p.a.way.length c0, .slice A1 p.b.way.length c1, .slice A2 p.a.taken.length c2, .slice A3 p.b.taken.length c3, .slice A4 p.a.told.length c4, .slice A5 p.b.told.length c5, .slice A6 p.a.units.length c6, .slice A7 p.b.units.length c7, .slice A8 p.a.unit.length c8, .slice A9 p.b.unit.length c9⟩) hm ⟨by have := HC0.out; omega, hok.a.mono (Nat.le_succ _), hok.b.mono (Nat.le_succ _), ⟨hok.errors.1, by have := hok.errors; show p.errors ≤ ((c + 1 : Nat) : Int); omega⟩, ⟨by have := hok.next; show 0 ≤ p.next + 1; omega, by have := hok.next; show p.next + 1 ≤ ((c + 1 : Nat) : Int); omega⟩⟩ rfl rfl rfl rfl rfl rfl rfl rfl rfl rfl rfl rfl rfl rfl rfl rfl rfl rfl rfl rfl⟩
  have hds : (payload x).size = 2 := rfl
  obtain ⟨d, HD⟩ : ∃ d, Aside0 (payload x = d) := ⟨_, ⟨rfl⟩⟩
  rw [HD.out] at hcv hds
  have HPD : Aside0 (payload p.next = d) := ⟨by rw [HX.out]; exact HD.out⟩
  obtain ⟨_, he⟩ := HO1.get 3 rfl
  obtain ⟨hgo, hmost⟩ := go_of he hok.b.out
  have hg := go_ask1 hgo 3 d (by rw [hds]; decide) hmost
  obtain ⟨e2, HE2⟩ : ∃ e2, Aside0 ((Md.unit p.b.e d).2 = e2) := ⟨_, ⟨rfl⟩⟩
  obtain ⟨er, HER⟩ : ∃ er, Aside0 ((Md.unit p.b.e d).1 = er) := ⟨_, ⟨rfl⟩⟩
  have HG : Aside0 (GO 800 e2) := ⟨by rw [← HE2.out]; exact hg.mono (by omega)⟩
  have hzero : p.b.e.out.length ≤ 6900 := by rw [hok.b.out]; exact Nat.zero_le _
  have HZ := Aside0.mk hzero
  obtain ⟨B0, d0, B1, d1, B2, d2, B3, d3, B4, d4, B5, d5, B6, d6, B7, d7, B8, d8, B9, d9, HN1, hokn⟩ := pairAt.opened HM.out
  have HN := Aside0.mk HN1
  have HOKN := Aside0.mk hokn
  have HCL := Aside0.mk (HN.out.call_ex 3 rfl (fun T1 h1 => En.ask3C I.b1 I.m1 I.f1 p.b.e d (by rw [hds]; decide) HZ.out T1 _ _ (Went.refl h1)))
  have HCL2 := HCL.out
  rw [HE2.out, HER.out] at HCL2
  have HCL3 := Aside0.mk HCL2
  clear h HO1 hok he hgo hmost hg hc hzero HCL HCL2 HN1 hokn hd hds HM HN
  go_enter Tryz.func53, Tryz.ntmps53
  go_wp2_with fail
  go_still_tail 11, (by kernel_rfl)
  change wpList _ _ _ _ _ (World.drew _)
  go_wp2_with fail
  refine HCL3.out.mono ?_
  rintro r w1 ⟨v, rfl, hw⟩
  have hq := taken1 hw HOKN.out rfl
  obtain ⟨q, HQ⟩ : ∃ q : Pr, Aside0 (({ ({ p with next := p.next + 1 } : Pr) with b := { p.b with e := emptied e2 } } : Pr) = q) := ⟨_, ⟨rfl⟩⟩
  rw [HQ.out] at hq
  have HP := Aside0.mk hq
  obtain ⟨l, HLL⟩ : ∃ l, Aside0 (e2.out = l) := ⟨_, ⟨rfl⟩⟩
  rw [HLL.out] at HP
  clear hw hq HCL3 HO HOa cn cf cn2 cf2 ce2 cfe2 hcv hx1
  have her : er = 0 := HER.out.symm
  subst her
  have HC1 : Aside0 (c + 1 + 1 ≤ 100000000000) := ⟨by have := HC0.out; omega⟩
  go_wp2_with fail
  obtain ⟨A0, c0, A1, c1, A2, c2, A3, c3, A4, c4, A5, c5, A6, c6, A7, c7, A8, c8, A9, c9, HO2, hok2⟩ := pairAt.opened2 HP.out
  have HL := Aside0.mk HO2
  have HOK := Aside0.mk hok2
  clear HO2 hok2 HP
  obtain ⟨cr, fr⟩ := cellAt (HL.out.heap 2 rfl) 11 (.slice A9 q.b.unit.length c9) rfl
  have HL2 := Aside0.mk (HL.out.new (.cells #[.string d] 9 (0, 0)))
  obtain ⟨cr2, fr2⟩ := cellAt (HL2.out.heap 3 rfl) 11 (.slice A9 q.b.unit.length c9) rfl
  have hn2 := HL2.out.heap 0 rfl
  obtain ⟨i0, hi0, hz0, hz1, hz2⟩ := info_parts infoStr
  obtain ⟨T3, hr⟩ := HL2.out.drew.get 15 rfl
  have HR := Aside0.mk hr.2
  have HI0 := Aside0.mk hi0
  have HZ0 := Aside0.mk hz0
  have HZ1 := Aside0.mk hz1
  have HZ2 := Aside0.mk hz2
  have hlen : q.b.unit.length ≤ 100000000000 := Nat.le_trans HOK.out.b.unit HOK.out.cap
  have HNW : Aside0 (∀ (j : Nat) (u : Value), ([.string d] : List Value)[j]? = some u → (w1.alloc (.cells #[.string d] 9 (0, 0))).cell? ((⟨w1.heap.size, 0, none⟩ : Addr).add j) = some u) := ⟨fun j u hu => by
    rw [add_plain, Lib.cell_of_heap hn2, ← hu]
    simp⟩
  clear hn2 hi0 hz0 hz1 hz2 hr
  have hw1 : IntKind.i64.wrap 1 = 1 := by decide
  have hw0 : IntKind.i64.wrap 0 = 0 := by decide
  go_region_law (refine step_append_at _ rfl _ _ 30 rfl T3 9 i0 (.string ByteArray.empty) 1 16 Tryz.underlying30 HI0.out HZ0.out HZ1.out HZ2.out rfl (by decide) _ _ _ rfl HR.out ⟨w1.heap.size, 0, none⟩ 1 1 [.string d] rfl rfl HNW.out (by intro u hu; simp at hu; subst hu; rfl) (by decide) (by unfold maxLen; omega) (by omega) ?_; intro v' w2 hown2 hg2 hloc; obtain ⟨B2, k2, rfl, _, _⟩ := hown2.shape; have hw3 := Aside0.mk (HL2.out.drew.at_ 15 rfl (fun T1 h1 => row_grown (n := q.b.unit.length) (v := .slice A9 q.b.unit.length c9) h1 hown2 hg2 hloc)); clear hown2 hg2 hloc HL2 HNW HR HI0 HZ0 HZ1 HZ2 cr cr2 fr fr2; obtain ⟨cr, fr⟩ := cellAt (hw3.out.heap 3 rfl) 11 (.slice A9 q.b.unit.length c9) rfl)
  all_goals
    have HP2 : Aside0 (Went (all [orow v l, pairAt I (c + 1 + 1) ({ q with b := { q.b with unit := q.b.unit ++ [d] } } : Pr)]) T w0 (w2.setCell ⟨I.g, 11, none⟩ (.slice B2 (q.b.unit.length + 1) k2))) := ⟨pairAt.close2 (p := ({ q with b := { q.b with unit := q.b.unit ++ [d] } } : Pr)) (V := ⟨.slice A0 q.a.way.length c0, .slice A1 q.b.way.length c1, .slice A2 q.a.taken.length c2, .slice A3 q.b.taken.length c3, .slice A4 q.a.told.length c4, .slice A5 q.b.told.length c5, .slice A6 q.a.units.length c6, .slice A7 q.b.units.length c7, .slice A8 q.a.unit.length c8, .slice B2 (q.b.unit.length + 1) k2⟩) (hw3.out.set 3 rfl 11 (.slice B2 (q.b.unit.length + 1) k2)).drop ⟨HC1.out, HOK.out.a.mono (Nat.le_succ _), HOK.out.b.effUnit d, ⟨HOK.out.errors.1, by have := HOK.out.errors; show q.errors ≤ ((c + 1 + 1 : Nat) : Int); omega⟩, ⟨HOK.out.next.1, by have := HOK.out.next; show q.next ≤ ((c + 1 + 1 : Nat) : Int); omega⟩⟩ rfl rfl rfl rfl rfl rfl rfl rfl rfl rfl rfl rfl rfl rfl rfl rfl rfl rfl (by simp) (by simp [strs])⟩
    have HB : Aside0 (l.length ≤ 800 ∧ ∀ x ∈ l, x.kind = 0 → FrOk x.fr) := ⟨by rw [← HLL.out]; exact ⟨HG.out.len, HG.out.fr⟩⟩
    go_wp2_with fail
    refine (effects1C I (c + 1 + 1) _ v l (Nat.le_trans HB.out.1 (by decide)) (by have := HC0.out; have := HB.out.1; omega) HB.out.2 T w0 _ HP2.out).mono ?_
    rintro r w9 ⟨rfl, hw9⟩
    have HW9 := Aside0.mk hw9
    clear hw9 HP2
    go_wp2
    go_ret
    refine ⟨⟨_, rfl⟩, ?_⟩
    have hE : sendP true p 3 = effs true (({ q with b := { q.b with unit := q.b.unit ++ [d] } } : Pr)) l := by
      rw [← HQ.out, ← HLL.out, ← HE2.out]
      have h1 : (Md.unit p.b.e (payload p.next)).1 = 0 := rfl
      unfold sendP become
      simp only [show ask1 (p.at true).e 3 (payload p.next) = Md.unit p.b.e (payload p.next) from rfl, h1, true_and, if_true, show ((3 : Int) = 2) = False from eq_false (by decide), if_false]
      rw [HPD.out]
      rfl
    rw [hE]
    exact grow1 HW9.out (by have := HB.out.1; omega) (by have := HC0.out; omega)
end Go.Proofs.YtljnfbpplhnmfaaGreatDoor.Pa
