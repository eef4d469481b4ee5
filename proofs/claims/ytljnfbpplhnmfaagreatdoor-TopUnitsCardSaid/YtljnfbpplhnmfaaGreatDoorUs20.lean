/- Both ends of a link, in memory: a frame comes. Conditions: sizes. Both ends of a link, in memory: all comes. Conditions: sizes. -/
import Derived.StillTailTactics
import Derived.Test.YtljnfbpplhnmfaaGreatDoorUs19
namespace Go.Proofs.YtljnfbpplhnmfaaGreatDoor.Pa
open Go Go.RowKit Go.Proofs.YtljnfbpplhnmfaaGreatDoorW.PrintWords Go.Proofs.YtljnfbpplhnmfaaGreatDoorW.PrintLast Go.Proofs.YtljnfbpplhnmfaaGreatDoorW.PrintMore Go.Proofs.YtljnfbpplhnmfaaGreatDoor.Str Go.Proofs.YtljnfbpplhnmfaaGreatDoor.Mp Go.Proofs.YtljnfbpplhnmfaaGreatDoor.Ra Go.Proofs.YtljnfbpplhnmfaaGreatDoor.Sl Go.Proofs.YtljnfbpplhnmfaaGreatDoor.Qu Go.Proofs.YtljnfbpplhnmfaaGreatDoor.Ru Go.Proofs.YtljnfbpplhnmfaaGreatDoor.Md
open Go.Proofs.YtljnfbpplhnmfaaGreatDoor.En (frCells efCells efs efs_app efs_one orow entAt)
set_option linter.unusedVariables false
set_option linter.unusedSimpArgs false
set_option maxRecDepth 1000000
set_option maxHeartbeats 8000000
open Go.Proofs.YtljnfbpplhnmfaaGreatDoor.Fm Go.Proofs.YtljnfbpplhnmfaaGreatDoorX
structure LN (T : Nat → Prop) (w0 : World) : Prop where
  laid : LaidN w0
  apart : ¬ T 1
  lt : 1 < w0.heap.size
theorem LN.at_ {T : Nat → Prop} {w0 w : World} (h : LN T w0) (k : Kb T w0 w) : LaidN w := fun i x hx => by
  rw [World.cell?_of_block (a := ⟨1, i, none⟩) (k.block _ h.lt h.apart)]
  exact h.laid i x hx
theorem frs_cons (f : Fr) (l : List Fr) : frs (f :: l) = (frCells f).toList ++ frs l := rfl
theorem fr_head {A : Option Addr} {c : Nat} {f : Fr} {l : List Fr} {T : Nat → Prop} {w : World} (h : (frow (.slice A (l.length + 1) c) (f :: l)).h T w) : ∃ g o, A = some ⟨g, o, none⟩ ∧ ∀ (j : Nat) (u : Value), (frCells f)[j]? = some u → w.cell? ⟨g, o + j, none⟩ = some u := by
  have hg : ∀ (j : Nat) (u : Value), (frCells f)[j]? = some u → (frs (f :: l))[j]? = some u := fun j u hu => by
    have hj : j < 8 := by
      have := (Array.getElem?_eq_some_iff.1 hu).1
      simpa [frCells] using this
    rw [frs_cons, List.getElem?_append_left (by simp [frCells]; omega), Array.getElem?_toList]
    exact hu
  obtain ⟨g, o, hA, _, _⟩ := h.2.cell 0 (.int .i64 0) (hg 0 _ rfl)
  refine ⟨g, o * 8, hA, fun j u hu => ?_⟩
  obtain ⟨g2, o2, hq, h2, _⟩ := h.2.cell j u (hg j u hu)
  rw [hA] at hq
  injection hq with hq
  injection hq with h3 h4
  subst h3
  rw [← h4] at h2
  exact h2
theorem run_tails {P : Program} (w : World) (T : Nat → Prop) (t e : TypeId) (i : TypeInfo) (size : Nat) (ht : P.underlying t = some (.slice e)) (hi : P.info? e = some i) (hsize : i.size = size)
    (v : Value) (n : Nat) (xs : List Value) (hown : OwnsAt w T e size v (n + 1) xs) :
    ∃ v', (∀ w0 : World, (Instr.slice t v (some (.int .i64 1)) none none).run P w0 = .ok v' w0) ∧ OwnsAt w T e size v' n (xs.drop size) ∧ v'.ownBlock = v.ownBlock := by
  subst hsize
  rcases hown.2 with ⟨_, h⟩ | ⟨g, o, cap, cur, rfl, hbg, hg, hnc, hcm, hcs, htake⟩
  · cases h
  · have hl : (xs.drop i.size).length = n * i.size := by rw [List.length_drop, hown.1, Nat.add_mul]; omega
    have hnn : (1 : Int) ≤ (n : Int) + 1 := by omega
    by_cases hc : cap = 1
    · subst hc
      obtain rfl : n = 0 := by omega
      refine ⟨.slice (some ⟨g, o * i.size, none⟩) 0 0, ?_, ⟨hl, .inr ⟨g, o, 0, cur, rfl, hbg, hg, Nat.le_refl _, Nat.zero_le _, ?_, ?_⟩⟩, rfl⟩
      · intro w0; simp [Instr.slice, Instr.sliceBounds, Instr.sliceBound, run_underlying ht, asIntOf, sizeOf, typeInfo, hi, Result.andThen]
      · exact Nat.le_trans (Nat.mul_le_mul_right _ (by omega)) hcs
      · simp only [Nat.zero_mul, List.take_zero]
        exact (List.eq_nil_of_length_eq_zero (by simpa using hl)).symm
    · refine ⟨.slice (some ⟨g, (o + 1) * i.size, none⟩) n (cap - 1), ?_, ⟨hl, .inr ⟨g, o + 1, cap - 1, cur, rfl, hbg, hg, by omega, by omega, ?_, ?_⟩⟩, rfl⟩
      · intro w0; simp [Instr.slice, Instr.sliceBounds, Instr.sliceBound, run_underlying ht, asIntOf, sizeOf, typeInfo, hi, Result.andThen, hc, hnn, Addr.add_lit, Nat.add_mul]
      · exact Nat.le_trans (Nat.mul_le_mul_right _ (by omega)) hcs
      · rw [← htake, List.drop_take, List.drop_drop, Nat.add_mul, Nat.add_mul]
        simp
theorem tailed {p q : List Fr} {f : Fr} {A B : Option Addr} {ca cb n : Nat} {T : Nat → Prop} {w : World} (h1 : (frow (.slice A p.length ca) p).h T w) (hp : p = f :: q) (i0 : TypeInfo) (hi0 : Tryz.prog.info? 144 = some i0) (hz1 : i0.size = 8)
    (hrun : ∀ w0 : World, (Instr.slice 31 (.slice A (q.length + 1) ca) (some (.int .i64 1)) none none).run Tryz.prog w0 = .ok (.slice B n cb) w0) (hn : n = q.length := by rfl) : Went (row 144 8 (.slice B n cb) n ((frs p).drop 8)) T w w := by
  subst hp hn
  obtain ⟨v2, hr2, ho, hob⟩ := run_tails (P := Tryz.prog) w T 31 144 i0 8 Tryz.underlying31 hi0 hz1 _ q.length _ h1.2
  have he : v2 = .slice B q.length cb := by
    have h3 := (hr2 w).symm.trans (hrun w)
    injection h3
  subst he
  exact ⟨T, ⟨fun j => (h1.1 j).trans (by rw [hob]), ho⟩, Kb.refl _ _, fun _ h => Or.inl h⟩
theorem growP {I : PI} {c d : Nat} {p : Pr} {T : Nat → Prop} {w0 w : World} (h : Went (pairAt I c p) T w0 w) (hd : c ≤ d) (hc : d ≤ 100000000000) : Went (pairAt I d p) T w0 w := by
  refine h.imp fun T1 h1 => ?_
  obtain ⟨V, Tf, Tr, hf, hr, d2, e3⟩ := h1
  exact ⟨V, Tf, Tr, ⟨hf.1, hf.2.mono hd hc⟩, hr, d2, e3⟩
theorem come00C (I : PI) (c : Nat) (p : Pr) (hc : c + 1000 ≤ 100000000000) (T : Nat → Prop) (w0 w : World) (hN : LN T w0) (h : Went (pairAt I c p) T w0 w) :
    Calls Tryz.prog 34 #[.pointer (some ⟨I.g, 0, none⟩), .int .i64 0, .bool false] w fun r w' => r = .returned (.bool (decide (p.a.way ≠ []))) ∧ Went (pairAt I (c + 1000) (comeP false p false)) T w0 w' := by
  have HH := Aside0.mk h
  have HC0 := Aside0.mk hc
  obtain ⟨A0, c0, A1, c1, A2, c2, A3, c3, A4, c4, A5, c5, A6, c6, A7, c7, A8, c8, A9, c9, HO1, hok⟩ := pairAt.opened h
  clear h hc
  cases hw : p.a.way with
  | nil =>
    have HO := Aside0.mk HO1
    obtain ⟨cr, cf⟩ := cellAt (HO.out.heap 1 rfl) 2 (.slice A0 p.a.way.length c0) rfl
    rw [hw] at cr
    clear HO1 HO
    go_enter Tryz.func34, Tryz.ntmps34
    go_wp2
    go_ret
    refine ⟨rfl, ?_⟩
    rw [show comeP false p false = p from by unfold comeP; rw [show (p.at false).way = [] from hw]]
    exact growP HH.out (by omega) HC0.out
  | cons f l =>
    obtain ⟨_, hr⟩ := HO1.get 4 rfl
    have hok2 := hok
    have HOK := Aside0.mk hok
    have HF : Aside0 (FrOk f) := ⟨hok2.a.frames f (by rw [hw]; exact List.mem_cons_self ..)⟩
    have HFL : Aside0 (∀ g ∈ l, FrOk g) := ⟨fun g hg => hok2.a.frames g (by rw [hw]; exact List.mem_cons_of_mem _ hg)⟩
    have HLE : Aside0 (l.length + 1 ≤ c) := ⟨by have := hok2.a.way; rw [hw] at this; exact this⟩
    rw [hw] at hr
    obtain ⟨ga, oa, hA, hg⟩ := fr_head hr
    have HH2 : Aside0 (∀ w2, Below w.heap.size w w2 → True) := ⟨fun _ _ => trivial⟩
    obtain ⟨t1, x1, x2, x3, x4, x5, x6⟩ := f
    subst hA
    have e0 := hg 0 (.int .i64 0) rfl
    have e1 := hg 1 (.int .i64 t1) rfl
    have e2 := hg 2 (.bool x1) rfl
    have e3 := hg 3 (.int .i64 x2) rfl
    have e4 := hg 4 (.bool x3) rfl
    have e5 := hg 5 (.int .i64 x4) rfl
    have e6 := hg 6 (.int .i64 x5) rfl
    have e7 := hg 7 (.string x6) rfl
    have e00 : w.cell? ⟨ga, oa, none⟩ = some (.int .i64 0) := e0
    obtain ⟨cr, cf⟩ := cellAt (HO1.heap 1 rfl) 2 (.slice (some ⟨ga, oa, none⟩) p.a.way.length c0) rfl
    rw [hw] at cr
    have HOa := Aside0.mk (HO1.alloc (.cells #[.int .i64 0, .int .i64 t1, .bool x1, .int .i64 x2, .bool x3, .int .i64 x4, .int .i64 x5, .string x6] 144 (0, 0)))
    have hbx := heap_alloc_new w (.cells #[.int .i64 0, .int .i64 t1, .bool x1, .int .i64 x2, .bool x3, .int .i64 x4, .int .i64 x5, .string x6] 144 (0, 0))
    obtain ⟨i0, hi0, hz0, hz1, hz2⟩ := info_parts infoFr
    obtain ⟨T3, hr3⟩ := HOa.out.drew.get 4 rfl
    rw [hw] at hr3
    obtain ⟨v2, hrun, hown, hob⟩ := run_tails (P := Tryz.prog) ((w.alloc (.cells #[.int .i64 0, .int .i64 t1, .bool x1, .int .i64 x2, .bool x3, .int .i64 x4, .int .i64 x5, .string x6] 144 (0, 0))).drew) T3 31 144 i0 8 Tryz.underlying31 hi0 hz1 _ l.length _ hr3.2
    obtain ⟨cr2, cf2⟩ := cellAt (HOa.out.heap 1 rfl) 2 (.slice (some ⟨ga, oa, none⟩) p.a.way.length c0) rfl
    rw [hw] at cr2
    obtain ⟨D, kd, rfl, _, _⟩ := hown.shape
    have HM : Aside0 (Went (pairAt I c ({ p with a := { p.a with way := l } } : Pr)) T w0 (((w.alloc (.cells #[.int .i64 0, .int .i64 t1, .bool x1, .int .i64 x2, .bool x3, .int .i64 x4, .int .i64 x5, .string x6] 144 (0, 0))).setCell ⟨I.g, 2, none⟩ (.slice D l.length kd)).drew)) := ⟨by
      have hm := (HOa.out.drew.at_ 4 rfl (fun T1 h1 => tailed (n := l.length) (h1 := h1) hw i0 hi0 hz1 hrun)).set 1 rfl 2 (.slice D l.length kd)
      exact pairAt.close (p := ({ p with a := { p.a with way := l } } : Pr)) (V := ⟨.slice D l.length kd, .slice A1 p.b.way.length c1, .slice A2 p.a.taken.length c2, .slice A3 p.b.taken.length c3, .slice A4 p.a.told.length c4, .slice A5 p.b.told.length c5, .slice A6 p.a.units.length c6, .slice A7 p.b.units.length c7, .slice A8 p.a.unit.length c8, .slice A9 p.b.unit.length c9⟩) hm ⟨HOK.out.cap, { HOK.out.a with way := by have := HLE.out; show l.length ≤ c; omega, frames := HFL.out }, HOK.out.b, HOK.out.errors, HOK.out.next⟩ rfl (by rw [hw]; simp [frs_cons, frCells]) rfl rfl rfl rfl rfl rfl rfl rfl rfl rfl rfl rfl rfl rfl rfl rfl rfl rfl⟩
    obtain ⟨b0, _⟩ := cellAt hbx 0 (.int .i64 0) rfl
    obtain ⟨b1, _⟩ := cellAt hbx 1 (.int .i64 t1) rfl
    obtain ⟨b2, _⟩ := cellAt hbx 2 (.bool x1) rfl
    obtain ⟨b3, _⟩ := cellAt hbx 3 (.int .i64 x2) rfl
    obtain ⟨b4, _⟩ := cellAt hbx 4 (.bool x3) rfl
    obtain ⟨b5, _⟩ := cellAt hbx 5 (.int .i64 x4) rfl
    obtain ⟨b6, _⟩ := cellAt hbx 6 (.int .i64 x5) rfl
    obtain ⟨b7, _⟩ := cellAt hbx 7 (.string x6) rfl
    have hlt := (Array.getElem?_eq_some_iff.1 (HO1.heap 1 rfl)).1
    have HBX : Aside0 ((((w.alloc (.cells #[.int .i64 0, .int .i64 t1, .bool x1, .int .i64 x2, .bool x3, .int .i64 x4, .int .i64 x5, .string x6] 144 (0, 0))).setCell ⟨I.g, 2, none⟩ (.slice D l.length kd)).drew).heap[w.heap.size]? = some (.cells #[.int .i64 0, .int .i64 t1, .bool x1, .int .i64 x2, .bool x3, .int .i64 x4, .int .i64 x5, .string x6] 144 (0, 0))) := ⟨(Below.heap_setCell _ _ _ _ (by show ¬ w.heap.size = I.g; omega)).trans hbx⟩
    clear hlt
    have hl0 : ((l.length : Int) + 1 == 0) = false := by rw [beq_eq_false_iff_ne]; omega
    clear hr hg hr3 hown hob hi0 hz0 hz1 hz2 hbx HO1 hok hok2
    go_enter Tryz.func34, Tryz.ntmps34
    go_wp2_with fail
    generalize w.alloc (.cells #[.int .i64 0, .int .i64 t1, .bool x1, .int .i64 x2, .bool x3, .int .i64 x4, .int .i64 x5, .string x6] 144 (0, 0)) = w1 at *
    have hrun3 : ∀ w0 : World, (Instr.slice 31 (.slice (some ⟨ga, oa, none⟩) (l.length + 1) c0) (some (.int .i64 1)) none none).run Tryz.prog w0 = .ok (.slice D l.length kd) w0 := hrun
    clear hrun
    go_still_tail 12, (by kernel_rfl)
    change wpList _ _ _ _ _ (World.drew _)
    have hE : comeP false p false = become false ({ p with a := { p.a with way := l } } : Pr) (frame1 p.a.e (⟨t1, x1, x2, x3, x4, x5, x6⟩ : Fr)) := by unfold comeP; rw [show (p.at false).way = _ from hw]; rfl
    have HEE := Aside0.mk hE
    clear hE HOa HH2 HH
    go_wp2_with fail
    clear b0 b1 b2 b3 b4 b5 b6 b7 e0 e1 e2 e3 e4 e5 e6 e7 e00 cr cf cr2 cf2 hrun3
    generalize (w1.setCell ⟨I.g, 2, none⟩ (.slice D l.length kd)).drew = wz at HM HBX ⊢
    obtain ⟨q, HQ⟩ : ∃ q : Pr, Aside0 (({ p with a := { p.a with way := l } } : Pr) = q) := ⟨_, ⟨rfl⟩⟩
    have hqe : p.a.e = q.a.e := by rw [← HQ.out]
    have HM2 := HM.out
    rw [HQ.out] at HM2
    have HEE2 := HEE.out
    rw [HQ.out, hqe] at HEE2
    have HE := Aside0.mk HEE2
    clear HEE HEE2 HM hqe
    obtain ⟨D0, d0, D1, d1, D2, d2, D3, d3, D4, d4, D5, d5, D6, d6, D7, d7, D8, d8, D9, d9, HO1, hok⟩ := pairAt.opened HM2.drew
    have HO := Aside0.mk HO1
    have HOK0 := Aside0.mk hok
    obtain ⟨_, he⟩ := HO1.get 2 rfl
    obtain ⟨hgo, _⟩ := go_of he hok.a.out
    have hg := go_frame1 hgo (⟨t1, x1, x2, x3, x4, x5, x6⟩ : Fr)
    obtain ⟨e2, HE2⟩ : ∃ e2, Aside0 (frame1 q.a.e (⟨t1, x1, x2, x3, x4, x5, x6⟩ : Fr) = e2) := ⟨_, ⟨rfl⟩⟩
    have HG : Aside0 (GO 800 e2) := ⟨by rw [← HE2.out]; exact hg.mono (by omega)⟩
    have HZ : Aside0 (q.a.e.out.length ≤ 6900) := ⟨by rw [hok.a.out]; exact Nat.zero_le _⟩
    have HNz : Aside0 (LaidN wz.drew) := ⟨hN.at_ HM2.drew.keeps⟩
    obtain ⟨cp, cpf⟩ := cellAt (HO.out.heap 1 rfl) 0 (.pointer (some ⟨I.b0, 0, none⟩)) rfl
    obtain ⟨b0, _⟩ := cellAt HBX.out 0 (.int .i64 0) rfl
    obtain ⟨b1, _⟩ := cellAt HBX.out 1 (.int .i64 t1) rfl
    obtain ⟨b2, _⟩ := cellAt HBX.out 2 (.bool x1) rfl
    obtain ⟨b3, _⟩ := cellAt HBX.out 3 (.int .i64 x2) rfl
    obtain ⟨b4, _⟩ := cellAt HBX.out 4 (.bool x3) rfl
    obtain ⟨b5, _⟩ := cellAt HBX.out 5 (.int .i64 x4) rfl
    obtain ⟨b6, _⟩ := cellAt HBX.out 6 (.int .i64 x5) rfl
    obtain ⟨b7, _⟩ := cellAt HBX.out 7 (.string x6) rfl
    have HCL := HO.out.call_ex 2 rfl (fun T1 h1 => En.frameC I.b0 I.m0 I.f0 q.a.e (⟨t1, x1, x2, x3, x4, x5, x6⟩ : Fr) HF.out HZ.out T1 _ _ HNz.out (Went.refl h1))
    rw [HE2.out] at HCL
    have HCL3 := Aside0.mk HCL
    clear HCL HO1 hok he hgo hg HM2
    obtain ⟨q2, HQ2⟩ : ∃ q2 : Pr, Aside0 (({ q with a := { q.a with e := emptied e2 } } : Pr) = q2) := ⟨_, ⟨rfl⟩⟩
    obtain ⟨l2, HLL⟩ : ∃ l2, Aside0 (e2.out = l2) := ⟨_, ⟨rfl⟩⟩
    have HCL4 : Aside0 (Calls Tryz.prog 57 #[.pointer (some ⟨I.b0, 0, none⟩), .agg #[.int .i64 0, .int .i64 t1, .bool x1, .int .i64 x2, .bool x3, .int .i64 x4, .int .i64 x5, .string x6]] wz.drew fun r w2 => ∃ v, r = .returned v ∧ Went (all [orow v l2, pairAt I c q2]) T w0 w2) := ⟨HCL3.out.mono fun r w2 ⟨v, hr, hw2⟩ => ⟨v, hr, by
      have hq := taken0 hw2 HOK0.out rfl
      rw [HQ2.out, HLL.out] at hq
      exact hq⟩⟩
    clear HCL3 HO
    have HB : Aside0 (l2.length ≤ 800 ∧ ∀ x ∈ l2, x.kind = 0 → FrOk x.fr) := ⟨by rw [← HLL.out]; exact ⟨HG.out.len, HG.out.fr⟩⟩
    go_region_law (first | (go_simp; go_at_call 57; refine HCL4.out.mono ?_; rintro r w2 ⟨v, rfl, hw2⟩; have HP := Aside0.mk hw2; clear hw2) | (go_simp; go_at_call 52; refine (effects0C I c _ _ l2 (Nat.le_trans HB.out.1 (by decide)) (by have := HC0.out; have := HB.out.1; omega) HB.out.2 T w0 _ HP.out).mono ?_; rintro r w9 ⟨rfl, hw9⟩; have HW9 := Aside0.mk hw9; clear hw9 HP))
    all_goals
      go_wp2
      go_ret
      refine ⟨rfl, ?_⟩
      rw [HE.out, show become false q (frame1 q.a.e (⟨t1, x1, x2, x3, x4, x5, x6⟩ : Fr)) = effs false q2 l2 from by rw [← HQ2.out, ← HLL.out, ← HE2.out]; rfl]
      exact grow1 HW9.out (by have := HB.out.1; omega) HC0.out
theorem come01C (I : PI) (c : Nat) (p : Pr) (hc : c + 1000 ≤ 100000000000) (T : Nat → Prop) (w0 w : World) (hN : LN T w0) (h : Went (pairAt I c p) T w0 w) :
    Calls Tryz.prog 34 #[.pointer (some ⟨I.g, 0, none⟩), .int .i64 0, .bool true] w fun r w' => r = .returned (.bool (decide (p.a.way ≠ []))) ∧ Went (pairAt I (c + 1000) (comeP false p true)) T w0 w' := by
  have HH := Aside0.mk h
  have HC0 := Aside0.mk hc
  obtain ⟨A0, c0, A1, c1, A2, c2, A3, c3, A4, c4, A5, c5, A6, c6, A7, c7, A8, c8, A9, c9, HO1, hok⟩ := pairAt.opened h
  clear h hc
  cases hw : p.a.way with
  | nil =>
    have HO := Aside0.mk HO1
    obtain ⟨cr, cf⟩ := cellAt (HO.out.heap 1 rfl) 2 (.slice A0 p.a.way.length c0) rfl
    rw [hw] at cr
    clear HO1 HO
    go_enter Tryz.func34, Tryz.ntmps34
    go_wp2
    go_ret
    refine ⟨rfl, ?_⟩
    rw [show comeP false p true = p from by unfold comeP; rw [show (p.at false).way = [] from hw]]
    exact growP HH.out (by omega) HC0.out
  | cons f l =>
    obtain ⟨_, hr⟩ := HO1.get 4 rfl
    have hok2 := hok
    have HOK := Aside0.mk hok
    have HF : Aside0 (FrOk f) := ⟨hok2.a.frames f (by rw [hw]; exact List.mem_cons_self ..)⟩
    have HFL : Aside0 (∀ g ∈ l, FrOk g) := ⟨fun g hg => hok2.a.frames g (by rw [hw]; exact List.mem_cons_of_mem _ hg)⟩
    have HLE : Aside0 (l.length + 1 ≤ c) := ⟨by have := hok2.a.way; rw [hw] at this; exact this⟩
    rw [hw] at hr
    obtain ⟨ga, oa, hA, hg⟩ := fr_head hr
    have HH2 : Aside0 (∀ w2, Below w.heap.size w w2 → True) := ⟨fun _ _ => trivial⟩
    obtain ⟨t1, x1, x2, x3, x4, x5, x6⟩ := f
    subst hA
    have e0 := hg 0 (.int .i64 0) rfl
    have e1 := hg 1 (.int .i64 t1) rfl
    have e2 := hg 2 (.bool x1) rfl
    have e3 := hg 3 (.int .i64 x2) rfl
    have e4 := hg 4 (.bool x3) rfl
    have e5 := hg 5 (.int .i64 x4) rfl
    have e6 := hg 6 (.int .i64 x5) rfl
    have e7 := hg 7 (.string x6) rfl
    have e00 : w.cell? ⟨ga, oa, none⟩ = some (.int .i64 0) := e0
    obtain ⟨cr, cf⟩ := cellAt (HO1.heap 1 rfl) 2 (.slice (some ⟨ga, oa, none⟩) p.a.way.length c0) rfl
    rw [hw] at cr
    have HOa := Aside0.mk (HO1.alloc (.cells #[.int .i64 0, .int .i64 t1, .bool x1, .int .i64 x2, .bool x3, .int .i64 x4, .int .i64 x5, .string x6] 144 (0, 0)))
    have hbx := heap_alloc_new w (.cells #[.int .i64 0, .int .i64 t1, .bool x1, .int .i64 x2, .bool x3, .int .i64 x4, .int .i64 x5, .string x6] 144 (0, 0))
    obtain ⟨i0, hi0, hz0, hz1, hz2⟩ := info_parts infoFr
    obtain ⟨T3, hr3⟩ := HOa.out.drew.get 4 rfl
    rw [hw] at hr3
    obtain ⟨v2, hrun, hown, hob⟩ := run_tails (P := Tryz.prog) ((w.alloc (.cells #[.int .i64 0, .int .i64 t1, .bool x1, .int .i64 x2, .bool x3, .int .i64 x4, .int .i64 x5, .string x6] 144 (0, 0))).drew) T3 31 144 i0 8 Tryz.underlying31 hi0 hz1 _ l.length _ hr3.2
    obtain ⟨cr2, cf2⟩ := cellAt (HOa.out.heap 1 rfl) 2 (.slice (some ⟨ga, oa, none⟩) p.a.way.length c0) rfl
    rw [hw] at cr2
    obtain ⟨D, kd, rfl, _, _⟩ := hown.shape
    have HM : Aside0 (Went (pairAt I c ({ p with a := { p.a with way := l } } : Pr)) T w0 (((w.alloc (.cells #[.int .i64 0, .int .i64 t1, .bool x1, .int .i64 x2, .bool x3, .int .i64 x4, .int .i64 x5, .string x6] 144 (0, 0))).setCell ⟨I.g, 2, none⟩ (.slice D l.length kd)).drew)) := ⟨by
      have hm := (HOa.out.drew.at_ 4 rfl (fun T1 h1 => tailed (n := l.length) (h1 := h1) hw i0 hi0 hz1 hrun)).set 1 rfl 2 (.slice D l.length kd)
      exact pairAt.close (p := ({ p with a := { p.a with way := l } } : Pr)) (V := ⟨.slice D l.length kd, .slice A1 p.b.way.length c1, .slice A2 p.a.taken.length c2, .slice A3 p.b.taken.length c3, .slice A4 p.a.told.length c4, .slice A5 p.b.told.length c5, .slice A6 p.a.units.length c6, .slice A7 p.b.units.length c7, .slice A8 p.a.unit.length c8, .slice A9 p.b.unit.length c9⟩) hm ⟨HOK.out.cap, { HOK.out.a with way := by have := HLE.out; show l.length ≤ c; omega, frames := HFL.out }, HOK.out.b, HOK.out.errors, HOK.out.next⟩ rfl (by rw [hw]; simp [frs_cons, frCells]) rfl rfl rfl rfl rfl rfl rfl rfl rfl rfl rfl rfl rfl rfl rfl rfl rfl rfl⟩
    obtain ⟨b0, _⟩ := cellAt hbx 0 (.int .i64 0) rfl
    obtain ⟨b1, _⟩ := cellAt hbx 1 (.int .i64 t1) rfl
    obtain ⟨b2, _⟩ := cellAt hbx 2 (.bool x1) rfl
    obtain ⟨b3, _⟩ := cellAt hbx 3 (.int .i64 x2) rfl
    obtain ⟨b4, _⟩ := cellAt hbx 4 (.bool x3) rfl
    obtain ⟨b5, _⟩ := cellAt hbx 5 (.int .i64 x4) rfl
    obtain ⟨b6, _⟩ := cellAt hbx 6 (.int .i64 x5) rfl
    obtain ⟨b7, _⟩ := cellAt hbx 7 (.string x6) rfl
    have hl0 : ((l.length : Int) + 1 == 0) = false := by rw [beq_eq_false_iff_ne]; omega
    clear hr hg hr3 hown hob hi0 hz0 hz1 hz2 hbx HO1 hok hok2
    go_enter Tryz.func34, Tryz.ntmps34
    go_wp2_with fail
    generalize w.alloc (.cells #[.int .i64 0, .int .i64 t1, .bool x1, .int .i64 x2, .bool x3, .int .i64 x4, .int .i64 x5, .string x6] 144 (0, 0)) = w1 at *
    have hrun3 : ∀ w0 : World, (Instr.slice 31 (.slice (some ⟨ga, oa, none⟩) (l.length + 1) c0) (some (.int .i64 1)) none none).run Tryz.prog w0 = .ok (.slice D l.length kd) w0 := hrun
    clear hrun
    go_still_tail 12, (by kernel_rfl)
    change wpList _ _ _ _ _ (World.drew _)
    go_wp2
    go_ret
    refine ⟨rfl, ?_⟩
    have hE : comeP false p true = ({ p with a := { p.a with way := l } } : Pr) := by unfold comeP; rw [show (p.at false).way = _ from hw]; rfl
    rw [hE]
    exact growP HM.out (by omega) HC0.out
theorem come10C (I : PI) (c : Nat) (p : Pr) (hc : c + 1000 ≤ 100000000000) (T : Nat → Prop) (w0 w : World) (hN : LN T w0) (h : Went (pairAt I c p) T w0 w) :
    Calls Tryz.prog 34 #[.pointer (some ⟨I.g, 0, none⟩), .int .i64 1, .bool false] w fun r w' => r = .returned (.bool (decide (p.b.way ≠ []))) ∧ Went (pairAt I (c + 1000) (comeP true p false)) T w0 w' := by
  have HH := Aside0.mk h
  have HC0 := Aside0.mk hc
  obtain ⟨A0, c0, A1, c1, A2, c2, A3, c3, A4, c4, A5, c5, A6, c6, A7, c7, A8, c8, A9, c9, HO1, hok⟩ := pairAt.opened h
  clear h hc
  cases hw : p.b.way with
  | nil =>
    have HO := Aside0.mk HO1
    obtain ⟨cr, cf⟩ := cellAt (HO.out.heap 1 rfl) 3 (.slice A1 p.b.way.length c1) rfl
    rw [hw] at cr
    clear HO1 HO
    go_enter Tryz.func34, Tryz.ntmps34
    go_wp2
    go_ret
    refine ⟨rfl, ?_⟩
    rw [show comeP true p false = p from by unfold comeP; rw [show (p.at true).way = [] from hw]]
    exact growP HH.out (by omega) HC0.out
  | cons f l =>
    obtain ⟨_, hr⟩ := HO1.get 5 rfl
    have hok2 := hok
    have HOK := Aside0.mk hok
    have HF : Aside0 (FrOk f) := ⟨hok2.b.frames f (by rw [hw]; exact List.mem_cons_self ..)⟩
    have HFL : Aside0 (∀ g ∈ l, FrOk g) := ⟨fun g hg => hok2.b.frames g (by rw [hw]; exact List.mem_cons_of_mem _ hg)⟩
    have HLE : Aside0 (l.length + 1 ≤ c) := ⟨by have := hok2.b.way; rw [hw] at this; exact this⟩
    rw [hw] at hr
    obtain ⟨ga, oa, hA, hg⟩ := fr_head hr
    have HH2 : Aside0 (∀ w2, Below w.heap.size w w2 → True) := ⟨fun _ _ => trivial⟩
    obtain ⟨t1, x1, x2, x3, x4, x5, x6⟩ := f
    subst hA
    have e0 := hg 0 (.int .i64 0) rfl
    have e1 := hg 1 (.int .i64 t1) rfl
    have e2 := hg 2 (.bool x1) rfl
    have e3 := hg 3 (.int .i64 x2) rfl
    have e4 := hg 4 (.bool x3) rfl
    have e5 := hg 5 (.int .i64 x4) rfl
    have e6 := hg 6 (.int .i64 x5) rfl
    have e7 := hg 7 (.string x6) rfl
    have e00 : w.cell? ⟨ga, oa, none⟩ = some (.int .i64 0) := e0
    obtain ⟨cr, cf⟩ := cellAt (HO1.heap 1 rfl) 3 (.slice (some ⟨ga, oa, none⟩) p.b.way.length c1) rfl
    rw [hw] at cr
    have HOa := Aside0.mk (HO1.alloc (.cells #[.int .i64 0, .int .i64 t1, .bool x1, .int .i64 x2, .bool x3, .int .i64 x4, .int .i64 x5, .string x6] 144 (0, 0)))
    have hbx := heap_alloc_new w (.cells #[.int .i64 0, .int .i64 t1, .bool x1, .int .i64 x2, .bool x3, .int .i64 x4, .int .i64 x5, .string x6] 144 (0, 0))
    obtain ⟨i0, hi0, hz0, hz1, hz2⟩ := info_parts infoFr
    obtain ⟨T3, hr3⟩ := HOa.out.drew.get 5 rfl
    rw [hw] at hr3
    obtain ⟨v2, hrun, hown, hob⟩ := run_tails (P := Tryz.prog) ((w.alloc (.cells #[.int .i64 0, .int .i64 t1, .bool x1, .int .i64 x2, .bool x3, .int .i64 x4, .int .i64 x5, .string x6] 144 (0, 0))).drew) T3 31 144 i0 8 Tryz.underlying31 hi0 hz1 _ l.length _ hr3.2
    obtain ⟨cr2, cf2⟩ := cellAt (HOa.out.heap 1 rfl) 3 (.slice (some ⟨ga, oa, none⟩) p.b.way.length c1) rfl
    rw [hw] at cr2
    obtain ⟨D, kd, rfl, _, _⟩ := hown.shape
    have HM : Aside0 (Went (pairAt I c ({ p with b := { p.b with way := l } } : Pr)) T w0 (((w.alloc (.cells #[.int .i64 0, .int .i64 t1, .bool x1, .int .i64 x2, .bool x3, .int .i64 x4, .int .i64 x5, .string x6] 144 (0, 0))).setCell ⟨I.g, 3, none⟩ (.slice D l.length kd)).drew)) := ⟨by
      have hm := (HOa.out.drew.at_ 5 rfl (fun T1 h1 => tailed (n := l.length) (h1 := h1) hw i0 hi0 hz1 hrun)).set 1 rfl 3 (.slice D l.length kd)
      exact pairAt.close (p := ({ p with b := { p.b with way := l } } : Pr)) (V := ⟨.slice A0 p.a.way.length c0, .slice D l.length kd, .slice A2 p.a.taken.length c2, .slice A3 p.b.taken.length c3, .slice A4 p.a.told.length c4, .slice A5 p.b.told.length c5, .slice A6 p.a.units.length c6, .slice A7 p.b.units.length c7, .slice A8 p.a.unit.length c8, .slice A9 p.b.unit.length c9⟩) hm ⟨HOK.out.cap, HOK.out.a, { HOK.out.b with way := by have := HLE.out; show l.length ≤ c; omega, frames := HFL.out }, HOK.out.errors, HOK.out.next⟩ rfl rfl rfl (by rw [hw]; simp [frs_cons, frCells]) rfl rfl rfl rfl rfl rfl rfl rfl rfl rfl rfl rfl rfl rfl rfl rfl⟩
    obtain ⟨b0, _⟩ := cellAt hbx 0 (.int .i64 0) rfl
    obtain ⟨b1, _⟩ := cellAt hbx 1 (.int .i64 t1) rfl
    obtain ⟨b2, _⟩ := cellAt hbx 2 (.bool x1) rfl
    obtain ⟨b3, _⟩ := cellAt hbx 3 (.int .i64 x2) rfl
    obtain ⟨b4, _⟩ := cellAt hbx 4 (.bool x3) rfl
    obtain ⟨b5, _⟩ := cellAt hbx 5 (.int .i64 x4) rfl
    obtain ⟨b6, _⟩ := cellAt hbx 6 (.int .i64 x5) rfl
    obtain ⟨b7, _⟩ := cellAt hbx 7 (.string x6) rfl
    have hlt := (Array.getElem?_eq_some_iff.1 (HO1.heap 1 rfl)).1
    have HBX : Aside0 ((((w.alloc (.cells #[.int .i64 0, .int .i64 t1, .bool x1, .int .i64 x2, .bool x3, .int .i64 x4, .int .i64 x5, .string x6] 144 (0, 0))).setCell ⟨I.g, 3, none⟩ (.slice D l.length kd)).drew).heap[w.heap.size]? = some (.cells #[.int .i64 0, .int .i64 t1, .bool x1, .int .i64 x2, .bool x3, .int .i64 x4, .int .i64 x5, .string x6] 144 (0, 0))) := ⟨(Below.heap_setCell _ _ _ _ (by show ¬ w.heap.size = I.g; omega)).trans hbx⟩
    clear hlt
    have hl0 : ((l.length : Int) + 1 == 0) = false := by rw [beq_eq_false_iff_ne]; omega
    clear hr hg hr3 hown hob hi0 hz0 hz1 hz2 hbx HO1 hok hok2
    go_enter Tryz.func34, Tryz.ntmps34
    go_wp2_with fail
    generalize w.alloc (.cells #[.int .i64 0, .int .i64 t1, .bool x1, .int .i64 x2, .bool x3, .int .i64 x4, .int .i64 x5, .string x6] 144 (0, 0)) = w1 at *
    have hrun3 : ∀ w0 : World, (Instr.slice 31 (.slice (some ⟨ga, oa, none⟩) (l.length + 1) c1) (some (.int .i64 1)) none none).run Tryz.prog w0 = .ok (.slice D l.length kd) w0 := hrun
    clear hrun
    go_still_tail 12, (by kernel_rfl)
    change wpList _ _ _ _ _ (World.drew _)
    have hE : comeP true p false = become true ({ p with b := { p.b with way := l } } : Pr) (frame1 p.b.e (⟨t1, x1, x2, x3, x4, x5, x6⟩ : Fr)) := by unfold comeP; rw [show (p.at true).way = _ from hw]; rfl
    have HEE := Aside0.mk hE
    clear hE HOa HH2 HH
    go_wp2_with fail
    clear b0 b1 b2 b3 b4 b5 b6 b7 e0 e1 e2 e3 e4 e5 e6 e7 e00 cr cf cr2 cf2 hrun3
    generalize (w1.setCell ⟨I.g, 3, none⟩ (.slice D l.length kd)).drew = wz at HM HBX ⊢
    obtain ⟨q, HQ⟩ : ∃ q : Pr, Aside0 (({ p with b := { p.b with way := l } } : Pr) = q) := ⟨_, ⟨rfl⟩⟩
    have hqe : p.b.e = q.b.e := by rw [← HQ.out]
    have HM2 := HM.out
    rw [HQ.out] at HM2
    have HEE2 := HEE.out
    rw [HQ.out, hqe] at HEE2
    have HE := Aside0.mk HEE2
    clear HEE HEE2 HM hqe
    obtain ⟨D0, d0, D1, d1, D2, d2, D3, d3, D4, d4, D5, d5, D6, d6, D7, d7, D8, d8, D9, d9, HO1, hok⟩ := pairAt.opened HM2.drew
    have HO := Aside0.mk HO1
    have HOK0 := Aside0.mk hok
    obtain ⟨_, he⟩ := HO1.get 3 rfl
    obtain ⟨hgo, _⟩ := go_of he hok.b.out
    have hg := go_frame1 hgo (⟨t1, x1, x2, x3, x4, x5, x6⟩ : Fr)
    obtain ⟨e2, HE2⟩ : ∃ e2, Aside0 (frame1 q.b.e (⟨t1, x1, x2, x3, x4, x5, x6⟩ : Fr) = e2) := ⟨_, ⟨rfl⟩⟩
    have HG : Aside0 (GO 800 e2) := ⟨by rw [← HE2.out]; exact hg.mono (by omega)⟩
    have HZ : Aside0 (q.b.e.out.length ≤ 6900) := ⟨by rw [hok.b.out]; exact Nat.zero_le _⟩
    have HNz : Aside0 (LaidN wz.drew) := ⟨hN.at_ HM2.drew.keeps⟩
    obtain ⟨cp, cpf⟩ := cellAt (HO.out.heap 1 rfl) 1 (.pointer (some ⟨I.b1, 0, none⟩)) rfl
    obtain ⟨b0, _⟩ := cellAt HBX.out 0 (.int .i64 0) rfl
    obtain ⟨b1, _⟩ := cellAt HBX.out 1 (.int .i64 t1) rfl
    obtain ⟨b2, _⟩ := cellAt HBX.out 2 (.bool x1) rfl
    obtain ⟨b3, _⟩ := cellAt HBX.out 3 (.int .i64 x2) rfl
    obtain ⟨b4, _⟩ := cellAt HBX.out 4 (.bool x3) rfl
    obtain ⟨b5, _⟩ := cellAt HBX.out 5 (.int .i64 x4) rfl
    obtain ⟨b6, _⟩ := cellAt HBX.out 6 (.int .i64 x5) rfl
    obtain ⟨b7, _⟩ := cellAt HBX.out 7 (.string x6) rfl
    have HCL := HO.out.call_ex 3 rfl (fun T1 h1 => En.frameC I.b1 I.m1 I.f1 q.b.e (⟨t1, x1, x2, x3, x4, x5, x6⟩ : Fr) HF.out HZ.out T1 _ _ HNz.out (Went.refl h1))
    rw [HE2.out] at HCL
    have HCL3 := Aside0.mk HCL
    clear HCL HO1 hok he hgo hg HM2
    obtain ⟨q2, HQ2⟩ : ∃ q2 : Pr, Aside0 (({ q with b := { q.b with e := emptied e2 } } : Pr) = q2) := ⟨_, ⟨rfl⟩⟩
    obtain ⟨l2, HLL⟩ : ∃ l2, Aside0 (e2.out = l2) := ⟨_, ⟨rfl⟩⟩
    have HCL4 : Aside0 (Calls Tryz.prog 57 #[.pointer (some ⟨I.b1, 0, none⟩), .agg #[.int .i64 0, .int .i64 t1, .bool x1, .int .i64 x2, .bool x3, .int .i64 x4, .int .i64 x5, .string x6]] wz.drew fun r w2 => ∃ v, r = .returned v ∧ Went (all [orow v l2, pairAt I c q2]) T w0 w2) := ⟨HCL3.out.mono fun r w2 ⟨v, hr, hw2⟩ => ⟨v, hr, by
      have hq := taken1 hw2 HOK0.out rfl
      rw [HQ2.out, HLL.out] at hq
      exact hq⟩⟩
    clear HCL3 HO
    have HB : Aside0 (l2.length ≤ 800 ∧ ∀ x ∈ l2, x.kind = 0 → FrOk x.fr) := ⟨by rw [← HLL.out]; exact ⟨HG.out.len, HG.out.fr⟩⟩
    go_region_law (first | (go_simp; go_at_call 57; refine HCL4.out.mono ?_; rintro r w2 ⟨v, rfl, hw2⟩; have HP := Aside0.mk hw2; clear hw2) | (go_simp; go_at_call 52; refine (effects1C I c _ _ l2 (Nat.le_trans HB.out.1 (by decide)) (by have := HC0.out; have := HB.out.1; omega) HB.out.2 T w0 _ HP.out).mono ?_; rintro r w9 ⟨rfl, hw9⟩; have HW9 := Aside0.mk hw9; clear hw9 HP))
    all_goals
      go_wp2
      go_ret
      refine ⟨rfl, ?_⟩
      rw [HE.out, show become true q (frame1 q.b.e (⟨t1, x1, x2, x3, x4, x5, x6⟩ : Fr)) = effs true q2 l2 from by rw [← HQ2.out, ← HLL.out, ← HE2.out]; rfl]
      exact grow1 HW9.out (by have := HB.out.1; omega) HC0.out
theorem come11C (I : PI) (c : Nat) (p : Pr) (hc : c + 1000 ≤ 100000000000) (T : Nat → Prop) (w0 w : World) (hN : LN T w0) (h : Went (pairAt I c p) T w0 w) :
    Calls Tryz.prog 34 #[.pointer (some ⟨I.g, 0, none⟩), .int .i64 1, .bool true] w fun r w' => r = .returned (.bool (decide (p.b.way ≠ []))) ∧ Went (pairAt I (c + 1000) (comeP true p true)) T w0 w' := by
  have HH := Aside0.mk h
  have HC0 := Aside0.mk hc
  obtain ⟨A0, c0, A1, c1, A2, c2, A3, c3, A4, c4, A5, c5, A6, c6, A7, c7, A8, c8, A9, c9, HO1, hok⟩ := pairAt.opened h
  clear h hc
  cases hw : p.b.way with
  | nil =>
    have HO := Aside0.mk HO1
    obtain ⟨cr, cf⟩ := cellAt (HO.out.heap 1 rfl) 3 (.slice A1 p.b.way.length c1) rfl
    rw [hw] at cr
    clear HO1 HO
    go_enter Tryz.func34, Tryz.ntmps34
    go_wp2
    go_ret
    refine ⟨rfl, ?_⟩
    rw [show comeP true p true = p from by unfold comeP; rw [show (p.at true).way = [] from hw]]
    exact growP HH.out (by omega) HC0.out
  | cons f l =>
    obtain ⟨_, hr⟩ := HO1.get 5 rfl
    have hok2 := hok
    have HOK := Aside0.mk hok
    have HF : Aside0 (FrOk f) := ⟨hok2.b.frames f (by rw [hw]; exact List.mem_cons_self ..)⟩
    have HFL : Aside0 (∀ g ∈ l, FrOk g) := ⟨fun g hg => hok2.b.frames g (by rw [hw]; exact List.mem_cons_of_mem _ hg)⟩
    have HLE : Aside0 (l.length + 1 ≤ c) := ⟨by have := hok2.b.way; rw [hw] at this; exact this⟩
    rw [hw] at hr
    obtain ⟨ga, oa, hA, hg⟩ := fr_head hr
    have HH2 : Aside0 (∀ w2, Below w.heap.size w w2 → True) := ⟨fun _ _ => trivial⟩
    obtain ⟨t1, x1, x2, x3, x4, x5, x6⟩ := f
    subst hA
    have e0 := hg 0 (.int .i64 0) rfl
    have e1 := hg 1 (.int .i64 t1) rfl
    have e2 := hg 2 (.bool x1) rfl
    have e3 := hg 3 (.int .i64 x2) rfl
    have e4 := hg 4 (.bool x3) rfl
    have e5 := hg 5 (.int .i64 x4) rfl
    have e6 := hg 6 (.int .i64 x5) rfl
    have e7 := hg 7 (.string x6) rfl
    have e00 : w.cell? ⟨ga, oa, none⟩ = some (.int .i64 0) := e0
    obtain ⟨cr, cf⟩ := cellAt (HO1.heap 1 rfl) 3 (.slice (some ⟨ga, oa, none⟩) p.b.way.length c1) rfl
    rw [hw] at cr
    have HOa := Aside0.mk (HO1.alloc (.cells #[.int .i64 0, .int .i64 t1, .bool x1, .int .i64 x2, .bool x3, .int .i64 x4, .int .i64 x5, .string x6] 144 (0, 0)))
    have hbx := heap_alloc_new w (.cells #[.int .i64 0, .int .i64 t1, .bool x1, .int .i64 x2, .bool x3, .int .i64 x4, .int .i64 x5, .string x6] 144 (0, 0))
    obtain ⟨i0, hi0, hz0, hz1, hz2⟩ := info_parts infoFr
    obtain ⟨T3, hr3⟩ := HOa.out.drew.get 5 rfl
    rw [hw] at hr3
    obtain ⟨v2, hrun, hown, hob⟩ := run_tails (P := Tryz.prog) ((w.alloc (.cells #[.int .i64 0, .int .i64 t1, .bool x1, .int .i64 x2, .bool x3, .int .i64 x4, .int .i64 x5, .string x6] 144 (0, 0))).drew) T3 31 144 i0 8 Tryz.underlying31 hi0 hz1 _ l.length _ hr3.2
    obtain ⟨cr2, cf2⟩ := cellAt (HOa.out.heap 1 rfl) 3 (.slice (some ⟨ga, oa, none⟩) p.b.way.length c1) rfl
    rw [hw] at cr2
    obtain ⟨D, kd, rfl, _, _⟩ := hown.shape
    have HM : Aside0 (Went (pairAt I c ({ p with b := { p.b with way := l } } : Pr)) T w0 (((w.alloc (.cells #[.int .i64 0, .int .i64 t1, .bool x1, .int .i64 x2, .bool x3, .int .i64 x4, .int .i64 x5, .string x6] 144 (0, 0))).setCell ⟨I.g, 3, none⟩ (.slice D l.length kd)).drew)) := ⟨by
      have hm := (HOa.out.drew.at_ 5 rfl (fun T1 h1 => tailed (n := l.length) (h1 := h1) hw i0 hi0 hz1 hrun)).set 1 rfl 3 (.slice D l.length kd)
      exact pairAt.close (p := ({ p with b := { p.b with way := l } } : Pr)) (V := ⟨.slice A0 p.a.way.length c0, .slice D l.length kd, .slice A2 p.a.taken.length c2, .slice A3 p.b.taken.length c3, .slice A4 p.a.told.length c4, .slice A5 p.b.told.length c5, .slice A6 p.a.units.length c6, .slice A7 p.b.units.length c7, .slice A8 p.a.unit.length c8, .slice A9 p.b.unit.length c9⟩) hm ⟨HOK.out.cap, HOK.out.a, { HOK.out.b with way := by have := HLE.out; show l.length ≤ c; omega, frames := HFL.out }, HOK.out.errors, HOK.out.next⟩ rfl rfl rfl (by rw [hw]; simp [frs_cons, frCells]) rfl rfl rfl rfl rfl rfl rfl rfl rfl rfl rfl rfl rfl rfl rfl rfl⟩
    obtain ⟨b0, _⟩ := cellAt hbx 0 (.int .i64 0) rfl
    obtain ⟨b1, _⟩ := cellAt hbx 1 (.int .i64 t1) rfl
    obtain ⟨b2, _⟩ := cellAt hbx 2 (.bool x1) rfl
    obtain ⟨b3, _⟩ := cellAt hbx 3 (.int .i64 x2) rfl
    obtain ⟨b4, _⟩ := cellAt hbx 4 (.bool x3) rfl
    obtain ⟨b5, _⟩ := cellAt hbx 5 (.int .i64 x4) rfl
    obtain ⟨b6, _⟩ := cellAt hbx 6 (.int .i64 x5) rfl
    obtain ⟨b7, _⟩ := cellAt hbx 7 (.string x6) rfl
    have hl0 : ((l.length : Int) + 1 == 0) = false := by rw [beq_eq_false_iff_ne]; omega
    clear hr hg hr3 hown hob hi0 hz0 hz1 hz2 hbx HO1 hok hok2
    go_enter Tryz.func34, Tryz.ntmps34
    go_wp2_with fail
    generalize w.alloc (.cells #[.int .i64 0, .int .i64 t1, .bool x1, .int .i64 x2, .bool x3, .int .i64 x4, .int .i64 x5, .string x6] 144 (0, 0)) = w1 at *
    have hrun3 : ∀ w0 : World, (Instr.slice 31 (.slice (some ⟨ga, oa, none⟩) (l.length + 1) c1) (some (.int .i64 1)) none none).run Tryz.prog w0 = .ok (.slice D l.length kd) w0 := hrun
    clear hrun
    go_still_tail 12, (by kernel_rfl)
    change wpList _ _ _ _ _ (World.drew _)
    go_wp2
    go_ret
    refine ⟨rfl, ?_⟩
    have hE : comeP true p true = ({ p with b := { p.b with way := l } } : Pr) := by unfold comeP; rw [show (p.at true).way = _ from hw]; rfl
    rw [hE]
    exact growP HM.out (by omega) HC0.out
end Go.Proofs.YtljnfbpplhnmfaaGreatDoor.Pa
namespace Go.Proofs.YtljnfbpplhnmfaaGreatDoor.Pa
open Go Go.RowKit Go.Proofs.YtljnfbpplhnmfaaGreatDoorW.PrintWords Go.Proofs.YtljnfbpplhnmfaaGreatDoorW.PrintLast Go.Proofs.YtljnfbpplhnmfaaGreatDoorW.PrintMore Go.Proofs.YtljnfbpplhnmfaaGreatDoor.Str Go.Proofs.YtljnfbpplhnmfaaGreatDoor.Mp Go.Proofs.YtljnfbpplhnmfaaGreatDoor.Ra Go.Proofs.YtljnfbpplhnmfaaGreatDoor.Sl Go.Proofs.YtljnfbpplhnmfaaGreatDoor.Qu Go.Proofs.YtljnfbpplhnmfaaGreatDoor.Ru Go.Proofs.YtljnfbpplhnmfaaGreatDoor.Md
set_option linter.unusedVariables false
set_option linter.unusedSimpArgs false
set_option maxRecDepth 1000000
set_option maxHeartbeats 8000000
theorem drainN_quiet {q : Pr} (h : quiet q) (n : Nat) : drainN n q = q := by
  cases n with
  | zero => rfl
  | succ n => exact if_pos h
theorem drainN_more {q : Pr} (h : ¬ quiet q) (n : Nat) : drainN (n + 1) q = drainN n (comeP true (comeP false q false) false) := if_neg h
theorem come_none {q : Pr} (h : q.a.way = []) : comeP false q false = q := by unfold comeP; rw [show (q.at false).way = [] from h]
theorem come_none1 {q : Pr} (h : q.b.way = []) : comeP true q false = q := by unfold comeP; rw [show (q.at true).way = [] from h]
theorem drainC (I : PI) (c : Nat) (p : Pr) (hc : c + 10000000 ≤ 100000000000) (T : Nat → Prop) (w0 w : World) (hN : LN T w0) (h : Went (pairAt I c p) T w0 w) :
    Calls Tryz.prog 14 #[.pointer (some ⟨I.g, 0, none⟩)] w fun r w' => r = .returned (.tuple #[]) ∧ Went (pairAt I (c + 10000000) (Md.drain p)) T w0 w' := by
  have HC0 := Aside0.mk hc
  have HNN := Aside0.mk hN
  obtain ⟨d, HD⟩ : ∃ d, Aside0 (Md.drain p = d) := ⟨_, ⟨rfl⟩⟩
  have HP : Aside0 (drainN (5000 - 0) p = d ∧ Went (pairAt I (c + 2000 * 0) p) T w0 w) := ⟨HD.out, h⟩
  rw [HD.out]
  clear h hc hN HD
  go_enter Tryz.func14, Tryz.ntmps14
  go_wp2_with fail
  go_loopw [4] (fun x wr => ∃ k : Nat, k ≤ 5000 ∧ x = .int .i64 k ∧ ∃ q : Pr, Aside0 (drainN (5000 - k) q = d ∧ Went (pairAt I (c + 2000 * k) q) T w0 wr)) (fun x _ => 5000 - (intOf x).toNat)
  case atStart => exact ⟨0, Nat.zero_le _, rfl, p, HP⟩
  case round =>
    clear HP
    obtain ⟨k, hk, rfl, q, HP⟩ := hrel
    by_cases hlt : k < 5000
    · have hk2 : (k : Int) < 5000 := by omega
      have H0 : Aside0 (c + 2000 * k + 1000 ≤ 100000000000 ∧ c + 2000 * k + 1000 + 1000 ≤ 100000000000 ∧ c + 2000 * k + 1000 + 1000 = c + 2000 * (k + 1) ∧ c + 2000 * (k + 1) ≤ c + 10000000) := ⟨by have := HC0.out; omega⟩
      by_cases hz : quiet q
      · have hz' := hz
        obtain ⟨ha, hb⟩ := hz
        have HDQ : Aside0 (d = q) := ⟨by rw [← HP.out.1]; exact drainN_quiet hz' _⟩
        have e1 : comeP false q false = q := come_none ha
        have E2 : Aside0 (comeP true (comeP false q false) false = q) := ⟨by rw [e1]; exact come_none1 hb⟩
        have HA : Aside0 (Calls Tryz.prog 34 #[.pointer (some ⟨I.g, 0, none⟩), .int .i64 0, .bool false] wr fun r w' => r = .returned (.bool false) ∧ Went (pairAt I (c + 2000 * k + 1000) (comeP false q false)) T w0 w') := ⟨by
          have h3 := come00C I (c + 2000 * k) q H0.out.1 T w0 _ HNN.out HP.out.2
          rw [show decide (q.a.way ≠ []) = false from decide_eq_false (fun h => h ha)] at h3
          exact h3⟩
        have HB : Aside0 (∃ z : Bool, z = false ∧ ∀ w1, Went (pairAt I (c + 2000 * k + 1000) (comeP false q false)) T w0 w1 → Calls Tryz.prog 34 #[.pointer (some ⟨I.g, 0, none⟩), .int .i64 1, .bool false] w1 fun r w' => r = .returned (.bool z) ∧ Went (pairAt I (c + 2000 * k + 1000 + 1000) (comeP true (comeP false q false) false)) T w0 w') := ⟨decide ((comeP false q false).b.way ≠ []), decide_eq_false (fun h => h (by rw [e1]; exact hb)), fun w1 h1 => come10C I (c + 2000 * k + 1000) (comeP false q false) H0.out.2.1 T w0 _ HNN.out h1⟩
        obtain ⟨z, rfl, HZ⟩ := HB.out
        have HZ := Aside0.mk HZ
        clear HB
        clear ha hb e1 hz'
        go_wp2_with fail
        refine HA.out.mono ?_
        rintro r w1 ⟨rfl, hw1⟩
        have HP1 := Aside0.mk hw1
        clear hw1 HA
        go_wp2_with fail
        refine (HZ.out _ HP1.out).mono ?_
        rintro r w2 ⟨rfl, hw2⟩
        have HP2 := Aside0.mk hw2
        clear hw2 HZ
        have HF : Aside0 (Went (pairAt I (c + 10000000) d) T w0 w2) := ⟨by
          have h3 := HP2.out
          rw [E2.out, H0.out.2.2.1] at h3
          rw [HDQ.out]
          exact growP h3 H0.out.2.2.2 HC0.out⟩
        go_wp2
        refine bodyPost_ret (results_none rfl _ _ _) rfl ?_
        exact ⟨rfl, HF.out⟩
      · have HM : Aside0 (drainN (5000 - (k + 1)) (comeP true (comeP false q false) false) = d) := ⟨by
          rw [← HP.out.1, show 5000 - k = (5000 - (k + 1)) + 1 by omega]
          exact (drainN_more hz _).symm⟩
        by_cases ha : q.a.way = []
        · have e1 : comeP false q false = q := come_none ha
          have HA : Aside0 (Calls Tryz.prog 34 #[.pointer (some ⟨I.g, 0, none⟩), .int .i64 0, .bool false] wr fun r w' => r = .returned (.bool false) ∧ Went (pairAt I (c + 2000 * k + 1000) (comeP false q false)) T w0 w') := ⟨by
            have h3 := come00C I (c + 2000 * k) q H0.out.1 T w0 _ HNN.out HP.out.2
            rw [show decide (q.a.way ≠ []) = false from decide_eq_false (fun h => h ha)] at h3
            exact h3⟩
          have HB : Aside0 (∃ z : Bool, z = true ∧ ∀ w1, Went (pairAt I (c + 2000 * k + 1000) (comeP false q false)) T w0 w1 → Calls Tryz.prog 34 #[.pointer (some ⟨I.g, 0, none⟩), .int .i64 1, .bool false] w1 fun r w' => r = .returned (.bool z) ∧ Went (pairAt I (c + 2000 * k + 1000 + 1000) (comeP true (comeP false q false) false)) T w0 w') := ⟨decide ((comeP false q false).b.way ≠ []), decide_eq_true (fun h => hz ⟨ha, by rw [e1] at h; exact h⟩), fun w1 h1 => come10C I (c + 2000 * k + 1000) (comeP false q false) H0.out.2.1 T w0 _ HNN.out h1⟩
          obtain ⟨z, rfl, HZ⟩ := HB.out
          have HZ := Aside0.mk HZ
          clear HB
          clear ha e1 hz
          go_wp2_with fail
          refine HA.out.mono ?_
          rintro r w1 ⟨rfl, hw1⟩
          have HP1 := Aside0.mk hw1
          clear hw1 HA
          go_wp2_with fail
          refine (HZ.out _ HP1.out).mono ?_
          rintro r w2 ⟨rfl, hw2⟩
          have HP2 := Aside0.mk hw2
          clear hw2 HZ
          go_wp2_with fail
          exact ⟨⟨k + 1, by omega, by go_num, _, ⟨HM.out, by rw [← H0.out.2.2.1]; exact HP2.out⟩⟩, by simp [intOf]; omega⟩
        · have ha' := ha
          have HA : Aside0 (Calls Tryz.prog 34 #[.pointer (some ⟨I.g, 0, none⟩), .int .i64 0, .bool false] wr fun r w' => r = .returned (.bool true) ∧ Went (pairAt I (c + 2000 * k + 1000) (comeP false q false)) T w0 w') := ⟨by
            have h3 := come00C I (c + 2000 * k) q H0.out.1 T w0 _ HNN.out HP.out.2
            rw [show decide (q.a.way ≠ []) = true from decide_eq_true ha] at h3
            exact h3⟩
          have HB : Aside0 (∃ z : Bool,  ∀ w1, Went (pairAt I (c + 2000 * k + 1000) (comeP false q false)) T w0 w1 → Calls Tryz.prog 34 #[.pointer (some ⟨I.g, 0, none⟩), .int .i64 1, .bool false] w1 fun r w' => r = .returned (.bool z) ∧ Went (pairAt I (c + 2000 * k + 1000 + 1000) (comeP true (comeP false q false) false)) T w0 w') := ⟨decide ((comeP false q false).b.way ≠ []),  fun w1 h1 => come10C I (c + 2000 * k + 1000) (comeP false q false) H0.out.2.1 T w0 _ HNN.out h1⟩
          obtain ⟨z,  HZ⟩ := HB.out
          have HZ := Aside0.mk HZ
          clear HB
          clear ha ha' hz
          go_wp2_with fail
          refine HA.out.mono ?_
          rintro r w1 ⟨rfl, hw1⟩
          have HP1 := Aside0.mk hw1
          clear hw1 HA
          go_wp2_with fail
          refine (HZ.out _ HP1.out).mono ?_
          rintro r w2 ⟨rfl, hw2⟩
          have HP2 := Aside0.mk hw2
          clear hw2 HZ
          go_wp2_with fail
          exact ⟨⟨k + 1, by omega, by go_num, _, ⟨HM.out, by rw [← H0.out.2.2.1]; exact HP2.out⟩⟩, by simp [intOf]; omega⟩
    · have hk2 : ¬ (k : Int) < 5000 := by omega
      obtain rfl : k = 5000 := by omega
      have HF : Aside0 (Went (pairAt I (c + 10000000) d) T w0 wr) := ⟨by
        rw [← HP.out.1]
        exact HP.out.2⟩
      go_wp2
      go_end0
      exact ⟨rfl, HF.out⟩
end Go.Proofs.YtljnfbpplhnmfaaGreatDoor.Pa
