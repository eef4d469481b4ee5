/- Both ends of a link, in memory: effects. Conditions: sizes. -/
import Derived.Test.YtljnfbpplhnmfaaGreatDoorUs15
namespace Go.Proofs.YtljnfbpplhnmfaaGreatDoor.Pa
open Go Go.RowKit Go.Proofs.YtljnfbpplhnmfaaGreatDoorW.PrintWords Go.Proofs.YtljnfbpplhnmfaaGreatDoorW.PrintLast Go.Proofs.YtljnfbpplhnmfaaGreatDoorW.PrintMore Go.Proofs.YtljnfbpplhnmfaaGreatDoor.Str Go.Proofs.YtljnfbpplhnmfaaGreatDoor.Mp Go.Proofs.YtljnfbpplhnmfaaGreatDoor.Ra Go.Proofs.YtljnfbpplhnmfaaGreatDoor.Sl Go.Proofs.YtljnfbpplhnmfaaGreatDoor.Qu Go.Proofs.YtljnfbpplhnmfaaGreatDoor.Ru Go.Proofs.YtljnfbpplhnmfaaGreatDoor.Md
open Go.Proofs.YtljnfbpplhnmfaaGreatDoor.En (frCells efCells efs efs_app efs_one orow entAt)
set_option linter.unusedVariables false
set_option linter.unusedSimpArgs false
set_option maxRecDepth 1000000
set_option maxHeartbeats 60000000
theorem effects1C (I : PI) (c : Nat) (p : Pr) (v : Value) (l : List Ef) (hl : l.length ≤ 9000) (hc : c + l.length ≤ 100000000000) (hfr : ∀ x ∈ l, x.kind = 0 → FrOk x.fr) (T : Nat → Prop) (w0 w : World) (h : Went (all [orow v l, pairAt I c p]) T w0 w) :
    Calls Tryz.prog 52 #[.pointer (some ⟨I.g, 0, none⟩), .int .i64 1, v] w fun r w' => r = .returned (.tuple #[]) ∧ Went (all [orow v l, pairAt I (c + l.length) (effs true p l)]) T w0 w' := by
  obtain ⟨_, _, hr⟩ := h.get 0 rfl
  obtain ⟨A, ca, rfl, hca, hcm⟩ := hr.shape
  clear hr
  have HP : Aside0 (Went (all [orow (.slice A l.length ca) l, pairAt I (c + 0) (effs true p (l.take 0))]) T w0 w) := ⟨h⟩
  clear h
  have HC := Aside0.mk hc
  have HFR := Aside0.mk hfr
  clear hc hfr
  go_enter Tryz.func52, Tryz.ntmps52
  go_wp2_with fail
  go_loopw [10] (fun x wr => ∃ k : Nat, k ≤ l.length ∧ x = .int .i64 k ∧ Aside0 (Went (all [orow (.slice A l.length ca) l, pairAt I (c + k) (effs true p (l.take k))]) T w0 wr)) (fun x _ => l.length - (intOf x).toNat)
  case atStart => exact ⟨0, Nat.zero_le _, rfl, HP⟩
  case round =>
    clear HP
    obtain ⟨k, hk, rfl, HP⟩ := hrel
    by_cases hlt : k < l.length
    · obtain ⟨x, hx⟩ : ∃ x, l[k]? = some x := ⟨_, List.getElem?_eq_getElem hlt⟩
      have HX : Aside0 (effs true p (l.take (k + 1)) = eff true (effs true p (l.take k)) x) := ⟨effs_take _ p l k x hx⟩
      have HXK : Aside0 (x.kind = 0 → FrOk x.fr) := ⟨HFR.out x (List.mem_of_getElem? hx)⟩
      have HCK : Aside0 (c + k + 1 ≤ 100000000000) := ⟨by have := HC.out; omega⟩
      generalize effs true p (l.take k) = q at HX HP
      obtain ⟨T0, h0⟩ := HP.out.get 0 rfl
      obtain ⟨ga, oa, hA, hg⟩ := ef_row h0 k x hx
      obtain ⟨x0, ⟨t1, x1, x2, x3, x4, x5, x6⟩, x7, x8⟩ := x
      subst hA
      have e0 := hg 0 (.int .i64 x0) rfl
      have e1 := hg 1 (.int .i64 0) rfl
      have e2 := hg 2 (.int .i64 t1) rfl
      have e3 := hg 3 (.bool x1) rfl
      have e4 := hg 4 (.int .i64 x2) rfl
      have e5 := hg 5 (.bool x3) rfl
      have e6 := hg 6 (.int .i64 x4) rfl
      have e7 := hg 7 (.int .i64 x5) rfl
      have e8 := hg 8 (.string x6) rfl
      have e9 := hg 9 (.string x7) rfl
      have e10 := hg 10 (.int .i64 x8) rfl
      have e00 : wr.cell? ⟨ga, oa + k * 11, none⟩ = some (.int .i64 x0) := e0
      clear hg h0 hx
      have hk2 : (k : Int) < l.length := by omega
      have hbx := heap_alloc_new wr (.cells #[.int .i64 x0, .int .i64 0, .int .i64 t1, .bool x1, .int .i64 x2, .bool x3, .int .i64 x4, .int .i64 x5, .string x6, .string x7, .int .i64 x8] 180 (0, 0))
      obtain ⟨A0, c0, A1, c1, A2, c2, A3, c3, A4, c4, A5, c5, A6, c6, A7, c7, A8, c8, A9, c9, HO, hok⟩ := pairAt.opened2 (HP.out.alloc (.cells #[.int .i64 x0, .int .i64 0, .int .i64 t1, .bool x1, .int .i64 x2, .bool x3, .int .i64 x4, .int .i64 x5, .string x6, .string x7, .int .i64 x8] 180 (0, 0)))
      have HL := Aside0.mk HO
      have HOK := Aside0.mk hok
      clear HO hok HP
      obtain ⟨b0, _⟩ := cellAt hbx 0 (.int .i64 x0) rfl
      obtain ⟨b1, _⟩ := cellAt hbx 1 (.int .i64 0) rfl
      obtain ⟨b2, _⟩ := cellAt hbx 2 (.int .i64 t1) rfl
      obtain ⟨b3, _⟩ := cellAt hbx 3 (.bool x1) rfl
      obtain ⟨b4, _⟩ := cellAt hbx 4 (.int .i64 x2) rfl
      obtain ⟨b5, _⟩ := cellAt hbx 5 (.bool x3) rfl
      obtain ⟨b6, _⟩ := cellAt hbx 6 (.int .i64 x4) rfl
      obtain ⟨b7, _⟩ := cellAt hbx 7 (.int .i64 x5) rfl
      obtain ⟨b8, _⟩ := cellAt hbx 8 (.string x6) rfl
      obtain ⟨b9, _⟩ := cellAt hbx 9 (.string x7) rfl
      obtain ⟨b10, _⟩ := cellAt hbx 10 (.int .i64 x8) rfl
      clear hbx
      rcases (show x0 = 0 ∨ x0 = 5 ∨ x0 = 6 ∨ x0 = 7 ∨ x0 = 1 ∨ x0 = 2 ∨ x0 = 3 ∨ x0 = 4 ∨ (x0 ≠ 0 ∧ x0 ≠ 5 ∧ x0 ≠ 6 ∧ x0 ≠ 7 ∧ x0 ≠ 1 ∧ x0 ≠ 2 ∧ x0 ≠ 3 ∧ x0 ≠ 4) by omega) with rfl | rfl | rfl | rfl | rfl | rfl | rfl | rfl | ⟨n0, n5, n6, n7, n1, n2, n3, n4⟩
      · have HE : Aside0 (eff true q ⟨0, ⟨t1, x1, x2, x3, x4, x5, x6⟩, x7, x8⟩ = ({ q with a := { q.a with way := q.a.way ++ [⟨t1, x1, x2, x3, x4, x5, x6⟩] } } : Pr)) := ⟨by simp [eff, Pr.upd]⟩
        have HXF : Aside0 (FrOk ⟨t1, x1, x2, x3, x4, x5, x6⟩) := ⟨HXK.out rfl⟩
        go_wp2_with fail
        generalize wr.alloc (.cells #[.int .i64 0, .int .i64 0, .int .i64 t1, .bool x1, .int .i64 x2, .bool x3, .int .i64 x4, .int .i64 x5, .string x6, .string x7, .int .i64 x8] 180 (0, 0)) = wz at *
        obtain ⟨cr, fr⟩ := cellAt (HL.out.heap 2 rfl) 2 (.slice A0 q.a.way.length c0) rfl
        have HL2 := Aside0.mk (HL.out.new (.cells #[.int .i64 0, .int .i64 t1, .bool x1, .int .i64 x2, .bool x3, .int .i64 x4, .int .i64 x5, .string x6] 144 (0, 0)))
        obtain ⟨cr2, fr2⟩ := cellAt (HL2.out.heap 3 rfl) 2 (.slice A0 q.a.way.length c0) rfl
        have hn2 := HL2.out.heap 0 rfl
        obtain ⟨i0, hi0, hz0, hz1, hz2⟩ := info_parts infoFr
        obtain ⟨T3, hr⟩ := HL2.out.drew.get 6 rfl
        have HR := Aside0.mk hr.2
        have HI0 := Aside0.mk hi0
        have HZ0 := Aside0.mk hz0
        have HZ1 := Aside0.mk hz1
        have HZ2 := Aside0.mk hz2
        have hlen : q.a.way.length ≤ 100000000000 := Nat.le_trans HOK.out.a.way HOK.out.cap
        have HNW : Aside0 (∀ (j : Nat) (u : Value), ([.int .i64 0, .int .i64 t1, .bool x1, .int .i64 x2, .bool x3, .int .i64 x4, .int .i64 x5, .string x6] : List Value)[j]? = some u → (wz.alloc (.cells #[.int .i64 0, .int .i64 t1, .bool x1, .int .i64 x2, .bool x3, .int .i64 x4, .int .i64 x5, .string x6] 144 (0, 0))).cell? ((⟨wz.heap.size, 0, none⟩ : Addr).add j) = some u) := ⟨fun j u hu => by
          rw [add_plain, Lib.cell_of_heap hn2, ← hu]
          simp⟩
        clear hn2 hi0 hz0 hz1 hz2 hr
        have hw1 : IntKind.i64.wrap 1 = 1 := by decide
        have hw0 : IntKind.i64.wrap 0 = 0 := by decide
        go_region_law (refine step_append_at _ rfl _ _ 31 rfl T3 144 i0 (.agg (frCells Fr.zero)) 8 72 Tryz.underlying31 HI0.out HZ0.out HZ1.out HZ2.out rfl (by decide) _ _ _ rfl HR.out ⟨wz.heap.size, 0, none⟩ 1 1 [.int .i64 0, .int .i64 t1, .bool x1, .int .i64 x2, .bool x3, .int .i64 x4, .int .i64 x5, .string x6] rfl rfl HNW.out (by intro u hu; simp at hu; rcases hu with rfl | rfl | rfl | rfl | rfl | rfl | rfl | rfl <;> rfl) (by decide) (by unfold maxLen; omega) (by omega) ?_; intro v' w2 hown2 hg2 hloc; obtain ⟨B2, k2, rfl, _, _⟩ := hown2.shape; have hw3 := Aside0.mk (HL2.out.drew.at_ 6 rfl (fun T1 h1 => row_grown (n := q.a.way.length) (v := .slice A0 q.a.way.length c0) h1 hown2 hg2 hloc)); clear hown2 hg2 hloc HL2 HNW HR HI0 HZ0 HZ1 HZ2 cr cr2 fr fr2; obtain ⟨cr, fr⟩ := cellAt (hw3.out.heap 3 rfl) 2 (.slice A0 q.a.way.length c0) rfl)
        all_goals
          have HP2 : Aside0 (Went (all [orow (.slice (some ⟨ga, oa, none⟩) l.length ca) l, pairAt I (c + k + 1) ({ q with a := { q.a with way := q.a.way ++ [⟨t1, x1, x2, x3, x4, x5, x6⟩] } } : Pr)]) T w0 (w2.setCell ⟨I.g, 2, none⟩ (.slice B2 (q.a.way.length + 1) k2))) := ⟨pairAt.close2 (p := ({ q with a := { q.a with way := q.a.way ++ [⟨t1, x1, x2, x3, x4, x5, x6⟩] } } : Pr)) (V := ⟨.slice B2 (q.a.way.length + 1) k2, .slice A1 q.b.way.length c1, .slice A2 q.a.taken.length c2, .slice A3 q.b.taken.length c3, .slice A4 q.a.told.length c4, .slice A5 q.b.told.length c5, .slice A6 q.a.units.length c6, .slice A7 q.b.units.length c7, .slice A8 q.a.unit.length c8, .slice A9 q.b.unit.length c9⟩) (hw3.out.set 3 rfl 2 (.slice B2 (q.a.way.length + 1) k2)).drop ⟨HCK.out, HOK.out.a.effTo HXF.out, HOK.out.b.mono (Nat.le_succ _), ⟨HOK.out.errors.1, by have := HOK.out.errors; show q.errors ≤ ((c + k + 1 : Nat) : Int); omega⟩, ⟨HOK.out.next.1, by have := HOK.out.next; show q.next ≤ ((c + k + 1 : Nat) : Int); omega⟩⟩ (by simp) (by simp [frs_app, frs_one, frCells]) rfl rfl rfl rfl rfl rfl rfl rfl rfl rfl rfl rfl rfl rfl rfl rfl rfl rfl⟩
          go_wp2_with fail
          exact ⟨⟨k + 1, by omega, by go_num, ⟨by rw [HX.out, HE.out, ← Nat.add_assoc]; exact HP2.out⟩⟩, by simp [intOf]; omega⟩
      · have HE : Aside0 (eff true q ⟨5, ⟨t1, x1, x2, x3, x4, x5, x6⟩, x7, x8⟩ = ({ q with b := { q.b with told := q.b.told ++ [x7] } } : Pr)) := ⟨by simp [eff, Pr.upd]⟩
        go_wp2_with fail
        generalize wr.alloc (.cells #[.int .i64 5, .int .i64 0, .int .i64 t1, .bool x1, .int .i64 x2, .bool x3, .int .i64 x4, .int .i64 x5, .string x6, .string x7, .int .i64 x8] 180 (0, 0)) = wz at *
        obtain ⟨cr, fr⟩ := cellAt (HL.out.heap 2 rfl) 7 (.slice A5 q.b.told.length c5) rfl
        have HL2 := Aside0.mk (HL.out.new (.cells #[.string x7] 9 (0, 0)))
        obtain ⟨cr2, fr2⟩ := cellAt (HL2.out.heap 3 rfl) 7 (.slice A5 q.b.told.length c5) rfl
        have hn2 := HL2.out.heap 0 rfl
        obtain ⟨i0, hi0, hz0, hz1, hz2⟩ := info_parts infoStr
        obtain ⟨T3, hr⟩ := HL2.out.drew.get 11 rfl
        have HR := Aside0.mk hr.2
        have HI0 := Aside0.mk hi0
        have HZ0 := Aside0.mk hz0
        have HZ1 := Aside0.mk hz1
        have HZ2 := Aside0.mk hz2
        have hlen : q.b.told.length ≤ 100000000000 := Nat.le_trans HOK.out.b.told HOK.out.cap
        have HNW : Aside0 (∀ (j : Nat) (u : Value), ([.string x7] : List Value)[j]? = some u → (wz.alloc (.cells #[.string x7] 9 (0, 0))).cell? ((⟨wz.heap.size, 0, none⟩ : Addr).add j) = some u) := ⟨fun j u hu => by
          rw [add_plain, Lib.cell_of_heap hn2, ← hu]
          simp⟩
        clear hn2 hi0 hz0 hz1 hz2 hr
        have hw1 : IntKind.i64.wrap 1 = 1 := by decide
        have hw0 : IntKind.i64.wrap 0 = 0 := by decide
        go_region_law (refine step_append_at _ rfl _ _ 30 rfl T3 9 i0 (.string ByteArray.empty) 1 16 Tryz.underlying30 HI0.out HZ0.out HZ1.out HZ2.out rfl (by decide) _ _ _ rfl HR.out ⟨wz.heap.size, 0, none⟩ 1 1 [.string x7] rfl rfl HNW.out (by intro u hu; simp at hu; subst hu; rfl) (by decide) (by unfold maxLen; omega) (by omega) ?_; intro v' w2 hown2 hg2 hloc; obtain ⟨B2, k2, rfl, _, _⟩ := hown2.shape; have hw3 := Aside0.mk (HL2.out.drew.at_ 11 rfl (fun T1 h1 => row_grown (n := q.b.told.length) (v := .slice A5 q.b.told.length c5) h1 hown2 hg2 hloc)); clear hown2 hg2 hloc HL2 HNW HR HI0 HZ0 HZ1 HZ2 cr cr2 fr fr2; obtain ⟨cr, fr⟩ := cellAt (hw3.out.heap 3 rfl) 7 (.slice A5 q.b.told.length c5) rfl)
        all_goals
          have HP2 : Aside0 (Went (all [orow (.slice (some ⟨ga, oa, none⟩) l.length ca) l, pairAt I (c + k + 1) ({ q with b := { q.b with told := q.b.told ++ [x7] } } : Pr)]) T w0 (w2.setCell ⟨I.g, 7, none⟩ (.slice B2 (q.b.told.length + 1) k2))) := ⟨pairAt.close2 (p := ({ q with b := { q.b with told := q.b.told ++ [x7] } } : Pr)) (V := ⟨.slice A0 q.a.way.length c0, .slice A1 q.b.way.length c1, .slice A2 q.a.taken.length c2, .slice A3 q.b.taken.length c3, .slice A4 q.a.told.length c4, .slice B2 (q.b.told.length + 1) k2, .slice A6 q.a.units.length c6, .slice A7 q.b.units.length c7, .slice A8 q.a.unit.length c8, .slice A9 q.b.unit.length c9⟩) (hw3.out.set 3 rfl 7 (.slice B2 (q.b.told.length + 1) k2)).drop ⟨HCK.out, HOK.out.a.mono (Nat.le_succ _), HOK.out.b.effTold x7, ⟨HOK.out.errors.1, by have := HOK.out.errors; show q.errors ≤ ((c + k + 1 : Nat) : Int); omega⟩, ⟨HOK.out.next.1, by have := HOK.out.next; show q.next ≤ ((c + k + 1 : Nat) : Int); omega⟩⟩ rfl rfl rfl rfl rfl rfl rfl rfl rfl rfl (by simp) (by simp [strs_app, strs]) rfl rfl rfl rfl rfl rfl rfl rfl⟩
          go_wp2_with fail
          exact ⟨⟨k + 1, by omega, by go_num, ⟨by rw [HX.out, HE.out, ← Nat.add_assoc]; exact HP2.out⟩⟩, by simp [intOf]; omega⟩
      · have HE : Aside0 (eff true q ⟨6, ⟨t1, x1, x2, x3, x4, x5, x6⟩, x7, x8⟩ = ({ q with b := { q.b with units := q.b.units ++ [x7] } } : Pr)) := ⟨by simp [eff, Pr.upd]⟩
        go_wp2_with fail
        generalize wr.alloc (.cells #[.int .i64 6, .int .i64 0, .int .i64 t1, .bool x1, .int .i64 x2, .bool x3, .int .i64 x4, .int .i64 x5, .string x6, .string x7, .int .i64 x8] 180 (0, 0)) = wz at *
        obtain ⟨cr, fr⟩ := cellAt (HL.out.heap 2 rfl) 9 (.slice A7 q.b.units.length c7) rfl
        have HL2 := Aside0.mk (HL.out.new (.cells #[.string x7] 9 (0, 0)))
        obtain ⟨cr2, fr2⟩ := cellAt (HL2.out.heap 3 rfl) 9 (.slice A7 q.b.units.length c7) rfl
        have hn2 := HL2.out.heap 0 rfl
        obtain ⟨i0, hi0, hz0, hz1, hz2⟩ := info_parts infoStr
        obtain ⟨T3, hr⟩ := HL2.out.drew.get 13 rfl
        have HR := Aside0.mk hr.2
        have HI0 := Aside0.mk hi0
        have HZ0 := Aside0.mk hz0
        have HZ1 := Aside0.mk hz1
        have HZ2 := Aside0.mk hz2
        have hlen : q.b.units.length ≤ 100000000000 := Nat.le_trans HOK.out.b.units HOK.out.cap
        have HNW : Aside0 (∀ (j : Nat) (u : Value), ([.string x7] : List Value)[j]? = some u → (wz.alloc (.cells #[.string x7] 9 (0, 0))).cell? ((⟨wz.heap.size, 0, none⟩ : Addr).add j) = some u) := ⟨fun j u hu => by
          rw [add_plain, Lib.cell_of_heap hn2, ← hu]
          simp⟩
        clear hn2 hi0 hz0 hz1 hz2 hr
        have hw1 : IntKind.i64.wrap 1 = 1 := by decide
        have hw0 : IntKind.i64.wrap 0 = 0 := by decide
        go_region_law (refine step_append_at _ rfl _ _ 30 rfl T3 9 i0 (.string ByteArray.empty) 1 16 Tryz.underlying30 HI0.out HZ0.out HZ1.out HZ2.out rfl (by decide) _ _ _ rfl HR.out ⟨wz.heap.size, 0, none⟩ 1 1 [.string x7] rfl rfl HNW.out (by intro u hu; simp at hu; subst hu; rfl) (by decide) (by unfold maxLen; omega) (by omega) ?_; intro v' w2 hown2 hg2 hloc; obtain ⟨B2, k2, rfl, _, _⟩ := hown2.shape; have hw3 := Aside0.mk (HL2.out.drew.at_ 13 rfl (fun T1 h1 => row_grown (n := q.b.units.length) (v := .slice A7 q.b.units.length c7) h1 hown2 hg2 hloc)); clear hown2 hg2 hloc HL2 HNW HR HI0 HZ0 HZ1 HZ2 cr cr2 fr fr2; obtain ⟨cr, fr⟩ := cellAt (hw3.out.heap 3 rfl) 9 (.slice A7 q.b.units.length c7) rfl)
        all_goals
          have HP2 : Aside0 (Went (all [orow (.slice (some ⟨ga, oa, none⟩) l.length ca) l, pairAt I (c + k + 1) ({ q with b := { q.b with units := q.b.units ++ [x7] } } : Pr)]) T w0 (w2.setCell ⟨I.g, 9, none⟩ (.slice B2 (q.b.units.length + 1) k2))) := ⟨pairAt.close2 (p := ({ q with b := { q.b with units := q.b.units ++ [x7] } } : Pr)) (V := ⟨.slice A0 q.a.way.length c0, .slice A1 q.b.way.length c1, .slice A2 q.a.taken.length c2, .slice A3 q.b.taken.length c3, .slice A4 q.a.told.length c4, .slice A5 q.b.told.length c5, .slice A6 q.a.units.length c6, .slice B2 (q.b.units.length + 1) k2, .slice A8 q.a.unit.length c8, .slice A9 q.b.unit.length c9⟩) (hw3.out.set 3 rfl 9 (.slice B2 (q.b.units.length + 1) k2)).drop ⟨HCK.out, HOK.out.a.mono (Nat.le_succ _), HOK.out.b.effUnits x7, ⟨HOK.out.errors.1, by have := HOK.out.errors; show q.errors ≤ ((c + k + 1 : Nat) : Int); omega⟩, ⟨HOK.out.next.1, by have := HOK.out.next; show q.next ≤ ((c + k + 1 : Nat) : Int); omega⟩⟩ rfl rfl rfl rfl rfl rfl rfl rfl rfl rfl rfl rfl rfl rfl (by simp) (by simp [strs_app, strs]) rfl rfl rfl rfl⟩
          go_wp2_with fail
          exact ⟨⟨k + 1, by omega, by go_num, ⟨by rw [HX.out, HE.out, ← Nat.add_assoc]; exact HP2.out⟩⟩, by simp [intOf]; omega⟩
      · have HE : Aside0 (eff true q ⟨7, ⟨t1, x1, x2, x3, x4, x5, x6⟩, x7, x8⟩ = ({ q with errors := q.errors + 1 } : Pr)) := ⟨by simp [eff, Pr.upd]⟩
        obtain ⟨ce, fe⟩ := cellAt (HL.out.heap 2 rfl) 12 (.int .i64 q.errors) rfl
        have he1 := HOK.out.errors
        have he2 := HOK.out.cap
        have he3 : 0 ≤ q.errors ∧ q.errors ≤ 100000000000 := by omega
        clear he1 he2
        go_wp2_with fail
        have HP2 : Aside0 (Went (all [orow (.slice (some ⟨ga, oa, none⟩) l.length ca) l, pairAt I (c + k + 1) ({ q with errors := q.errors + 1 } : Pr)]) T w0 ((wr.alloc (.cells #[.int .i64 7, .int .i64 0, .int .i64 t1, .bool x1, .int .i64 x2, .bool x3, .int .i64 x4, .int .i64 x5, .string x6, .string x7, .int .i64 x8] 180 (0, 0))).setCell ⟨I.g, 12, none⟩ (.int .i64 (q.errors + 1)))) := ⟨pairAt.close2 (p := ({ q with errors := q.errors + 1 } : Pr)) (V := ⟨.slice A0 q.a.way.length c0, .slice A1 q.b.way.length c1, .slice A2 q.a.taken.length c2, .slice A3 q.b.taken.length c3, .slice A4 q.a.told.length c4, .slice A5 q.b.told.length c5, .slice A6 q.a.units.length c6, .slice A7 q.b.units.length c7, .slice A8 q.a.unit.length c8, .slice A9 q.b.unit.length c9⟩) (HL.out.set 2 rfl 12 (.int .i64 (q.errors + 1))) ⟨HCK.out, HOK.out.a.mono (Nat.le_succ _), HOK.out.b.mono (Nat.le_succ _), ⟨by show 0 ≤ q.errors + 1; omega, by show q.errors + 1 ≤ ((c + k + 1 : Nat) : Int); have := HOK.out.errors; omega⟩, ⟨HOK.out.next.1, by have := HOK.out.next; show q.next ≤ ((c + k + 1 : Nat) : Int); omega⟩⟩ rfl rfl rfl rfl rfl rfl rfl rfl rfl rfl rfl rfl rfl rfl rfl rfl rfl rfl rfl rfl⟩
        exact ⟨⟨k + 1, by omega, by go_num, ⟨by rw [HX.out, HE.out, ← Nat.add_assoc]; exact HP2.out⟩⟩, by simp [intOf]; omega⟩
      · have HE : Aside0 (eff true q ⟨1, ⟨t1, x1, x2, x3, x4, x5, x6⟩, x7, x8⟩ = ({ q with b := { q.b with ups := q.b.ups + 1, taken := q.b.taken ++ [⟨nil8, false⟩] } } : Pr)) := ⟨by simp [eff, Pr.upd]⟩
        obtain ⟨ce, fe⟩ := cellAt (HL.out.heap 2 rfl) 14 (.int .i64 q.b.ups) rfl
        have he1 := HOK.out.b.ups
        have he2 := HOK.out.cap
        have he3 : 0 ≤ q.b.ups ∧ q.b.ups ≤ 100000000000 := by omega
        clear he1 he2
        go_wp2_with fail
        generalize wr.alloc (.cells #[.int .i64 1, .int .i64 0, .int .i64 t1, .bool x1, .int .i64 x2, .bool x3, .int .i64 x4, .int .i64 x5, .string x6, .string x7, .int .i64 x8] 180 (0, 0)) = wy at *
        go_still_tail 10, (by kernel_rfl)
        change wpList _ _ _ _ _ (World.drew _)
        have HL1 := Aside0.mk (HL.out.set 2 rfl 14 (.int .i64 (q.b.ups + 1))).drew
        clear b0 b1 b2 b3 b4 b5 b6 b7 b8 b9 b10 e0 e1 e2 e3 e4 e5 e6 e7 e8 e9 e10 e00
        go_wp2_with fail
        generalize (wy.setCell ⟨I.g, 14, none⟩ (.int .i64 (q.b.ups + 1))).drew = wz at HL1 ⊢
        clear ce fe
        obtain ⟨cr, fr⟩ := cellAt (HL1.out.heap 2 rfl) 5 (.slice A3 q.b.taken.length c3) rfl
        have HL2 := Aside0.mk (HL1.out.new (.cells #[.string nil8, .bool false] 42 (0, 0)))
        obtain ⟨cr2, fr2⟩ := cellAt (HL2.out.heap 3 rfl) 5 (.slice A3 q.b.taken.length c3) rfl
        have hn2 := HL2.out.heap 0 rfl
        obtain ⟨i0, hi0, hz0, hz1, hz2⟩ := info_parts infoEv
        obtain ⟨T3, hr⟩ := HL2.out.drew.get 9 rfl
        have HR := Aside0.mk hr.2
        have HI0 := Aside0.mk hi0
        have HZ0 := Aside0.mk hz0
        have HZ1 := Aside0.mk hz1
        have HZ2 := Aside0.mk hz2
        have hlen : q.b.taken.length ≤ 100000000000 := Nat.le_trans HOK.out.b.taken HOK.out.cap
        have HNW : Aside0 (∀ (j : Nat) (u : Value), ([.string nil8, .bool false] : List Value)[j]? = some u → (wz.alloc (.cells #[.string nil8, .bool false] 42 (0, 0))).cell? ((⟨wz.heap.size, 0, none⟩ : Addr).add j) = some u) := ⟨fun j u hu => by
          rw [add_plain, Lib.cell_of_heap hn2, ← hu]
          simp⟩
        clear hn2 hi0 hz0 hz1 hz2 hr
        have hw1 : IntKind.i64.wrap 1 = 1 := by decide
        have hw0 : IntKind.i64.wrap 0 = 0 := by decide
        go_region_law (refine step_append_at _ rfl _ _ 33 rfl T3 42 i0 (.agg #[.string nil8, .bool false]) 2 24 Tryz.underlying33 HI0.out HZ0.out HZ1.out HZ2.out rfl (by decide) _ _ _ rfl HR.out ⟨wz.heap.size, 0, none⟩ 1 1 [.string nil8, .bool false] rfl rfl HNW.out (by intro u hu; simp at hu; rcases hu with rfl | rfl <;> rfl) (by decide) (by unfold maxLen; omega) (by omega) ?_; intro v' w2 hown2 hg2 hloc; obtain ⟨B2, k2, rfl, _, _⟩ := hown2.shape; have hw3 := Aside0.mk (HL2.out.drew.at_ 9 rfl (fun T1 h1 => row_grown (n := q.b.taken.length) (v := .slice A3 q.b.taken.length c3) h1 hown2 hg2 hloc)); clear hown2 hg2 hloc HL2 HNW HR HI0 HZ0 HZ1 HZ2 cr cr2 fr fr2; obtain ⟨cr, fr⟩ := cellAt (hw3.out.heap 3 rfl) 5 (.slice A3 q.b.taken.length c3) rfl)
        all_goals
          have HP2 : Aside0 (Went (all [orow (.slice (some ⟨ga, oa, none⟩) l.length ca) l, pairAt I (c + k + 1) ({ q with b := { q.b with ups := q.b.ups + 1, taken := q.b.taken ++ [⟨nil8, false⟩] } } : Pr)]) T w0 (w2.setCell ⟨I.g, 5, none⟩ (.slice B2 (q.b.taken.length + 1) k2))) := ⟨pairAt.close2 (p := ({ q with b := { q.b with ups := q.b.ups + 1, taken := q.b.taken ++ [⟨nil8, false⟩] } } : Pr)) (V := ⟨.slice A0 q.a.way.length c0, .slice A1 q.b.way.length c1, .slice A2 q.a.taken.length c2, .slice B2 (q.b.taken.length + 1) k2, .slice A4 q.a.told.length c4, .slice A5 q.b.told.length c5, .slice A6 q.a.units.length c6, .slice A7 q.b.units.length c7, .slice A8 q.a.unit.length c8, .slice A9 q.b.unit.length c9⟩) (hw3.out.set 3 rfl 5 (.slice B2 (q.b.taken.length + 1) k2)).drop ⟨HCK.out, HOK.out.a.mono (Nat.le_succ _), HOK.out.b.effUp ⟨nil8, false⟩, ⟨HOK.out.errors.1, by have := HOK.out.errors; show q.errors ≤ ((c + k + 1 : Nat) : Int); omega⟩, ⟨HOK.out.next.1, by have := HOK.out.next; show q.next ≤ ((c + k + 1 : Nat) : Int); omega⟩⟩ rfl rfl rfl rfl rfl rfl (by simp) (by simp [evs_app, evs]) rfl rfl rfl rfl rfl rfl rfl rfl rfl rfl rfl rfl⟩
          go_wp2_with fail
          exact ⟨⟨k + 1, by omega, by go_num, ⟨by rw [HX.out, HE.out, ← Nat.add_assoc]; exact HP2.out⟩⟩, by simp [intOf]; omega⟩
      · have HE : Aside0 (eff true q ⟨2, ⟨t1, x1, x2, x3, x4, x5, x6⟩, x7, x8⟩ = ({ q with b := { q.b with ups := q.b.ups + 1, taken := q.b.taken ++ [⟨nil8, false⟩] } } : Pr)) := ⟨by simp [eff, Pr.upd]⟩
        obtain ⟨ce, fe⟩ := cellAt (HL.out.heap 2 rfl) 14 (.int .i64 q.b.ups) rfl
        have he1 := HOK.out.b.ups
        have he2 := HOK.out.cap
        have he3 : 0 ≤ q.b.ups ∧ q.b.ups ≤ 100000000000 := by omega
        clear he1 he2
        go_wp2_with fail
        generalize wr.alloc (.cells #[.int .i64 2, .int .i64 0, .int .i64 t1, .bool x1, .int .i64 x2, .bool x3, .int .i64 x4, .int .i64 x5, .string x6, .string x7, .int .i64 x8] 180 (0, 0)) = wy at *
        go_still_tail 10, (by kernel_rfl)
        change wpList _ _ _ _ _ (World.drew _)
        have HL1 := Aside0.mk (HL.out.set 2 rfl 14 (.int .i64 (q.b.ups + 1))).drew
        clear b0 b1 b2 b3 b4 b5 b6 b7 b8 b9 b10 e0 e1 e2 e3 e4 e5 e6 e7 e8 e9 e10 e00
        go_wp2_with fail
        generalize (wy.setCell ⟨I.g, 14, none⟩ (.int .i64 (q.b.ups + 1))).drew = wz at HL1 ⊢
        clear ce fe
        obtain ⟨cr, fr⟩ := cellAt (HL1.out.heap 2 rfl) 5 (.slice A3 q.b.taken.length c3) rfl
        have HL2 := Aside0.mk (HL1.out.new (.cells #[.string nil8, .bool false] 42 (0, 0)))
        obtain ⟨cr2, fr2⟩ := cellAt (HL2.out.heap 3 rfl) 5 (.slice A3 q.b.taken.length c3) rfl
        have hn2 := HL2.out.heap 0 rfl
        obtain ⟨i0, hi0, hz0, hz1, hz2⟩ := info_parts infoEv
        obtain ⟨T3, hr⟩ := HL2.out.drew.get 9 rfl
        have HR := Aside0.mk hr.2
        have HI0 := Aside0.mk hi0
        have HZ0 := Aside0.mk hz0
        have HZ1 := Aside0.mk hz1
        have HZ2 := Aside0.mk hz2
        have hlen : q.b.taken.length ≤ 100000000000 := Nat.le_trans HOK.out.b.taken HOK.out.cap
        have HNW : Aside0 (∀ (j : Nat) (u : Value), ([.string nil8, .bool false] : List Value)[j]? = some u → (wz.alloc (.cells #[.string nil8, .bool false] 42 (0, 0))).cell? ((⟨wz.heap.size, 0, none⟩ : Addr).add j) = some u) := ⟨fun j u hu => by
          rw [add_plain, Lib.cell_of_heap hn2, ← hu]
          simp⟩
        clear hn2 hi0 hz0 hz1 hz2 hr
        have hw1 : IntKind.i64.wrap 1 = 1 := by decide
        have hw0 : IntKind.i64.wrap 0 = 0 := by decide
        go_region_law (refine step_append_at _ rfl _ _ 33 rfl T3 42 i0 (.agg #[.string nil8, .bool false]) 2 24 Tryz.underlying33 HI0.out HZ0.out HZ1.out HZ2.out rfl (by decide) _ _ _ rfl HR.out ⟨wz.heap.size, 0, none⟩ 1 1 [.string nil8, .bool false] rfl rfl HNW.out (by intro u hu; simp at hu; rcases hu with rfl | rfl <;> rfl) (by decide) (by unfold maxLen; omega) (by omega) ?_; intro v' w2 hown2 hg2 hloc; obtain ⟨B2, k2, rfl, _, _⟩ := hown2.shape; have hw3 := Aside0.mk (HL2.out.drew.at_ 9 rfl (fun T1 h1 => row_grown (n := q.b.taken.length) (v := .slice A3 q.b.taken.length c3) h1 hown2 hg2 hloc)); clear hown2 hg2 hloc HL2 HNW HR HI0 HZ0 HZ1 HZ2 cr cr2 fr fr2; obtain ⟨cr, fr⟩ := cellAt (hw3.out.heap 3 rfl) 5 (.slice A3 q.b.taken.length c3) rfl)
        all_goals
          have HP2 : Aside0 (Went (all [orow (.slice (some ⟨ga, oa, none⟩) l.length ca) l, pairAt I (c + k + 1) ({ q with b := { q.b with ups := q.b.ups + 1, taken := q.b.taken ++ [⟨nil8, false⟩] } } : Pr)]) T w0 (w2.setCell ⟨I.g, 5, none⟩ (.slice B2 (q.b.taken.length + 1) k2))) := ⟨pairAt.close2 (p := ({ q with b := { q.b with ups := q.b.ups + 1, taken := q.b.taken ++ [⟨nil8, false⟩] } } : Pr)) (V := ⟨.slice A0 q.a.way.length c0, .slice A1 q.b.way.length c1, .slice A2 q.a.taken.length c2, .slice B2 (q.b.taken.length + 1) k2, .slice A4 q.a.told.length c4, .slice A5 q.b.told.length c5, .slice A6 q.a.units.length c6, .slice A7 q.b.units.length c7, .slice A8 q.a.unit.length c8, .slice A9 q.b.unit.length c9⟩) (hw3.out.set 3 rfl 5 (.slice B2 (q.b.taken.length + 1) k2)).drop ⟨HCK.out, HOK.out.a.mono (Nat.le_succ _), HOK.out.b.effUp ⟨nil8, false⟩, ⟨HOK.out.errors.1, by have := HOK.out.errors; show q.errors ≤ ((c + k + 1 : Nat) : Int); omega⟩, ⟨HOK.out.next.1, by have := HOK.out.next; show q.next ≤ ((c + k + 1 : Nat) : Int); omega⟩⟩ rfl rfl rfl rfl rfl rfl (by simp) (by simp [evs_app, evs]) rfl rfl rfl rfl rfl rfl rfl rfl rfl rfl rfl rfl⟩
          go_wp2_with fail
          exact ⟨⟨k + 1, by omega, by go_num, ⟨by rw [HX.out, HE.out, ← Nat.add_assoc]; exact HP2.out⟩⟩, by simp [intOf]; omega⟩
      · have HE : Aside0 (eff true q ⟨3, ⟨t1, x1, x2, x3, x4, x5, x6⟩, x7, x8⟩ = ({ q with b := { q.b with downs := q.b.downs + 1, taken := q.b.taken ++ [⟨nil8, false⟩] } } : Pr)) := ⟨by simp [eff, Pr.upd]⟩
        obtain ⟨ce, fe⟩ := cellAt (HL.out.heap 2 rfl) 16 (.int .i64 q.b.downs) rfl
        have he1 := HOK.out.b.downs
        have he2 := HOK.out.cap
        have he3 : 0 ≤ q.b.downs ∧ q.b.downs ≤ 100000000000 := by omega
        clear he1 he2
        go_wp2_with fail
        generalize wr.alloc (.cells #[.int .i64 3, .int .i64 0, .int .i64 t1, .bool x1, .int .i64 x2, .bool x3, .int .i64 x4, .int .i64 x5, .string x6, .string x7, .int .i64 x8] 180 (0, 0)) = wy at *
        go_still_tail 10, (by kernel_rfl)
        change wpList _ _ _ _ _ (World.drew _)
        have HL1 := Aside0.mk (HL.out.set 2 rfl 16 (.int .i64 (q.b.downs + 1))).drew
        clear b0 b1 b2 b3 b4 b5 b6 b7 b8 b9 b10 e0 e1 e2 e3 e4 e5 e6 e7 e8 e9 e10 e00
        go_wp2_with fail
        generalize (wy.setCell ⟨I.g, 16, none⟩ (.int .i64 (q.b.downs + 1))).drew = wz at HL1 ⊢
        clear ce fe
        obtain ⟨cr, fr⟩ := cellAt (HL1.out.heap 2 rfl) 5 (.slice A3 q.b.taken.length c3) rfl
        have HL2 := Aside0.mk (HL1.out.new (.cells #[.string nil8, .bool false] 42 (0, 0)))
        obtain ⟨cr2, fr2⟩ := cellAt (HL2.out.heap 3 rfl) 5 (.slice A3 q.b.taken.length c3) rfl
        have hn2 := HL2.out.heap 0 rfl
        obtain ⟨i0, hi0, hz0, hz1, hz2⟩ := info_parts infoEv
        obtain ⟨T3, hr⟩ := HL2.out.drew.get 9 rfl
        have HR := Aside0.mk hr.2
        have HI0 := Aside0.mk hi0
        have HZ0 := Aside0.mk hz0
        have HZ1 := Aside0.mk hz1
        have HZ2 := Aside0.mk hz2
        have hlen : q.b.taken.length ≤ 100000000000 := Nat.le_trans HOK.out.b.taken HOK.out.cap
        have HNW : Aside0 (∀ (j : Nat) (u : Value), ([.string nil8, .bool false] : List Value)[j]? = some u → (wz.alloc (.cells #[.string nil8, .bool false] 42 (0, 0))).cell? ((⟨wz.heap.size, 0, none⟩ : Addr).add j) = some u) := ⟨fun j u hu => by
          rw [add_plain, Lib.cell_of_heap hn2, ← hu]
          simp⟩
        clear hn2 hi0 hz0 hz1 hz2 hr
        have hw1 : IntKind.i64.wrap 1 = 1 := by decide
        have hw0 : IntKind.i64.wrap 0 = 0 := by decide
        go_region_law (refine step_append_at _ rfl _ _ 33 rfl T3 42 i0 (.agg #[.string nil8, .bool false]) 2 24 Tryz.underlying33 HI0.out HZ0.out HZ1.out HZ2.out rfl (by decide) _ _ _ rfl HR.out ⟨wz.heap.size, 0, none⟩ 1 1 [.string nil8, .bool false] rfl rfl HNW.out (by intro u hu; simp at hu; rcases hu with rfl | rfl <;> rfl) (by decide) (by unfold maxLen; omega) (by omega) ?_; intro v' w2 hown2 hg2 hloc; obtain ⟨B2, k2, rfl, _, _⟩ := hown2.shape; have hw3 := Aside0.mk (HL2.out.drew.at_ 9 rfl (fun T1 h1 => row_grown (n := q.b.taken.length) (v := .slice A3 q.b.taken.length c3) h1 hown2 hg2 hloc)); clear hown2 hg2 hloc HL2 HNW HR HI0 HZ0 HZ1 HZ2 cr cr2 fr fr2; obtain ⟨cr, fr⟩ := cellAt (hw3.out.heap 3 rfl) 5 (.slice A3 q.b.taken.length c3) rfl)
        all_goals
          have HP2 : Aside0 (Went (all [orow (.slice (some ⟨ga, oa, none⟩) l.length ca) l, pairAt I (c + k + 1) ({ q with b := { q.b with downs := q.b.downs + 1, taken := q.b.taken ++ [⟨nil8, false⟩] } } : Pr)]) T w0 (w2.setCell ⟨I.g, 5, none⟩ (.slice B2 (q.b.taken.length + 1) k2))) := ⟨pairAt.close2 (p := ({ q with b := { q.b with downs := q.b.downs + 1, taken := q.b.taken ++ [⟨nil8, false⟩] } } : Pr)) (V := ⟨.slice A0 q.a.way.length c0, .slice A1 q.b.way.length c1, .slice A2 q.a.taken.length c2, .slice B2 (q.b.taken.length + 1) k2, .slice A4 q.a.told.length c4, .slice A5 q.b.told.length c5, .slice A6 q.a.units.length c6, .slice A7 q.b.units.length c7, .slice A8 q.a.unit.length c8, .slice A9 q.b.unit.length c9⟩) (hw3.out.set 3 rfl 5 (.slice B2 (q.b.taken.length + 1) k2)).drop ⟨HCK.out, HOK.out.a.mono (Nat.le_succ _), HOK.out.b.effDown ⟨nil8, false⟩, ⟨HOK.out.errors.1, by have := HOK.out.errors; show q.errors ≤ ((c + k + 1 : Nat) : Int); omega⟩, ⟨HOK.out.next.1, by have := HOK.out.next; show q.next ≤ ((c + k + 1 : Nat) : Int); omega⟩⟩ rfl rfl rfl rfl rfl rfl (by simp) (by simp [evs_app, evs]) rfl rfl rfl rfl rfl rfl rfl rfl rfl rfl rfl rfl⟩
          go_wp2_with fail
          exact ⟨⟨k + 1, by omega, by go_num, ⟨by rw [HX.out, HE.out, ← Nat.add_assoc]; exact HP2.out⟩⟩, by simp [intOf]; omega⟩
      · have HE : Aside0 (eff true q ⟨4, ⟨t1, x1, x2, x3, x4, x5, x6⟩, x7, x8⟩ = ({ q with b := { q.b with downs := q.b.downs + 1, taken := q.b.taken ++ [⟨nil8, false⟩] } } : Pr)) := ⟨by simp [eff, Pr.upd]⟩
        obtain ⟨ce, fe⟩ := cellAt (HL.out.heap 2 rfl) 16 (.int .i64 q.b.downs) rfl
        have he1 := HOK.out.b.downs
        have he2 := HOK.out.cap
        have he3 : 0 ≤ q.b.downs ∧ q.b.downs ≤ 100000000000 := by omega
        clear he1 he2
        go_wp2_with fail
        generalize wr.alloc (.cells #[.int .i64 4, .int .i64 0, .int .i64 t1, .bool x1, .int .i64 x2, .bool x3, .int .i64 x4, .int .i64 x5, .string x6, .string x7, .int .i64 x8] 180 (0, 0)) = wy at *
        go_still_tail 10, (by kernel_rfl)
        change wpList _ _ _ _ _ (World.drew _)
        have HL1 := Aside0.mk (HL.out.set 2 rfl 16 (.int .i64 (q.b.downs + 1))).drew
        clear b0 b1 b2 b3 b4 b5 b6 b7 b8 b9 b10 e0 e1 e2 e3 e4 e5 e6 e7 e8 e9 e10 e00
        go_wp2_with fail
        generalize (wy.setCell ⟨I.g, 16, none⟩ (.int .i64 (q.b.downs + 1))).drew = wz at HL1 ⊢
        clear ce fe
        obtain ⟨cr, fr⟩ := cellAt (HL1.out.heap 2 rfl) 5 (.slice A3 q.b.taken.length c3) rfl
        have HL2 := Aside0.mk (HL1.out.new (.cells #[.string nil8, .bool false] 42 (0, 0)))
        obtain ⟨cr2, fr2⟩ := cellAt (HL2.out.heap 3 rfl) 5 (.slice A3 q.b.taken.length c3) rfl
        have hn2 := HL2.out.heap 0 rfl
        obtain ⟨i0, hi0, hz0, hz1, hz2⟩ := info_parts infoEv
        obtain ⟨T3, hr⟩ := HL2.out.drew.get 9 rfl
        have HR := Aside0.mk hr.2
        have HI0 := Aside0.mk hi0
        have HZ0 := Aside0.mk hz0
        have HZ1 := Aside0.mk hz1
        have HZ2 := Aside0.mk hz2
        have hlen : q.b.taken.length ≤ 100000000000 := Nat.le_trans HOK.out.b.taken HOK.out.cap
        have HNW : Aside0 (∀ (j : Nat) (u : Value), ([.string nil8, .bool false] : List Value)[j]? = some u → (wz.alloc (.cells #[.string nil8, .bool false] 42 (0, 0))).cell? ((⟨wz.heap.size, 0, none⟩ : Addr).add j) = some u) := ⟨fun j u hu => by
          rw [add_plain, Lib.cell_of_heap hn2, ← hu]
          simp⟩
        clear hn2 hi0 hz0 hz1 hz2 hr
        have hw1 : IntKind.i64.wrap 1 = 1 := by decide
        have hw0 : IntKind.i64.wrap 0 = 0 := by decide
        go_region_law (refine step_append_at _ rfl _ _ 33 rfl T3 42 i0 (.agg #[.string nil8, .bool false]) 2 24 Tryz.underlying33 HI0.out HZ0.out HZ1.out HZ2.out rfl (by decide) _ _ _ rfl HR.out ⟨wz.heap.size, 0, none⟩ 1 1 [.string nil8, .bool false] rfl rfl HNW.out (by intro u hu; simp at hu; rcases hu with rfl | rfl <;> rfl) (by decide) (by unfold maxLen; omega) (by omega) ?_; intro v' w2 hown2 hg2 hloc; obtain ⟨B2, k2, rfl, _, _⟩ := hown2.shape; have hw3 := Aside0.mk (HL2.out.drew.at_ 9 rfl (fun T1 h1 => row_grown (n := q.b.taken.length) (v := .slice A3 q.b.taken.length c3) h1 hown2 hg2 hloc)); clear hown2 hg2 hloc HL2 HNW HR HI0 HZ0 HZ1 HZ2 cr cr2 fr fr2; obtain ⟨cr, fr⟩ := cellAt (hw3.out.heap 3 rfl) 5 (.slice A3 q.b.taken.length c3) rfl)
        all_goals
          have HP2 : Aside0 (Went (all [orow (.slice (some ⟨ga, oa, none⟩) l.length ca) l, pairAt I (c + k + 1) ({ q with b := { q.b with downs := q.b.downs + 1, taken := q.b.taken ++ [⟨nil8, false⟩] } } : Pr)]) T w0 (w2.setCell ⟨I.g, 5, none⟩ (.slice B2 (q.b.taken.length + 1) k2))) := ⟨pairAt.close2 (p := ({ q with b := { q.b with downs := q.b.downs + 1, taken := q.b.taken ++ [⟨nil8, false⟩] } } : Pr)) (V := ⟨.slice A0 q.a.way.length c0, .slice A1 q.b.way.length c1, .slice A2 q.a.taken.length c2, .slice B2 (q.b.taken.length + 1) k2, .slice A4 q.a.told.length c4, .slice A5 q.b.told.length c5, .slice A6 q.a.units.length c6, .slice A7 q.b.units.length c7, .slice A8 q.a.unit.length c8, .slice A9 q.b.unit.length c9⟩) (hw3.out.set 3 rfl 5 (.slice B2 (q.b.taken.length + 1) k2)).drop ⟨HCK.out, HOK.out.a.mono (Nat.le_succ _), HOK.out.b.effDown ⟨nil8, false⟩, ⟨HOK.out.errors.1, by have := HOK.out.errors; show q.errors ≤ ((c + k + 1 : Nat) : Int); omega⟩, ⟨HOK.out.next.1, by have := HOK.out.next; show q.next ≤ ((c + k + 1 : Nat) : Int); omega⟩⟩ rfl rfl rfl rfl rfl rfl (by simp) (by simp [evs_app, evs]) rfl rfl rfl rfl rfl rfl rfl rfl rfl rfl rfl rfl⟩
          go_wp2_with fail
          exact ⟨⟨k + 1, by omega, by go_num, ⟨by rw [HX.out, HE.out, ← Nat.add_assoc]; exact HP2.out⟩⟩, by simp [intOf]; omega⟩
      · have HE : Aside0 (eff true q ⟨x0, ⟨t1, x1, x2, x3, x4, x5, x6⟩, x7, x8⟩ = q) := ⟨by simp [eff, n0, n5, n6, n7, n1, n2, n3, n4]⟩
        have z0 : (x0 == 0) = false := by rw [beq_eq_false_iff_ne]; exact n0
        have z1 : (x0 == 1) = false := by rw [beq_eq_false_iff_ne]; exact n1
        have z2 : (x0 == 2) = false := by rw [beq_eq_false_iff_ne]; exact n2
        have z3 : (x0 == 3) = false := by rw [beq_eq_false_iff_ne]; exact n3
        have z4 : (x0 == 4) = false := by rw [beq_eq_false_iff_ne]; exact n4
        have z5 : (x0 == 5) = false := by rw [beq_eq_false_iff_ne]; exact n5
        have z6 : (x0 == 6) = false := by rw [beq_eq_false_iff_ne]; exact n6
        have z7 : (x0 == 7) = false := by rw [beq_eq_false_iff_ne]; exact n7
        clear n0 n5 n6 n7 n1 n2 n3 n4
        go_wp2_with fail
        have HP2 : Aside0 (Went (all [orow (.slice (some ⟨ga, oa, none⟩) l.length ca) l, pairAt I (c + k + 1) q]) T w0 (wr.alloc (.cells #[.int .i64 x0, .int .i64 0, .int .i64 t1, .bool x1, .int .i64 x2, .bool x3, .int .i64 x4, .int .i64 x5, .string x6, .string x7, .int .i64 x8] 180 (0, 0)))) := ⟨pairAt.close2 (p := q) (V := ⟨.slice A0 q.a.way.length c0, .slice A1 q.b.way.length c1, .slice A2 q.a.taken.length c2, .slice A3 q.b.taken.length c3, .slice A4 q.a.told.length c4, .slice A5 q.b.told.length c5, .slice A6 q.a.units.length c6, .slice A7 q.b.units.length c7, .slice A8 q.a.unit.length c8, .slice A9 q.b.unit.length c9⟩) HL.out (HOK.out.mono (Nat.le_succ _) HCK.out) rfl rfl rfl rfl rfl rfl rfl rfl rfl rfl rfl rfl rfl rfl rfl rfl rfl rfl rfl rfl⟩
        exact ⟨⟨k + 1, by omega, by go_num, ⟨by rw [HX.out, HE.out, ← Nat.add_assoc]; exact HP2.out⟩⟩, by simp [intOf]; omega⟩
    · have hk2 : ¬ (k : Int) < l.length := by omega
      obtain rfl : k = l.length := by omega
      go_wp2
      go_end0
      refine ⟨rfl, ?_⟩
      have h1 := HP.out
      rw [List.take_length] at h1
      exact h1
end Go.Proofs.YtljnfbpplhnmfaaGreatDoor.Pa
