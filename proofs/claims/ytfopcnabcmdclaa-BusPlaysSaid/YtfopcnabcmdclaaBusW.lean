/- The bus by its text, first part: New, Size, Len, put. -/
import Derived.Test.YtfopcnabcmdclaaBusP
import Derived.Deep.RegionLaw
import Derived.StillTailTactics
namespace Go.Proofs.Ytfopcnabcmdclaa.Bs
open Go Go.RowKit Go.Proofs.YtfopcnabcmdclaaW.PrintWords Go.Proofs.YtfopcnabcmdclaaW.PrintLast Go.Proofs.YtfopcnabcmdclaaW.PrintMore Go.Proofs.Ytfopcnabcmdclaa.Str Go.Proofs.Ytfopcnabcmdclaa.Bits Go.Proofs.Ytfopcnabcmdclaa.Mp Go.Proofs.Ytfopcnabcmdclaa.Ra
set_option linter.unusedVariables false
/-- A number of terminals as New takes it. -/
def size20 (n : Int) : Nat := (max 1 (min n 16)).toNat
theorem size20_le (n : Int) : 1 ≤ size20 n ∧ size20 n ≤ 16 := by unfold size20; omega
theorem new_bus (n : Nat) (h1 : 1 ≤ n) (h2 : n ≤ 16) (w : World) :
    Went (fun _ => False) w (w.heap.size + 1) w.heap.size 0 n (fun _ _ => []) ((w.alloc (.map #[] 0)).alloc (.cells #[.int .i64 (n : Int), .map (some w.heap.size)] 58)) := by
  have hs1 : (w.alloc (.map #[] 0)).heap.size = w.heap.size + 1 := by show (w.heap.push _).size = _; simp
  have hs2 : ((w.alloc (.map #[] 0)).alloc (.cells #[.int .i64 (n : Int), .map (some w.heap.size)] 58)).heap.size = w.heap.size + 2 := by show ((w.heap.push _).push _).size = _; simp
  have hc := heap_alloc_new (w.alloc (.map #[] 0)) (.cells #[.int .i64 (n : Int), .map (some w.heap.size)] 58)
  rw [hs1] at hc
  refine ⟨fun k => k = w.heap.size ∨ k = w.heap.size + 1, 0, fun _ => none, ⟨Or.inr rfl, Or.inl rfl, fun k hk => by rw [hs2]; omega, hc, ?_, fun d i hi => ownsAt_nil _ _ _ _, fun d i d' i' _ _ _ k hk => by simp [val, Value.ownBlock] at hk, fun _ _ _ => rfl, fun _ _ => Nat.zero_le _, fun _ _ _ h => (List.not_mem_nil h).elim, h1, h2⟩, Nat.le_refl _, ((Kb.refl _ w).alloc _).alloc _, fun k hk => Or.inr (by omega)⟩
  exact (mapAt_made Try.prog 61 w).same (Below.heap_alloc _ _ _ (by rw [hs1]; omega))
set_option maxHeartbeats 4000000 in
set_option maxRecDepth 1000000 in
theorem newW (n : Int) (w : World) :
    Calls Try.prog 7 #[.int .i64 n] w fun e w' => e = .returned (.pointer (some ⟨w.heap.size + 1, 0, none⟩)) ∧ Went (fun _ => False) w (w.heap.size + 1) w.heap.size 0 (size20 n) (fun _ _ => []) w' := by
  have hmk := @run_makeMap Try.prog
  have hmx : max 1 (min n 16) = (size20 n : Int) := by unfold size20; omega
  have h1 := size20_le n
  go_enter Try.func7, Try.ntmps7
  go_wp2
  go_ret
  exact ⟨rfl, new_bus _ h1.1 h1.2 w⟩
set_option maxHeartbeats 4000000 in
set_option maxRecDepth 1000000 in
theorem sizeW (T : Nat → Prop) (p mb c n : Nat) (q : Bool → Int → List ByteArray) (f : Lit → Option Value) (w : World) (h : BusAt T w p mb c n q f) :
    Calls Try.prog 8 #[.pointer (some ⟨p, 0, none⟩)] w fun e w' => e = .returned (.int .i64 (n : Int)) ∧ w = w' := by
  have c0 := h.cell0
  go_enter Try.func8, Try.ntmps8
  go_wp2
  go_ret
  exact ⟨rfl, rfl⟩
set_option maxHeartbeats 4000000 in
set_option maxRecDepth 1000000 in
theorem lenW (T : Nat → Prop) (p mb c n : Nat) (q : Bool → Int → List ByteArray) (f : Lit → Option Value) (w : World) (h : BusAt T w p mb c n q f) (d : Bool) (i : Int) (hi : wfi i) :
    Calls Try.prog 13 #[.pointer (some ⟨p, 0, none⟩), .bool d, .int .i64 i] w fun e w' => e = .returned (.int .i64 ((q d i).length : Int)) ∧ w = w' := by
  have c1 := h.cell1
  have hl := h.look d i hi
  obtain ⟨A, cp, hv, _, _⟩ := (h.rows d i hi).shape
  rw [hv] at hl
  clear hv h
  go_enter Try.func13, Try.ntmps13
  go_wp2
  go_ret
  exact ⟨rfl, rfl⟩
set_option maxHeartbeats 4000000 in
set_option maxRecDepth 1000000 in
theorem putW (T : Nat → Prop) (p mb c n : Nat) (q : Bool → Int → List ByteArray) (f : Lit → Option Value) (w : World) (h : BusAt T w p mb c n q f) (hcn : c ≤ 1000000000) (d : Bool) (i : Int) (hi : wfi i) (hin : 0 ≤ i ∧ i < (n : Int)) (s : ByteArray) (hs : s.size ≤ 9223372036854775807) :
    Calls Try.prog 24 #[.pointer (some ⟨p, 0, none⟩), .agg #[.bool d, .int .i64 i], .string s] w fun e w' => e = .returned (.bool (decide ((q d i).length < 256))) ∧ Went T w p mb (c + 1) n (if (q d i).length < 256 then updQ q d i (q d i ++ [s]) else q) w' := by
  have hb0 : Below w.heap.size w (w.alloc (.cells #[.bool d, .int .i64 i] 61)) := (Below.refl _ w).alloc (Nat.le_refl _) _
  have hW : BusAt T (w.alloc (.cells #[.bool d, .int .i64 i] 61)) p mb c n q f := h.below hb0
  have HBX := Aside0.mk (heap_alloc_new w (.cells #[.bool d, .int .i64 i] 61))
  have HSZ : Aside0 ((w.alloc (.cells #[.bool d, .int .i64 i] 61)).heap.size = w.heap.size + 1) := ⟨by show (w.heap.push _).size = _; simp⟩
  have c1 := hW.cell1
  have hl : ∀ k, (Instr.lookup 56 (.map (some mb)) (.agg #[.bool d, .int .i64 i]) false).run Try.prog ((w.alloc (.cells #[.bool d, .int .i64 i] 61)).drewN k) = .ok (val f d i) ((w.alloc (.cells #[.bool d, .int .i64 i] 61)).drewN k) := fun k => (hW.below (pw_below_drewN (Below.refl _ _) k)).look d i hi
  obtain ⟨A, cp, hv, _, _⟩ := (hW.rows d i hi).shape
  have HV := Aside0.mk hv
  rw [hv] at hl
  have HW := Aside0.mk hW
  have HB0 := Aside0.mk hb0
  have HH := Aside0.mk h
  clear hv hW hb0 h
  go_enter Try.func24, Try.ntmps24
  go_wp2_with fail
  go_quiet (fail)
  have hbx : Below (w.alloc (.cells #[.bool d, .int .i64 i] 61)).heap.size (w.alloc (.cells #[.bool d, .int .i64 i] 61)) ((w.alloc (.cells #[.bool d, .int .i64 i] 61)).drewN nq) := pw_below_drewN (Below.refl _ _) _
  have HX := Aside0.mk (HW.out.below hbx)
  have HBX2 := Aside0.mk ((hbx.block w.heap.size (by rw [HSZ.out]; omega)).trans HBX.out)
  have HB2 := Aside0.mk (below_step HB0.out hbx)
  generalize (w.alloc (.cells #[.bool d, .int .i64 i] 61)).drewN nq = wx at HX HBX2 HB2 hbx ⊢
  clear hl c1 HW HB0 HBX HSZ hbx
  by_cases hlen : (q d i).length < 256
  · have hl2 : ¬ ((256 : Int) ≤ ((q d i).length : Int)) := by omega
    obtain ⟨st, w1, hrun, hown1, hnews, hfin⟩ := put_step HX.out hcn d i hi hin s hs hlen
    rw [HV.out] at hrun hown1 hfin
    have c1 := HX.out.cell1
    have b0 : wx.cell? ⟨w.heap.size, 0, none⟩ = some (.bool d) := by rw [Lib.cell_of_heap HBX2.out]; rfl
    have b1 : wx.cell? ⟨w.heap.size, 1, none⟩ = some (.int .i64 i) := by rw [Lib.cell_of_heap HBX2.out]; rfl
    have hal : Below wx.heap.size wx (wx.alloc (.cells #[.string s] 9)) := (Below.refl _ wx).alloc (Nat.le_refl _) _
    have c1' := pw_cell_below hal c1
    have b0' := pw_cell_below hal b0
    have b1' := pw_cell_below hal b1
    clear hal
    have HOW := Aside0.mk hown1
    have HNW := Aside0.mk hnews
    have HFN := Aside0.mk hfin
    clear hown1 hnews hfin
    obtain ⟨i0, hi0, hz0, hz1, hz2⟩ := info_parts infoStr
    have HI0 := Aside0.mk hi0
    have HZ0 := Aside0.mk hz0
    have HZ1 := Aside0.mk hz1
    have HZ2 := Aside0.mk hz2
    clear hi0 hz0 hz1 hz2
    go_wp2_with fail
    go_region_law (refine step_append_at _ rfl _ _ 22 rfl T 9 i0 (.string ByteArray.empty) 1 16 Try.underlying22 HI0.out HZ0.out HZ1.out HZ2.out rfl (by decide) _ _ _ rfl HOW.out ⟨wx.heap.size, 0, none⟩ 1 1 [.string s] rfl rfl HNW.out (by intro u hu; simp at hu; subst hu; rfl) (by decide) (by unfold maxLen; omega) (by omega) ?_; intro v' w2 hown2 hg2 hloc; obtain ⟨w3, hst3, hw3⟩ := HFN.out v' w2 hown2 hg2 hloc; have HW3 := Aside0.mk hw3; clear hw3 hown2 hg2 hloc)
    all_goals
      go_wp2
      go_ret
      refine ⟨by first | rfl | (simp; omega) | simp [hlen], ?_⟩
      try rw [if_pos hlen]
      exact Went.trans ((Kb.refl T w).ofBelow HB2.out) (fun k hk => Or.inl hk) (Nat.le_refl _) HW3.out
  · have hl2 : ((256 : Int) ≤ ((q d i).length : Int)) := by omega
    go_wp2
    go_ret
    refine ⟨by simp, ?_⟩
    try rw [if_neg hlen]
    obtain ⟨T', c', f', x1, x2, x3, x4⟩ := Went.still HH.out HB2.out
    exact ⟨T', c', f', x1, by omega, x3, x4⟩
end Go.Proofs.Ytfopcnabcmdclaa.Bs
