/- The document's bus by its text: Send, Take. -/
import Derived.Test.YtfopcnabcmdclaaBusNX
namespace Go.Proofs.Ytfopcnabcmdclaa.Bs
open Go Go.RowKit Go.Proofs.YtfopcnabcmdclaaW.PrintWords Go.Proofs.YtfopcnabcmdclaaW.PrintLast Go.Proofs.YtfopcnabcmdclaaW.PrintMore Go.Proofs.Ytfopcnabcmdclaa.Str Go.Proofs.Ytfopcnabcmdclaa.Bits Go.Proofs.Ytfopcnabcmdclaa.Mp Go.Proofs.Ytfopcnabcmdclaa.Ra
set_option linter.unusedVariables false
set_option linter.unusedSimpArgs false
set_option maxHeartbeats 4000000 in
set_option maxRecDepth 1000000 in
theorem sendR (T : Nat → Prop) (p n : Nat) (q : Bool → Int → List ByteArray) (v : Bool → Nat → Value) (w : World) (h : RefAt T w p n q v) (s : ByteArray) (hs : s.size ≤ 9223372036854775807) :
    Calls Try.prog 21 #[.pointer (some ⟨p, 0, none⟩), .string s] w fun e w' => e = .returned (.int .i64 (downN q s n : Int)) ∧ WentR T w p n (downQ q s n) w' := by
  have HH := Aside0.mk h
  have hn := h.n16
  clear h
  go_enter Try.func21, Try.ntmps21
  go_wp2_with fail
  go_loopw [5, 6] (fun u x wr => ∃ k : Nat, k ≤ n ∧ x = .int .i64 k ∧ u = .int .i64 (downN q s k : Int) ∧ Aside0 (WentR T w p n (downQ q s k) wr)) (fun _ x _ => n - (intOf x).toNat)
  case atStart => exact ⟨0, Nat.zero_le _, rfl, rfl, ⟨WentR.still HH.out (Below.refl _ _)⟩⟩
  case round =>
    obtain ⟨k, hk, rfl, rfl, HG⟩ := hrel
    obtain ⟨T1, v1, hb, hkb, hT1⟩ := HG.out
    have c0 := hb.cell0
    by_cases hlt : k < n
    · have hk16 : k < 16 := by omega
      obtain ⟨hcell, hfr⟩ := hb.cell true k hk16
      obtain ⟨A, cp, hv, _, _⟩ := (hb.rows true k hk16).shape
      have hsh := hb.short true k
      rw [hv] at hcell
      have HV := Aside0.mk hv
      have HB := Aside0.mk hb
      have HKB := Aside0.mk hkb
      have HT1 := Aside0.mk hT1
      have hc : wr.cell? ⟨p, 1 + k, none⟩ = some (.slice A (downQ q s k true k).length cp) := by simpa [off] using hcell
      have hf : wr.frozen? ⟨p, 1 + k, none⟩ = false := by simpa [off] using hfr
      have hdn := downN_le q s k
      have hki : (k : Int) < 16 := by omega
      have HDN : Aside0 (downN q s (k + 1) = downN q s k + if (downQ q s k true k).length < 256 then 1 else 0) := ⟨rfl⟩
      have HDQ : Aside0 (downQ q s (k + 1) = if (downQ q s k true k).length < 256 then updQ (downQ q s k) true k (downQ q s k true k ++ [s]) else downQ q s k) := ⟨rfl⟩
      clear hb hkb hT1 HG hv hcell hfr
      by_cases hl : (downQ q s k true k).length < 256
      · rw [if_pos hl] at HDN HDQ
        have hal : Below wr.heap.size wr (wr.alloc (.cells #[.string s] 9)) := (Below.refl _ wr).alloc (Nat.le_refl _) _
        have hc' := pw_cell_below hal hc
        obtain ⟨hown, hfin⟩ := HB.out.append hal.drew true k hlt s hs hl
        have hnew : ∀ j u, [Value.string s][j]? = some u → ((wr.alloc (.cells #[.string s] 9)).drew).cell? ((⟨wr.heap.size, 0, none⟩ : Addr).add j) = some u := by
          intro j u hu
          match j, hu with
          | 0, hu =>
            simp at hu
            subst hu
            show (wr.alloc (.cells #[.string s] 9)).cell? ⟨wr.heap.size, 0, none⟩ = _
            rw [Lib.cell_of_heap (heap_alloc_new wr _)]; rfl
        rw [HV.out] at hown hfin
        have HOW := Aside0.mk hown
        have HNW := Aside0.mk hnew
        have HFN := Aside0.mk hfin
        clear hown hnew hfin hal
        obtain ⟨i0, hi0, hz0, hz1, hz2⟩ := info_parts infoStr
        have HI0 := Aside0.mk hi0
        have HZ0 := Aside0.mk hz0
        have HZ1 := Aside0.mk hz1
        have HZ2 := Aside0.mk hz2
        clear hi0 hz0 hz1 hz2
        have hl3 : ((downQ q s k true k).length : Int) < 256 := by omega
        go_wp2_with fail
        go_region_law (refine step_append_at _ rfl _ _ 22 rfl T1 9 i0 (.string ByteArray.empty) 1 16 Try.underlying22 HI0.out HZ0.out HZ1.out HZ2.out rfl (by decide) _ _ _ rfl HOW.out ⟨wr.heap.size, 0, none⟩ 1 1 [.string s] rfl rfl HNW.out (by intro u hu; simp at hu; subst hu; rfl) (by decide) (by unfold maxLen; omega) (by omega) ?_; intro v' w2 hown2 hg2 hloc; obtain ⟨A2, cp2, rfl, _, _⟩ := hown2.shape; obtain ⟨hc2, hf2, hw2⟩ := HFN.out _ w2 hown2 hg2 hloc; have hc3 : w2.cell? ⟨p, 1 + k, none⟩ = some (.slice A (downQ q s k true k).length cp) := (by simpa [off] using hc2); have hf3 : w2.frozen? ⟨p, 1 + k, none⟩ = false := (by simpa [off] using hf2); have hw3 : WentR T1 wr p n (updQ (downQ q s k) true k (downQ q s k true k ++ [s])) (w2.setCell ⟨p, 1 + k, none⟩ (.slice A2 ((downQ q s k true k).length + 1) cp2)) := (by simpa [off] using hw2); have HW3 := Aside0.mk hw3; clear hw3 hw2 hc2 hf2 hown2 hg2 hloc)
        all_goals
          have hg := WentR.trans HKB.out HT1.out HW3.out
          rw [← HDQ.out] at hg
          have HG2 := Aside0.mk hg
          clear hg HKB HT1 HB HW3
          go_wp2
          exact ⟨⟨k + 1, by omega, by go_num, by rw [HDN.out]; go_num, HG2⟩, by simp [intOf]; omega⟩
      · rw [if_neg hl] at HDN HDQ
        have hl3 : ¬ ((downQ q s k true k).length : Int) < 256 := by omega
        have hg := WentR.trans HKB.out HT1.out (WentR.still HB.out (Below.refl _ _))
        rw [← HDQ.out] at hg
        have HG2 := Aside0.mk hg
        clear hg HKB HT1 HB
        go_wp2
        exact ⟨⟨k + 1, by omega, by go_num, by rw [HDN.out]; go_num, HG2⟩, by simp [intOf]; omega⟩
    · obtain rfl : k = n := by omega
      clear hb hkb hT1
      go_wp2
      go_ret
      exact ⟨rfl, HG.out⟩
end Go.Proofs.Ytfopcnabcmdclaa.Bs
