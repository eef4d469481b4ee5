/- The document's bus by its text: Rise. -/
import Derived.Test.YtfopcnabcmdclaaBusNW
namespace Go.Proofs.Ytfopcnabcmdclaa.Bs
open Go Go.RowKit Go.Proofs.YtfopcnabcmdclaaW.PrintWords Go.Proofs.YtfopcnabcmdclaaW.PrintLast Go.Proofs.YtfopcnabcmdclaaW.PrintMore Go.Proofs.Ytfopcnabcmdclaa.Str Go.Proofs.Ytfopcnabcmdclaa.Bits Go.Proofs.Ytfopcnabcmdclaa.Mp Go.Proofs.Ytfopcnabcmdclaa.Ra
set_option linter.unusedVariables false
set_option linter.unusedSimpArgs false
/-- One more on its way: what an append and the store of its slice do. -/
theorem RefAt.append {T : Nat → Prop} {w W : World} {p n : Nat} {q : Bool → Int → List ByteArray} {v : Bool → Nat → Value} (h : RefAt T w p n q v) (hb : Below w.heap.size w W) (d : Bool) (i : Nat) (hi : i < n) (s : ByteArray) (hs : s.size ≤ 9223372036854775807) (hlen : (q d i).length < 256) :
    OwnsAt W T 9 1 (v d i) (q d i).length (strs (q d i)) ∧
      ∀ v' w2, OwnsAt w2 (fun k => T k ∨ k = W.heap.size) 9 1 v' ((q d i).length + 1) (strs (q d i) ++ [.string s]) → W.grownBy w2 (v d i).ownBlock → (v'.ownBlock = (v d i).ownBlock ∨ v'.ownBlock = some W.heap.size) →
        w2.cell? ⟨p, off d i, none⟩ = some (v d i) ∧ w2.frozen? ⟨p, off d i, none⟩ = false ∧ WentR T w p n (updQ q d i (q d i ++ [s])) (w2.setCell ⟨p, off d i, none⟩ v') := by
  have h16 := h.n16
  have hi16 : i < 16 := by omega
  have hsz := hb.size
  refine ⟨(h.rows d i hi16).below hb, fun v' w2 hown hg hloc => ?_⟩
  have hkept : ∀ k, T k → (v d i).ownBlock ≠ some k → w2.heap[k]? = w.heap[k]? := fun k hk hne => (hg.block k (by have := h.lt k hk; omega) (fun e => hne e.symm)).trans (hb.block k (h.lt k hk))
  have hp : w2.heap[p]? = w.heap[p]? := hkept p h.tp (h.own_ne d i hi16)
  obtain ⟨hc, hf⟩ := h.cell d i hi16
  refine ⟨(World.cell?_of_block (a := ⟨p, off d i, none⟩) hp).trans hc, (World.frozen?_of_block (a := ⟨p, off d i, none⟩) hp).trans hf, ?_⟩
  have hsz2 := hg.size
  refine ⟨fun k => (T k ∨ k = W.heap.size) ∧ k < w2.heap.size, updV v d i v', ?_, ?_, ?_⟩
  · refine h.put d i hi v' _ (by omega) (fun k hk => ⟨Or.inl hk, by have := h.lt k hk; omega⟩) (fun k hk => hk.2) hkept ?_ ?_ ?_ ?_
    · unfold Row
      rw [List.length_append, strs_app]
      exact hown.mono (fun k hk ht => ⟨ht, (hown.lt k hk).2⟩)
    · intro k hk
      rcases hloc with e | e
      · exact Or.inl (by rw [← e]; exact hk)
      · refine Or.inr (fun ht => ?_)
        rw [e] at hk
        injection hk with hk
        have := h.lt k ht
        omega
    · rw [List.length_append]; show _ + 1 ≤ _; omega
    · intro x hx
      rw [List.mem_append] at hx
      rcases hx with hx | hx
      · exact h.sizes _ _ x hx
      · rw [List.mem_singleton.1 hx]; exact hs
  · exact (((Kb.refl T w).ofBelow hb).grown hg (fun k hk _ => ((h.rows d i hi16).lt k hk).1)).setCell (p := ⟨p, off d i, none⟩) (fun _ => h.tp) _
  · intro k hk
    rcases hk.1 with hk | hk
    · exact Or.inl hk
    · exact Or.inr (by omega)
set_option maxHeartbeats 4000000 in
set_option maxRecDepth 1000000 in
theorem riseR (T : Nat → Prop) (p n : Nat) (q : Bool → Int → List ByteArray) (v : Bool → Nat → Value) (w : World) (h : RefAt T w p n q v) (i : Int) (s : ByteArray) (hs : s.size ≤ 9223372036854775807) :
    Calls Try.prog 15 #[.pointer (some ⟨p, 0, none⟩), .int .i64 i, .string s] w fun e w' => e = .returned (.int .i64 (upE q n i)) ∧ WentR T w p n (upQ q n i s) w' := by
  have c0 := h.cell0
  have HH := Aside0.mk h
  have HE : Aside0 (upE q n i = if 0 ≤ i ∧ i < (n : Int) then (if (q false i).length < 256 then 0 else 10) else 11) := ⟨rfl⟩
  have HQ : Aside0 (upQ q n i s = if 0 ≤ i ∧ i < (n : Int) then (if (q false i).length < 256 then updQ q false i (q false i ++ [s]) else q) else q) := ⟨rfl⟩
  have HS : Aside0 (WentR T w p n q w) := ⟨WentR.still h (Below.refl _ _)⟩
  have hn := h.n16
  by_cases h0 : i < 0
  · rw [if_neg (by omega)] at HE HQ
    clear h
    go_enter Try.func15, Try.ntmps15
    go_wp2
    go_ret
    exact ⟨by rw [HE.out]; rfl, by rw [HQ.out]; exact HS.out⟩
  · by_cases h1 : (n : Int) ≤ i
    · rw [if_neg (by omega)] at HE HQ
      clear h
      go_enter Try.func15, Try.ntmps15
      go_wp2
      go_ret
      exact ⟨by rw [HE.out]; rfl, by rw [HQ.out]; exact HS.out⟩
    · rw [if_pos (by omega)] at HE HQ
      obtain ⟨k, rfl⟩ : ∃ k : Nat, i = (k : Int) := ⟨i.toNat, by omega⟩
      have hk : k < n := by omega
      have hk16 : k < 16 := by omega
      obtain ⟨hcell, hfr⟩ := h.cell false k hk16
      obtain ⟨A, cp, hv, _, _⟩ := (h.rows false k hk16).shape
      have hsh := h.short false k
      rw [hv] at hcell
      have HV := Aside0.mk hv
      have hc : w.cell? ⟨p, 17 + k, none⟩ = some (.slice A (q false k).length cp) := by simpa [off] using hcell
      have hf : w.frozen? ⟨p, 17 + k, none⟩ = false := by simpa [off] using hfr
      clear hv h hcell hfr
      by_cases hl : (q false (k : Int)).length < 256
      · rw [if_pos hl] at HE HQ
        have hl2 : ¬ (((q false (k : Int)).length : Int) = 256) := by omega
        go_enter Try.func15, Try.ntmps15
        go_wp2_with fail
        have hal : Below w.heap.size w (w.alloc (.cells #[.string s] 9)) := (Below.refl _ w).alloc (Nat.le_refl _) _
        have hc' := pw_cell_below hal hc
        have hki : (k : Int) < 16 := by omega
        obtain ⟨hown, hfin⟩ := HH.out.append hal.drew false k hk s hs hl
        have hnew : ∀ j u, [Value.string s][j]? = some u → ((w.alloc (.cells #[.string s] 9)).drew).cell? ((⟨w.heap.size, 0, none⟩ : Addr).add j) = some u := by
          intro j u hu
          match j, hu with
          | 0, hu =>
            simp at hu
            subst hu
            show (w.alloc (.cells #[.string s] 9)).cell? ⟨w.heap.size, 0, none⟩ = _
            rw [Lib.cell_of_heap (heap_alloc_new w _)]; rfl
        rw [HV.out] at hown hfin
        have HOW := Aside0.mk hown
        have HNW := Aside0.mk hnew
        have HFN := Aside0.mk hfin
        clear hown hnew hfin hal
        obtain ⟨i0, hi0, hz0, hz1, hz2⟩ := info_parts infoStr
        have HI0 := Aside0.mk hi0
        have HZ0 := Aside0.mk hz0
        have HZ1 := Aside0.mk hz1
        have HZ2 := Aside0.mk hz2
        clear hi0 hz0 hz1 hz2
        go_region_law (refine step_append_at _ rfl _ _ 22 rfl T 9 i0 (.string ByteArray.empty) 1 16 Try.underlying22 HI0.out HZ0.out HZ1.out HZ2.out rfl (by decide) _ _ _ rfl HOW.out ⟨w.heap.size, 0, none⟩ 1 1 [.string s] rfl rfl HNW.out (by intro u hu; simp at hu; subst hu; rfl) (by decide) (by unfold maxLen; omega) (by omega) ?_; intro v' w2 hown2 hg2 hloc; obtain ⟨A2, cp2, rfl, _, _⟩ := hown2.shape; obtain ⟨hc2, hf2, hw2⟩ := HFN.out _ w2 hown2 hg2 hloc; have hc3 : w2.cell? ⟨p, 17 + k, none⟩ = some (.slice A (q false k).length cp) := (by simpa [off] using hc2); have hf3 : w2.frozen? ⟨p, 17 + k, none⟩ = false := (by simpa [off] using hf2); have hw3 : WentR T w p n (updQ q false k (q false k ++ [s])) (w2.setCell ⟨p, 17 + k, none⟩ (.slice A2 ((q false k).length + 1) cp2)) := (by simpa [off] using hw2); have HW3 := Aside0.mk hw3; clear hw3 hw2 hc2 hf2 hown2 hg2 hloc)
        all_goals
          go_wp2
          go_ret
          exact ⟨by rw [HE.out]; rfl, by rw [HQ.out]; exact HW3.out⟩
      · rw [if_neg hl] at HE HQ
        have hl2 : (((q false (k : Int)).length : Int) = 256) := by omega
        go_enter Try.func15, Try.ntmps15
        go_wp2
        go_ret
        exact ⟨by rw [HE.out]; rfl, by rw [HQ.out]; exact HS.out⟩
end Go.Proofs.Ytfopcnabcmdclaa.Bs
