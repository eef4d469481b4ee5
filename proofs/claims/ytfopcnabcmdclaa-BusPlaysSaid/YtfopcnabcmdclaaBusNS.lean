/- The document's bus by its text: Spoil. -/
import Derived.Test.YtfopcnabcmdclaaBusNX
namespace Go.Proofs.Ytfopcnabcmdclaa.Bs
open Go Go.RowKit Go.Proofs.YtfopcnabcmdclaaW.PrintWords Go.Proofs.YtfopcnabcmdclaaW.PrintLast Go.Proofs.YtfopcnabcmdclaaW.PrintMore Go.Proofs.Ytfopcnabcmdclaa.Str Go.Proofs.Ytfopcnabcmdclaa.Bits Go.Proofs.Ytfopcnabcmdclaa.Mp Go.Proofs.Ytfopcnabcmdclaa.Ra
set_option linter.unusedVariables false
set_option linter.unusedSimpArgs false
set_option maxHeartbeats 4000000 in
set_option maxRecDepth 1000000 in
theorem spoilR (T : Nat → Prop) (p n : Nat) (q : Bool → Int → List ByteArray) (v : Bool → Nat → Value) (w : World) (h : RefAt T w p n q v) (d : Bool) (i : Int) (A : Option Addr) (na ca : Nat) (m : List Int) (hr : (Kd.int .i64).C w A na m) (hca : na ≤ ca) :
    Calls Try.prog 18 #[.pointer (some ⟨p, 0, none⟩), .bool d, .int .i64 i, .slice A na ca] w fun e w' => e = .returned (.bool (decide (0 < (q d i).length))) ∧ WentR T w p n (spoilQ q d i m) w' := by
  have HH := Aside0.mk h
  have HR : Aside0 ((Kd.int .i64).C w.drew A na m) := ⟨hr⟩
  clear hr
  obtain ⟨l0, HQ⟩ : ∃ l0, Aside0 (q d i = l0) := ⟨_, ⟨rfl⟩⟩
  have hn := h.n16
  go_enter Try.func18, Try.ntmps18
  go_wp2_with fail
  refine (lenR T p n q v w HH.out d i).mono ?_
  rintro e w1 ⟨rfl, rfl⟩
  rw [HQ.out]
  cases l0 with
  | nil =>
    have HS : Aside0 (spoilQ q d i m = q) := ⟨by unfold spoilQ; rw [HQ.out]⟩
    clear h
    go_wp2
    go_ret
    rw [HQ.out]
    refine ⟨rfl, ?_⟩
    rw [HS.out]
    exact WentR.still HH.out (Below.refl _ _)
  | cons s l =>
    have HS : Aside0 (spoilQ q d i m = updQ q d i (⟨(turnL (L s) m).toArray⟩ :: l)) := ⟨by unfold spoilQ; rw [HQ.out]⟩
    have hin : 0 ≤ i ∧ i < (n : Int) := by
      by_cases hin : 0 ≤ i ∧ i < (n : Int)
      · exact hin
      · have := h.out d i hin
        rw [HQ.out] at this
        cases this
    obtain ⟨k, rfl⟩ : ∃ k : Nat, i = (k : Int) := ⟨i.toNat, by omega⟩
    have hk : k < n := by omega
    have hk16 : k < 16 := by omega
    have hki : (k : Int) < 16 := by omega
    have hrow := h.rows d k hk16
    obtain ⟨hcell, hfr⟩ := h.cell d k hk16
    obtain ⟨A', cp, hv, _, _⟩ := hrow.shape
    have hsz := h.sizes d k s (by rw [HQ.out]; exact List.mem_cons_self ..)
    have hsh := h.short d k
    rw [HQ.out] at hsh
    have hl0 : (s :: l).length = l.length + 1 := rfl
    have hl1 : (0 : Int) < (l.length : Int) + 1 := by omega
    rw [hv, HQ.out] at hrow
    rw [hv, HQ.out, hl0] at hcell
    obtain ⟨_, g, o, rfl, hg1, hgf, hglt, hgT⟩ := row_head hrow
    have hz2 : (⟨(turnL (L s) m).toArray⟩ : ByteArray).size ≤ 9223372036854775807 := by rw [size_L, L_mk, turnL_length, ← size_L]; exact hsz
    rw [HQ.out] at hv
    have HF : Aside0 (∀ w2, Below w.drew.heap.size w.drew w2 → WentR T w p n (updQ q d k (⟨(turnL (L s) m).toArray⟩ :: l)) (w2.setCell ⟨g, o, none⟩ (.string ⟨(turnL (L s) m).toArray⟩)) ∧ w2.cell? ⟨p, off d k, none⟩ = some (.slice (some ⟨g, o, none⟩) (l.length + 1) cp) ∧ w2.cell? ⟨g, o, none⟩ = some (.string s) ∧ w2.frozen? ⟨g, o, none⟩ = false) := ⟨fun w2 hb => by
      have hb' : Below w.heap.size w w2 := ((Below.refl w.heap.size w).drew).trans hb
      refine ⟨⟨T, v, (h.below hb').spoil d k hk hv HQ.out hz2, ((Kb.refl T w).ofBelow hb').setCell (p := ⟨g, o, none⟩) (fun _ => hgT) _, fun k hk => Or.inl hk⟩, pw_cell_below hb' hcell, pw_cell_below hb' hg1, (World.frozen?_of_block (a := ⟨g, o, none⟩) (hb'.block g hglt)).trans hgf⟩⟩
    have HWK := Aside0.mk (Flip.walkRN s A na ca m w.drew hsz HR.out hca)
    clear hrow hv h hz2 hgT hfr
    cases d
    · have hc : w.cell? ⟨p, 17 + k, none⟩ = some (.slice (some ⟨g, o, none⟩) (l.length + 1) cp) := by simpa [off] using hcell
      clear hcell
      go_wp2_with fail
      go_region_law (go_simp; go_at_call 26; refine HWK.out.mono ?_; rintro e w2 ⟨rfl, hb⟩; obtain ⟨x1, x2, x3, x4⟩ := HF.out w2 hb; have x5 : w2.cell? ⟨p, 17 + k, none⟩ = some (.slice (some ⟨g, o, none⟩) (l.length + 1) cp) := (by simpa [off] using x2); have X1 := Aside0.mk x1; clear x1 x2 hb)
      all_goals
        go_wp2
        go_ret
        rw [HQ.out]
        refine ⟨rfl, ?_⟩
        rw [HS.out]
        exact X1.out
    · have hc : w.cell? ⟨p, 1 + k, none⟩ = some (.slice (some ⟨g, o, none⟩) (l.length + 1) cp) := by simpa [off] using hcell
      clear hcell
      go_wp2_with fail
      go_region_law (go_simp; go_at_call 26; refine HWK.out.mono ?_; rintro e w2 ⟨rfl, hb⟩; obtain ⟨x1, x2, x3, x4⟩ := HF.out w2 hb; have x5 : w2.cell? ⟨p, 1 + k, none⟩ = some (.slice (some ⟨g, o, none⟩) (l.length + 1) cp) := (by simpa [off] using x2); have X1 := Aside0.mk x1; clear x1 x2 hb)
      all_goals
        go_wp2
        go_ret
        rw [HQ.out]
        refine ⟨rfl, ?_⟩
        rw [HS.out]
        exact X1.out
end Go.Proofs.Ytfopcnabcmdclaa.Bs
