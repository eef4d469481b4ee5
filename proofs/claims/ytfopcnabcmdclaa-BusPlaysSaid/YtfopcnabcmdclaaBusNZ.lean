/- The document's bus by its text: Take, Clear. -/
import Derived.Test.YtfopcnabcmdclaaBusNX
namespace Go.Proofs.Ytfopcnabcmdclaa.Bs
open Go Go.RowKit Go.Proofs.YtfopcnabcmdclaaW.PrintWords Go.Proofs.YtfopcnabcmdclaaW.PrintLast Go.Proofs.YtfopcnabcmdclaaW.PrintMore Go.Proofs.Ytfopcnabcmdclaa.Str Go.Proofs.Ytfopcnabcmdclaa.Bits Go.Proofs.Ytfopcnabcmdclaa.Mp Go.Proofs.Ytfopcnabcmdclaa.Ra
set_option linter.unusedVariables false
set_option linter.unusedSimpArgs false
theorem upd_nil {q : Bool → Int → List ByteArray} {d : Bool} {i : Int} (h : q d i = []) : updQ q d i [] = q := by
  funext d' i'
  unfold updQ
  split
  · rename_i e
    rw [e.1, e.2, h]
  · rfl
/-- A row of the document's bus made another one in its own block: the store. -/
theorem RefAt.set {T : Nat → Prop} {w : World} {p n : Nat} {q : Bool → Int → List ByteArray} {v : Bool → Nat → Value} (h : RefAt T w p n q v) (d : Bool) (i : Nat) (hi : i < n) (v' : Value) (l : List ByteArray)
    (hv : Row w T v' l) (hbl : ∀ k, v'.ownBlock = some k → (v d i).ownBlock = some k) (hl : l.length ≤ 256) (hsz : ∀ s ∈ l, s.size ≤ 9223372036854775807) :
    RefAt T (w.setCell ⟨p, off d i, none⟩ v') p n (updQ q d i l) (updV v d i v') :=
  h.put d i hi v' l (Nat.le_refl _) (fun _ hk => hk) h.lt (fun _ _ _ => rfl) hv (fun k hk => Or.inl (hbl k hk)) hl hsz
set_option maxHeartbeats 4000000 in
set_option maxRecDepth 1000000 in
theorem takeR (T : Nat → Prop) (p n : Nat) (q : Bool → Int → List ByteArray) (v : Bool → Nat → Value) (w : World) (h : RefAt T w p n q v) (d : Bool) (i : Int) :
    Calls Try.prog 16 #[.pointer (some ⟨p, 0, none⟩), .bool d, .int .i64 i] w fun e w' => e = .returned (.tuple #[.string ((q d i).headD ⟨#[]⟩), .bool (decide (0 < (q d i).length))]) ∧ WentR T w p n (updQ q d i (q d i).tail) w' := by
  have HH := Aside0.mk h
  obtain ⟨l0, HQ⟩ : ∃ l0, Aside0 (q d i = l0) := ⟨_, ⟨rfl⟩⟩
  have hn := h.n16
  go_enter Try.func16, Try.ntmps16
  go_wp2_with fail
  refine (lenR T p n q v w HH.out d i).mono ?_
  rintro e w1 ⟨rfl, rfl⟩
  rw [HQ.out]
  cases l0 with
  | nil =>
    have HS : Aside0 (updQ q d i ([] : List ByteArray).tail = q) := ⟨upd_nil HQ.out⟩
    clear h
    go_wp2
    go_ret2
    rw [HQ.out]
    refine ⟨rfl, ?_⟩
    rw [HS.out]
    exact WentR.still HH.out (Below.refl _ _)
  | cons s l =>
    have hin : 0 ≤ i ∧ i < (n : Int) := by
      by_cases hin : 0 ≤ i ∧ i < (n : Int)
      · exact hin
      · have := h.out d i hin
        rw [HQ.out] at this
        cases this
    obtain ⟨k, rfl⟩ : ∃ k : Nat, i = (k : Int) := ⟨i.toNat, by omega⟩
    have hk : k < n := by omega
    have hk16 : k < 16 := by omega
    have hki : (k : Int) < 16 := by omega
    have hrow := h.rows d k hk16
    obtain ⟨hcell, hfr⟩ := h.cell d k hk16
    obtain ⟨A, cp, hv, _, _⟩ := hrow.shape
    have hsh := h.short d k
    have hss := h.sizes d k
    rw [HQ.out] at hsh hss
    rw [hv, HQ.out] at hrow
    rw [hv, HQ.out] at hcell
    obtain ⟨_, g, o, rfl, hg1, hgf, hglt, hgT⟩ := row_head hrow
    have ho' := row_tail hrow
    have HV := Aside0.mk hv
    have hset := h.set d k hk _ l ho' (fun j hj => by rw [hv]; split at hj <;> exact hj) (by have : (s :: l).length = l.length + 1 := rfl; omega) (fun x hx => hss x (List.mem_cons_of_mem _ hx))
    have HSET := Aside0.mk hset
    have HKB : Aside0 (Kb T w (w.setCell ⟨p, off d k, none⟩ (Value.slice (if cp = 1 then some ⟨g, o, none⟩ else some ⟨g, o + 1, none⟩) l.length (cp - 1)))) := ⟨(Kb.refl T w).setCell (p := ⟨p, off d k, none⟩) (fun _ => h.tp) _⟩
    have h1l : (1 : Int) ≤ (l.length : Int) + 1 := by omega
    have hl0 : (s :: l).length = l.length + 1 := rfl
    rw [hl0] at hcell
    clear hset ho' hrow hv h hss
    cases d
    · have hc : w.cell? ⟨p, 17 + k, none⟩ = some (.slice (some ⟨g, o, none⟩) (l.length + 1) cp) := by simpa [off] using hcell
      have hf : w.frozen? ⟨p, 17 + k, none⟩ = false := by simpa [off] using hfr
      have HS2 : Aside0 (WentR T w p n (updQ q false k l) ((w.setCell ⟨p, 17 + k, none⟩ (Value.slice (if cp = 1 then some ⟨g, o, none⟩ else some ⟨g, o + 1, none⟩) l.length (cp - 1))).drew)) := ⟨T, _, HSET.out.same (fun _ _ => rfl) (Nat.le_refl _), HKB.out.drew, fun k hk => Or.inl hk⟩
      clear hcell hfr HSET HKB
      by_cases hcp : cp = 1
      · subst hcp
        rw [if_pos rfl] at HS2
        go_wp2_with fail
        go_region
        all_goals
          go_wp2
          go_ret2
          rw [HQ.out]
          exact ⟨rfl, HS2.out⟩
      · rw [if_neg hcp] at HS2
        go_wp2_with fail
        go_region
        all_goals
          go_wp2
          go_ret2
          rw [HQ.out]
          exact ⟨rfl, HS2.out⟩
    · have hc : w.cell? ⟨p, 1 + k, none⟩ = some (.slice (some ⟨g, o, none⟩) (l.length + 1) cp) := by simpa [off] using hcell
      have hf : w.frozen? ⟨p, 1 + k, none⟩ = false := by simpa [off] using hfr
      have HS2 : Aside0 (WentR T w p n (updQ q true k l) ((w.setCell ⟨p, 1 + k, none⟩ (Value.slice (if cp = 1 then some ⟨g, o, none⟩ else some ⟨g, o + 1, none⟩) l.length (cp - 1))).drew)) := ⟨T, _, HSET.out.same (fun _ _ => rfl) (Nat.le_refl _), HKB.out.drew, fun k hk => Or.inl hk⟩
      clear hcell hfr HSET HKB
      by_cases hcp : cp = 1
      · subst hcp
        rw [if_pos rfl] at HS2
        go_wp2_with fail
        go_region
        all_goals
          go_wp2
          go_ret2
          rw [HQ.out]
          exact ⟨rfl, HS2.out⟩
      · rw [if_neg hcp] at HS2
        go_wp2_with fail
        go_region
        all_goals
          go_wp2
          go_ret2
          rw [HQ.out]
          exact ⟨rfl, HS2.out⟩
theorem clear_none {q : Bool → Int → List ByteArray} {i : Int} (h1 : q true i = []) (h2 : q false i = []) : clrQ q i 2 = q := by
  show updQ (updQ q true i []) false i [] = q
  rw [upd_nil h1, upd_nil h2]
set_option maxHeartbeats 4000000 in
set_option maxRecDepth 1000000 in
theorem clearR (T : Nat → Prop) (p n : Nat) (q : Bool → Int → List ByteArray) (v : Bool → Nat → Value) (w : World) (h : RefAt T w p n q v) (i : Int) :
    Calls Try.prog 20 #[.pointer (some ⟨p, 0, none⟩), .int .i64 i] w fun e w' => e = .returned (.int .i64 (clrN q i 2 : Int)) ∧ WentR T w p n (clrQ q i 2) w' := by
  have c0 := h.cell0
  have HH := Aside0.mk h
  have hn := h.n16
  by_cases h0 : i < 0
  · have q1 := h.out true i (by omega)
    have q2 := h.out false i (by omega)
    have HC := Aside0.mk (clear_none q1 q2)
    have HN : Aside0 (clrN q i 2 = 0) := ⟨by show (q true i).length + (q false i).length = 0; rw [q1, q2]; rfl⟩
    clear h q1 q2
    go_enter Try.func20, Try.ntmps20
    go_wp2
    go_ret
    rw [HC.out, HN.out]
    exact ⟨rfl, WentR.still HH.out (Below.refl _ _)⟩
  · by_cases h1 : (n : Int) ≤ i
    · have q1 := h.out true i (by omega)
      have q2 := h.out false i (by omega)
      have HC := Aside0.mk (clear_none q1 q2)
      have HN : Aside0 (clrN q i 2 = 0) := ⟨by show (q true i).length + (q false i).length = 0; rw [q1, q2]; rfl⟩
      clear h q1 q2
      go_enter Try.func20, Try.ntmps20
      go_wp2
      go_ret
      rw [HC.out, HN.out]
      exact ⟨rfl, WentR.still HH.out (Below.refl _ _)⟩
    · obtain ⟨k, rfl⟩ : ∃ k : Nat, i = (k : Int) := ⟨i.toNat, by omega⟩
      have hk : k < n := by omega
      have hk16 : k < 16 := by omega
      have hki : (k : Int) < 16 := by omega
      obtain ⟨hcell1, hfr1⟩ := h.cell true k hk16
      obtain ⟨hcell2, hfr2⟩ := h.cell false k hk16
      obtain ⟨A1, cp1, hv1, _, _⟩ := (h.rows true k hk16).shape
      obtain ⟨A2, cp2, hv2, _, _⟩ := (h.rows false k hk16).shape
      have hs1 := h.short true k
      have hs2 := h.short false k
      rw [hv1] at hcell1
      rw [hv2] at hcell2
      have hc1 : w.cell? ⟨p, 1 + k, none⟩ = some (.slice A1 (q true k).length cp1) := by simpa [off] using hcell1
      have hc2 : w.cell? ⟨p, 17 + k, none⟩ = some (.slice A2 (q false k).length cp2) := by simpa [off] using hcell2
      have hf1 : w.frozen? ⟨p, 1 + k, none⟩ = false := by simpa [off] using hfr1
      have hf2 : w.frozen? ⟨p, 17 + k, none⟩ = false := by simpa [off] using hfr2
      have h3 := h.set true k hk (.slice none 0 0) [] (ownsAt_nil _ _ _ _) (fun j hj => by simp [Value.ownBlock] at hj) (Nat.zero_le _) (fun _ hx => (List.not_mem_nil hx).elim)
      have h4 := h3.set false k hk (.slice none 0 0) [] (ownsAt_nil _ _ _ _) (fun j hj => by simp [Value.ownBlock] at hj) (Nat.zero_le _) (fun _ hx => (List.not_mem_nil hx).elim)
      have k4 : Kb T w ((w.setCell ⟨p, off true k, none⟩ (.slice none 0 0)).setCell ⟨p, off false k, none⟩ (.slice none 0 0)) := ((Kb.refl T w).setCell (p := ⟨p, off true k, none⟩) (fun _ => h.tp) _).setCell (p := ⟨p, off false k, none⟩) (fun _ => h.tp) _
      have HW : Aside0 (∀ m, WentR T w p n (clrQ q k 2) (((w.drewN m).setCell ⟨p, 1 + k, none⟩ (.slice none 0 0)).setCell ⟨p, 17 + k, none⟩ (.slice none 0 0))) := ⟨fun m => by
        have h3 := (h.below (pw_below_drewN (Below.refl _ _) m)).set true k hk (.slice none 0 0) [] (ownsAt_nil _ _ _ _) (fun j hj => by simp [Value.ownBlock] at hj) (Nat.zero_le _) (fun _ hx => (List.not_mem_nil hx).elim)
        have h4 := h3.set false k hk (.slice none 0 0) [] (ownsAt_nil _ _ _ _) (fun j hj => by simp [Value.ownBlock] at hj) (Nat.zero_le _) (fun _ hx => (List.not_mem_nil hx).elim)
        have k4 := (((Kb.refl T w).drewN m).setCell (p := ⟨p, off true k, none⟩) (fun _ => h.tp) (.slice none 0 0)).setCell (p := ⟨p, off false k, none⟩) (fun _ => h.tp) (.slice none 0 0)
        exact ⟨T, updV (updV v true k (.slice none 0 0)) false k (.slice none 0 0), by show RefAt T _ p n (updQ (updQ q true k []) false k []) _; simpa [off] using h4, by simpa [off] using k4, fun k hk => Or.inl hk⟩⟩
      have HN : Aside0 ((clrN q k 2 : Int) = (q true k).length + (q false k).length) := ⟨by show (((q true k).length + (q false k).length : Nat) : Int) = _; omega⟩
      clear h hcell1 hcell2 hfr1 hfr2 hv1 hv2 h3 h4 k4
      go_enter Try.func20, Try.ntmps20
      go_wp2_with fail
      go_quiet (fail)
      go_wp2
      go_ret
      rw [HN.out]
      exact ⟨rfl, HW.out _⟩
end Go.Proofs.Ytfopcnabcmdclaa.Bs
