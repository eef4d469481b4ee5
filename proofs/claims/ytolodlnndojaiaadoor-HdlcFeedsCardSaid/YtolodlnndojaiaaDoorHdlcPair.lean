/- The program's decoder and the document's, fed with the same bits: what they meet is the same. -/
import Derived.Test.YtolodlnndojaiaaDoorHdlcRefF
import Derived.Test.YtolodlnndojaiaaDoorHdlcLaw
import Derived.RegionTactic
import Derived.BigRegion
namespace Go.Proofs.YtolodlnndojaiaaDoor.Hd
open Go.RowKit Go.Proofs.YtolodlnndojaiaaDoorW.PrintWords Go.Proofs.YtolodlnndojaiaaDoorW.PrintLast Go.Proofs.YtolodlnndojaiaaDoorW.PrintMore Go.Proofs.YtolodlnndojaiaaDoor.Str Go.Proofs.YtolodlnndojaiaaDoor.Bits Go.Proofs.YtolodlnndojaiaaDoor.Oct
set_option linter.unusedVariables false
def Evs3 (u : Value) (evs : List Ev) (w : World) : Prop := ∃ B, w.ownsRow B 59 2 u evs.length (evCells evs)
def Two (w0 : World) (d1 d2 n : Nat) (w : World) : Prop :=
  ∃ (st : St) (rs : RSt) (v1 v2 : Value), DecAt w0.heap.size w d1 v1 st ∧ RefAt w0.heap.size w d2 v2 rs ∧ (∀ j, v1.ownBlock = some j → v2.ownBlock ≠ some j) ∧ Rel st rs ∧ st.ok ∧ st.ones ≤ n ∧ rs.since.length ≤ n ∧ Below w0.heap.size w0 w ∧ w0.heap.size ≤ d1 ∧ w0.heap.size ≤ d2
def Half (w0 : World) (d1 d2 n : Nat) (b : List UInt8) (u : Value) (w : World) : Prop :=
  ∃ (st s' : St) (rs : RSt) (v1 v2 : Value) (E : List Ev), DecAt w0.heap.size w d1 v1 s' ∧ RefAt w0.heap.size w d2 v2 rs ∧ (∀ j, v1.ownBlock = some j → v2.ownBlock ≠ some j) ∧ feedL st b = (s', E) ∧ Rel st rs ∧ s'.ok ∧ s'.ones ≤ n + b.length ∧ rs.since.length ≤ n ∧ rs.ones ≤ n ∧ Evs u E w ∧ Below w0.heap.size w0 w ∧ w0.heap.size ≤ d1 ∧ w0.heap.size ≤ d2
def Full (w0 : World) (d1 d2 n : Nat) (u u3 : Value) (w : World) : Prop := Two w0 d1 d2 n w ∧ ∃ E, Evs u E w ∧ Evs3 u3 E w
theorem DecAt.kept' {B d : Nat} {v : Value} {s : St} {w w' : World} {T : Nat → Prop} (h : DecAt B w d v s) (hk : Kb T w w') (hd : ¬ T d) (hv : ∀ j, v.ownBlock = some j → ¬ T j) : DecAt B w' d v s :=
  ⟨(hk.block d h.lt hd).trans h.1, hk.row h.2 hv⟩
theorem RefAt.kept' {B d : Nat} {v : Value} {s : RSt} {w w' : World} {T : Nat → Prop} (h : RefAt B w d v s) (hk : Kb T w w') (hd : ¬ T d) (hv : ∀ j, v.ownBlock = some j → ¬ T j) : RefAt B w' d v s :=
  ⟨(hk.block d h.lt hd).trans h.1, hk.row h.2 hv⟩
theorem Two.kept {w0 w w' : World} {d1 d2 n : Nat} (h : Two w0 d1 d2 n w) (hb : Below w.heap.size w w') : Two w0 d1 d2 n w' := by
  obtain ⟨st, rs, v1, v2, h1, h2, h3, h4, h5, h6, h7, h8, h9, h10⟩ := h
  have hk := (Kb.refl (fun _ => False) w).ofBelow hb
  exact ⟨st, rs, v1, v2, h1.kept' hk (fun h => h) (fun _ _ h => h), h2.kept' hk (fun h => h) (fun _ _ h => h), h3, h4, h5, h6, h7, h8.trans (hb.mono (by have := h1.lt; omega)), h9, h10⟩
theorem Two.mono {w0 w : World} {d1 d2 n m : Nat} (h : Two w0 d1 d2 n w) (hm : n ≤ m) : Two w0 d1 d2 m w := by
  obtain ⟨st, rs, v1, v2, h1, h2, h3, h4, h5, h6, h7, h8, h9, h10⟩ := h
  exact ⟨st, rs, v1, v2, h1, h2, h3, h4, h5, by omega, by omega, h8, h9, h10⟩
theorem Two.ones {w0 w : World} {d1 d2 n : Nat} (h : Two w0 d1 d2 n w) : ∃ (on : Nat) (B : Nat) (v : Value) (s : St), DecAt B w d1 v s ∧ s.ones = on ∧ on ≤ n ∧ w.cell? ⟨d2, 2, none⟩ = some (.int .i64 (on : Int)) := by
  obtain ⟨st, rs, v1, v2, h1, h2, h3, h4, h5, h6, h7, h8, h9, h10⟩ := h
  refine ⟨st.ones, _, v1, st, h1, rfl, h6, ?_⟩
  rw [Lib.cell_of_heap h2.1, h4.2.1]
  rfl
theorem Two.below {w0 w : World} {d1 d2 n : Nat} (h : Two w0 d1 d2 n w) : Below w0.heap.size w0 w := by
  obtain ⟨st, rs, v1, v2, h1, h2, h3, h4, h5, h6, h7, h8, h9, h10⟩ := h
  exact h8
theorem heap_other {w : World} {d1 d2 : Nat} {cs cs' : Array Value} {T T' : TypeId} {m m' : Nat × Nat} (h : w.heap[d1]? = some (.cells cs T m)) (h' : w.heap[d2]? = some (.cells cs' T' m')) (hne : T ≠ T') : d2 ≠ d1 := by
  rintro rfl
  rw [h] at h'
  injection h' with h'
  injection h' with _ h2 _
  exact hne h2
theorem two_feed (w0 : World) (d1 d2 n : Nat) (b : ByteArray) (w : World) (h : Two w0 d1 d2 n w) (hn : n ≤ 1099511627776) (hs : b.size ≤ 1099511627776) :
    Calls Tryd.prog 13 #[.pointer (some ⟨d1, 0, none⟩), .string b] w fun e w' => ∃ u, e = .returned u ∧ Half w0 d1 d2 n (L b) u w' := by
  obtain ⟨st, rs, v1, v2, h1, h2, h3, h4, h5, h6, h7, h8, h9, h10⟩ := h
  have hl1 := h1.lt
  have hl2 := h2.lt
  refine (feed w0.heap.size d1 v1 st b w h1 (by omega) h5 (by omega) hs).mono ?_
  rintro e w' ⟨u, he, hr, hw⟩
  obtain ⟨v', k1, k2, k3⟩ := hw
  have hne := heap_other h1.1 h2.1 (by decide)
  refine ⟨u, he, st, (feedL st (L b)).1, rs, v', v2, (feedL st (L b)).2, k1, h2.kept' k3 ?_ ?_, ?_, rfl, h4, (feedL_ok st (L b) h5).1, by have := (feedL_ok st (L b) h5).2; omega, h7, by have := h4.2.1; omega, ⟨_, hr⟩, h8.trans (k3.below (by omega) ?_), h9, h10⟩
  · rintro (t | t)
    · exact hne t
    · exact own_ne h1.2 h2.1 (by decide) d2 t rfl
  · rintro j hj (t | t)
    · exact own_ne h2.2 h1.1 (by decide) j hj t
    · exact h3 j t hj
  · intro j hj e2
    rcases k2 j hj with t | t
    · exact h3 j t e2
    · have := (h2.2.lt j e2).2
      omega
  · rintro k (t | t)
    · omega
    · exact (h1.2.lt k t).1
theorem two_ref (w0 : World) (d1 d2 n : Nat) (b : ByteArray) (u : Value) (w : World) (h : Half w0 d1 d2 n (L b) u w) (hn : n ≤ 1099511627776) (hs : b.size ≤ 1099511627776) :
    Calls Tryd.prog 17 #[.pointer (some ⟨d2, 0, none⟩), .string b] w fun e w' => ∃ u3, e = .returned u3 ∧ Full w0 d1 d2 (n + b.size) u u3 w' := by
  obtain ⟨st, s', rs, v1, v2, E, h1, h2, h3, hf, h4, h5, h6, h7, h7', hev, h8, h9, h10⟩ := h
  have hl1 := h1.lt
  have hl2 := h2.lt
  have hrel := rel_feed st rs (L b) h4
  rw [hf] at hrel
  obtain ⟨hr1, hr2⟩ := hrel
  dsimp only at hr1 hr2
  have hbd := feedR_bound rs (L b) (L b).length (Nat.le_refl _)
  rw [List.take_of_length_le (Nat.le_refl _)] at hbd
  have hbs := size_L b
  refine (feedRW w0.heap.size d2 v2 rs b w h2 (by omega) (by omega) (by omega) hs).mono ?_
  rintro e w' ⟨u3, he, hr, hw⟩
  obtain ⟨v', k1, k2, k3⟩ := hw
  have hne := heap_other h2.1 h1.1 (by decide)
  obtain ⟨B, hev⟩ := hev
  refine ⟨u3, he, ⟨s', (feedR rs (L b)).1, v1, v', h1.kept' k3 ?_ ?_, k1, ?_, hr1, h5, by omega, by omega, h8.trans (k3.below (by omega) ?_), h9, h10⟩, E, ⟨B, k3.row hev ?_⟩, ⟨_, by rw [hr2]; exact hr⟩⟩
  · rintro (t | t)
    · exact hne t
    · exact own_ne h2.2 h1.1 (by decide) d1 t rfl
  · rintro j hj (t | t)
    · exact own_ne h1.2 h2.1 (by decide) j hj t
    · exact h3 j hj t
  · intro j hj e2
    rcases k2 j e2 with t | t
    · exact h3 j hj t
    · have := (h1.2.lt j hj).2
      omega
  · rintro k (t | t)
    · omega
    · exact (h2.2.lt k t).1
  · rintro j hj (t | t)
    · exact own_ne hev h2.1 (by decide) j hj t
    · exact own_apart h2.2 hev (by decide) j t hj
theorem Evs3.shape {u : Value} {evs : List Ev} {w : World} (h : Evs3 u evs w) (hn : evs ≠ []) : ∃ g c, u = .slice (some ⟨g, 0, none⟩) evs.length c ∧ evs.length ≤ c ∧ ∀ j (hj : j < evs.length), w.cell? ⟨g, 2 * j, none⟩ = some (.int .i64 evs[j].1) ∧ w.cell? ⟨g, 2 * j + 1, none⟩ = some (.string ⟨evs[j].2.toArray⟩) := by
  obtain ⟨B, hr⟩ := h
  rcases hr.2 with ⟨_, h1⟩ | ⟨g, cap, cur, rfl, _, _, h2, _⟩
  · exact absurd (List.eq_nil_of_length_eq_zero h1) hn
  · refine ⟨g, cap, rfl, h2, fun j hj => ?_⟩
    have h3 := hr.cells (g := g) rfl
    obtain ⟨g1, g2⟩ := evCells_get evs j hj
    have e : ∀ k, (⟨g, 0, none⟩ : Addr).add k = ⟨g, k, none⟩ := fun k => by unfold Addr.add; split <;> simp_all
    have a1 := h3 _ _ g1
    have a2 := h3 _ _ g2
    rw [e] at a1 a2
    exact ⟨a1, a2⟩
theorem row_len {w : World} {B z n : Nat} {e : TypeId} {x : Value} {xs : List Value} (hr : w.ownsRow B e z x n xs) : ∃ A c, x = .slice A n c ∧ n ≤ maxLen := by
  rcases hr.2 with ⟨rfl, h0⟩ | ⟨g, cap, cur, rfl, _, _, h1, h2, _⟩
  · exact ⟨none, 0, by rw [h0], by rw [h0]; exact Nat.zero_le _⟩
  · exact ⟨_, _, rfl, by omega⟩
set_option maxHeartbeats 4000000 in
set_option maxRecDepth 1000000 in
theorem same (u u3 : Value) (E : List Ev) (w : World) (h1 : Evs u E w) (h3 : Evs3 u3 E w) :
    Calls Tryd.prog 16 #[u, u3] w fun e w' => e = .returned (.bool true) ∧ Below w.heap.size w w' := by
  obtain ⟨A1, k1, rfl, hm⟩ : ∃ A c, u = .slice A E.length c ∧ E.length ≤ maxLen := by obtain ⟨_, hr⟩ := h1; exact row_len hr
  obtain ⟨A2, k2, rfl, _⟩ : ∃ A c, u3 = .slice A E.length c ∧ E.length ≤ maxLen := by obtain ⟨_, hr⟩ := h3; exact row_len hr
  unfold maxLen at hm
  have HE1 := Aside0.mk h1
  have HE2 := Aside0.mk h3
  clear h1 h3
  go_enter Tryd.func16, Tryd.ntmps16
  go_wp2
  go_loopw [13] (fun x wr => ∃ y : Nat, y ≤ E.length ∧ x = .int .i64 y ∧ Aside0 (Evs (.slice A1 E.length k1) E wr) ∧ Aside0 (Evs3 (.slice A2 E.length k2) E wr) ∧ Below w.heap.size w wr) (fun x _ => E.length - (intOf x).toNat)
  case atStart => exact ⟨0, Nat.zero_le _, rfl, HE1, HE2, Below.refl _ _⟩
  case round =>
    clear HE1 HE2
    obtain ⟨y, hy, rfl, HE1, HE2, hb7⟩ := hrel
    by_cases hlt : y < E.length
    · have hne : E ≠ [] := by intro h; rw [h] at hlt; simp at hlt
      obtain ⟨g1, q1, hu1, hq1, hc1⟩ := HE1.out.shape hne
      obtain ⟨g2, q2, hu2, hq2, hc2⟩ := HE2.out.shape hne
      simp at hu1 hu2
      obtain ⟨rfl, rfl⟩ := hu1
      obtain ⟨rfl, rfl⟩ := hu2
      obtain ⟨d1, d2⟩ := hc1 y hlt
      obtain ⟨d3, d4⟩ := hc2 y hlt
      generalize E[y] = ev at d1 d2 d3 d4
      obtain ⟨k1, l1⟩ := ev
      rw [Nat.mul_comm 2 y] at d1 d2 d3 d4
      clear hc1 hc2 hne
      go_wp2_with fail
      go_region
      all_goals go_wp2
      all_goals exact ⟨⟨y + 1, by omega, by go_num, ⟨HE1.out⟩, ⟨HE2.out⟩, hb7.drew⟩, by simp [intOf]; omega⟩
    · go_wp2
      go_ret
      exact ⟨rfl, hb7⟩
end Go.Proofs.YtolodlnndojaiaaDoor.Hd
