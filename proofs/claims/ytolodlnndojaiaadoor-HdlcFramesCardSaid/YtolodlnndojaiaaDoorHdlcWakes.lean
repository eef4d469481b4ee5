/- The laws of hdlc: what the document fixes holds; words on a decoder between calls. -/
import Derived.Test.YtolodlnndojaiaaDoorHdlcP
import Derived.Test.YtolodlnndojaiaaDoorHdlcD
namespace Go.Proofs.YtolodlnndojaiaaDoor.Hd
open Go.RowKit Go.Proofs.YtolodlnndojaiaaDoorW.PrintWords Go.Proofs.YtolodlnndojaiaaDoorW.PrintLast Go.Proofs.YtolodlnndojaiaaDoorW.PrintMore Go.Proofs.YtolodlnndojaiaaDoor.Str Go.Proofs.YtolodlnndojaiaaDoor.Bits Go.Proofs.YtolodlnndojaiaaDoor.Oct Go.Proofs.YtolodlnndojaiaaDoor.OctW
set_option linter.unusedVariables false
theorem DecAt.kept {B d : Nat} {v : Value} {s : St} {w w' : World} (h : DecAt B w d v s) (hb : Below w.heap.size w w') : DecAt B w' d v s := by
  have hl := h.lt
  obtain ⟨h1, h2⟩ := h
  have hk := (Kb.refl (fun _ => False) w).ofBelow hb
  exact ⟨(hk.block d hl (fun h => h.elim)).trans h1, hk.row h2 (fun _ _ h => h.elim)⟩
theorem row_kept {w w' : World} {B z n : Nat} {e : TypeId} {v : Value} {xs : List Value} (h : w.ownsRow B e z v n xs) (hb : Below w.heap.size w w') : w'.ownsRow B e z v n xs :=
  ((Kb.refl (fun _ => False) w).ofBelow hb).row h (fun _ _ h => h.elim)
/-- A decoder of the call's own is in state s, nothing below B is turned. -/
def Dec (B d : Nat) (s : St) (w0 w : World) : Prop := B ≤ d ∧ Below B w0 w ∧ ∃ v, DecAt B w d v s
theorem Dec.new (w0 w : World) (B : Nat) (h : Below B w0 w) (hB : B ≤ w.heap.size) : Dec B w.heap.size St.new w0 (w.alloc (.cells #[.slice none 0 0, .bool false, .int .i64 0] 55)) :=
  ⟨hB, h.alloc hB _, _, new_dec w B⟩
theorem Dec.kept {B d : Nat} {s : St} {w0 w w' : World} (h : Dec B d s w0 w) (hb : Below w.heap.size w w') : Dec B d s w0 w' := by
  obtain ⟨h1, h2, v, h3⟩ := h
  exact ⟨h1, (h2.trans (hb.mono (by have := h3.lt; omega))), v, h3.kept hb⟩
theorem Dec.le {B d : Nat} {s : St} {w0 w : World} (h : Dec B d s w0 w) : B ≤ w.heap.size := by
  obtain ⟨h1, h2, v, h3⟩ := h
  have := h3.lt
  omega
theorem went_below {B d : Nat} {v : Value} {s s' : St} {w w' : World} (h : DecAt B w d v s) (hB : B ≤ d) (hw : Went B d v s' w w') : Below B w w' := by
  obtain ⟨v', h1, h2, h3⟩ := hw
  refine h3.below (by have := h.lt; omega) (fun k hk => ?_)
  rcases hk with rfl | hk
  · exact hB
  · exact (h.2.lt k hk).1
/-- The events that a call hands back. -/
def Evs (u : Value) (evs : List Ev) (w : World) : Prop := ∃ B, w.ownsRow B 31 2 u evs.length (evCells evs)
/-- Feed, for a law with one decoder. -/
theorem feed_dec (B d : Nat) (s s' : St) (evs : List Ev) (b : ByteArray) (w0 w : World) (h : Dec B d s w0 w) (hok : s.ok) (hon : s.ones ≤ 1099511627776) (hs : b.size ≤ 1099511627776) (hf : feedL s (L b) = (s', evs)) :
    Calls Tryd.prog 13 #[.pointer (some ⟨d, 0, none⟩), .string b] w fun e w' => ∃ u, e = .returned u ∧ Evs u evs w' ∧ Dec B d s' w0 w' := by
  obtain ⟨h1, h2, v, h3⟩ := h
  refine (feed B d v s b w h3 (by have := h3.lt; omega) hok hon hs).mono ?_
  rintro e w' ⟨u, he, hr, hw⟩
  rw [hf] at hr hw
  have hb := went_below h3 h1 hw
  obtain ⟨v', k1, k2, k3⟩ := hw
  exact ⟨u, he, ⟨_, hr⟩, h1, h2.trans hb, v', k1⟩
theorem evCells_get (evs : List Ev) (j : Nat) (h : j < evs.length) : (evCells evs)[2 * j]? = some (.int .i64 evs[j].1) ∧ (evCells evs)[2 * j + 1]? = some (.string ⟨evs[j].2.toArray⟩) := by
  induction evs generalizing j with
  | nil => simp at h
  | cons e evs ih =>
    have ec : evCells (e :: evs) = .int .i64 e.1 :: .string ⟨e.2.toArray⟩ :: evCells evs := rfl
    rw [ec]
    cases j with
    | zero => exact ⟨rfl, rfl⟩
    | succ j =>
      have := ih j (by simpa using h)
      rw [show 2 * (j + 1) = 2 * j + 1 + 1 from by omega]
      simpa using this
theorem Evs.shape {u : Value} {evs : List Ev} {w : World} (h : Evs u evs w) (hn : evs ≠ []) : ∃ g c, u = .slice (some ⟨g, 0, none⟩) evs.length c ∧ evs.length ≤ c ∧ ∀ j (hj : j < evs.length), w.cell? ⟨g, 2 * j, none⟩ = some (.int .i64 evs[j].1) ∧ w.cell? ⟨g, 2 * j + 1, none⟩ = some (.string ⟨evs[j].2.toArray⟩) := by
  obtain ⟨B, hr⟩ := h
  rcases hr.2 with ⟨_, h1⟩ | ⟨g, cap, cur, rfl, _, _, h2, _⟩
  · exact absurd (List.eq_nil_of_length_eq_zero h1) hn
  · refine ⟨g, cap, rfl, h2, fun j hj => ?_⟩
    have h3 := hr.cells (g := g) rfl
    obtain ⟨g1, g2⟩ := evCells_get evs j hj
    have e : ∀ k, (⟨g, 0, none⟩ : Addr).add k = ⟨g, k, none⟩ := fun k => by unfold Addr.add; split <;> simp_all
    have a1 := h3 _ _ g1
    have a2 := h3 _ _ g2
    rw [e] at a1 a2
    exact ⟨a1, a2⟩
theorem Evs.nil {u : Value} {w : World} (h : Evs u [] w) : ∃ A c, u = .slice A 0 c := by
  obtain ⟨B, hr⟩ := h
  rcases hr.2 with ⟨rfl, _⟩ | ⟨g, cap, cur, rfl, _⟩
  · exact ⟨_, _, rfl⟩
  · exact ⟨_, _, rfl⟩
theorem new_ok : St.new.ok := Nat.zero_le _
theorem wake_enc : encL [126] = [48,49,49,49,49,49,49,48,48,49,49,49,49,49,48,49,48,48,49,49,49,49,49,49,48] := by decide +kernel
set_option maxHeartbeats 4000000 in
set_option maxRecDepth 1000000 in
theorem wakes (w : World) : Calls Tryd.prog 15 #[] w fun e w' => e = .returned (.bool true) ∧ Below w.heap.size w w' := by
  have hE : (⟨(encL (L (⟨#[126]⟩ : ByteArray))).toArray⟩ : ByteArray) = ⟨#[48,49,49,49,49,49,49,48,48,49,49,49,49,49,48,49,48,48,49,49,49,49,49,49,48]⟩ := by
    rw [show L (⟨#[126]⟩ : ByteArray) = [126] from rfl, wake_enc]
  have hF : feedL St.new (L (⟨#[48,49,49,49,49,49,49,48,48,49,49,49,49,49,48,49,48,48,49,49,49,49,49,49,48]⟩ : ByteArray)) = (⟨[], true, 0⟩, [(0, [126])]) := by
    have := feed_one St.new ready_new [126] (by decide) (by decide)
    rw [wake_enc] at this
    exact this
  have HE := Aside0.mk hE
  have HF := Aside0.mk hF
  clear hE hF
  go_enter Tryd.func15, Tryd.ntmps15
  go_wp2_with fail
  refine (new w).mono ?_
  rintro e w1 ⟨rfl, hw1⟩
  have hd := Dec.new w w w.heap.size (Below.refl _ _) (Nat.le_refl _)
  rw [← hw1] at hd
  clear hw1
  have HD := Aside0.mk hd
  clear hd
  go_wp2_with fail
  refine (encode _ _ (by decide)).mono ?_
  rintro e w2 ⟨he, hb⟩
  rw [HE.out] at he
  subst he
  have HD2 := Aside0.mk (HD.out.kept hb)
  clear hb HD
  go_wp2_with fail
  refine (feed_dec _ _ _ _ _ _ _ _ HD2.out new_ok (by decide) (by decide) HF.out).mono ?_
  rintro e w3 ⟨u, rfl, hev, hd⟩
  obtain ⟨g, c, rfl, hc, hcl⟩ := hev.shape (by simp)
  have HEV := Aside0.mk hev
  have HD3 := Aside0.mk hd
  clear hd hev HD2 hcl
  go_wp2_with fail
  refine (encode _ _ (by decide)).mono ?_
  rintro e w4 ⟨he, hb⟩
  rw [HE.out] at he
  subst he
  have HD4 := Aside0.mk (HD3.out.kept hb)
  obtain ⟨B, hrow⟩ := HEV.out
  have hev : Evs _ _ w4 := ⟨B, row_kept hrow hb⟩
  obtain ⟨g', c', hu, hc', hcl⟩ := hev.shape (by simp)
  simp at hu
  obtain ⟨rfl, rfl⟩ := hu
  have c0 := (hcl 0 (by simp)).1
  have c1 := (hcl 0 (by simp)).2
  clear hcl hev hrow hb HD3 HEV
  go_wp2
  go_ret
  exact ⟨rfl, HD4.out.2.1⟩
end Go.Proofs.YtolodlnndojaiaaDoor.Hd
