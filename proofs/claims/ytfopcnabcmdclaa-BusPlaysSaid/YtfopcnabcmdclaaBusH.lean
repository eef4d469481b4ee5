/- A bus between calls, for the laws: what it has; blocks that are not its own stand as they were. No condition. -/
import Derived.Test.YtfopcnabcmdclaaBusC
namespace Go.Proofs.Ytfopcnabcmdclaa.Bs
open Go Go.RowKit Go.Proofs.YtfopcnabcmdclaaW.PrintWords Go.Proofs.YtfopcnabcmdclaaW.PrintLast Go.Proofs.YtfopcnabcmdclaaW.PrintMore Go.Proofs.Ytfopcnabcmdclaa.Str Go.Proofs.Ytfopcnabcmdclaa.Bits Go.Proofs.Ytfopcnabcmdclaa.Mp Go.Proofs.Ytfopcnabcmdclaa.Ra
set_option linter.unusedVariables false
/-- A bus whose blocks are none of F. -/
def Has (F : Nat → Prop) (w : World) (p mb c n : Nat) (q : Bool → Int → List ByteArray) : Prop :=
  ∃ T c' f, BusAt T w p mb c' n q f ∧ c' ≤ c ∧ ∀ k, F k → ¬ T k ∧ k < w.heap.size
theorem Kb.mono {T T' : Nat → Prop} {w w' : World} (h : Kb T w w') (hT : ∀ k, T k → T' k) : Kb T' w w' := ⟨h.os, h.tape, h.output, h.size, fun k hk hn => h.block k hk (fun t => hn (hT k t))⟩
theorem Has.went {F T : Nat → Prop} {w w' : World} {p mb c c1 n : Nat} {q' : Bool → Int → List ByteArray} (hF : ∀ k, F k → ¬ T k ∧ k < w.heap.size) (h : Went T w p mb c1 n q' w') (hc : c1 ≤ c) : Has F w' p mb c n q' ∧ Kb (fun k => ¬ F k) w w' := by
  obtain ⟨T', c', f', hb, hc', hk, hT'⟩ := h
  refine ⟨⟨T', c', f', hb, by omega, fun k hFk => ⟨fun ht => ?_, ?_⟩⟩, hk.mono (fun k hT hFk => (hF k hFk).1 hT)⟩
  · rcases hT' k ht with h | h
    · exact (hF k hFk).1 h
    · have := (hF k hFk).2; omega
  · have := (hF k hFk).2
    have := hk.size
    omega
theorem Has.kept {F : Nat → Prop} {w w' : World} {p mb c n : Nat} {q : Bool → Int → List ByteArray} (h : Has F w p mb c n q) (hk : Kb F w w') : Has F w' p mb c n q := by
  obtain ⟨T, c', f, hb, hc, hF⟩ := h
  exact ⟨T, c', f, hb.far hk (fun k ht hf => (hF k hf).1 ht), hc, fun k hf => ⟨(hF k hf).1, Nat.lt_of_lt_of_le (hF k hf).2 hk.size⟩⟩
theorem Has.below {F : Nat → Prop} {w w' : World} {p mb c n : Nat} {q : Bool → Int → List ByteArray} (h : Has F w p mb c n q) (hb : Below w.heap.size w w') : Has F w' p mb c n q := h.kept ((Kb.refl F w).ofBelow hb)
theorem Has.le {F : Nat → Prop} {w : World} {p mb c c' n : Nat} {q : Bool → Int → List ByteArray} (h : Has F w p mb c n q) (hc : c ≤ c') : Has F w p mb c' n q := by
  obtain ⟨T, c1, f, hb, hc1, hF⟩ := h
  exact ⟨T, c1, f, hb, by omega, hF⟩
/-- A new block is none of its own. -/
theorem Has.more {F F' : Nat → Prop} {w w' : World} {p mb c n : Nat} {q : Bool → Int → List ByteArray} (h : Has F w p mb c n q) (hb : Below w.heap.size w w') (hF' : ∀ k, F' k → F k ∨ (w.heap.size ≤ k ∧ k < w'.heap.size)) : Has F' w' p mb c n q := by
  obtain ⟨T, c', f, hB, hc, hF⟩ := h
  refine ⟨T, c', f, hB.below hb, hc, fun k hk => ?_⟩
  rcases hF' k hk with h1 | h1
  · exact ⟨(hF k h1).1, Nat.lt_of_lt_of_le (hF k h1).2 hb.size⟩
  · exact ⟨fun ht => by have := hB.lt k ht; omega, h1.2⟩
theorem newH (n : Int) (w : World) :
    Calls Try.prog 7 #[.int .i64 n] w fun e w' => e = .returned (.pointer (some ⟨w.heap.size + 1, 0, none⟩)) ∧ Has (fun k => k < w.heap.size) w' (w.heap.size + 1) w.heap.size 0 (size20 n) (fun _ _ => []) ∧ Below w.heap.size w w' := by
  refine (newW n w).mono ?_
  rintro e w' ⟨he, hw⟩
  obtain ⟨h1, h2⟩ := Has.went (F := fun k => k < w.heap.size) (fun k hk => ⟨id, hk⟩) hw (Nat.le_refl _)
  exact ⟨he, h1, h2.below (Nat.le_refl _) (fun k hk => by omega)⟩
theorem sizeH (F : Nat → Prop) (p mb c n : Nat) (q : Bool → Int → List ByteArray) (w : World) (h : Has F w p mb c n q) :
    Calls Try.prog 8 #[.pointer (some ⟨p, 0, none⟩)] w fun e w' => e = .returned (.int .i64 (n : Int)) ∧ w = w' := by
  obtain ⟨T, c', f, hb, hc, hF⟩ := h
  exact sizeW T p mb c' n q f w hb
theorem lenH (F : Nat → Prop) (p mb c n : Nat) (q : Bool → Int → List ByteArray) (w : World) (h : Has F w p mb c n q) (d : Bool) (i : Int) (hi : wfi i) :
    Calls Try.prog 13 #[.pointer (some ⟨p, 0, none⟩), .bool d, .int .i64 i] w fun e w' => e = .returned (.int .i64 ((q d i).length : Int)) ∧ w = w' := by
  obtain ⟨T, c', f, hb, hc, hF⟩ := h
  exact lenW T p mb c' n q f w hb d i hi
theorem downH (F : Nat → Prop) (p mb c n : Nat) (q : Bool → Int → List ByteArray) (w : World) (h : Has F w p mb c n q) (hcn : c ≤ 999999000) (s : ByteArray) (hs : s.size ≤ 9223372036854775807) :
    Calls Try.prog 10 #[.pointer (some ⟨p, 0, none⟩), .string s] w fun e w' => e = .returned (.int .i64 (downN q s n : Int)) ∧ Has F w' p mb (c + n) n (downQ q s n) ∧ Kb (fun k => ¬ F k) w w' := by
  obtain ⟨T, c', f, hb, hc0, hF⟩ := h
  have hn := hb.n16
  refine (downW T p mb c' n q f w hb (by omega) s hs).mono ?_
  rintro e w' ⟨he, hw⟩
  obtain ⟨h1, h2⟩ := Has.went (c := c + n) hF hw (by omega)
  exact ⟨he, h1, h2⟩
theorem upH (F : Nat → Prop) (p mb c n : Nat) (q : Bool → Int → List ByteArray) (w : World) (h : Has F w p mb c n q) (hcn : c ≤ 999999000) (i : Int) (hi : wfi i) (s : ByteArray) (hs : s.size ≤ 9223372036854775807) :
    Calls Try.prog 11 #[.pointer (some ⟨p, 0, none⟩), .int .i64 i, .string s] w fun e w' => e = .returned (.int .i64 (upE q n i)) ∧ Has F w' p mb (c + 1) n (upQ q n i s) ∧ Kb (fun k => ¬ F k) w w' := by
  obtain ⟨T, c', f, hb, hc0, hF⟩ := h
  have hn := hb.n16
  refine (upW T p mb c' n q f w hb (by omega) i hi s hs).mono ?_
  rintro e w' ⟨he, hw⟩
  obtain ⟨h1, h2⟩ := Has.went (c := c + 1) hF hw (by omega)
  exact ⟨he, h1, h2⟩
theorem takeH (F : Nat → Prop) (p mb c n : Nat) (q : Bool → Int → List ByteArray) (w : World) (h : Has F w p mb c n q) (hcn : c ≤ 999999000) (d : Bool) (i : Int) (hi : wfi i) :
    Calls Try.prog 12 #[.pointer (some ⟨p, 0, none⟩), .bool d, .int .i64 i] w fun e w' => e = .returned (.tuple #[.string ((q d i).headD ⟨#[]⟩), .bool (decide (0 < (q d i).length))]) ∧ Has F w' p mb (c + 1) n (updQ q d i (q d i).tail) ∧ Kb (fun k => ¬ F k) w w' := by
  obtain ⟨T, c', f, hb, hc0, hF⟩ := h
  have hn := hb.n16
  refine (takeW T p mb c' n q f w hb (by omega) d i hi).mono ?_
  rintro e w' ⟨he, hw⟩
  obtain ⟨h1, h2⟩ := Has.went (c := c + 1) hF hw (by omega)
  exact ⟨he, h1, h2⟩
theorem spoilH (F : Nat → Prop) (p mb c n : Nat) (q : Bool → Int → List ByteArray) (w : World) (h : Has F w p mb c n q) (d : Bool) (i : Int) (hi : wfi i) (A : Option Addr) (na ca : Nat) (m : List Int) (hr : (Kd.int .i64).C w A na m) (hc : na ≤ ca) :
    Calls Try.prog 17 #[.pointer (some ⟨p, 0, none⟩), .bool d, .int .i64 i, .slice A na ca] w fun e w' => e = .returned (.bool (decide (0 < (q d i).length))) ∧ Has F w' p mb (c) n (spoilQ q d i m) ∧ Kb (fun k => ¬ F k) w w' := by
  obtain ⟨T, c', f, hb, hc0, hF⟩ := h
  have hn := hb.n16
  refine (spoilW T p mb c' n q f w hb d i hi A na ca m hr hc).mono ?_
  rintro e w' ⟨he, hw⟩
  obtain ⟨h1, h2⟩ := Has.went (c := c) hF hw (by omega)
  exact ⟨he, h1, h2⟩
theorem clearH (F : Nat → Prop) (p mb c n : Nat) (q : Bool → Int → List ByteArray) (w : World) (h : Has F w p mb c n q) (i : Int) (hi : wfi i) :
    Calls Try.prog 19 #[.pointer (some ⟨p, 0, none⟩), .int .i64 i] w fun e w' => e = .returned (.int .i64 (clrN q i 2 : Int)) ∧ Has F w' p mb (c) n (clrQ q i 2) ∧ Kb (fun k => ¬ F k) w w' := by
  obtain ⟨T, c', f, hb, hc0, hF⟩ := h
  have hn := hb.n16
  refine (clearW T p mb c' n q f w hb i hi).mono ?_
  rintro e w' ⟨he, hw⟩
  obtain ⟨h1, h2⟩ := Has.went (c := c) hF hw (by omega)
  exact ⟨he, h1, h2⟩
/-- What the rows hold in wakes. -/
def q0 : Bool → Int → List ByteArray := fun _ _ => []
def s01 : ByteArray := ⟨#[48, 49]⟩
theorem wq1 : downN q0 s01 2 = 2 := by simp [downN, downQ, addQ, updQ, q0]
theorem wq2 : downQ q0 s01 2 true 1 = [s01] := by simp [downQ, addQ, updQ, q0]
theorem wq3 : downQ q0 s01 2 true 0 = [s01] := by simp [downQ, addQ, updQ, q0]
theorem wturn : turnL (L s01) [0] = [49, 49] := by decide +kernel
theorem one_int (w : World) (x : Int) : (Kd.int .i64).C (w.alloc (.cells #[.int .i64 x] 3)) (some ⟨w.heap.size, 0, none⟩) 1 [x] := by
  refine ⟨rfl, by decide, fun _ => ⟨_, rfl, fun j p hj => ⟨[.int .i64 p], rfl, rfl, fun i u hu => ?_⟩⟩⟩
  match j, hj with
  | 0, hj =>
    match i, hu with
    | 0, hu =>
      simp at hj hu
      subst hj; subst hu
      exact cell_one_new w _ 3 0 _ rfl
set_option maxHeartbeats 4000000 in
set_option maxRecDepth 1000000 in
theorem wakes (w : World) : Calls Try.prog 9 #[] w fun e w' => e = .returned (.bool true) ∧ Below w.heap.size w w' := by
  go_enter Try.func9, Try.ntmps9
  go_wp2_with fail
  refine (newH 2 w).mono ?_
  rintro e w1 ⟨rfl, h1, b1⟩
  have H1 := Aside0.mk (show Has (fun k => k < w.heap.size) w1 (w.heap.size + 1) w.heap.size 0 2 q0 from h1)
  have B1 := Aside0.mk b1
  clear h1 b1
  go_wp2_with fail
  refine (downH _ _ _ _ _ _ _ H1.out (by decide) s01 (by decide)).mono ?_
  rintro e w2 ⟨he, h2, k2⟩
  rw [wq1] at he
  subst he
  have hB : ∀ {a b : World}, Below w.heap.size w a → Kb (fun k => ¬ (k < w.heap.size)) a b → Below w.heap.size w b := fun ha hk => ha.trans (hk.below ha.size (fun k hk => by omega))
  have HBB := Aside0.mk @hB
  have B2 := Aside0.mk (hB B1.out k2)
  have H2 := Aside0.mk h2
  clear h2 k2 H1 B1 hB
  have H3 := Aside0.mk (H2.out.below ((Below.refl _ w2).alloc (Nat.le_refl _) (.cells #[.int .i64 0] 3)))
  have B3 := Aside0.mk (B2.out.alloc B2.out.size (.cells #[.int .i64 0] 3))
  have C3 := Aside0.mk (one_int w2 0)
  clear B2
  go_wp2_with fail
  refine (spoilH _ _ _ _ _ _ _ H3.out true 1 (wfi_small (by decide) (by decide)) _ _ _ [0] C3.out (Nat.le_refl _)).mono ?_
  rintro e w3 ⟨he, h4, k4⟩
  rw [wq2] at he
  subst he
  have hq : spoilQ (downQ q0 s01 2) true 1 [0] = updQ (downQ q0 s01 2) true 1 [⟨#[49, 49]⟩] := by unfold spoilQ; rw [wq2]; simp only [wturn]
  rw [hq] at h4
  have H4 := Aside0.mk h4
  have B4 := Aside0.mk (HBB.out B3.out k4)
  clear h4 k4 hq H3 B3 C3 H2
  go_wp2_with fail
  refine (takeH _ _ _ _ _ _ _ H4.out (by decide) true 1 (wfi_small (by decide) (by decide))).mono ?_
  rintro e w4 ⟨he, h5, k5⟩
  rw [updQ_same] at he
  subst he
  have H5 := Aside0.mk h5
  have B5 := Aside0.mk (HBB.out B4.out k5)
  clear h5 k5 H4 B4
  go_wp2_with fail
  refine (takeH _ _ _ _ _ _ _ H5.out (by decide) true 0 (wfi_small (by decide) (by decide))).mono ?_
  rintro e w5 ⟨he, h6, k6⟩
  rw [updQ_other (by decide), updQ_other (by decide), wq3] at he
  replace he : e = .returned (.tuple #[.string ⟨#[48, 49]⟩, .bool true]) := he
  subst he
  have H6 := Aside0.mk h6
  have B6 := Aside0.mk (HBB.out B5.out k6)
  clear h6 k6 H5 B5
  go_wp2_with fail
  refine (sizeH _ _ _ _ _ _ _ H6.out).mono ?_
  rintro e w6 ⟨rfl, rfl⟩
  go_wp2
  go_ret
  exact ⟨by simp, B6.out⟩
end Go.Proofs.Ytfopcnabcmdclaa.Bs
