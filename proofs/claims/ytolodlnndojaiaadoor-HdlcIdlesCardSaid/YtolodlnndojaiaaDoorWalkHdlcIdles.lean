/- The law HdlcIdles by its own text: it answers true. -/
import Derived.Test.YtolodlnndojaiaaDoorHdlcWakes
import Derived.OpenShut
namespace Go.Proofs.YtolodlnndojaiaaDoor.Wk
open Go.RowKit Go.Proofs.YtolodlnndojaiaaDoorW.PrintWords Go.Proofs.YtolodlnndojaiaaDoorW.PrintLast Go.Proofs.YtolodlnndojaiaaDoorW.PrintMore Go.Proofs.YtolodlnndojaiaaDoor.Str Go.Proofs.YtolodlnndojaiaaDoor.Bits Go.Proofs.YtolodlnndojaiaaDoor.Oct Go.Proofs.YtolodlnndojaiaaDoor.Hd
set_option linter.unusedVariables false
attribute [local go_sem] max2_int min2_int
theorem idle_dec (B d : Nat) (s : St) (w0 w : World) (h : Dec B d s w0 w) (hon : s.ones ≤ 4611686018427387904) :
    Calls Tryd.prog 18 #[.pointer (some ⟨d, 0, none⟩)] w fun e w' => e = .returned (.bool (decide ((15 : Int) ≤ (s.ones : Int)))) ∧ w = w' := by
  obtain ⟨_, _, v, h3⟩ := h
  exact idle B d v s w h3 hon
theorem push_ones (s : St) (x : UInt8) : (push s x).ones = s.ones := by unfold push; split <;> rfl
theorem step_ones (s : St) : (stepS s 49).1.ones = s.ones + 1 ∧ (stepS s 48).1.ones = 0 := by
  constructor
  · unfold stepS
    rw [if_pos rfl]
    split
    · rfl
    · exact push_ones _ _
  · unfold stepS
    rw [if_neg (by decide)]
    split
    · split <;> rfl
    · exact push_ones _ _
theorem feed_single (s : St) (x : UInt8) (h : isDig x = true) : feedL s (L (⟨#[x]⟩ : ByteArray)) = ((stepS s x).1, (stepS s x).2.toList) := by
  show feedL s [x] = _
  rw [feedL_cons s x [] h, feedL_nil]
  simp
set_option maxHeartbeats 4000000 in
set_option maxRecDepth 1000000 in
theorem idles (a0 : ByteArray) (n : Int) (w : World) (w0 : a0.size ≤ 140737488351232) (h0 : -9223372036854775808 ≤ n) (h1 : n ≤ 9223372036854775807) :
    Calls Tryd.prog 8 #[.string a0, .int .i64 n] w fun e w' => e = .returned (.bool true) ∧ Below w.heap.size w w' := by
  obtain ⟨k, hk⟩ : ∃ k : Nat, max 0 n % 40 = (k : Int) := ⟨(max 0 n % 40).toNat, by have := Int.emod_nonneg (max 0 n) (by omega : (40 : Int) ≠ 0); omega⟩
  have hk40 : k < 40 := by have := Int.emod_lt_of_pos (max 0 n) (by omega : (0 : Int) < 40); omega
  go_enter Tryd.func8, Tryd.ntmps8
  go_wp2_with fail
  refine (new w).mono ?_
  rintro e w1 ⟨rfl, hw1⟩
  have hd := Dec.new w w w.heap.size (Below.refl _ _) (Nat.le_refl _)
  rw [← hw1] at hd
  clear hw1
  have HD := Aside0.mk hd
  clear hd
  have hz : (a0.extract 0 (min (a0.size : Int) 50).toNat).size ≤ 50 := by rw [ByteArray.size_extract]; omega
  go_wp2_with fail
  generalize a0.extract 0 (min (a0.size : Int) 50).toNat = s at hz
  refine (encode s _ (by omega)).mono ?_
  rintro e w2 ⟨rfl, hb⟩
  have HD2 := Aside0.mk (HD.out.kept hb)
  have hel := encL_length (L s)
  rw [← size_L] at hel
  obtain ⟨s1, hs1, hrd⟩ : ∃ s1 evs, feedL St.new (encL (L s)) = (s1, evs) ∧ s1.ok ∧ s1.ones = 0 := ⟨_, _, feed_enc St.new ready_new (L s), Nat.zero_le _, rfl⟩
  obtain ⟨hfe, hok1, hon1⟩ := hrd
  have HFE := Aside0.mk hfe
  clear hb HD hfe
  go_wp2_with fail
  refine (feed_dec _ _ _ _ _ ⟨(encL (L s)).toArray⟩ _ _ HD2.out new_ok (by decide) (by rw [size_L, L_mk]; omega) HFE.out).mono ?_
  rintro e w3 ⟨u, rfl, hev, hd⟩
  have HD3 := Aside0.mk hd
  clear hd hev HD2 HFE
  go_wp2
  clear hk h0 h1
  go_loopw [20] (fun x wr => ∃ i : Nat, i ≤ k ∧ x = .int .i64 i ∧ Aside0 (∃ st : St, st.ok ∧ st.ones = i ∧ Dec w.heap.size w.heap.size st w wr)) (fun x _ => k - (intOf x).toNat)
  case atStart => exact ⟨0, Nat.zero_le _, rfl, ⟨s1, hok1, hon1, HD3.out⟩⟩
  case round =>
    clear HD3 hok1 hon1
    obtain ⟨i, hi, rfl, HS⟩ := hrel
    obtain ⟨st, hok, hon, hdec⟩ := HS.out
    have HDC := Aside0.mk hdec
    clear HS hdec
    by_cases hlt : i < k
    · have ho2 := (stepS_ok st 49 hok).1
      have ho3 : (stepS st 49).1.ones = i + 1 := by rw [(step_ones st).1, hon]
      go_wp2_with fail
      refine (feed_dec _ _ _ _ _ ⟨#[49]⟩ _ _ HDC.out hok (by omega) (by decide) (feed_single st 49 rfl)).mono ?_
      rintro e w4 ⟨u, rfl, hev, hd⟩
      have HD4 := Aside0.mk hd
      clear hd hev HDC
      go_wp2_with fail
      refine (idle_dec _ _ _ _ _ HD4.out (by omega)).mono ?_
      rintro e w5 ⟨he, rfl⟩
      rw [ho3, show decide ((15 : Int) ≤ ((i + 1 : Nat) : Int)) = decide ((14 : Int) ≤ (i : Int)) from by congr 1; apply propext; omega] at he
      subst he
      have HF : Aside0 (∃ st : St, st.ok ∧ st.ones = i + 1 ∧ Dec w.heap.size w.heap.size st w w4) := ⟨_, ho2, ho3, HD4.out⟩
      clear HD4 ho2 ho3
      go_wp2
      go_roundw
      case rel => exact ⟨i + 1, by omega, by go_num, HF⟩
      case measure => simp [intOf]; omega
    · have ho3 := (step_ones st).2
      go_wp2_with fail
      refine (feed_dec _ _ _ _ _ ⟨#[48]⟩ _ _ HDC.out hok (by omega) (by decide) (feed_single st 48 rfl)).mono ?_
      rintro e w4 ⟨u, rfl, hev, hd⟩
      have HD4 := Aside0.mk hd
      clear hd hev HDC
      go_wp2_with fail
      refine (wakes _).mono ?_
      rintro e w5 ⟨rfl, hb⟩
      have HD5 := Aside0.mk (HD4.out.kept hb)
      clear hb HD4
      go_wp2_with fail
      refine (idle_dec _ _ _ _ _ HD5.out (by omega)).mono ?_
      rintro e w6 ⟨he, rfl⟩
      rw [ho3] at he
      replace he : e = .returned (.bool false) := he
      subst he
      go_wp2
      go_ret
      exact ⟨rfl, HD5.out.2.1⟩
theorem HdlcIdles (a0 : ByteArray) (a1 : Int) (w : World) (w0 : a0.size ≤ 140737488351232) (w1 : (Lit.int .i64 a1).wf = true) :
    Calls Tryd.prog 8 #[.string a0, .int .i64 a1] w fun e w' => e = .returned (.bool true) ∧ Below w.heap.size w w' :=
  idles a0 a1 w w0 (bounds_i64 w1).1 (bounds_i64 w1).2
end Go.Proofs.YtolodlnndojaiaaDoor.Wk
