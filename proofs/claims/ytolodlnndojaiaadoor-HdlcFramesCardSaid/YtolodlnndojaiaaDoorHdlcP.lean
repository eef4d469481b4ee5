/- hdlc's decoder by its text: New, Feed, Idle; Stuff and Encode. -/
import Derived.Test.YtolodlnndojaiaaDoorHdlcB
import Derived.Test.YtolodlnndojaiaaDoorBitsOf
namespace Go.Proofs.YtolodlnndojaiaaDoor.Hd
open Go.RowKit Go.Proofs.YtolodlnndojaiaaDoorW.PrintWords Go.Proofs.YtolodlnndojaiaaDoorW.PrintLast Go.Proofs.YtolodlnndojaiaaDoorW.PrintMore Go.Proofs.YtolodlnndojaiaaDoor.Str Go.Proofs.YtolodlnndojaiaaDoor.Bits Go.Proofs.YtolodlnndojaiaaDoor.Oct Go.Proofs.YtolodlnndojaiaaDoor.OctW
set_option linter.unusedVariables false
set_option maxHeartbeats 4000000 in
set_option maxRecDepth 1000000 in
theorem new (w : World) : Calls Tryd.prog 12 #[] w fun e w' => e = .returned (.pointer (some ⟨w.heap.size, 0, none⟩)) ∧ w' = w.alloc (.cells #[.slice none 0 0, .bool false, .int .i64 0] 55) := by
  go_enter Tryd.func12, Tryd.ntmps12
  go_wp2
  go_returns
  exact ⟨rfl, rfl⟩
theorem new_dec (w : World) (B : Nat) : DecAt B (w.alloc (.cells #[.slice none 0 0, .bool false, .int .i64 0] 55)) w.heap.size (.slice none 0 0) St.new :=
  ⟨Go.heap_alloc_new _ _, no_row _ _ _⟩
set_option maxHeartbeats 4000000 in
set_option maxRecDepth 1000000 in
theorem idle (B d : Nat) (v : Value) (s : St) (w : World) (h : DecAt B w d v s) (hon : s.ones ≤ 4611686018427387904) :
    Calls Tryd.prog 18 #[.pointer (some ⟨d, 0, none⟩)] w fun e w' => e = .returned (.bool (decide ((15 : Int) ≤ (s.ones : Int)))) ∧ w = w' := by
  obtain ⟨cl, wi, on⟩ := s
  obtain ⟨hh, ho⟩ := h
  replace hh : w.heap[d]? = some (.cells #[v, .bool wi, .int .i64 (on : Int)] 55 (0, 0)) := hh
  show Calls _ _ _ _ fun e w' => e = .returned (.bool (decide ((15 : Int) ≤ (on : Int)))) ∧ w = w'
  have c2 : w.cell? ⟨d, 2, none⟩ = some (.int .i64 (on : Int)) := by rw [Lib.cell_of_heap hh]; rfl
  clear ho hh
  go_enter Tryd.func18, Tryd.ntmps18
  go_wp2
  go_returns
  exact ⟨rfl, rfl⟩
set_option maxHeartbeats 4000000 in
set_option maxRecDepth 1000000 in
theorem stuff (s : ByteArray) (w : World) (hs : s.size ≤ 35184372088832) :
    Calls Tryd.prog 21 #[.string s] w fun e w' => e = .returned (.string ⟨(stuffL (L s)).toArray⟩) ∧ Below w.heap.size w w' := by
  go_enter Tryd.func21, Tryd.ntmps21
  go_wp2
  go_loopw [4, 9] (fun u v wr => ∃ i n : Nat, i ≤ s.size ∧ n ≤ 4 ∧ v = .int .i64 i ∧ u = .int .i64 n ∧ Aside0 (n = (stF ((L s).take i)).2) ∧ Lib.IsBuilderF 66 5 w.heap.size w.heap.size (Lib.byteCells (stF ((L s).take i)).1) wr ∧ Below w.heap.size w wr) (fun _ v _ => s.size - (intOf v).toNat)
  case atStart => exact ⟨0, 0, Nat.zero_le _, Nat.zero_le _, rfl, rfl, ⟨rfl⟩, Lib.IsBuilderF.of (Lib.fresh_isBuilder 66 5 w), (Below.refl _ w).alloc (Nat.le_refl _) _⟩
  case round =>
    obtain ⟨i, n, hi, hn4, rfl, rfl, HN, hI, hB⟩ := hrel
    by_cases hlt : i < s.size
    · have hl : i < (L s).length := by rw [← size_L]; exact hlt
      have hsz := hB.size
      have hbd := (stF_bound (L s) i (by omega)).2
      have HST := Aside0.mk (stF_take (L s) i hl)
      obtain ⟨b, HBy⟩ : ∃ b, Aside0 (b = (L s)[i]) := ⟨_, ⟨rfl⟩⟩
      obtain ⟨q, HQ⟩ : ∃ q, Aside0 (stF ((L s).take i) = q) := ⟨_, ⟨rfl⟩⟩
      rw [HQ.out] at HN hI hbd HST
      obtain ⟨a, m⟩ := q
      obtain rfl : n = m := HN.out
      replace hI : Lib.IsBuilderF 66 5 w.heap.size w.heap.size (Lib.byteCells a) wr := hI
      replace hbd : a.length ≤ 2 * i := hbd
      have hlen : (Lib.byteCells a).length + 1 ≤ 140737488355328 := by rw [Lib.byteCells_length]; omega
      have hlen2 : ∀ c, (Lib.byteCells (a ++ [c])).length + 1 ≤ 140737488355328 := fun c => by rw [Lib.byteCells_length, List.length_append]; show _ + 1 + 1 ≤ _; omega
      have hnx : ∀ (l : List UInt8) (c : UInt8), Lib.byteCells l ++ [.int .u8 (c.toNat : Int)] = Lib.byteCells (l ++ [c]) := fun l c => by rw [Lib.byteCells_append _ [_]]; rfl
      have HLen2 := Aside0.mk hlen2
      have HNX := Aside0.mk hnx
      clear hlen2 hnx hbd HN
      by_cases hx : b = 49
      · have hx1 : (((s[i]'hlt).toNat : Nat) : Int) = 49 := by show (((L s)[i].toNat : Nat) : Int) = 49; rw [← HBy.out, hx]; rfl
        have hx49 : (L s)[i] = 49 := by rw [← HBy.out, hx]
        have hst : stF ((L s).take (i + 1)) = if n + 1 = 5 then (a ++ [49, 48], 0) else (a ++ [49], n + 1) := by rw [HST.out, hx49]; rfl
        have HS2 := Aside0.mk hst
        clear hx49 hst hx
        go_wp2_with (go_at_call 33; refine (Buil.byte w.heap.size w.heap.size _ _ _ hI hlen hsz).mono ?_)
        rintro e W1 ⟨rfl, h1, b1, k1⟩
        rw [show (.int .u8 49 : Value) = .int .u8 ((49 : UInt8).toNat : Int) from rfl, HNX.out] at h1
        have hs1 := b1.size
        have hB1 := hB.trans b1
        clear hI hB hsz b1 k1 hlen
        by_cases h5 : n + 1 = 5
        · have h5' : (n : Int) + 1 = 5 := by omega
          have HS3 : Aside0 (stF ((L s).take (i + 1)) = (a ++ [49] ++ [48], 0)) := ⟨by rw [HS2.out, if_pos h5]; simp⟩
          have hsz := hB1.size
          clear h5
          go_wp2_with (go_at_call 33; refine (Buil.byte w.heap.size w.heap.size _ _ _ (Or.inr h1) (HLen2.out 49) hsz).mono ?_)
          rintro e W2 ⟨rfl, h2, b2, k2⟩
          rw [show (.int .u8 48 : Value) = .int .u8 ((48 : UInt8).toNat : Int) from rfl, HNX.out] at h2
          have hB2 := hB1.trans b2
          clear h1 hB1 b2 k2
          go_wp2
          go_roundw
          case rel => exact ⟨i + 1, 0, by omega, by omega, by go_num, rfl, ⟨by rw [HS3.out]⟩, by rw [HS3.out]; exact Or.inr h2, hB2⟩
          case measure => simp [intOf]; omega
        · have h5' : ¬ ((n : Int) + 1 = 5) := by omega
          have HS3 : Aside0 (stF ((L s).take (i + 1)) = (a ++ [49], n + 1)) := ⟨by rw [HS2.out, if_neg h5]⟩
          clear h5
          go_wp2
          go_roundw
          case rel => exact ⟨i + 1, n + 1, by omega, by omega, by go_num, by go_num, ⟨by rw [HS3.out]⟩, by rw [HS3.out]; exact Or.inr h1, hB1⟩
          case measure => simp [intOf]; omega
      · have hx1 : ¬ ((((s[i]'hlt).toNat : Nat) : Int) = 49) := by
          intro h
          replace h : (((L s)[i].toNat : Nat) : Int) = 49 := h
          apply hx
          rw [HBy.out]
          apply UInt8.toNat_inj.1
          show _ = 49
          omega
        have hx49 : ¬ ((L s)[i] = 49) := by rw [← HBy.out]; exact hx
        have HS3 : Aside0 (stF ((L s).take (i + 1)) = (a ++ [48], 0)) := ⟨by rw [HST.out]; unfold stS; rw [if_neg hx49]⟩
        clear hx49 hx
        go_wp2_with (go_at_call 33; refine (Buil.byte w.heap.size w.heap.size _ _ _ hI hlen hsz).mono ?_)
        rintro e W1 ⟨rfl, h1, b1, k1⟩
        rw [show (.int .u8 48 : Value) = .int .u8 ((48 : UInt8).toNat : Int) from rfl, HNX.out] at h1
        have hB1 := hB.trans b1
        clear hI hB hsz b1 k1 hlen
        go_wp2
        go_roundw
        case rel => exact ⟨i + 1, 0, by omega, by omega, by go_num, rfl, ⟨by rw [HS3.out]⟩, by rw [HS3.out]; exact Or.inr h1, hB1⟩
        case measure => simp [intOf]; omega
    · have e : (L s).take i = L s := List.take_of_length_le (by rw [← size_L]; omega)
      rw [e] at hI
      have hsz := hB.size
      go_wp2_with (go_at_call 34; refine (Tryd.Builder_String_any_k w.heap.size w.heap.size (stF (L s)).1 _ hI hsz).mono ?_)
      rintro e W1 ⟨rfl, _, b1, _⟩
      go_wp2
      go_ret
      exact ⟨rfl, hB.trans b1⟩
set_option maxHeartbeats 4000000 in
set_option maxRecDepth 1000000 in
theorem encode (s : ByteArray) (w : World) (hs : s.size ≤ 4398046511104) :
    Calls Tryd.prog 14 #[.string s] w fun e w' => e = .returned (.string ⟨(encL (L s)).toArray⟩) ∧ Below w.heap.size w w' := by
  have hz1 : (⟨(ofL (L s)).toArray⟩ : ByteArray).size ≤ 35184372088832 := by rw [size_L, L_mk, ofL_length, ← size_L]; omega
  have he : (⟨#[48, 49, 49, 49, 49, 49, 49, 48]⟩ : ByteArray) ++ ⟨(stuffL (ofL (L s))).toArray⟩ ++ ⟨#[48, 49, 49, 49, 49, 49, 49, 48]⟩ = ⟨(encL (L s)).toArray⟩ := inj (by rw [L_app, L_app, L_mk, L_mk]; rfl)
  have hz2 : (stuffL (ofL (L s))).length ≤ 70368744177664 := by have := stuffL_length (ofL (L s)); rw [ofL_length, ← size_L] at this; omega
  have HE := Aside0.mk he
  clear he
  go_enter Tryd.func14, Tryd.ntmps14
  go_wp2_with fail
  refine (BitsOf.walk s _ (by omega)).mono ?_
  rintro e w1 ⟨rfl, hb⟩
  go_wp2_with fail
  refine (stuff _ _ hz1).mono ?_
  rintro e w2 ⟨he, hb2⟩
  rw [L_mk] at he
  subst he
  have hb3 := below_step hb hb2
  clear hb hb2
  go_wp2
  go_ret
  exact ⟨congrArg (fun z => Ending.returned (Value.string z)) HE.out, hb3⟩
end Go.Proofs.YtolodlnndojaiaaDoor.Hd
