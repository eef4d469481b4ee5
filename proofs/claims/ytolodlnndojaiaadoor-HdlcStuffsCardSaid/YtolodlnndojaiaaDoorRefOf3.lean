/- The document's own Of and Encode, by their texts. -/
import Derived.Test.YtolodlnndojaiaaDoorRefStuff
namespace Go.Proofs.YtolodlnndojaiaaDoor.Hd
open Go.RowKit Go.Proofs.YtolodlnndojaiaaDoorW.PrintWords Go.Proofs.YtolodlnndojaiaaDoorW.PrintLast Go.Proofs.YtolodlnndojaiaaDoorW.PrintMore Go.Proofs.YtolodlnndojaiaaDoor.Str Go.Proofs.YtolodlnndojaiaaDoor.Bits Go.Proofs.YtolodlnndojaiaaDoor.Oct Go.Proofs.YtolodlnndojaiaaDoor.OctW
set_option linter.unusedVariables false
theorem digit_num (b : UInt8) (k : Nat) : 48 + ((b.toNat / 2 ^ k : Nat) : Int) % 2 = ((bitB b k).toNat : Int) := by
  rw [bitB_num]
  have : (b.toNat : Int) / 2 ^ k = ((b.toNat / 2 ^ k : Nat) : Int) := by simp
  rw [this]
theorem half_pow (a k : Nat) : a / 2 ^ k / 2 = a / 2 ^ (k + 1) := by rw [Nat.div_div_eq_div_mul, Nat.pow_succ]
theorem below_pow (b : UInt8) (k : Nat) : b.toNat / 2 ^ k ≤ 255 := Nat.le_trans (Nat.div_le_self _ _) (by have := b.toNat_lt; omega)
set_option maxHeartbeats 4000000 in
set_option maxRecDepth 1000000 in
theorem rof (s : ByteArray) (w : World) (hs : s.size ≤ 4398046511104) :
    Calls Tryd.prog 35 #[.string s] w fun e w' => e = .returned (.string ⟨(ofL (L s)).toArray⟩) ∧ Below w.heap.size w w' := by
  obtain ⟨i0, hi, hz0, hz1, hz2⟩ := info_parts infoByte
  go_enter Tryd.func35, Tryd.ntmps35
  go_wp2
  go_loopw [3, 4] (fun u x wr => ∃ i : Nat, i ≤ s.size ∧ x = .int .i64 i ∧ Aside0 (wr.ownsRow w.heap.size 5 1 u (ofL ((L s).take i)).length (cellsOf (ofL ((L s).take i)))) ∧ Below w.heap.size w wr) (fun _ x _ => s.size - (intOf x).toNat)
  case atStart => exact ⟨0, Nat.zero_le _, rfl, ⟨World.ownsRow_nil _ _ _ _⟩, Below.refl _ _⟩
  case round =>
    obtain ⟨i, hi', rfl, HO, hB⟩ := hrel
    by_cases hlt : i < s.size
    · have hl : i < (L s).length := by rw [← size_L]; exact hlt
      have HT := Aside0.mk (ofL_take (L s) i hl)
      have hln : (ofL ((L s).take i)).length = 8 * i := by rw [ofL_length, List.length_take]; omega
      obtain ⟨b, HX⟩ : ∃ x, Aside0 ((L s)[i] = x) := ⟨_, ⟨rfl⟩⟩
      have hxs : s[i]'hlt = b := HX.out
      rw [HX.out] at HT
      obtain ⟨a, HA⟩ : ∃ a, Aside0 (ofL ((L s).take i) = a) := ⟨_, ⟨rfl⟩⟩
      rw [HA.out] at HT HO hln
      have HB := Aside0.mk hB
      have hbl : b.toNat ≤ 255 := by have := b.toNat_lt; omega
      clear hB HX hl HA
      go_wp2
      clear hxs
      go_loopw [3, 5, 6] (fun u n x wr => ∃ k : Nat, k ≤ 8 ∧ x = .int .i64 k ∧ n = .int .i64 ((b.toNat / 2 ^ k : Nat) : Int) ∧ Aside0 (wr.ownsRow w.heap.size 5 1 u (a ++ (bitsB b).take k).length (cellsOf (a ++ (bitsB b).take k))) ∧ Below w.heap.size w wr) (fun _ _ x _ => 8 - (intOf x).toNat)
      case atStart => exact ⟨0, by omega, rfl, by rw [Nat.pow_zero, Nat.div_one], ⟨by simpa using HO.out⟩, HB.out⟩
      case round =>
        clear HO HB
        obtain ⟨k, hk, rfl, rfl, HO, hB⟩ := hrel
        have HB := Aside0.mk hB
        have hsz := hB.size
        by_cases hkl : k < 8
        · have HT2 := Aside0.mk (bitsB_take b k hkl)
          have hln2 : (a ++ (bitsB b).take k).length = 8 * i + k := by rw [List.length_append, List.length_take, bitsB_length, hln]; omega
          obtain ⟨c, HC⟩ : ∃ c, Aside0 (a ++ (bitsB b).take k = c) := ⟨_, ⟨rfl⟩⟩
          have HN : Aside0 (a ++ (bitsB b).take (k + 1) = c ++ [bitB b k]) := ⟨by rw [HT2.out, ← List.append_assoc, HC.out]⟩
          rw [HC.out] at HO hln2
          have HD := Aside0.mk (digit_num b k)
          have HP := Aside0.mk (half_pow b.toNat k)
          have hq := below_pow b k
          obtain ⟨q, HQ⟩ : ∃ q, Aside0 (b.toNat / 2 ^ k = q) := ⟨_, ⟨rfl⟩⟩
          rw [HQ.out] at HD HP hq ⊢
          clear hB hln HC HT2
          go_wp2_with (at_builtin; refine wpList_append_own _ rfl _ _ 22 rfl w.heap.size 5 i0 (.int .u8 0) 1 1 Tryd.underlying22 hi hz0 hz1 hz2 rfl (by decide) _ _ _ rfl (HO.out.alloc _) ⟨wr.heap.size, 0, none⟩ 1 1 [.int .u8 (48 + (q : Int) % 2)] rfl rfl ?c1 ?c2 ?c3 ?c4 ?c5 ?_)
          case c1 => exact cell_one_new _ _ _
          case c2 => first | rfl | (intro u hu; simp at hu; subst hu; rfl)
          case c3 => unfold maxLen; omega
          case c4 => omega
          case c5 => simp; omega
          intro v w1 hown hgrow _
          rw [HD.out] at hown
          have hB2 := (HB.out.alloc hsz _).grown hgrow (by simp; omega) (fun k hk => (HO.out.lt k hk).1)
          have hcl : (c ++ [bitB b k]).length = c.length + 1 := by simp
          have HO2 : Aside0 (w1.ownsRow w.heap.size 5 1 v (c ++ [bitB b k]).length (cellsOf (c ++ [bitB b k]))) := ⟨by rw [hcl]; simpa [cellsOf, hln2] using hown⟩
          clear hcl
          clear hown hgrow
          go_wp2
          go_roundw
          case rel => exact ⟨k + 1, by omega, by go_num, by rw [← HP.out]; go_num, by rw [HN.out]; exact HO2, hB2⟩
          case measure => simp [intOf]; omega
        · have h8 : k = 8 := by omega
          subst h8
          rw [bitsB_all, ← HT.out] at HO
          go_wp2
          go_roundw
          case rel => exact ⟨i + 1, by omega, by go_num, HO, HB.out⟩
          case measure => simp [intOf]; omega
    · have e : (L s).take i = L s := List.take_of_length_le (by rw [← size_L]; omega)
      rw [e] at HO
      have hcv := own_str HO.out
      have HB := Aside0.mk hB
      clear hB
      go_wp2
      go_ret
      exact ⟨rfl, HB.out⟩
set_option maxHeartbeats 4000000 in
set_option maxRecDepth 1000000 in
theorem rencode (s : ByteArray) (w : World) (hs : s.size ≤ 4398046511104) :
    Calls Tryd.prog 23 #[.string s] w fun e w' => e = .returned (.string ⟨(encL (L s)).toArray⟩) ∧ Below w.heap.size w w' := by
  have hz1 : (⟨(ofL (L s)).toArray⟩ : ByteArray).size ≤ 35184372088832 := by rw [size_L, L_mk, ofL_length, ← size_L]; omega
  have he : (⟨#[48, 49, 49, 49, 49, 49, 49, 48]⟩ : ByteArray) ++ ⟨(stuffL (ofL (L s))).toArray⟩ ++ ⟨#[48, 49, 49, 49, 49, 49, 49, 48]⟩ = ⟨(encL (L s)).toArray⟩ := inj (by rw [L_app, L_app, L_mk, L_mk]; rfl)
  have hz2 : (stuffL (ofL (L s))).length ≤ 70368744177664 := by have := stuffL_length (ofL (L s)); rw [ofL_length, ← size_L] at this; omega
  have HE := Aside0.mk he
  clear he
  go_enter Tryd.func23, Tryd.ntmps23
  go_wp2_with fail
  refine (rof s _ (by omega)).mono ?_
  rintro e w1 ⟨rfl, hb⟩
  go_wp2_with fail
  refine (rstuff _ _ hz1).mono ?_
  rintro e w2 ⟨he, hb2⟩
  rw [L_mk] at he
  subst he
  have hb3 := below_step hb hb2
  clear hb hb2
  go_wp2
  go_ret
  exact ⟨congrArg (fun z => Ending.returned (Value.string z)) HE.out, hb3⟩
end Go.Proofs.YtolodlnndojaiaaDoor.Hd
