/- The document's own Good and Octets by their texts: the same answers. The text at most 2^47 octets long. -/
import Derived.Test.YtolodlnndojaiaaDoorOctW
namespace Go.Proofs.YtolodlnndojaiaaDoor.OctRef
open Go.RowKit Go.Proofs.YtolodlnndojaiaaDoorW.PrintWords Go.Proofs.YtolodlnndojaiaaDoorW.PrintLast Go.Proofs.YtolodlnndojaiaaDoorW.PrintMore Go.Proofs.YtolodlnndojaiaaDoor.Str Go.Proofs.YtolodlnndojaiaaDoor.Bits Go.Proofs.YtolodlnndojaiaaDoor.Oct Go.Proofs.YtolodlnndojaiaaDoor.OctW
set_option linter.unusedVariables false
theorem good_take (l : List UInt8) (k : Nat) (h : k < l.length) : goodL (l.take (k + 1)) = (goodL (l.take k) && (l[k] == 48 || l[k] == 49)) := by
  rw [List.take_succ_eq_append_getElem h, good_append]
  simp [goodL]
theorem bad_take (l : List UInt8) (k : Nat) (h : goodL (l.take k) = false) : goodL l = false := by
  cases h2 : goodL l with
  | false => rfl
  | true =>
    have : goodL (l.take k) = true := by
      unfold goodL at h2 ⊢
      rw [List.all_eq_true] at h2 ⊢
      exact fun x hx => h2 x (List.mem_of_mem_take hx)
    rw [this] at h; cases h
set_option maxHeartbeats 1000000 in
set_option maxRecDepth 100000 in
theorem good_walk (s : ByteArray) (w : World) (hs : s.size ≤ 140737488351232) :
    Calls Tryd.prog 32 #[.string s] w fun e w' => e = .returned (.bool (goodL (L s))) ∧ w = w' := by
  go_enter Tryd.func32, Tryd.ntmps32
  go_wp2
  go_loop [3] (fun v => ∃ i : Nat, i ≤ s.size ∧ v = .int .i64 i ∧ Aside0 (goodL ((L s).take i) = true)) (fun v => s.size - (intOf v).toNat)
  case atStart => exact ⟨0, Nat.zero_le _, rfl, ⟨rfl⟩⟩
  case round =>
    obtain ⟨i, hi, rfl, HG⟩ := hrel
    by_cases hlt : i < s.size
    · have hl : i < (L s).length := by rw [← size_L]; exact hlt
      have HT := Aside0.mk (good_take (L s) i hl)
      have hsb : s[i]'hlt = (L s)[i] := rfl
      obtain ⟨b, hb⟩ : ∃ b, b = (L s)[i] := ⟨_, rfl⟩
      by_cases h : (b == 48 || b == 49) = true
      · have HN : Aside0 (goodL ((L s).take (i + 1)) = true) := ⟨by rw [HT.out, HG.out, ← hb, h]; rfl⟩
        have hd : (((s[i]'hlt).toNat : Int) != 48) = true → (((s[i]'hlt).toNat : Int) != 49) = false := by
          rw [hsb, ← hb]
          intro h1
          have h2 : b = 48 ∨ b = 49 := by simpa using h
          rcases h2 with rfl | rfl
          · simp at h1
          · rfl
        by_cases h48 : (((s[i]'hlt).toNat : Int) != 48) = true
        · have h49 := hd h48
          clear hd hb hsb h HT
          go_wp2
          go_round
          case rel => exact ⟨i + 1, by omega, by go_num, HN⟩
          case measure => simp [intOf]; omega
        · have h48' : (((s[i]'hlt).toNat : Int) != 48) = false := by simpa using h48
          clear hd hb hsb h h48 HT
          go_wp2
          go_round
          case rel => exact ⟨i + 1, by omega, by go_num, HN⟩
          case measure => simp [intOf]; omega
      · have h' : (b == 48 || b == 49) = false := by simpa using h
        have HF : Aside0 (goodL (L s) = false) := ⟨bad_take _ (i + 1) (by rw [HT.out, ← hb, h']; simp)⟩
        have n48 : (((s[i]'hlt).toNat : Int) != 48) = true := by
          rw [hsb, ← hb]
          have h0 : b ≠ 48 := fun e => by rw [e] at h'; cases h'
          have : b.toNat ≠ 48 := fun e => h0 (UInt8.toNat_inj.1 e)
          simpa using (by omega : ¬ (b.toNat : Int) = 48)
        have n49 : (((s[i]'hlt).toNat : Int) != 49) = true := by
          rw [hsb, ← hb]
          have h0 : b ≠ 49 := fun e => by rw [e] at h'; cases h'
          have : b.toNat ≠ 49 := fun e => h0 (UInt8.toNat_inj.1 e)
          simpa using (by omega : ¬ (b.toNat : Int) = 49)
        clear hb hsb h h' HT
        go_wp2
        go_ret
        exact ⟨congrArg (fun z => Ending.returned (Value.bool z)) HF.out.symm, rfl⟩
    · have e : (L s).take i = L s := List.take_of_length_le (by rw [← size_L]; omega)
      go_wp2
      go_ret
      have := HG.out
      rw [e] at this
      exact ⟨congrArg (fun z => Ending.returned (Value.bool z)) this.symm, rfl⟩
/-- The first j octets. -/
def octsTo (l : List UInt8) (j : Nat) : List UInt8 := (List.range j).map (oct l)
theorem octsTo_length (l : List UInt8) (j : Nat) : (octsTo l j).length = j := by simp [octsTo]
theorem octsTo_succ (l : List UInt8) (j : Nat) : octsTo l (j + 1) = octsTo l j ++ [oct l j] := by simp [octsTo, List.range_succ]
theorem good_get (l : List UInt8) (h : goodL l = true) (i : Nat) (hi : i < l.length) : l[i] = 48 ∨ l[i] = 49 := by
  unfold goodL at h
  have := List.all_eq_true.1 h l[i] (List.getElem_mem hi)
  simpa using this
theorem row_drop (l : List UInt8) (j m : Nat) (hm : m < 8) (hl : 8 * j + 8 ≤ l.length) : (row l j).drop m = l[8 * j + m] :: (row l j).drop (m + 1) := by
  have hr : (row l j).length = 8 := by unfold row; rw [List.length_take, List.length_drop]; omega
  rw [List.drop_eq_getElem_cons (by omega)]
  congr 1
  simp [row, List.getElem_take, List.getElem_drop]
theorem bad (s : ByteArray) (w : World) (hs : s.size ≤ 140737488351232) (hg : goodL (L s) = false) :
    Calls Tryd.prog 38 #[.string s] w fun e w' => e = .returned (.tuple #[.string ⟨#[]⟩, .int .i64 4]) ∧ Below w.heap.size w w' := by
  go_enter Tryd.func38, Tryd.ntmps38
  go_wp2_with (go_at_call 32; refine (good_walk s w hs).mono ?_; rintro e w1 ⟨he, hb⟩; rw [hg] at he; subst he; subst hb)
  go_ret2
  exact ⟨rfl, Below.refl _ _⟩
theorem odd (s : ByteArray) (w : World) (hs : s.size ≤ 140737488351232) (hg : goodL (L s) = true) (h8 : s.size % 8 ≠ 0) :
    Calls Tryd.prog 38 #[.string s] w fun e w' => e = .returned (.tuple #[.string ⟨#[]⟩, .int .i64 3]) ∧ Below w.heap.size w w' := by
  have h8' : (((s.size : Int) % 8) != 0) = true := by simpa using (by omega : ¬ (s.size : Int) % 8 = 0)
  go_enter Tryd.func38, Tryd.ntmps38
  go_wp2_with (go_at_call 32; refine (good_walk s w hs).mono ?_; rintro e w1 ⟨he, hb⟩; rw [hg] at he; subst he; subst hb)
  go_ret2
  exact ⟨rfl, Below.refl _ _⟩
set_option maxHeartbeats 4000000 in
set_option maxRecDepth 1000000 in
theorem good (s : ByteArray) (w : World) (hs : s.size ≤ 140737488351232) (hg : goodL (L s) = true) (h8 : s.size % 8 = 0) :
    Calls Tryd.prog 38 #[.string s] w fun e w' => e = .returned (.tuple #[.string ⟨(octsL (L s)).toArray⟩, .int .i64 0]) ∧ Below w.heap.size w w' := by
  have h8' : (((s.size : Int) % 8) != 0) = false := by simpa using (by omega : (s.size : Int) % 8 = 0)
  have HG := Aside0.mk hg
  have H8 := Aside0.mk h8
  obtain ⟨i0, hi, hz0, hz1, hz2⟩ := info_parts infoByte
  go_enter Tryd.func38, Tryd.ntmps38
  go_wp2_with (go_at_call 32; refine (good_walk s w hs).mono ?_; rintro e w1 ⟨he, hb⟩; rw [hg] at he; subst he; subst hb)
  clear hg h8
  go_loopw [5, 6] (fun v u wr => ∃ i j : Nat, Aside0 (i = 8 * j) ∧ i ≤ s.size ∧ u = .int .i64 i ∧ wr.ownsRow w.heap.size 5 1 v j (cellsOf (octsTo (L s) j)) ∧ Below w.heap.size w wr) (fun _ u _ => s.size - (intOf u).toNat)
  case atStart => exact ⟨0, 0, ⟨rfl⟩, Nat.zero_le _, rfl, World.ownsRow_nil _ _ _ _, Below.refl _ _⟩
  case round =>
    obtain ⟨i, j, HI, hi', rfl, hO, hB⟩ := hrel
    by_cases hlt : i < s.size
    · have h8i : i + 8 ≤ s.size := by have := HI.out; have := H8.out; omega
      have HO := Aside0.mk hO
      have HB := Aside0.mk hB
      clear hO hB
      go_wp2
      go_loop [7, 8] (fun v u => ∃ d n : Nat, d ≤ 8 ∧ n ≤ 255 ∧ u = .int .i64 ((d : Int) - 1) ∧ v = .int .i64 (n : Int) ∧ Aside0 (n = val ((row (L s) j).drop d))) (fun _ u => ((intOf u) + 1).toNat)
      case atStart => exact ⟨8, 0, Nat.le_refl _, by omega, rfl, rfl, ⟨by rw [List.drop_of_length_le (row_length _ _)]; rfl⟩⟩
      case round =>
        obtain ⟨d, n, hd, hn, rfl, rfl, HV⟩ := hrel
        cases d with
        | succ m =>
          have em : ((m + 1 : Nat) : Int) - 1 = (m : Int) := by omega
          rw [em]
          have hlm : i + m < s.size := by omega
          have HR : Aside0 (val ((row (L s) j).drop m) = (L s)[i + m].toNat % 2 + 2 * n) := ⟨by
            have h1 := row_drop (L s) j m (by omega) (by rw [← size_L]; have := HI.out; omega)
            have h2 := HI.out
            subst h2
            rw [h1, val, ← HV.out]⟩
          have HL : Aside0 (val ((row (L s) j).drop m) ≤ 255) := ⟨by
            have h1 := val_lt ((row (L s) j).drop m)
            have h2 : ((row (L s) j).drop m).length ≤ 8 := by have := row_length (L s) j; rw [List.length_drop]; omega
            have h3 : 2 ^ ((row (L s) j).drop m).length ≤ 2 ^ 8 := Nat.pow_le_pow_right (by decide) h2
            omega⟩
          have HD : Aside0 ((((s[i + m]'hlm).toNat : Int) - 48) % 256 = ((L s)[i + m].toNat : Int) % 2) := ⟨by
            have e : s[i + m]'hlm = (L s)[i + m] := rfl
            rw [e]
            rcases good_get (L s) HG.out (i + m) hlm with h | h <;> rw [h] <;> decide⟩
          clear HV
          go_wp2
          go_round
          case rel =>
            have e1 := HD.out
            have e2 := HR.out
            have e3 := HL.out
            refine ⟨m, val ((row (L s) j).drop m), by omega, e3, rfl, ?_, ⟨rfl⟩⟩
            rw [e1, e2]
            go_num
          case measure => simp [intOf]
        | zero =>
          have e0 : ((0 : Nat) : Int) - 1 = -1 := by omega
          rw [e0]
          have HV0 : Aside0 (n = val (row (L s) j)) := ⟨by have := HV.out; rwa [List.drop_zero] at this⟩
          go_wp2_with (at_builtin; refine wpList_append_own _ rfl _ _ 22 rfl w.heap.size 5 i0 (.int .u8 0) 1 1 Tryd.underlying22 hi hz0 hz1 hz2 rfl (by decide) _ _ _ rfl (HO.out.alloc _) ⟨wr.heap.size, 0, none⟩ 1 1 [.int .u8 (n : Int)] rfl rfl ?c1 ?c2 ?c3 ?c4 ?c5 ?_)
          try (case c1 => exact cell_one_new _ _ _)
          case c2 => first | rfl | (intro u hu; simp at hu; subst hu; rfl)
          case c3 => have := HI.out; unfold maxLen; omega
          case c4 => have := HI.out; omega
          case c5 => have := HB.out.size; simp; omega
          intro v' w1 hown' hgrow _
          have hB2 := (HB.out.alloc HB.out.size _).grown hgrow (by have := HB.out.size; simp; omega) (fun k hk => (HO.out.lt k hk).1)
          have e1 : (n : Int) = ((oct (L s) j).toNat : Int) := by rw [oct_num, ← HV0.out]
          have hO2 : w1.ownsRow w.heap.size 5 1 v' (j + 1) (cellsOf (octsTo (L s) (j + 1))) := by
            rw [octsTo_succ]
            rw [e1] at hown'
            simpa [cellsOf] using hown'
          clear hown' hgrow
          go_wp2
          go_roundw
          case rel => exact ⟨i + 8, j + 1, ⟨by have := HI.out; omega⟩, h8i, by go_num, hO2, hB2⟩
          case measure => simp [intOf]; omega
    · have hpa : octsTo (L s) j = octsL (L s) := by
        unfold octsTo octsL
        have := HI.out
        rw [← size_L]
        congr 2
        omega
      rw [hpa, cellsOf_nums] at hO
      have hcv := own_string (P := Tryd.prog) Tryd.underlying22 Tryd.underlying5 Tryd.underlying9 hO
      rw [nums_of] at hcv
      clear hO hpa
      go_wp2
      go_ret2
      exact ⟨rfl, hB⟩
/-- All together. -/
theorem walk (s : ByteArray) (w : World) (hs : s.size ≤ 140737488351232) :
    Calls Tryd.prog 38 #[.string s] w fun e w' => e = .returned (.tuple #[.string ⟨(octR (L s)).1.toArray⟩, .int .i64 (octR (L s)).2]) ∧ Below w.heap.size w w' := by
  unfold octR
  by_cases hg : goodL (L s) = true
  · rw [if_pos hg]
    by_cases h8 : s.size % 8 = 0
    · rw [if_pos (by rw [← size_L]; exact h8)]
      exact good s w hs hg h8
    · rw [if_neg (by rw [← size_L]; exact h8)]
      exact odd s w hs hg h8
  · rw [if_neg hg]
    exact bad s w hs (by simpa using hg)
end Go.Proofs.YtolodlnndojaiaaDoor.OctRef
